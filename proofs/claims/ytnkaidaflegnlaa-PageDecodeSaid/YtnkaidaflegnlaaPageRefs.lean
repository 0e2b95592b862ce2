/- Pages: which may be, and how many bytes they have, for the document. No condition beyond those that each theorem names. -/
import Derived.Test.YtnkaidaflegnlaaPageLaws
import Derived.Test.YtnkaidaflegnlaaGf17
namespace Go.Proofs.Ytnkaidaflegnlaa.PageLaws
open Go.RowKit Go.Proofs.Ytnkaidaflegnlaa Go.Proofs.Ytnkaidaflegnlaa.G Go.Proofs.YtnkaidaflegnlaaW.PrintWords Go.Proofs.YtnkaidaflegnlaaW.PrintLast Go.Proofs.YtnkaidaflegnlaaW.PrintMore
set_option linter.unusedVariables false
theorem refItem_ev {a : Int} (ha : a = 1 ∨ a = 2) (x : S39) : Ev (fun k => marginaliaref20_item.f k x.f0 x.f1 x.f2 x.f3 (a == 1)) (it a x) := by
  unfold it
  by_cases c : a = 2
  · refine ⟨0, fun k _ => ?_⟩
    show marginaliaref20_item.f k x.f0 x.f1 x.f2 x.f3 (a == 1) = _
    rw [show (a == 1) = false by simp [c], marginaliaref20_item.f, if_neg (by decide), if_pos c]
    by_cases c1 : x.f1 = 0
    · rw [if_pos c1, if_pos c1]
      by_cases c2 : (x.f2.length : Int) = 0
      · rw [if_pos c2, if_pos c2, marginaliaref20_link.f, lk_is]; rfl
      · rw [if_neg c2, if_neg c2]
    · rw [if_neg c1, if_neg c1]
  · refine ⟨1, fun k hk => ?_⟩
    obtain ⟨m, rfl⟩ : ∃ m, k = m + 1 := ⟨k - 1, by omega⟩
    show marginaliaref20_item.f (m + 1) x.f0 x.f1 x.f2 x.f3 (a == 1) = _
    rw [show (a == 1) = true by simpa using ha.resolve_right c, marginaliaref20_item.f, if_pos rfl, if_neg c]
    by_cases c1 : x.f1 < 0
    · rw [if_pos c1, if_pos c1, marginaliaref20_item.j0, if_pos rfl]
    · rw [if_neg c1, if_neg c1]
      by_cases c2 : x.f1 > 6000
      · rw [decide_eq_true c2, if_pos c2, marginaliaref20_item.j0, if_pos rfl]
      · rw [decide_eq_false c2, if_neg c2, marginaliaref20_item.j0, if_neg (by decide)]
        by_cases c3 : x.f1 ≤ 40
        · rw [if_pos c3, if_pos c3]
          by_cases c4 : (x.f2.length : Int) = x.f1
          · rw [if_pos c4, if_pos c4]
          · rw [if_neg c4, if_neg c4]
        · rw [if_neg c3, if_neg c3]
          by_cases c4 : (x.f2.length : Int) = 0
          · rw [if_pos c4, if_pos c4, marginaliaref20_link.f, lk_is]; rfl
          · rw [if_neg c4, if_neg c4]
theorem refMay_ev {a : Int} {x : List S39} {y : Int} {d : List Int} (hx : x.length ≤ 1000) : Ev (fun k => marginaliaref20_May.f k a x y d) (may a x y d) := by
  have hfalse : ∀ j : Int, Ev (fun k => marginaliaref20_May.j2 k j true a x y d) false := fun j => by
    refine Ev.step (f := fun _ => some _) (fun k => ?_) (Ev.now _)
    rw [marginaliaref20_May.j2, if_pos rfl]
  have hloop : (a = 1 ∨ a = 2) → ∀ n j : Nat, j + n = x.length → Ev (fun k => marginaliaref20_May.l0 k (j : Int) a x y d) (allf (qt a x) j n) := by
    intro ha n
    induction n with
    | zero =>
      intro j hj
      refine Ev.step (f := fun _ => some _) (fun k => ?_) (Ev.now _)
      rw [marginaliaref20_May.l0, if_neg (by omega)]; rfl
    | succ n ih =>
      intro j hj
      have hnext : ∀ b : Bool, b = false → Ev (fun k => marginaliaref20_May.j2 k (j : Int) b a x y d) (allf (qt a x) (j + 1) n) := fun b hb => by
        refine Ev.step (fun k => ?_) (ih (j + 1) (by omega))
        rw [marginaliaref20_May.j2, hb, if_neg (by decide), w64 (by omega) (by omega)]
        rfl
      obtain ⟨K1, q1⟩ := refItem_ev ha (rd_T39 x (j : Int))
      have key : ∀ (b : Bool) (r : Bool), Ev (fun k => marginaliaref20_May.j2 k (j : Int) b a x y d) r →
          (∀ k, (if it a (rd_T39 x (j : Int)) = true then (if (j : Int) > 0 then (if 0 ≤ (wrap64 ((j : Int) - 1)) then (if (wrap64 ((j : Int) - 1)) < (x.length : Int) then (marginaliaref20_May.j2 k (j : Int) (decide (((rd_T39 x (wrap64 ((j : Int) - 1))).f0) ≥ ((rd_T39 x (j : Int)).f0))) a x y d) else (none)) else (none)) else (marginaliaref20_May.j2 k (j : Int) false a x y d)) else (marginaliaref20_May.j2 k (j : Int) true a x y d)) = marginaliaref20_May.j2 k (j : Int) b a x y d) →
          Ev (fun k => marginaliaref20_May.l0 k (j : Int) a x y d) r := fun b r hb he => by
        obtain ⟨K2, q2⟩ := hb
        refine ⟨K1 + K2 + 1, fun k hk => ?_⟩
        obtain ⟨m, rfl⟩ : ∃ m, k = m + 1 := ⟨k - 1, by omega⟩
        have r1 : marginaliaref20_item.f m (rd_T39 x (j : Int)).f0 (rd_T39 x (j : Int)).f1 (rd_T39 x (j : Int)).f2 (rd_T39 x (j : Int)).f3 (a == 1) = some _ := q1 m (by omega)
        have r2 : marginaliaref20_May.j2 m (j : Int) b a x y d = some r := q2 m (by omega)
        show marginaliaref20_May.l0 (m + 1) (j : Int) a x y d = _
        rw [marginaliaref20_May.l0, if_pos (by omega), if_pos (by omega), r1, Option.bind_some, he, r2]
      by_cases ci : it a (rd_T39 x (j : Int)) = true
      · by_cases cj : 0 < j
        · have ew : wrap64 ((j : Int) - 1) = ((j - 1 : Nat) : Int) := by rw [w64 (by omega) (by omega)]; omega
          by_cases ck : (rd_T39 x ((j - 1 : Nat) : Int)).f0 ≥ (rd_T39 x (j : Int)).f0
          · refine key true _ ?_ (fun k => by rw [if_pos ci, if_pos (by omega), ew, if_pos (by omega), if_pos (by omega), decide_eq_true ck])
            rw [allf, show qt a x j = false by unfold qt; rw [ci, decide_eq_true cj, decide_eq_true ck]; rfl]
            exact hfalse _
          · refine key false _ ?_ (fun k => by rw [if_pos ci, if_pos (by omega), ew, if_pos (by omega), if_pos (by omega), decide_eq_false ck])
            rw [allf, show qt a x j = true by unfold qt; rw [ci, decide_eq_true cj, decide_eq_false ck]; rfl]
            exact hnext false rfl
        · refine key false _ ?_ (fun k => by rw [if_pos ci, if_neg (by omega)])
          rw [allf, show qt a x j = true by unfold qt; rw [ci, decide_eq_false cj]; rfl]
          exact hnext false rfl
      · refine key true _ ?_ (fun k => by rw [if_neg ci])
        rw [allf, show qt a x j = false by unfold qt; rw [Bool.eq_false_iff.2 ci]; rfl]
        exact hfalse _
  have hj0t : Ev (fun k => marginaliaref20_May.j0 k true a x y d) false := by
    refine Ev.step (f := fun _ => some _) (fun k => ?_) (Ev.now _)
    rw [marginaliaref20_May.j0, if_pos rfl]
  have hbody : a = 1 ∨ a = 2 → Ev (fun k => if (d.length : Int) > 0 then (marginaliaref20_May.j0 k true a x y d) else (if y = 0 then (marginaliaref20_May.j0 k ((x.length : Int) == 0) a x y d) else (marginaliaref20_May.j0 k true a x y d))) (if (x.length : Int) = 0 then false else if (d.length : Int) > 0 then false else if y = 0 then allf (qt a x) 0 x.length else false) := fun ha => by
    by_cases c2 : (d.length : Int) > 0
    · refine Ev.congr (f := fun k => marginaliaref20_May.j0 k true a x y d) (fun k => if_pos c2) ?_
      rw [if_pos c2]
      split <;> exact hj0t
    · by_cases c3 : y = 0
      · refine Ev.congr (f := fun k => marginaliaref20_May.j0 k ((x.length : Int) == 0) a x y d) (fun k => (if_neg c2).trans (if_pos c3)) ?_
        by_cases c1 : (x.length : Int) = 0
        · rw [if_pos c1, show ((x.length : Int) == 0) = true by simpa using c1]; exact hj0t
        · rw [if_neg c1, if_neg c2, if_pos c3, show ((x.length : Int) == 0) = false by simpa using c1]
          refine Ev.step (fun k => ?_) (hloop ha x.length 0 (by omega))
          rw [marginaliaref20_May.j0, if_neg (by decide)]; rfl
      · refine Ev.congr (f := fun k => marginaliaref20_May.j0 k true a x y d) (fun k => (if_neg c2).trans (if_neg c3)) ?_
        rw [if_neg c2, if_neg c3]
        split <;> exact hj0t
  unfold may
  by_cases c : a = 3
  · rw [if_pos c]
    refine ⟨0, fun k _ => ?_⟩
    show marginaliaref20_May.f k a x y d = _
    rw [marginaliaref20_May.f, if_pos c]
    by_cases c1 : (x.length : Int) = 0
    · rw [if_pos c1, if_pos c1]
      by_cases cl : y = -1 ∨ lk y = true
      · have hl : y ≥ -1 ∧ y < 4096 := by
          rcases cl with h | h
          · omega
          · unfold lk at h; simp at h; omega
        rw [if_pos hl.1, if_pos hl.2, if_pos cl]
        by_cases c3 : (d.length : Int) > 0
        · rw [if_pos c3, if_pos (show (d.length : Int) ≥ 1 by omega)]
        · rw [if_neg c3, if_neg (show ¬ (d.length : Int) ≥ 1 by omega)]
      · have hl : ¬ (y ≥ -1 ∧ y < 4096) := fun h => cl (by
          by_cases e : y = -1
          · exact .inl e
          · refine .inr ?_
            unfold lk
            rw [decide_eq_true (by omega), decide_eq_true (by omega)]; rfl)
        rw [if_neg cl]
        by_cases c4 : y ≥ -1
        · rw [if_pos c4, if_neg (fun h => hl ⟨c4, h⟩)]
        · rw [if_neg c4]
    · rw [if_neg c1, if_neg c1]
  · rw [if_neg c]
    by_cases c1 : a = 1
    · rw [if_pos (show a = 1 ∨ a = 2 from .inl c1)]
      refine Ev.congr (fun k => ?_) (hbody (.inl c1))
      show marginaliaref20_May.f k a x y d = _
      rw [marginaliaref20_May.f, if_neg c, if_pos c1]
    · by_cases c2 : a = 2
      · rw [if_pos (show a = 1 ∨ a = 2 from .inr c2)]
        refine Ev.congr (fun k => ?_) (hbody (.inr c2))
        show marginaliaref20_May.f k a x y d = _
        rw [marginaliaref20_May.f, if_neg c, if_neg c1, if_pos c2]
      · rw [if_neg (show ¬ (a = 1 ∨ a = 2) from fun h => h.elim c1 c2)]
        refine Ev.congr (fun k => ?_) hj0t
        show marginaliaref20_May.f k a x y d = _
        rw [marginaliaref20_May.f, if_neg c, if_neg c1, if_neg c2]
theorem refSize_ev {a : Int} {x : List S39} {y : Int} {d : List Int} (hx : x.length ≤ 1000) (hd : d.length ≤ 1000) : Ev (fun k => marginaliaref20_Size.f k a x y d) (if may a x y d = true then sz a x d else 0) := by
  obtain ⟨K1, q1⟩ := refMay_ev (a := a) (x := x) (y := y) (d := d) hx
  by_cases hm : may a x y d = true
  · rw [if_pos hm]
    unfold sz
    by_cases c : a = 3
    · rw [if_pos c]
      refine ⟨K1, fun k hk => ?_⟩
      have r1 : marginaliaref20_May.f k a x y d = some _ := q1 k hk
      show marginaliaref20_Size.f k a x y d = _
      rw [marginaliaref20_Size.f, r1, Option.bind_some, if_pos hm, if_pos c, w64 (by omega) (by omega)]
    · rw [if_neg c]
      have hma := may_all hm c
      have ha := hma.2.2.2.2
      have hloop : ∀ n j : Nat, j + n = x.length → ∀ s : Int, 0 ≤ s → s ≤ 3 + 52 * j → Ev (fun k => marginaliaref20_Size.l0 k s (j : Int) a x y d) (s + sums a x j n) := by
        intro n
        induction n with
        | zero =>
          intro j hj s h0 h1
          refine Ev.step (f := fun _ => some _) (fun k => ?_) (Ev.now _)
          rw [marginaliaref20_Size.l0, if_neg (by omega), sums, Int.add_zero]
        | succ n ih =>
          intro j hj s h0 h1
          have hit := qt_it (allf_at x.length 0 ha j (by omega) (by omega))
          have hb := it_si hit
          have hnext := ih (j + 1) (by omega) (s + si a (rd_T39 x (j : Int))) (by omega) (by omega)
          rw [sums, ← Int.add_assoc]
          rcases hma.1 with c1 | c1
          · by_cases c3 : (rd_T39 x (j : Int)).f1 ≤ 40
            · have hs : si a (rd_T39 x (j : Int)) = 12 + (rd_T39 x (j : Int)).f1 := by unfold si; rw [if_neg (by omega), if_pos c3]
              rw [hs] at hb hnext ⊢
              refine Ev.step (f := fun k => marginaliaref20_Size.j1 k (s + 12) (j : Int) true a x y d) (fun k => ?_) (Ev.step (fun k => ?_) hnext)
              · rw [marginaliaref20_Size.l0, if_pos (by omega), if_pos c1, if_pos (by omega), decide_eq_true c3, w64 (by omega) (by omega)]
              · rw [marginaliaref20_Size.j1, if_pos rfl, if_pos (by omega), if_pos (by omega), w64 (by omega) (by omega), w64 (by omega) (by omega), ← Int.add_assoc]
                rfl
            · have hs : si a (rd_T39 x (j : Int)) = 16 := by unfold si; rw [if_neg (by omega), if_neg c3]
              rw [hs] at hb hnext ⊢
              refine Ev.step (f := fun k => marginaliaref20_Size.j1 k (s + 12) (j : Int) false a x y d) (fun k => ?_) (Ev.step (fun k => ?_) hnext)
              · rw [marginaliaref20_Size.l0, if_pos (by omega), if_pos c1, if_pos (by omega), decide_eq_false c3, w64 (by omega) (by omega)]
              · rw [marginaliaref20_Size.j1, if_neg (by decide), if_pos c1, w64 (by omega) (by omega), w64 (by omega) (by omega), Int.add_assoc]
                rfl
          · have hs : si a (rd_T39 x (j : Int)) = 12 := by unfold si; rw [if_pos c1]
            rw [hs] at hb hnext ⊢
            refine Ev.step (f := fun k => marginaliaref20_Size.j1 k (s + 12) (j : Int) false a x y d) (fun k => ?_) (Ev.step (fun k => ?_) hnext)
            · rw [marginaliaref20_Size.l0, if_pos (by omega), if_neg (by omega), w64 (by omega) (by omega)]
            · rw [marginaliaref20_Size.j1, if_neg (by decide), if_neg (by omega), w64 (by omega) (by omega)]
              rfl
      obtain ⟨K2, q2⟩ := hloop x.length 0 (by omega) 3 (by omega) (by omega)
      refine ⟨K1 + K2, fun k hk => ?_⟩
      have r1 : marginaliaref20_May.f k a x y d = some _ := q1 k (by omega)
      have r2 : marginaliaref20_Size.l0 k 3 0 a x y d = some _ := q2 k (by omega)
      show marginaliaref20_Size.f k a x y d = _
      rw [marginaliaref20_Size.f, r1, Option.bind_some, if_pos hm, if_neg c, r2]
  · rw [if_neg hm]
    refine ⟨K1, fun k hk => ?_⟩
    have r1 : marginaliaref20_May.f k a x y d = some _ := q1 k hk
    show marginaliaref20_Size.f k a x y d = _
    rw [marginaliaref20_Size.f, r1, Option.bind_some, if_neg hm]
theorem refCheck_ev {a : Int} {x : List S39} {y : Int} {d : List Int} (hx : x.length ≤ 1000) (hd : d.length ≤ 1000) : Ev (fun k => marginaliaref20_Check.f k a x y d) (chk a x y d) := by
  obtain ⟨K1, q1⟩ := refMay_ev (a := a) (x := x) (y := y) (d := d) hx
  obtain ⟨K2, q2⟩ := refSize_ev (a := a) (x := x) (y := y) (d := d) hx hd
  unfold chk
  refine ⟨K1 + K2, fun k hk => ?_⟩
  have r1 : marginaliaref20_May.f k a x y d = some _ := q1 k (by omega)
  have r2 : marginaliaref20_Size.f k a x y d = some _ := q2 k (by omega)
  show marginaliaref20_Check.f k a x y d = _
  rw [marginaliaref20_Check.f, r1, Option.bind_some]
  by_cases hm : may a x y d = true
  · rw [if_pos hm] at r2
    rw [if_pos hm, if_pos hm, r2, Option.bind_some]
    split <;> rfl
  · rw [if_neg hm, if_neg hm]
end Go.Proofs.Ytnkaidaflegnlaa.PageLaws
