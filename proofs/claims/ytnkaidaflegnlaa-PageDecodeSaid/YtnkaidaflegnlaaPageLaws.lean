/- Pages: which may be, and how many bytes they have, for the program and for the document. No condition beyond those that each theorem names. -/
import Derived.Test.YtnkaidaflegnlaaGf14
import Derived.Test.YtnkaidaflegnlaaGf16
import Derived.Test.YtnkaidaflegnlaaGf18
namespace Go.Proofs.Ytnkaidaflegnlaa.PageLaws
open Go.RowKit Go.Proofs.Ytnkaidaflegnlaa Go.Proofs.Ytnkaidaflegnlaa.G Go.Proofs.YtnkaidaflegnlaaW.PrintWords Go.Proofs.YtnkaidaflegnlaaW.PrintLast Go.Proofs.YtnkaidaflegnlaaW.PrintMore
set_option linter.unusedVariables false
theorem w64 {n : Int} (h0 : -9223372036854775808 ≤ n) (h1 : n < 9223372036854775808) : wrap64 n = n := by unfold wrap64; omega
theorem rd39_at {x : List S39} {j : Nat} (h : j < x.length) : rd_T39 x (j : Int) = x[j] := by
  unfold rd_T39
  rw [Int.toNat_natCast, List.getD_eq_getElem?_getD, List.getElem?_eq_getElem h]
  rfl
def lk (n : Int) : Bool := decide (0 ≤ n) && decide (n < 4096)
theorem lk_is (n : Int) : (if n ≥ 0 then (some (decide (n < 4096))) else (some false)) = some (lk n) := by
  unfold lk
  by_cases c : n ≥ 0
  · rw [if_pos c, decide_eq_true c, Bool.true_and]
  · rw [if_neg c, decide_eq_false c, Bool.false_and]
/-- May an item be, of a page of a kind? -/
def it (a : Int) (x : S39) : Bool :=
  if a = 2 then (if x.f1 = 0 then (if (x.f2.length : Int) = 0 then lk x.f3 else false) else false)
  else if x.f1 < 0 then false else if x.f1 > 6000 then false else if x.f1 ≤ 40 then (if (x.f2.length : Int) = x.f1 then x.f3 == 0 else false) else (if (x.f2.length : Int) = 0 then lk x.f3 else false)
theorem isItem_ev (a : Int) (x : S39) : Ev (fun k => page_isItem.f k x.f0 x.f1 x.f2 x.f3 a) (it a x) := by
  unfold it
  by_cases c : a = 2
  · refine ⟨0, fun k _ => ?_⟩
    show page_isItem.f k x.f0 x.f1 x.f2 x.f3 a = _
    rw [page_isItem.f, if_pos c, if_pos c]
    by_cases c1 : x.f1 = 0
    · rw [if_pos c1, if_pos c1]
      by_cases c2 : (x.f2.length : Int) = 0
      · rw [if_pos c2, if_pos c2, page_isLink.f, lk_is]; rfl
      · rw [if_neg c2, if_neg c2]
    · rw [if_neg c1, if_neg c1]
  · refine ⟨1, fun k hk => ?_⟩
    obtain ⟨m, rfl⟩ : ∃ m, k = m + 1 := ⟨k - 1, by omega⟩
    show page_isItem.f (m + 1) x.f0 x.f1 x.f2 x.f3 a = _
    rw [page_isItem.f, if_neg c, if_neg c]
    by_cases c1 : x.f1 < 0
    · rw [if_pos c1, if_pos c1, page_isItem.j0, if_pos rfl]
    · rw [if_neg c1, if_neg c1]
      by_cases c2 : x.f1 > 6000
      · rw [decide_eq_true c2, if_pos c2, page_isItem.j0, if_pos rfl]
      · rw [decide_eq_false c2, if_neg c2, page_isItem.j0, if_neg (by decide), page_inline.f, Option.bind_some]
        by_cases c3 : x.f1 ≤ 40
        · rw [decide_eq_true c3, if_pos rfl, if_pos c3]
          by_cases c4 : (x.f2.length : Int) = x.f1
          · rw [if_pos c4, if_pos c4]
          · rw [if_neg c4, if_neg c4]
        · rw [decide_eq_false c3, if_neg (by decide), if_neg c3]
          by_cases c4 : (x.f2.length : Int) = 0
          · rw [if_pos c4, if_pos c4, page_isLink.f, lk_is]; rfl
          · rw [if_neg c4, if_neg c4]
/-- May an item be, and stand behind the one ahead of it? -/
def qt (a : Int) (x : List S39) (j : Nat) : Bool := it a (rd_T39 x (j : Int)) && !(decide (0 < j) && decide ((rd_T39 x ((j - 1 : Nat) : Int)).f0 ≥ (rd_T39 x (j : Int)).f0))
def allf (q : Nat → Bool) : Nat → Nat → Bool
  | _, 0 => true
  | j, n + 1 => q j && allf q (j + 1) n
def may (a : Int) (x : List S39) (y : Int) (d : List Int) : Bool :=
  if a = 3 then (if (x.length : Int) = 0 then (if y = -1 ∨ lk y = true then (if (d.length : Int) > 0 then decide ((d.length : Int) ≤ 249) else false) else false) else false)
  else if a = 1 ∨ a = 2 then (if (x.length : Int) = 0 then false else if (d.length : Int) > 0 then false else if y = 0 then allf (qt a x) 0 x.length else false) else false
theorem may_ev {a : Int} {x : List S39} {y : Int} {d : List Int} (hx : x.length ≤ 1000) : Ev (fun k => page_may.f k a x y d) (may a x y d) := by
  have hfalse : ∀ xs : List S39, ∀ n j : Int, Ev (fun k => page_may.j3 k xs n j true a x y d) false := fun xs n j => by
    refine Ev.step (f := fun _ => some _) (fun k => ?_) (Ev.now _)
    rw [page_may.j3, if_pos rfl]
  have hloop : ∀ n j : Nat, j + n = x.length → Ev (fun k => page_may.l0 k x (x.length : Int) (j : Int) a x y d) (allf (qt a x) j n) := by
    intro n
    induction n with
    | zero =>
      intro j hj
      refine Ev.step (f := fun _ => some _) (fun k => ?_) (Ev.now _)
      rw [page_may.l0, if_neg (by omega)]; rfl
    | succ n ih =>
      intro j hj
      have hnext : ∀ b : Bool, b = false → Ev (fun k => page_may.j3 k x (x.length : Int) (j : Int) b a x y d) (allf (qt a x) (j + 1) n) := fun b hb => by
        refine Ev.step (fun k => ?_) (ih (j + 1) (by omega))
        rw [page_may.j3, hb, if_neg (by decide), w64 (by omega) (by omega)]
        rfl
      obtain ⟨K1, q1⟩ := isItem_ev a (rd_T39 x (j : Int))
      have key : ∀ (b : Bool) (r : Bool), Ev (fun k => page_may.j3 k x (x.length : Int) (j : Int) b a x y d) r →
          (∀ k, (if it a (rd_T39 x (j : Int)) = true then (if (j : Int) > 0 then (if 0 ≤ (wrap64 ((j : Int) - 1)) then (if (wrap64 ((j : Int) - 1)) < (x.length : Int) then (page_may.j3 k x (x.length : Int) (j : Int) (decide (((rd_T39 x (wrap64 ((j : Int) - 1))).f0) ≥ ((rd_T39 x (j : Int)).f0))) a x y d) else (none)) else (none)) else (page_may.j3 k x (x.length : Int) (j : Int) false a x y d)) else (page_may.j3 k x (x.length : Int) (j : Int) true a x y d)) = page_may.j3 k x (x.length : Int) (j : Int) b a x y d) →
          Ev (fun k => page_may.l0 k x (x.length : Int) (j : Int) a x y d) r := fun b r hb he => by
        obtain ⟨K2, q2⟩ := hb
        refine ⟨K1 + K2 + 1, fun k hk => ?_⟩
        obtain ⟨m, rfl⟩ : ∃ m, k = m + 1 := ⟨k - 1, by omega⟩
        have r1 : page_isItem.f m (rd_T39 x (j : Int)).f0 (rd_T39 x (j : Int)).f1 (rd_T39 x (j : Int)).f2 (rd_T39 x (j : Int)).f3 a = some _ := q1 m (by omega)
        have r2 : page_may.j3 m x (x.length : Int) (j : Int) b a x y d = some r := q2 m (by omega)
        show page_may.l0 (m + 1) x (x.length : Int) (j : Int) a x y d = _
        rw [page_may.l0, if_pos (by omega), if_pos (by omega), if_pos (by omega), r1, Option.bind_some, he, r2]
      by_cases ci : it a (rd_T39 x (j : Int)) = true
      · by_cases cj : 0 < j
        · have ew : wrap64 ((j : Int) - 1) = ((j - 1 : Nat) : Int) := by rw [w64 (by omega) (by omega)]; omega
          by_cases ck : (rd_T39 x ((j - 1 : Nat) : Int)).f0 ≥ (rd_T39 x (j : Int)).f0
          · refine key true _ ?_ (fun k => by rw [if_pos ci, if_pos (by omega), ew, if_pos (by omega), if_pos (by omega), decide_eq_true ck])
            rw [allf, show qt a x j = false by unfold qt; rw [ci, decide_eq_true cj, decide_eq_true ck]; rfl]
            exact hfalse _ _ _
          · refine key false _ ?_ (fun k => by rw [if_pos ci, if_pos (by omega), ew, if_pos (by omega), if_pos (by omega), decide_eq_false ck])
            rw [allf, show qt a x j = true by unfold qt; rw [ci, decide_eq_true cj, decide_eq_false ck]; rfl]
            exact hnext false rfl
        · refine key false _ ?_ (fun k => by rw [if_pos ci, if_neg (by omega)])
          rw [allf, show qt a x j = true by unfold qt; rw [ci, decide_eq_false cj]; rfl]
          exact hnext false rfl
      · refine key true _ ?_ (fun k => by rw [if_neg ci])
        rw [allf, show qt a x j = false by unfold qt; rw [Bool.eq_false_iff.2 ci]; rfl]
        exact hfalse _ _ _
  have hj1f : Ev (fun k => page_may.j1 k true a x y d) false := by
    refine Ev.step (f := fun _ => some _) (fun k => ?_) (Ev.now _)
    rw [page_may.j1, if_pos rfl]
  have hj0 : a = 1 ∨ a = 2 → Ev (fun k => page_may.j0 k true a x y d) (if (x.length : Int) = 0 then false else if (d.length : Int) > 0 then false else if y = 0 then allf (qt a x) 0 x.length else false) := fun ha => by
    by_cases c1 : (x.length : Int) = 0
    · rw [if_pos c1]
      refine Ev.step (fun k => ?_) hj1f
      rw [page_may.j0, if_pos rfl, if_pos c1]
    · rw [if_neg c1]
      by_cases c2 : (d.length : Int) > 0
      · rw [if_pos c2]
        refine Ev.step (fun k => ?_) hj1f
        rw [page_may.j0, if_pos rfl, if_neg c1, if_pos c2]
      · rw [if_neg c2]
        by_cases c3 : y = 0
        · rw [if_pos c3]
          refine Ev.step (f := fun k => page_may.j1 k false a x y d) (fun k => ?_) (Ev.step (fun k => ?_) (hloop x.length 0 (by omega)))
          · rw [page_may.j0, if_pos rfl, if_neg c1, if_neg c2, show (y != 0) = false by simp [c3]]
          · rw [page_may.j1, if_neg (by decide)]; rfl
        · rw [if_neg c3]
          refine Ev.step (fun k => ?_) hj1f
          rw [page_may.j0, if_pos rfl, if_neg c1, if_neg c2, show (y != 0) = true by simp [c3]]
  unfold may
  by_cases c : a = 3
  · rw [if_pos c]
    refine ⟨0, fun k _ => ?_⟩
    show page_may.f k a x y d = _
    rw [page_may.f, if_pos c]
    by_cases c1 : (x.length : Int) = 0
    · rw [if_pos c1, if_pos c1]
      by_cases c2 : y = -1
      · rw [if_pos c2, if_pos (show y = -1 ∨ lk y = true from .inl c2)]
        by_cases c3 : (d.length : Int) > 0
        · rw [if_pos c3, if_pos c3]
        · rw [if_neg c3, if_neg c3]
      · rw [if_neg c2, page_isLink.f, lk_is, Option.bind_some]
        by_cases c4 : lk y = true
        · rw [if_pos c4, if_pos (show y = -1 ∨ lk y = true from .inr c4)]
          by_cases c3 : (d.length : Int) > 0
          · rw [if_pos c3, if_pos c3]
          · rw [if_neg c3, if_neg c3]
        · rw [if_neg c4, if_neg (show ¬ (y = -1 ∨ lk y = true) from fun h => h.elim c2 c4)]
    · rw [if_neg c1, if_neg c1]
  · rw [if_neg c]
    by_cases c1 : a = 1
    · rw [if_pos (show a = 1 ∨ a = 2 from .inl c1)]
      refine Ev.congr (fun k => ?_) (hj0 (.inl c1))
      show page_may.f k a x y d = _
      rw [page_may.f, if_neg c, if_pos c1, show (a == 1) = true by simp [c1]]
    · by_cases c2 : a = 2
      · rw [if_pos (show a = 1 ∨ a = 2 from .inr c2)]
        refine Ev.congr (fun k => ?_) (hj0 (.inr c2))
        show page_may.f k a x y d = _
        rw [page_may.f, if_neg c, if_neg c1, show (a == 2) = true by simp [c2]]
      · rw [if_neg (show ¬ (a = 1 ∨ a = 2) from fun h => h.elim c1 c2)]
        refine Ev.congr (f := fun k => page_may.j0 k false a x y d) (fun k => ?_) (Ev.step (f := fun _ => some _) (fun k => ?_) (Ev.now _))
        · show page_may.f k a x y d = _
          rw [page_may.f, if_neg c, if_neg c1, show (a == 2) = false by simp [c2]]
        · rw [page_may.j0, if_neg (by decide)]
/-- How many bytes an item has. -/
def si (a : Int) (x : S39) : Int := if a = 2 then 12 else if x.f1 ≤ 40 then 12 + x.f1 else 16
def sums (a : Int) (x : List S39) : Nat → Nat → Int
  | _, 0 => 0
  | j, n + 1 => si a (rd_T39 x (j : Int)) + sums a x (j + 1) n
theorem it_si {a : Int} {x : S39} (h : it a x = true) : 12 ≤ si a x ∧ si a x ≤ 52 := by
  unfold it at h
  unfold si
  by_cases c : a = 2
  · rw [if_pos c]; omega
  · rw [if_neg c] at h ⊢
    by_cases c1 : x.f1 < 0
    · rw [if_pos c1] at h; cases h
    · by_cases c3 : x.f1 ≤ 40
      · rw [if_pos c3]; omega
      · rw [if_neg c3]; omega
theorem allf_at {q : Nat → Bool} : ∀ n j, allf q j n = true → ∀ i, j ≤ i → i < j + n → q i = true := by
  intro n
  induction n with
  | zero => intro j _ i h1 h2; omega
  | succ n ih =>
    intro j h i h1 h2
    rw [allf, Bool.and_eq_true] at h
    by_cases e : i = j
    · rw [e]; exact h.1
    · exact ih (j + 1) h.2 i (by omega) (by omega)
theorem qt_it {a : Int} {x : List S39} {j : Nat} (h : qt a x j = true) : it a (rd_T39 x (j : Int)) = true := by
  unfold qt at h
  rw [Bool.and_eq_true] at h
  exact h.1
/-- How many bytes a page has that may be. -/
def sz (a : Int) (x : List S39) (d : List Int) : Int := if a = 3 then 7 + (d.length : Int) else 3 + sums a x 0 x.length
theorem sizeOf_is (a : Int) (x : S39) (h : it a x = true) : page_sizeOf.f x.f0 x.f1 x.f2 x.f3 a = some (si a x) := by
  have hs := it_si h
  unfold si at hs ⊢
  rw [page_sizeOf.f]
  by_cases c : a = 2
  · rw [if_pos c, if_pos c]
  · rw [if_neg c] at hs ⊢
    rw [if_neg c, page_inline.f, Option.bind_some]
    by_cases c3 : x.f1 ≤ 40
    · rw [if_pos c3] at hs ⊢
      rw [decide_eq_true c3, if_pos rfl, w64 (by omega) (by omega)]
    · rw [if_neg c3, decide_eq_false c3, if_neg (by decide)]
theorem may_all {a : Int} {x : List S39} {y : Int} {d : List Int} (h : may a x y d = true) (hc : a ≠ 3) : (a = 1 ∨ a = 2) ∧ x.length ≠ 0 ∧ d.length = 0 ∧ y = 0 ∧ allf (qt a x) 0 x.length = true := by
  unfold may at h
  rw [if_neg hc] at h
  by_cases c : a = 1 ∨ a = 2
  · rw [if_pos c] at h
    by_cases c1 : (x.length : Int) = 0
    · rw [if_pos c1] at h; cases h
    · rw [if_neg c1] at h
      by_cases c2 : (d.length : Int) > 0
      · rw [if_pos c2] at h; cases h
      · rw [if_neg c2] at h
        by_cases c3 : y = 0
        · rw [if_pos c3] at h
          exact ⟨c, by omega, by omega, c3, h⟩
        · rw [if_neg c3] at h; cases h
  · rw [if_neg c] at h; cases h
theorem size_ev {a : Int} {x : List S39} {y : Int} {d : List Int} (hx : x.length ≤ 1000) (hd : d.length ≤ 1000) : Ev (fun k => page_Size.f k a x y d) (if may a x y d = true then sz a x d else 0) := by
  obtain ⟨K1, q1⟩ := may_ev (a := a) (x := x) (y := y) (d := d) hx
  by_cases hm : may a x y d = true
  · rw [if_pos hm]
    unfold sz
    by_cases c : a = 3
    · rw [if_pos c]
      refine ⟨K1, fun k hk => ?_⟩
      have r1 : page_may.f k a x y d = some _ := q1 k hk
      show page_Size.f k a x y d = _
      rw [page_Size.f, r1, Option.bind_some, if_pos hm, if_pos c, w64 (by omega) (by omega)]
    · rw [if_neg c]
      have ha := (may_all hm c).2.2.2.2
      have hloop : ∀ n j : Nat, j + n = x.length → ∀ s : Int, 0 ≤ s → s ≤ 3 + 52 * j → Ev (fun k => page_Size.l0 k s x (x.length : Int) (j : Int) a x y d) (s + sums a x j n) := by
        intro n
        induction n with
        | zero =>
          intro j hj s h0 h1
          refine Ev.step (f := fun _ => some _) (fun k => ?_) (Ev.now _)
          rw [page_Size.l0, if_neg (by omega), sums, Int.add_zero]
        | succ n ih =>
          intro j hj s h0 h1
          have hit := qt_it (allf_at x.length 0 ha j (by omega) (by omega))
          have hb := it_si hit
          rw [sums, ← Int.add_assoc]
          refine Ev.step (fun k => ?_) (ih (j + 1) (by omega) (s + si a (rd_T39 x (j : Int))) (by omega) (by omega))
          rw [page_Size.l0, if_pos (by omega), if_pos (by omega), if_pos (by omega), sizeOf_is a _ hit, Option.bind_some, w64 (by omega) (by omega), w64 (by omega) (by omega)]
          rfl
      obtain ⟨K2, q2⟩ := hloop x.length 0 (by omega) 3 (by omega) (by omega)
      refine ⟨K1 + K2, fun k hk => ?_⟩
      have r1 : page_may.f k a x y d = some _ := q1 k (by omega)
      have r2 : page_Size.l0 k 3 x (x.length : Int) 0 a x y d = some _ := q2 k (by omega)
      show page_Size.f k a x y d = _
      rw [page_Size.f, r1, Option.bind_some, if_pos hm, if_neg c, r2]
  · rw [if_neg hm]
    refine ⟨K1, fun k hk => ?_⟩
    have r1 : page_may.f k a x y d = some _ := q1 k hk
    show page_Size.f k a x y d = _
    rw [page_Size.f, r1, Option.bind_some, if_neg hm]
def chk (a : Int) (x : List S39) (y : Int) (d : List Int) : Int := if may a x y d = true then (if sz a x d > 256 then 4 else 0) else 1
theorem check_ev {a : Int} {x : List S39} {y : Int} {d : List Int} (hx : x.length ≤ 1000) (hd : d.length ≤ 1000) : Ev (fun k => page_Check.f k a x y d) (chk a x y d) := by
  obtain ⟨K1, q1⟩ := may_ev (a := a) (x := x) (y := y) (d := d) hx
  obtain ⟨K2, q2⟩ := size_ev (a := a) (x := x) (y := y) (d := d) hx hd
  unfold chk
  refine ⟨K1 + K2, fun k hk => ?_⟩
  have r1 : page_may.f k a x y d = some _ := q1 k (by omega)
  have r2 : page_Size.f k a x y d = some _ := q2 k (by omega)
  show page_Check.f k a x y d = _
  rw [page_Check.f, r1, Option.bind_some]
  by_cases hm : may a x y d = true
  · rw [if_pos hm] at r2
    rw [if_pos hm, if_pos hm, r2, Option.bind_some]
    split <;> rfl
  · rw [if_neg hm, if_neg hm]
theorem small_ev (a : Int) (x : List S39) (y : Int) (d : List Int) : (Ev (fun k => marginalialaw20_small.f k a x y d) true ∧ x.length ≤ 300 ∧ d.length ≤ 300 ∧ ∀ j, j < x.length → (rd_T39 x (j : Int)).f2.length ≤ 300) ∨ Ev (fun k => marginalialaw20_small.f k a x y d) false := by
  have hf : Ev (fun k => marginalialaw20_small.j0 k true a x y d) false := by
    refine Ev.step (f := fun _ => some _) (fun k => ?_) (Ev.now _)
    rw [marginalialaw20_small.j0, if_pos rfl]
  by_cases c1 : (x.length : Int) > 300
  · exact .inr (Ev.congr (fun k => by show marginalialaw20_small.f k a x y d = _; rw [marginalialaw20_small.f, if_pos c1]) hf)
  by_cases c2 : (d.length : Int) > 300
  · exact .inr (Ev.congr (fun k => by show marginalialaw20_small.f k a x y d = _; rw [marginalialaw20_small.f, if_neg c1, decide_eq_true c2]) hf)
  have hl : ∀ n j : Nat, j + n = x.length → (∀ i, i < j → (rd_T39 x (i : Int)).f2.length ≤ 300) → (Ev (fun k => marginalialaw20_small.l0 k (j : Int) a x y d) true ∧ ∀ i, i < x.length → (rd_T39 x (i : Int)).f2.length ≤ 300) ∨ Ev (fun k => marginalialaw20_small.l0 k (j : Int) a x y d) false := by
    intro n
    induction n with
    | zero =>
      intro j hj hp
      refine .inl ⟨Ev.step (f := fun _ => some _) (fun k => ?_) (Ev.now _), fun i hi => hp i (by omega)⟩
      rw [marginalialaw20_small.l0, if_neg (by omega)]
    | succ n ih =>
      intro j hj hp
      by_cases c : ((rd_T39 x (j : Int)).f2.length : Int) > 300
      · refine .inr (Ev.step (f := fun _ => some _) (fun k => ?_) (Ev.now _))
        rw [marginalialaw20_small.l0, if_pos (by omega), if_pos (by omega), if_pos c]
      · have hs : ∀ r, Ev (fun k => marginalialaw20_small.l0 k ((j + 1 : Nat) : Int) a x y d) r → Ev (fun k => marginalialaw20_small.l0 k (j : Int) a x y d) r := fun r hr => by
          refine Ev.step (fun k => ?_) hr
          rw [marginalialaw20_small.l0, if_pos (by omega), if_pos (by omega), if_neg c, w64 (by omega) (by omega)]
          rfl
        rcases ih (j + 1) (by omega) (fun i hi => by
          by_cases e : i = j
          · subst e; omega
          · exact hp i (by omega)) with ⟨h1, h2⟩ | h1
        · exact .inl ⟨hs _ h1, h2⟩
        · exact .inr (hs _ h1)
  have hs : ∀ r, Ev (fun k => marginalialaw20_small.l0 k 0 a x y d) r → Ev (fun k => marginalialaw20_small.f k a x y d) r := fun r hr => by
    refine Ev.congr (f := fun k => marginalialaw20_small.j0 k false a x y d) (fun k => by show marginalialaw20_small.f k a x y d = _; rw [marginalialaw20_small.f, if_neg c1, decide_eq_false c2]) (Ev.step (fun k => ?_) hr)
    rw [marginalialaw20_small.j0, if_neg (by decide)]
  rcases hl x.length 0 (by omega) (fun i hi => absurd hi (Nat.not_lt_zero _)) with ⟨h1, h2⟩ | h1
  · exact .inl ⟨hs _ h1, by omega, by omega, h2⟩
  · exact .inr (hs _ h1)
end Go.Proofs.Ytnkaidaflegnlaa.PageLaws
