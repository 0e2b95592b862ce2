/- A page's bytes, as the program writes them. No condition beyond those that each theorem names. -/
import Derived.Test.YtnkaidaflegnlaaPageLaws
import Derived.Test.YtnkaidaflegnlaaGf20
namespace Go.Proofs.Ytnkaidaflegnlaa.PageLaws
open Go.RowKit Go.Proofs.Ytnkaidaflegnlaa Go.Proofs.Ytnkaidaflegnlaa.G Go.Proofs.YtnkaidaflegnlaaW.PrintWords Go.Proofs.YtnkaidaflegnlaaW.PrintLast Go.Proofs.YtnkaidaflegnlaaW.PrintMore
set_option linter.unusedVariables false
/-- A number's bytes, so many. -/
def pb (n : Int) : Nat → List Int
  | 0 => []
  | m + 1 => (shr .u64 n (8 * (m : Int))) % 256 :: pb n m
theorem pb_len (n : Int) : ∀ m, (pb n m).length = m
  | 0 => rfl
  | m + 1 => by rw [pb, List.length_cons, pb_len n m]
theorem put_ev {acc : List Int} (ha : acc.length ≤ 1000) (n : Int) {m : Nat} (hm : m ≤ 8) : Ev (fun k => page_put.f k acc n (m : Int)) (acc ++ pb n m) := by
  have h : ∀ m : Nat, m ≤ 8 → ∀ acc : List Int, acc.length ≤ 1008 - m → Ev (fun k => page_put.l0 k acc n ((m : Int) - 1)) (acc ++ pb n m) := by
    intro m
    induction m with
    | zero =>
      intro _ acc _
      refine Ev.step (f := fun _ => some _) (fun k => ?_) (Ev.now _)
      rw [page_put.l0, if_neg (by omega), pb, List.append_nil]
    | succ m ih =>
      intro hm acc ha
      have e0 : ((m + 1 : Nat) : Int) - 1 = (m : Int) := by omega
      have e1 : wrap64 (8 * (m : Int)) = 8 * (m : Int) := w64 (by omega) (by omega)
      rw [pb, e0]
      refine Ev.step (fun k => ?_) (show Ev _ _ from by
        have := ih (by omega) (acc ++ [(shr .u64 n (8 * (m : Int))) % 256]) (by rw [List.length_append, List.length_singleton]; omega)
        rw [List.append_assoc] at this
        exact this)
      rw [page_put.l0, if_pos (by omega), e1, if_pos (by omega), if_pos (by omega), w64 (n := (m : Int) - 1) (by omega) (by omega)]
  refine Ev.congr (fun k => ?_) (h m hm acc (by omega))
  show page_put.f k acc n (m : Int) = _
  rw [page_put.f, w64 (by omega) (by omega)]
/-- An item's bytes. -/
def eb (a : Int) (x : S39) : List Int := pb x.f0 8 ++ (if a = 1 then pb (IntKind.u64.wrap x.f1) 4 ++ (if x.f1 ≤ 40 then x.f2 else pb (IntKind.u64.wrap x.f3) 4) else pb (IntKind.u64.wrap x.f3) 4)
def ebs (a : Int) (x : List S39) : Nat → Nat → List Int
  | _, 0 => []
  | j, n + 1 => eb a (rd_T39 x (j : Int)) ++ ebs a x (j + 1) n
theorem eb_len {a : Int} {x : S39} (ha : a = 1 ∨ a = 2) (h : it a x = true) : ((eb a x).length : Int) = si a x := by
  unfold it at h
  unfold eb si
  by_cases c : a = 2
  · rw [if_pos c, if_neg (show ¬ a = 1 by omega), List.length_append, pb_len, pb_len]; rfl
  · have c1 : a = 1 := ha.resolve_right c
    rw [if_neg c] at h
    rw [if_neg c, if_pos c1, List.length_append, List.length_append, pb_len, pb_len]
    by_cases d0 : x.f1 < 0
    · rw [if_pos d0] at h; cases h
    · rw [if_neg d0] at h
      by_cases d1 : x.f1 > 6000
      · rw [if_pos d1] at h; cases h
      · rw [if_neg d1] at h
        by_cases d2 : x.f1 ≤ 40
        · rw [if_pos d2] at h
          rw [if_pos d2, if_pos d2]
          by_cases d3 : (x.f2.length : Int) = x.f1
          · omega
          · rw [if_neg d3] at h; cases h
        · rw [if_neg d2, if_neg d2, pb_len]; rfl
def fin (b : List Int) : List Int := b ++ List.replicate (256 - b.length) 0
def hd (a : Int) (x : List S39) (y : Int) (d : List Int) : List Int := [a % 256] ++ (if a = 3 then pb (IntKind.u64.wrap (wrap64 (y + 1))) 4 ++ pb (IntKind.u64.wrap (d.length : Int)) 2 ++ d else pb (IntKind.u64.wrap (x.length : Int)) 2)
def enc (a : Int) (x : List S39) (y : Int) (d : List Int) : List Int := fin (hd a x y d ++ ebs a x 0 x.length)
theorem end_is {b : List Int} (h : b.length ≤ 256) : (if 0 ≤ (wrap64 (256 - (b.length : Int))) then (if b.length + (wrap64 (256 - (b.length : Int)) : Int).toNat < 140737488355328 then (some ((b ++ List.replicate (wrap64 (256 - (b.length : Int)) : Int).toNat 0), (0 : Int))) else (none)) else (none)) = some (fin b, 0) := by
  have e : wrap64 (256 - (b.length : Int)) = ((256 - b.length : Nat) : Int) := by rw [w64 (by omega) (by omega)]; omega
  rw [e, if_pos (by omega), Int.toNat_natCast, if_pos (by omega)]
  rfl
theorem encLoop_ev {a : Int} {x : List S39} {y : Int} {d : List Int} (hx : x.length ≤ 1000) (ha : x.length ≠ 0 → a = 1 ∨ a = 2) (hit : ∀ i, i < x.length → it a (rd_T39 x (i : Int)) = true) :
    ∀ n j : Nat, j + n = x.length → ∀ acc : List Int, (acc.length : Int) + sums a x j n ≤ 256 → Ev (fun k => page_Encode.l0 k acc x (x.length : Int) (j : Int) a x y d) (fin (acc ++ ebs a x j n), 0) := by
  intro n
  induction n with
  | zero =>
    intro j hj acc hs
    rw [sums] at hs
    refine Ev.step (f := fun _ => some _) (fun k => ?_) (Ev.now _)
    rw [page_Encode.l0, if_neg (by omega), end_is (by omega), ebs, List.append_nil]
  | succ n ih =>
    intro j hj acc hs
    rw [sums] at hs
    have hi := hit j (by omega)
    have haa := ha (by omega)
    have hb := it_si hi
    have hl := eb_len haa hi
    have hpos : 0 ≤ sums a x (j + 1) n := by
      have : ∀ n j : Nat, j + n = x.length → 0 ≤ sums a x j n := fun n => by
        induction n with
        | zero => intro j _; exact Int.le_refl _
        | succ n ih => intro j hj; rw [sums]; have := it_si (hit j (by omega)); have := ih (j + 1) (by omega); omega
      exact this n (j + 1) (by omega)
    have hnext := ih (j + 1) (by omega) (acc ++ eb a (rd_T39 x (j : Int))) (by rw [List.length_append, Int.natCast_add, hl]; omega)
    rw [ebs, ← List.append_assoc]
    have ew : wrap64 ((j : Int) + 1) = ((j + 1 : Nat) : Int) := by rw [w64 (by omega) (by omega)]; omega
    obtain ⟨K1, q1⟩ := put_ev (acc := acc) (by omega) (rd_T39 x (j : Int)).f0 (m := 8) (by omega)
    obtain ⟨K4, q4⟩ := hnext
    by_cases c : a = 1
    · obtain ⟨K2, q2⟩ := put_ev (acc := acc ++ pb (rd_T39 x (j : Int)).f0 8) (by rw [List.length_append, pb_len]; omega) (IntKind.u64.wrap (rd_T39 x (j : Int)).f1) (m := 4) (by omega)
      by_cases d2 : (rd_T39 x (j : Int)).f1 ≤ 40
      · have he : acc ++ eb a (rd_T39 x (j : Int)) = acc ++ pb (rd_T39 x (j : Int)).f0 8 ++ pb (IntKind.u64.wrap (rd_T39 x (j : Int)).f1) 4 ++ (rd_T39 x (j : Int)).f2 := by
          unfold eb; rw [if_pos c, if_pos d2, ← List.append_assoc, ← List.append_assoc]
        have hle : (acc ++ pb (rd_T39 x (j : Int)).f0 8 ++ pb (IntKind.u64.wrap (rd_T39 x (j : Int)).f1) 4).length + (rd_T39 x (j : Int)).f2.length = acc.length + (eb a (rd_T39 x (j : Int))).length := by
          have := congrArg List.length he
          simp only [List.length_append] at this ⊢
          omega
        rw [he] at q4 ⊢
        refine ⟨K1 + K2 + K4 + 2, fun k hk => ?_⟩
        obtain ⟨m, rfl⟩ : ∃ m, k = m + 1 + 1 := ⟨k - 2, by omega⟩
        have r1 : page_put.f (m + 1) acc (rd_T39 x (j : Int)).f0 8 = some _ := q1 _ (by omega)
        have r2 : page_put.f (m + 1) (acc ++ pb (rd_T39 x (j : Int)).f0 8) (IntKind.u64.wrap (rd_T39 x (j : Int)).f1) 4 = some _ := q2 _ (by omega)
        have r4 := q4 m (by omega)
        show page_Encode.l0 (m + 1 + 1) acc x (x.length : Int) (j : Int) a x y d = _
        rw [page_Encode.l0, if_pos (by omega), if_pos (by omega), if_pos (by omega), r1, Option.bind_some, if_pos c, r2, Option.bind_some, page_Encode.j2, if_pos c, page_inline.f, Option.bind_some, decide_eq_true d2, if_pos rfl, if_pos (by omega), ew]
        exact r4
      · obtain ⟨K3, q3⟩ := put_ev (acc := acc ++ pb (rd_T39 x (j : Int)).f0 8 ++ pb (IntKind.u64.wrap (rd_T39 x (j : Int)).f1) 4) (by rw [List.length_append, List.length_append, pb_len, pb_len]; omega) (IntKind.u64.wrap (rd_T39 x (j : Int)).f3) (m := 4) (by omega)
        have he : acc ++ eb a (rd_T39 x (j : Int)) = acc ++ pb (rd_T39 x (j : Int)).f0 8 ++ pb (IntKind.u64.wrap (rd_T39 x (j : Int)).f1) 4 ++ pb (IntKind.u64.wrap (rd_T39 x (j : Int)).f3) 4 := by
          unfold eb; rw [if_pos c, if_neg d2, ← List.append_assoc, ← List.append_assoc]
        rw [he] at q4 ⊢
        refine ⟨K1 + K2 + K3 + K4 + 2, fun k hk => ?_⟩
        obtain ⟨m, rfl⟩ : ∃ m, k = m + 1 + 1 := ⟨k - 2, by omega⟩
        have r1 : page_put.f (m + 1) acc (rd_T39 x (j : Int)).f0 8 = some _ := q1 _ (by omega)
        have r2 : page_put.f (m + 1) (acc ++ pb (rd_T39 x (j : Int)).f0 8) (IntKind.u64.wrap (rd_T39 x (j : Int)).f1) 4 = some _ := q2 _ (by omega)
        have r3 : page_put.f m (acc ++ pb (rd_T39 x (j : Int)).f0 8 ++ pb (IntKind.u64.wrap (rd_T39 x (j : Int)).f1) 4) (IntKind.u64.wrap (rd_T39 x (j : Int)).f3) 4 = some _ := q3 _ (by omega)
        have r4 := q4 m (by omega)
        show page_Encode.l0 (m + 1 + 1) acc x (x.length : Int) (j : Int) a x y d = _
        rw [page_Encode.l0, if_pos (by omega), if_pos (by omega), if_pos (by omega), r1, Option.bind_some, if_pos c, r2, Option.bind_some, page_Encode.j2, if_pos c, page_inline.f, Option.bind_some, decide_eq_false d2, if_neg (by decide), r3, Option.bind_some, ew]
        exact r4
    · obtain ⟨K3, q3⟩ := put_ev (acc := acc ++ pb (rd_T39 x (j : Int)).f0 8) (by rw [List.length_append, pb_len]; omega) (IntKind.u64.wrap (rd_T39 x (j : Int)).f3) (m := 4) (by omega)
      have he : acc ++ eb a (rd_T39 x (j : Int)) = acc ++ pb (rd_T39 x (j : Int)).f0 8 ++ pb (IntKind.u64.wrap (rd_T39 x (j : Int)).f3) 4 := by
        unfold eb; rw [if_neg c, ← List.append_assoc]
      rw [he] at q4 ⊢
      refine ⟨K1 + K3 + K4 + 2, fun k hk => ?_⟩
      obtain ⟨m, rfl⟩ : ∃ m, k = m + 1 + 1 := ⟨k - 2, by omega⟩
      have r1 : page_put.f (m + 1) acc (rd_T39 x (j : Int)).f0 8 = some _ := q1 _ (by omega)
      have r3 : page_put.f m (acc ++ pb (rd_T39 x (j : Int)).f0 8) (IntKind.u64.wrap (rd_T39 x (j : Int)).f3) 4 = some _ := q3 _ (by omega)
      have r4 := q4 m (by omega)
      show page_Encode.l0 (m + 1 + 1) acc x (x.length : Int) (j : Int) a x y d = _
      rw [page_Encode.l0, if_pos (by omega), if_pos (by omega), if_pos (by omega), r1, Option.bind_some, if_neg c, page_Encode.j2, if_neg c, r3, Option.bind_some, ew]
      exact r4
/-- What a page is that may be, and fits. -/
theorem chk_zero {a : Int} {x : List S39} {y : Int} {d : List Int} (h : chk a x y d = 0) : may a x y d = true ∧ sz a x d ≤ 256 := by
  unfold chk at h
  by_cases c : may a x y d = true
  · rw [if_pos c] at h
    by_cases c2 : sz a x d > 256
    · rw [if_pos c2] at h; cases h
    · exact ⟨c, by omega⟩
  · rw [if_neg c] at h; cases h
theorem may_over {x : List S39} {y : Int} {d : List Int} (h : may 3 x y d = true) : x = [] ∧ (y = -1 ∨ lk y = true) ∧ 0 < d.length ∧ d.length ≤ 249 := by
  unfold may at h
  rw [if_pos rfl] at h
  by_cases c1 : (x.length : Int) = 0
  · rw [if_pos c1] at h
    by_cases c2 : y = -1 ∨ lk y = true
    · rw [if_pos c2] at h
      by_cases c3 : (d.length : Int) > 0
      · rw [if_pos c3] at h
        have := of_decide_eq_true h
        exact ⟨List.eq_nil_of_length_eq_zero (by omega), c2, by omega, by omega⟩
      · rw [if_neg c3] at h; cases h
    · rw [if_neg c2] at h; cases h
  · rw [if_neg c1] at h; cases h
theorem encode_ev {a : Int} {x : List S39} {y : Int} {d : List Int} (hx : x.length ≤ 1000) (hd_ : d.length ≤ 1000) : Ev (fun k => page_Encode.f k a x y d) (if chk a x y d = 0 then (enc a x y d, 0) else ([], chk a x y d)) := by
  obtain ⟨K1, q1⟩ := check_ev (a := a) (x := x) (y := y) (d := d) hx hd_
  by_cases hc : chk a x y d = 0
  · rw [if_pos hc]
    obtain ⟨hm, hs⟩ := chk_zero hc
    by_cases c : a = 3
    · subst c
      obtain ⟨rfl, hy, hd0, hd1⟩ := may_over hm
      obtain ⟨K2, q2⟩ := put_ev (acc := [3 % 256]) (by simp) (IntKind.u64.wrap (wrap64 (y + 1))) (m := 4) (by omega)
      obtain ⟨K3, q3⟩ := put_ev (acc := [3 % 256] ++ pb (IntKind.u64.wrap (wrap64 (y + 1))) 4) (by rw [List.length_append, pb_len]; simp) (IntKind.u64.wrap (d.length : Int)) (m := 2) (by omega)
      have hl : ([3 % 256] ++ pb (IntKind.u64.wrap (wrap64 (y + 1))) 4 ++ pb (IntKind.u64.wrap (d.length : Int)) 2).length = 7 := by rw [List.length_append, List.length_append, pb_len, pb_len]; rfl
      have hh : hd 3 [] y d = [3 % 256] ++ pb (IntKind.u64.wrap (wrap64 (y + 1))) 4 ++ pb (IntKind.u64.wrap (d.length : Int)) 2 ++ d := by
        unfold hd; rw [if_pos rfl]; simp only [List.append_assoc]
      obtain ⟨K4, q4⟩ := encLoop_ev (a := 3) (x := []) (y := y) (d := d) (by simp) (fun h => absurd rfl h) (fun i hi => absurd hi (Nat.not_lt_zero _)) 0 0 rfl (hd 3 [] y d) (by rw [hh, sums, List.length_append, hl]; omega)
      refine ⟨K1 + K2 + K3 + K4 + 1, fun k hk => ?_⟩
      obtain ⟨m, rfl⟩ : ∃ m, k = m + 1 := ⟨k - 1, by omega⟩
      have r1 : page_Check.f (m + 1) 3 [] y d = some _ := q1 _ (by omega)
      have r2 : page_put.f (m + 1) [3 % 256] (IntKind.u64.wrap (wrap64 (y + 1))) 4 = some _ := q2 _ (by omega)
      have r3 : page_put.f (m + 1) ([3 % 256] ++ pb (IntKind.u64.wrap (wrap64 (y + 1))) 4) (IntKind.u64.wrap (d.length : Int)) 2 = some _ := q3 _ (by omega)
      have r4 : page_Encode.l0 m (hd 3 [] y d) [] (([] : List S39).length : Int) 0 3 [] y d = some _ := q4 m (by omega)
      show page_Encode.f (m + 1) 3 [] y d = _
      rw [page_Encode.f, r1, Option.bind_some, if_pos hc, Option.bind_some, if_pos rfl, r2, Option.bind_some, r3, Option.bind_some, if_pos (by rw [hl]; omega), page_Encode.j0, ← hh, r4]
      rfl
    · obtain ⟨ha, hx0, hd0, hy0, hall⟩ := may_all hm c
      have hh : hd a x y d = [a % 256] ++ pb (IntKind.u64.wrap (x.length : Int)) 2 := by unfold hd; rw [if_neg c]
      have hsz : sz a x d = 3 + sums a x 0 x.length := by unfold sz; rw [if_neg c]
      obtain ⟨K2, q2⟩ := put_ev (acc := [a % 256]) (by simp) (IntKind.u64.wrap (x.length : Int)) (m := 2) (by omega)
      obtain ⟨K4, q4⟩ := encLoop_ev (a := a) (x := x) (y := y) (d := d) hx (fun _ => ha) (fun i hi => qt_it (allf_at x.length 0 hall i (by omega) (by omega))) x.length 0 (by omega) (hd a x y d) (by rw [hh, List.length_append, pb_len]; have : ([a % 256] : List Int).length = 1 := rfl; omega)
      refine ⟨K1 + K2 + K4 + 1, fun k hk => ?_⟩
      obtain ⟨m, rfl⟩ : ∃ m, k = m + 1 := ⟨k - 1, by omega⟩
      have r1 : page_Check.f (m + 1) a x y d = some _ := q1 _ (by omega)
      have r2 : page_put.f (m + 1) [a % 256] (IntKind.u64.wrap (x.length : Int)) 2 = some _ := q2 _ (by omega)
      have r4 : page_Encode.l0 m (hd a x y d) x (x.length : Int) 0 a x y d = some _ := q4 m (by omega)
      show page_Encode.f (m + 1) a x y d = _
      rw [page_Encode.f, r1, Option.bind_some, if_pos hc, Option.bind_some, if_neg c, r2, Option.bind_some, page_Encode.j0, ← hh, r4]
      rfl
  · rw [if_neg hc]
    refine ⟨K1, fun k hk => ?_⟩
    have r1 : page_Check.f k a x y d = some _ := q1 k hk
    show page_Encode.f k a x y d = _
    rw [page_Encode.f, r1, Option.bind_some, if_neg hc]
end Go.Proofs.Ytnkaidaflegnlaa.PageLaws
