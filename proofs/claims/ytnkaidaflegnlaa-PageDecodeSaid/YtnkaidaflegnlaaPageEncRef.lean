/- A page's bytes, as the document says. No condition beyond those that each theorem names. -/
import Derived.Test.YtnkaidaflegnlaaPageEnc
import Derived.Test.YtnkaidaflegnlaaPageRefs
import Derived.Test.YtnkaidaflegnlaaGf21
namespace Go.Proofs.Ytnkaidaflegnlaa.PageLaws
open Go.RowKit Go.Proofs.Ytnkaidaflegnlaa Go.Proofs.Ytnkaidaflegnlaa.G Go.Proofs.YtnkaidaflegnlaaW.PrintWords Go.Proofs.YtnkaidaflegnlaaW.PrintLast Go.Proofs.YtnkaidaflegnlaaW.PrintMore
set_option linter.unusedVariables false
theorem refPut_ev {acc : List Int} (ha : acc.length ≤ 1000) (n : Int) {m : Nat} (hm : m ≤ 8) : Ev (fun k => marginaliaref16_Put.f k acc n (m : Int)) (acc ++ pb n m) := by
  have h : ∀ m : Nat, m ≤ 8 → ∀ acc : List Int, acc.length ≤ 1008 - m → Ev (fun k => marginaliaref16_Put.l0 k acc n ((m : Int) - 1)) (acc ++ pb n m) := by
    intro m
    induction m with
    | zero =>
      intro _ acc _
      refine Ev.step (f := fun _ => some _) (fun k => ?_) (Ev.now _)
      rw [marginaliaref16_Put.l0, if_neg (by omega), pb, List.append_nil]
    | succ m ih =>
      intro hm acc ha
      have e0 : ((m + 1 : Nat) : Int) - 1 = (m : Int) := by omega
      have e1 : wrap64 (8 * (m : Int)) = 8 * (m : Int) := w64 (by omega) (by omega)
      have e2 : IntKind.u64.wrap (8 * (m : Int)) = 8 * (m : Int) := by simp [IntKind.wrap, IntKind.bits, IntKind.signed]; omega
      rw [pb, e0]
      refine Ev.step (fun k => ?_) (show Ev _ _ from by
        have := ih (by omega) (acc ++ [(shr .u64 n (8 * (m : Int))) % 256]) (by rw [List.length_append, List.length_singleton]; omega)
        rw [List.append_assoc] at this
        exact this)
      rw [marginaliaref16_Put.l0, if_pos (by omega), e1, e2, if_pos (by omega), if_pos (by omega), w64 (n := (m : Int) - 1) (by omega) (by omega)]
  refine Ev.congr (fun k => ?_) (h m hm acc (by omega))
  show marginaliaref16_Put.f k acc n (m : Int) = _
  rw [marginaliaref16_Put.f, w64 (by omega) (by omega)]
theorem refEncLoop_ev {a : Int} {x : List S39} {y : Int} {d : List Int} (hx : x.length ≤ 1000) (ha : x.length ≠ 0 → a = 1 ∨ a = 2) (hit : ∀ i, i < x.length → it a (rd_T39 x (i : Int)) = true) :
    ∀ n j : Nat, j + n = x.length → ∀ acc : List Int, (acc.length : Int) + sums a x j n ≤ 256 → Ev (fun k => marginaliaref20_Encode.l0 k acc (j : Int) a x y d) (fin (acc ++ ebs a x j n), 0) := by
  intro n
  induction n with
  | zero =>
    intro j hj acc hs
    rw [sums] at hs
    refine Ev.step (f := fun _ => some _) (fun k => ?_) (Ev.now _)
    rw [marginaliaref20_Encode.l0, if_neg (by omega), end_is (by omega), ebs, List.append_nil]
  | succ n ih =>
    intro j hj acc hs
    rw [sums] at hs
    have hi := hit j (by omega)
    have haa := ha (by omega)
    have hb := it_si hi
    have hl := eb_len haa hi
    have hpos : 0 ≤ sums a x (j + 1) n := by
      have : ∀ n j : Nat, j + n = x.length → 0 ≤ sums a x j n := fun n => by
        induction n with
        | zero => intro j _; exact Int.le_refl _
        | succ n ih => intro j hj; rw [sums]; have := it_si (hit j (by omega)); have := ih (j + 1) (by omega); omega
      exact this n (j + 1) (by omega)
    have hnext := ih (j + 1) (by omega) (acc ++ eb a (rd_T39 x (j : Int))) (by rw [List.length_append, Int.natCast_add, hl]; omega)
    rw [ebs, ← List.append_assoc]
    have ew : wrap64 ((j : Int) + 1) = ((j + 1 : Nat) : Int) := by rw [w64 (by omega) (by omega)]; omega
    obtain ⟨K1, q1⟩ := refPut_ev (acc := acc) (by omega) (rd_T39 x (j : Int)).f0 (m := 8) (by omega)
    obtain ⟨K4, q4⟩ := hnext
    by_cases c : a = 1
    · obtain ⟨K2, q2⟩ := refPut_ev (acc := acc ++ pb (rd_T39 x (j : Int)).f0 8) (by rw [List.length_append, pb_len]; omega) (IntKind.u64.wrap (rd_T39 x (j : Int)).f1) (m := 4) (by omega)
      by_cases d2 : (rd_T39 x (j : Int)).f1 ≤ 40
      · have he : acc ++ eb a (rd_T39 x (j : Int)) = acc ++ pb (rd_T39 x (j : Int)).f0 8 ++ pb (IntKind.u64.wrap (rd_T39 x (j : Int)).f1) 4 ++ (rd_T39 x (j : Int)).f2 := by
          unfold eb; rw [if_pos c, if_pos d2, ← List.append_assoc, ← List.append_assoc]
        have hle : (acc ++ pb (rd_T39 x (j : Int)).f0 8 ++ pb (IntKind.u64.wrap (rd_T39 x (j : Int)).f1) 4).length + (rd_T39 x (j : Int)).f2.length = acc.length + (eb a (rd_T39 x (j : Int))).length := by
          have := congrArg List.length he
          simp only [List.length_append] at this ⊢
          omega
        rw [he] at q4 ⊢
        refine ⟨K1 + K2 + K4 + 2, fun k hk => ?_⟩
        obtain ⟨m, rfl⟩ : ∃ m, k = m + 1 + 1 := ⟨k - 2, by omega⟩
        have r1 : marginaliaref16_Put.f (m + 1) acc (rd_T39 x (j : Int)).f0 8 = some _ := q1 _ (by omega)
        have r2 : marginaliaref16_Put.f (m + 1) (acc ++ pb (rd_T39 x (j : Int)).f0 8) (IntKind.u64.wrap (rd_T39 x (j : Int)).f1) 4 = some _ := q2 _ (by omega)
        have r4 := q4 m (by omega)
        show marginaliaref20_Encode.l0 (m + 1 + 1) acc (j : Int) a x y d = _
        rw [marginaliaref20_Encode.l0, if_pos (by omega), if_pos (by omega), r1, Option.bind_some, if_pos c, r2, Option.bind_some, marginaliaref20_Encode.j2, if_pos c, if_pos d2, if_pos (by omega), ew]
        exact r4
      · obtain ⟨K3, q3⟩ := refPut_ev (acc := acc ++ pb (rd_T39 x (j : Int)).f0 8 ++ pb (IntKind.u64.wrap (rd_T39 x (j : Int)).f1) 4) (by rw [List.length_append, List.length_append, pb_len, pb_len]; omega) (IntKind.u64.wrap (rd_T39 x (j : Int)).f3) (m := 4) (by omega)
        have he : acc ++ eb a (rd_T39 x (j : Int)) = acc ++ pb (rd_T39 x (j : Int)).f0 8 ++ pb (IntKind.u64.wrap (rd_T39 x (j : Int)).f1) 4 ++ pb (IntKind.u64.wrap (rd_T39 x (j : Int)).f3) 4 := by
          unfold eb; rw [if_pos c, if_neg d2, ← List.append_assoc, ← List.append_assoc]
        rw [he] at q4 ⊢
        refine ⟨K1 + K2 + K3 + K4 + 2, fun k hk => ?_⟩
        obtain ⟨m, rfl⟩ : ∃ m, k = m + 1 + 1 := ⟨k - 2, by omega⟩
        have r1 : marginaliaref16_Put.f (m + 1) acc (rd_T39 x (j : Int)).f0 8 = some _ := q1 _ (by omega)
        have r2 : marginaliaref16_Put.f (m + 1) (acc ++ pb (rd_T39 x (j : Int)).f0 8) (IntKind.u64.wrap (rd_T39 x (j : Int)).f1) 4 = some _ := q2 _ (by omega)
        have r3 : marginaliaref16_Put.f m (acc ++ pb (rd_T39 x (j : Int)).f0 8 ++ pb (IntKind.u64.wrap (rd_T39 x (j : Int)).f1) 4) (IntKind.u64.wrap (rd_T39 x (j : Int)).f3) 4 = some _ := q3 _ (by omega)
        have r4 := q4 m (by omega)
        show marginaliaref20_Encode.l0 (m + 1 + 1) acc (j : Int) a x y d = _
        rw [marginaliaref20_Encode.l0, if_pos (by omega), if_pos (by omega), r1, Option.bind_some, if_pos c, r2, Option.bind_some, marginaliaref20_Encode.j2, if_pos c, if_neg d2, r3, Option.bind_some, ew]
        exact r4
    · obtain ⟨K3, q3⟩ := refPut_ev (acc := acc ++ pb (rd_T39 x (j : Int)).f0 8) (by rw [List.length_append, pb_len]; omega) (IntKind.u64.wrap (rd_T39 x (j : Int)).f3) (m := 4) (by omega)
      have he : acc ++ eb a (rd_T39 x (j : Int)) = acc ++ pb (rd_T39 x (j : Int)).f0 8 ++ pb (IntKind.u64.wrap (rd_T39 x (j : Int)).f3) 4 := by
        unfold eb; rw [if_neg c, ← List.append_assoc]
      rw [he] at q4 ⊢
      refine ⟨K1 + K3 + K4 + 2, fun k hk => ?_⟩
      obtain ⟨m, rfl⟩ : ∃ m, k = m + 1 + 1 := ⟨k - 2, by omega⟩
      have r1 : marginaliaref16_Put.f (m + 1) acc (rd_T39 x (j : Int)).f0 8 = some _ := q1 _ (by omega)
      have r3 : marginaliaref16_Put.f m (acc ++ pb (rd_T39 x (j : Int)).f0 8) (IntKind.u64.wrap (rd_T39 x (j : Int)).f3) 4 = some _ := q3 _ (by omega)
      have r4 := q4 m (by omega)
      show marginaliaref20_Encode.l0 (m + 1 + 1) acc (j : Int) a x y d = _
      rw [marginaliaref20_Encode.l0, if_pos (by omega), if_pos (by omega), r1, Option.bind_some, if_neg c, marginaliaref20_Encode.j2, if_neg c, r3, Option.bind_some, ew]
      exact r4
theorem refEncode_ev {a : Int} {x : List S39} {y : Int} {d : List Int} (hx : x.length ≤ 1000) (hd_ : d.length ≤ 1000) : Ev (fun k => marginaliaref20_Encode.f k a x y d) (if chk a x y d = 0 then (enc a x y d, 0) else ([], chk a x y d)) := by
  obtain ⟨K1, q1⟩ := refCheck_ev (a := a) (x := x) (y := y) (d := d) hx hd_
  by_cases hc : chk a x y d = 0
  · rw [if_pos hc]
    obtain ⟨hm, hs⟩ := chk_zero hc
    have h1 : ∀ b : Int, b = 1 ∨ b = 2 ∨ b = 3 → pb (IntKind.u64.wrap b) 1 = [b % 256] := fun b hb => by rcases hb with rfl | rfl | rfl <;> decide
    obtain ⟨K5, q5⟩ := refPut_ev (acc := []) (by simp) (IntKind.u64.wrap a) (m := 1) (by omega)
    by_cases c : a = 3
    · subst c
      obtain ⟨rfl, hy, hd0, hd1⟩ := may_over hm
      obtain ⟨K2, q2⟩ := refPut_ev (acc := [3 % 256]) (by simp) (IntKind.u64.wrap (wrap64 (y + 1))) (m := 4) (by omega)
      obtain ⟨K3, q3⟩ := refPut_ev (acc := [3 % 256] ++ pb (IntKind.u64.wrap (wrap64 (y + 1))) 4) (by rw [List.length_append, pb_len]; simp) (IntKind.u64.wrap (d.length : Int)) (m := 2) (by omega)
      have hl : ([3 % 256] ++ pb (IntKind.u64.wrap (wrap64 (y + 1))) 4 ++ pb (IntKind.u64.wrap (d.length : Int)) 2).length = 7 := by rw [List.length_append, List.length_append, pb_len, pb_len]; rfl
      have hh : hd 3 [] y d = [3 % 256] ++ pb (IntKind.u64.wrap (wrap64 (y + 1))) 4 ++ pb (IntKind.u64.wrap (d.length : Int)) 2 ++ d := by
        unfold hd; rw [if_pos rfl]; simp only [List.append_assoc]
      obtain ⟨K4, q4⟩ := refEncLoop_ev (a := 3) (x := []) (y := y) (d := d) (by simp) (fun h => absurd rfl h) (fun i hi => absurd hi (Nat.not_lt_zero _)) 0 0 rfl (hd 3 [] y d) (by rw [hh, sums, List.length_append, hl]; omega)
      refine ⟨K1 + K2 + K3 + K4 + K5 + 1, fun k hk => ?_⟩
      obtain ⟨m, rfl⟩ : ∃ m, k = m + 1 := ⟨k - 1, by omega⟩
      have r1 : marginaliaref20_Check.f (m + 1) 3 [] y d = some _ := q1 _ (by omega)
      have r5 : marginaliaref16_Put.f (m + 1) [] (IntKind.u64.wrap 3) 1 = some [3 % 256] := by rw [← h1 3 (by simp)]; exact q5 _ (by omega)
      have r2 : marginaliaref16_Put.f (m + 1) [3 % 256] (IntKind.u64.wrap (wrap64 (y + 1))) 4 = some _ := q2 _ (by omega)
      have r3 : marginaliaref16_Put.f (m + 1) ([3 % 256] ++ pb (IntKind.u64.wrap (wrap64 (y + 1))) 4) (IntKind.u64.wrap (d.length : Int)) 2 = some _ := q3 _ (by omega)
      have r4 : marginaliaref20_Encode.l0 m (hd 3 [] y d) 0 3 [] y d = some _ := q4 m (by omega)
      show marginaliaref20_Encode.f (m + 1) 3 [] y d = _
      rw [marginaliaref20_Encode.f, r1, Option.bind_some, if_pos hc, r5, Option.bind_some, if_pos rfl, r2, Option.bind_some, r3, Option.bind_some, if_pos (by rw [hl]; omega), marginaliaref20_Encode.j0, ← hh, r4]
      rfl
    · obtain ⟨ha, hx0, hd0, hy0, hall⟩ := may_all hm c
      have hh : hd a x y d = [a % 256] ++ pb (IntKind.u64.wrap (x.length : Int)) 2 := by unfold hd; rw [if_neg c]
      have hsz : sz a x d = 3 + sums a x 0 x.length := by unfold sz; rw [if_neg c]
      obtain ⟨K2, q2⟩ := refPut_ev (acc := [a % 256]) (by simp) (IntKind.u64.wrap (x.length : Int)) (m := 2) (by omega)
      obtain ⟨K4, q4⟩ := refEncLoop_ev (a := a) (x := x) (y := y) (d := d) hx (fun _ => ha) (fun i hi => qt_it (allf_at x.length 0 hall i (by omega) (by omega))) x.length 0 (by omega) (hd a x y d) (by rw [hh, List.length_append, pb_len]; have : ([a % 256] : List Int).length = 1 := rfl; omega)
      refine ⟨K1 + K2 + K4 + K5 + 1, fun k hk => ?_⟩
      obtain ⟨m, rfl⟩ : ∃ m, k = m + 1 := ⟨k - 1, by omega⟩
      have r1 : marginaliaref20_Check.f (m + 1) a x y d = some _ := q1 _ (by omega)
      have r5 : marginaliaref16_Put.f (m + 1) [] (IntKind.u64.wrap a) 1 = some [a % 256] := by rw [← h1 a (ha.elim .inl (fun h => .inr (.inl h)))]; exact q5 _ (by omega)
      have r2 : marginaliaref16_Put.f (m + 1) [a % 256] (IntKind.u64.wrap (x.length : Int)) 2 = some _ := q2 _ (by omega)
      have r4 : marginaliaref20_Encode.l0 m (hd a x y d) 0 a x y d = some _ := q4 m (by omega)
      show marginaliaref20_Encode.f (m + 1) a x y d = _
      rw [marginaliaref20_Encode.f, r1, Option.bind_some, if_pos hc, r5, Option.bind_some, if_neg c, r2, Option.bind_some, marginaliaref20_Encode.j0, ← hh, r4]
      rfl
  · rw [if_neg hc]
    refine ⟨K1, fun k hk => ?_⟩
    have r1 : marginaliaref20_Check.f k a x y d = some _ := q1 k hk
    show marginaliaref20_Encode.f k a x y d = _
    rw [marginaliaref20_Encode.f, r1, Option.bind_some, if_neg hc]
end Go.Proofs.Ytnkaidaflegnlaa.PageLaws
