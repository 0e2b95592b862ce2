/- CellBack: a cell that is encoded is decoded as it was; a record that is cut is joined as it was. No condition beyond those that each theorem names. -/
import Derived.Test.YtnmopjmlilekjaaOpenCellBack
import Derived.Test.YtnmopjmlilekjaaCellPut
import Derived.Test.YtnmopjmlilekjaaCellJoins
namespace Go.Proofs.Ytnmopjmlilekjaa.CellLaws
open Go.RowKit Go.Proofs.Ytnmopjmlilekjaa Go.Proofs.Ytnmopjmlilekjaa.K Go.Proofs.Ytnmopjmlilekjaa.K.cellBackOpen Go.Proofs.YtnmopjmlilekjaaW.PrintWords Go.Proofs.YtnmopjmlilekjaaW.PrintLast Go.Proofs.YtnmopjmlilekjaaW.PrintMore
open Go.Proofs.Ytnmopjmlilekjaa.CrcK (Bytes u32 more sum_ev refsum_ev bytes_rd u32_lt bytes_wf)
set_option linter.unusedVariables false
theorem wf_u64 {x : Int} (h : (Lit.int .u64 x).wf = true) : 0 ≤ x ∧ x < 18446744073709551616 := by
  have := bounds_u64 h
  omega
/-- A cell that may be encoded is decoded as it was. -/
theorem there_back {a0 a1 a2 a3 : Int} {l : List Int} (h0 : 0 ≤ a0 ∧ a0 < 18446744073709551616) (h1 : 0 ≤ a1 ∧ a1 < 18446744073709551616) (hb : Bytes l) (hm : May a2 a3 l) : Ev (fun k => cell_Decode.f k (enc a0 a1 a2 a3 l)) (a0, a1, a2, a3, l, 0) := by
  obtain ⟨g, g0, g1, g2, g3, g4⟩ := enc_good (l := l) h0 h1 hm
  have := decode_good (enc_bytes hm.2.2.2 hb) g
  rwa [g0, g1, g2, g3, g4] at this
theorem cutn_take_succ (l : List Int) (a b m : Int) {n j : Nat} (h : j < n) : (cutn l a b m n).take (j + 1) = (cutn l a b m n).take j ++ [(⟨a, b, (j : Int), m, part l j⟩ : S34)] := by
  rw [List.take_succ_eq_append_getElem (by rw [cutn_length]; exact h)]
  simp [cutn]
open Classical in
theorem back_loop {l : List Int} {a b : Int} (hb : Bytes l) (hl : l.length ≤ 300) (ha : 0 ≤ a ∧ a < 18446744073709551616) (hbb : 0 ≤ b ∧ b < 18446744073709551616) : Ev (fun k => marginalialaw16_CellBack.l0 k l [] (cutn l a b (many l.length : Int) (many l.length)) 0) true := by
  obtain ⟨N, hN⟩ : ∃ N, N = many l.length := ⟨_, rfl⟩
  have hN' : many l.length = (l.length + 38) / 39 := rfl
  have hrow := cutn_row l a b
  have hcat := cat_cutn_all l a b (many l.length : Int)
  rw [← hN] at hrow hcat hN' ⊢
  have h : ∀ n j : Nat, j + n = N → Ev (fun k => marginalialaw16_CellBack.l0 k l ((cutn l a b (N : Int) N).take j) (cutn l a b (N : Int) N) (j : Int)) true := by
    intro n
    induction n with
    | zero =>
      intro j hj
      obtain ⟨K0, q0⟩ := alive_ev
      obtain ⟨K1, q1⟩ := join_ev (l := cutn l a b (N : Int) N) (by rw [cutn_length]; omega) (fun i hi => by
        rw [cutn_length] at hi
        simp only [cutn, List.getElem_map, List.getElem_range]
        rw [part_length]; omega)
      refine ⟨K0 + K1 + 1, fun k hk => ?_⟩
      obtain ⟨m, rfl⟩ : ∃ m, k = m + 1 := ⟨k - 1, by omega⟩
      have r0 : marginalialaw16_alive.f m = some true := q0 _ (by omega)
      have r1 : cell_Join.f m (cutn l a b (N : Int) N) = some _ := q1 _ (by omega)
      show marginalialaw16_CellBack.l0 (m + 1) l ((cutn l a b (N : Int) N).take j) (cutn l a b (N : Int) N) (j : Int) = _
      have hN0 : cutn l a b (N : Int) N ≠ [] ↔ l.length > 0 := by
        rw [← List.length_pos_iff, cutn_length]; omega
      by_cases c : l.length > 0
      · rw [if_pos ⟨hrow, hN0.2 c⟩, hcat] at r1
        rw [marginalialaw16_CellBack.l0, if_neg (by rw [cutn_length]; omega), List.take_of_length_le (by rw [cutn_length]; omega), r1, Option.bind_some, r0, Option.bind_some, if_pos rfl, decide_eq_true (show (l.length : Int) > 0 by omega)]
        simp
      · rw [if_neg (fun hh => c (hN0.1 hh.2))] at r1
        have hnil : l = [] := List.length_eq_zero_iff.1 (by omega)
        rw [marginalialaw16_CellBack.l0, if_neg (by rw [cutn_length]; omega), List.take_of_length_le (by rw [cutn_length]; omega), r1, Option.bind_some, r0, Option.bind_some, if_pos rfl, decide_eq_false (show ¬ (l.length : Int) > 0 by omega), hnil]
        simp
    | succ n ih =>
      intro j hj
      have hj' : j < N := by omega
      have hp := part_length l j
      have hpb := part_bytes hb j
      have hm : May (j : Int) (N : Int) (part l j) := ⟨by omega, by omega, by omega, by omega⟩
      obtain ⟨K0, q0⟩ := encode_ev (a0 := a) (a1 := b) hpb hm
      obtain ⟨K1, q1⟩ := there_back ha hbb hpb hm
      obtain ⟨K2, q2⟩ := ih (j + 1) (by omega)
      refine ⟨K0 + K1 + K2 + 1, fun k hk => ?_⟩
      obtain ⟨m, rfl⟩ : ∃ m, k = m + 1 := ⟨k - 1, by omega⟩
      have r0 : cell_Encode.f m a b (j : Int) (N : Int) (part l j) = some _ := q0 _ (by omega)
      have r1 : cell_Decode.f m (enc a b (j : Int) (N : Int) (part l j)) = some _ := q1 _ (by omega)
      have r2 : marginalialaw16_CellBack.l0 m l ((cutn l a b (N : Int) N).take (j + 1)) (cutn l a b (N : Int) N) ((j + 1 : Nat) : Int) = some true := q2 _ (by omega)
      show marginalialaw16_CellBack.l0 (m + 1) l ((cutn l a b (N : Int) N).take j) (cutn l a b (N : Int) N) (j : Int) = _
      rw [marginalialaw16_CellBack.l0, if_pos (by rw [cutn_length]; omega), if_pos (by omega), rd34_cutn hj', r0, Option.bind_some, r1, Option.bind_some, if_pos rfl, if_pos rfl, if_pos (by simp [cutn_length]; omega), ← cutn_take_succ l a b (N : Int) hj', w64 (by omega) (by omega)]
      exact r2
  exact h N 0 (by omega)
end Go.Proofs.Ytnmopjmlilekjaa.CellLaws
namespace Go.Proofs.Ytnmopjmlilekjaa.Pure
open Go.RowKit Go.Proofs.Ytnmopjmlilekjaa Go.Proofs.Ytnmopjmlilekjaa.K Go.Proofs.Ytnmopjmlilekjaa.K.cellBackOpen Go.Proofs.Ytnmopjmlilekjaa.CellLaws Go.Proofs.YtnmopjmlilekjaaW.PrintWords Go.Proofs.YtnmopjmlilekjaaW.PrintLast Go.Proofs.YtnmopjmlilekjaaW.PrintMore
open Go.Proofs.Ytnmopjmlilekjaa.CrcK (Bytes u32 more sum_ev refsum_ev bytes_rd u32_lt bytes_wf bv)
theorem CellBack : cellBackOpen.Pure := by
  rintro ⟨a0, a1, a2, a3, d⟩ l ⟨w0, w1, _, _, _, hwd⟩ _ _ hw
  have hd : Bytes d := bytes_wf hwd
  have hb : Bytes l := bytes_wf hw
  have h0 := wf_u64 w0
  have h1 := wf_u64 w1
  simp only at h0 h1
  obtain ⟨K0, q0⟩ := alive_ev
  have hj0 : ∀ c : Bool, c = true → Ev (fun k => marginalialaw16_CellBack.j0 k l c a0 a1 a2 a3 d) true := fun c hc => by
    refine ⟨K0 + 1, fun k hk => ?_⟩
    obtain ⟨m, rfl⟩ : ∃ m, k = m + 1 := ⟨k - 1, by omega⟩
    have r0 : marginalialaw16_alive.f m = some true := q0 _ (by omega)
    show marginalialaw16_CellBack.j0 (m + 1) l c a0 a1 a2 a3 d = _
    rw [marginalialaw16_CellBack.j0, if_pos hc, r0, Option.bind_some]
  show ∃ k, marginalialaw16_CellBack.f k a0 a1 a2 a3 d l = some true
  by_cases c : (d.length : Int) > 300
  · obtain ⟨K, q⟩ := hj0 true rfl
    have r : marginalialaw16_CellBack.j0 K l true a0 a1 a2 a3 d = some true := q K (by omega)
    exact ⟨K, by rw [marginalialaw16_CellBack.f, if_pos c, r]⟩
  by_cases c2 : (l.length : Int) > 300
  · obtain ⟨K, q⟩ := hj0 _ (decide_eq_true c2)
    have r : marginalialaw16_CellBack.j0 K l (decide ((l.length : Int) > 300)) a0 a1 a2 a3 d = some true := q K (by omega)
    exact ⟨K, by rw [marginalialaw16_CellBack.f, if_neg c, r]⟩
  have hj2 : Ev (fun k => marginalialaw16_CellBack.j2 k l a0 a1 a2 a3 d) true := by
    obtain ⟨K1, q1⟩ := cut_ev (l := l) a0 a1 (by omega)
    obtain ⟨K2, q2⟩ := back_loop (a := a0) (b := a1) hb (by omega) h0 h1
    refine ⟨K1 + K2 + 1, fun k hk => ?_⟩
    obtain ⟨m, rfl⟩ : ∃ m, k = m + 1 := ⟨k - 1, by omega⟩
    have r1 : cell_Cut.f m l a0 a1 = some _ := q1 _ (by omega)
    show marginalialaw16_CellBack.j2 (m + 1) l a0 a1 a2 a3 d = _
    rw [marginalialaw16_CellBack.j2, r1, Option.bind_some]
    exact q2 _ (by omega)
  have hfin : ∃ K, ∀ k, K ≤ k → marginalialaw16_CellBack.j0 k l false a0 a1 a2 a3 d = some true := by
    obtain ⟨K2, q2⟩ := hj2
    by_cases hm : May a2 a3 d
    · obtain ⟨K1, q1⟩ := encode_ev (a0 := a0) (a1 := a1) hd hm
      obtain ⟨K3, q3⟩ := there_back h0 h1 hd hm
      refine ⟨K1 + K2 + K3 + 2, fun k hk => ?_⟩
      obtain ⟨m, rfl⟩ : ∃ m, k = m + 1 + 1 := ⟨k - 2, by omega⟩
      have r1 : cell_Encode.f (m + 1) a0 a1 a2 a3 d = some (enc a0 a1 a2 a3 d, 0) := q1 _ (by omega)
      have r2 : marginalialaw16_CellBack.j2 m l a0 a1 a2 a3 d = some true := q2 _ (by omega)
      have r3 : cell_Decode.f (m + 1) (enc a0 a1 a2 a3 d) = some (a0, a1, a2, a3, d, 0) := q3 _ (by omega)
      rw [marginalialaw16_CellBack.j0, if_neg (by decide), r1, Option.bind_some, if_pos rfl, r3, Option.bind_some, if_pos rfl, if_pos (by rw [enc_length hm.2.2.2]; rfl), same_refl, Option.bind_some, marginalialaw16_CellBack.j1, if_neg (by decide), r2]
    · refine ⟨K2 + 1, fun k hk => ?_⟩
      obtain ⟨m, rfl⟩ : ∃ m, k = m + 1 := ⟨k - 1, by omega⟩
      have r2 : marginalialaw16_CellBack.j2 m l a0 a1 a2 a3 d = some true := q2 _ (by omega)
      rw [marginalialaw16_CellBack.j0, if_neg (by decide), encode_bad hm, Option.bind_some, if_neg (by decide), r2]
  obtain ⟨K, q⟩ := hfin
  exact ⟨K, by rw [marginalialaw16_CellBack.f, if_neg c, decide_eq_false c2, q K (by omega)]⟩
end Go.Proofs.Ytnmopjmlilekjaa.Pure
