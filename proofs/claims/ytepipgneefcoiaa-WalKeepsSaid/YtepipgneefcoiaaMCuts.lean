/- A record's cells, as lists of numbers: what both cuts give; and that the workbench's own test of the program answers true. No condition beyond those that each theorem names. -/
import Derived.Test.YtepipgneefcoiaaDf73
import Derived.Test.YtepipgneefcoiaaDf79
import Derived.Test.YtepipgneefcoiaaDf96
import Derived.Test.YtepipgneefcoiaaMCell
import Derived.Test.YtepipgneefcoiaaDx0
namespace Go.Proofs.Ytepipgneefcoiaa.CellLaws
open Go.RowKit Go.Proofs.Ytepipgneefcoiaa Go.Proofs.Ytepipgneefcoiaa.D Go.Proofs.YtepipgneefcoiaaW.PrintWords Go.Proofs.YtepipgneefcoiaaW.PrintLast Go.Proofs.YtepipgneefcoiaaW.PrintMore
open Go.Proofs.Ytepipgneefcoiaa.CrcK (Bytes u32 more sum_ev refsum_ev bytes_rd u32_lt bytes_wf)
set_option linter.unusedVariables false
theorem decode_bad_of {l : List Int} (hb : Bytes l) (h : ¬ pt l < ofs l) : Ev (fun k => cell_Decode.f k l) (0, 0, 0, 0, [], 8) := decode_bad hb fun hg => h hg.2.2.1
def part (l : List Int) (i : Nat) : List Int := (l.drop (i * 39)).take 39
def cutn (l : List Int) (a b m : Int) (n : Nat) : List S106 := (List.range n).map fun (i : Nat) => (⟨a, b, (i : Int), m, part l i⟩ : S106)
theorem cutn_length (l : List Int) (a b m : Int) (n : Nat) : (cutn l a b m n).length = n := by simp [cutn]
theorem cutn_succ (l : List Int) (a b m : Int) (n : Nat) : cutn l a b m (n + 1) = cutn l a b m n ++ [(⟨a, b, (n : Int), m, part l n⟩ : S106)] := by
  simp [cutn, List.range_succ]
theorem rd106_at {x : List S106} {j : Nat} (h : j < x.length) : rd_T106 x (j : Int) = x[j] := by
  unfold rd_T106
  rw [Int.toNat_natCast, List.getD_eq_getElem?_getD, List.getElem?_eq_getElem h]
  rfl
theorem rd106_cutn {l : List Int} {a b m : Int} {n j : Nat} (h : j < n) : rd_T106 (cutn l a b m n) (j : Int) = ⟨a, b, (j : Int), m, part l j⟩ := by
  rw [rd106_at (by rw [cutn_length]; exact h)]
  simp [cutn]
def many (n : Nat) : Nat := (n + 38) / 39
theorem many_ev {n : Nat} (h : n ≤ 100000) : wrap64 (Int.tdiv (wrap64 ((wrap64 ((n : Int) + 39)) - 1)) 39) = (many n : Int) := by
  rw [w64 (n := (n : Int) + 39) (by omega) (by omega), w64 (n := (n : Int) + 39 - 1) (by omega) (by omega), Int.tdiv_eq_ediv_of_nonneg (by omega), w64 (by omega) (by omega)]
  unfold many
  omega
theorem part_length (l : List Int) (j : Nat) : (part l j).length = min 39 (l.length - j * 39) := by
  unfold part
  rw [List.length_take, List.length_drop]
theorem part_bytes {l : List Int} (hb : Bytes l) (j : Nat) : Bytes (part l j) := by_take (by_drop hb _) _
theorem mn_eq (a b : Int) : mn a b = min a b := by
  unfold mn
  split <;> omega
theorem cut_ev {l : List Int} (a b : Int) (hl : l.length ≤ 100000) : Ev (fun k => cell_Cut.f k l a b) (cutn l a b (many l.length : Int) (many l.length)) := by
  have hN : many l.length = (l.length + 38) / 39 := rfl
  obtain ⟨N, hN'⟩ : ∃ N, N = many l.length := ⟨_, rfl⟩
  rw [← hN'] at hN ⊢
  have h : ∀ n j : Nat, j + n = N → Ev (fun k => cell_Cut.l0 k l a b (N : Int) (cutn l a b (N : Int) j) (N : Int) (j : Int)) (cutn l a b (N : Int) N) := by
    intro n
    induction n with
    | zero =>
      intro j hj
      refine Ev.step (f := fun _ => some _) (fun k => ?_) (Ev.now _)
      rw [cell_Cut.l0, if_neg (by omega), show j = N by omega]
    | succ n ih =>
      intro j hj
      refine Ev.step (fun k => ?_) (ih (j + 1) (by omega))
      have e39 : wrap64 ((j : Int) * 39) = ((j * 39 : Nat) : Int) := by rw [w64 (by omega) (by omega)]; omega
      have hlen : (l.drop (j * 39)).length = l.length - j * 39 := by simp
      have hmn : mn ((l.drop (j * 39)).length : Int) 39 = ((min 39 (l.length - j * 39) : Nat) : Int) := by rw [mn_eq, hlen]; omega
      rw [cell_Cut.l0, if_pos (by omega), e39, Int.toNat_natCast, hmn, Int.toNat_natCast, if_pos (by omega), if_pos (by omega), if_pos (by omega), if_pos (by omega)]
      have ht : (l.drop (j * 39)).take (min 39 (l.length - j * 39)) = part l j := by
        unfold part
        rw [← hlen, ← List.take_take, List.take_length]
      rw [ht, clone_some (by rw [part_length]; omega), Option.bind_some, if_pos (by rw [cutn_length]; omega), ← cutn_succ, w64 (by omega) (by omega)]
      rfl
  refine Ev.congr (fun k => ?_) (h N 0 (by omega))
  show cell_Cut.f k l a b = _
  rw [cell_Cut.f, many_ev hl, ← hN', if_neg (by omega)]
  rfl
theorem same_eq {a0 a1 a2 a3 b0 b1 b2 b3 : Int} {l m : List Int} (hl : Bytes l) (hm : Bytes m) : marginaliaref16_Same.f a0 a1 a2 a3 l b0 b1 b2 b3 m = some (decide (a0 = b0 ∧ a1 = b1 ∧ a2 = b2 ∧ a3 = b3 ∧ l = m)) := by
  unfold marginaliaref16_Same.f
  by_cases c0 : a0 = b0
  · by_cases c1 : a1 = b1
    · by_cases c2 : a2 = b2
      · by_cases c3 : a3 = b3
        · rw [if_pos c0, if_pos c1, if_pos c2, if_pos c3]
          congr 1
          rw [Bool.eq_iff_iff, beq_iff_eq, decide_eq_true_eq, strs_iff hl hm]
          simp [c0, c1, c2, c3]
        · rw [if_pos c0, if_pos c1, if_pos c2, if_neg c3]; simp [c3]
      · rw [if_pos c0, if_pos c1, if_neg c2]; simp [c2]
    · rw [if_pos c0, if_neg c1]; simp [c1]
  · rw [if_neg c0]; simp [c0]
theorem same_refl (a0 a1 a2 a3 : Int) (l : List Int) : marginaliaref16_Same.f a0 a1 a2 a3 l a0 a1 a2 a3 l = some true := by
  simp [marginaliaref16_Same.f]
end Go.Proofs.Ytepipgneefcoiaa.CellLaws
