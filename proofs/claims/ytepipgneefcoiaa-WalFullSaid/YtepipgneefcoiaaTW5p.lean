/- The functions of the program that these laws reach, each as a plain Lean function, and the proof that the machine's call comes to it; no condition beyond those that each theorem names. Made by wip/xprint.py. -/
import Derived.Test.YtepipgneefcoiaaTW4
import Derived.Test.YtepipgneefcoiaaDf67
import Derived.Test.YtepipgneefcoiaaMCuts
import Derived.Test.YtepipgneefcoiaaMJoins
import Derived.Test.YtepipgneefcoiaaDx0
namespace Go.Proofs.Ytepipgneefcoiaa.D
open Go.RowKit Go.Proofs.YtepipgneefcoiaaW.PrintWords Go.Proofs.YtepipgneefcoiaaW.PrintLast Go.Proofs.YtepipgneefcoiaaW.PrintMore
attribute [local go_sem] max2_int min2_int max_two min_two max_three min_three max_four min_four
set_option linter.unusedVariables false
set_option linter.unusedSimpArgs false
/- The cells of sectors; the record that begins with cells; all records. -/
open Classical in
noncomputable def decZ (b : List Int) : S106 := if CellLaws.Good b then ⟨CellLaws.e0 b, CellLaws.e1 b, CellLaws.pt b, CellLaws.ofs b, CellLaws.dat b⟩ else ⟨0, 0, 0, 0, []⟩
theorem dec_ev {b : List Int} (hb : CrcK.Bytes b) : ∃ r6, Ev (fun k => cell_Decode.f k b) ((decZ b).f0, (decZ b).f1, (decZ b).f2, (decZ b).f3, (decZ b).f4, r6) := by
  unfold decZ
  by_cases c : CellLaws.Good b
  · rw [if_pos c]; exact ⟨0, CellLaws.decode_good hb c⟩
  · rw [if_neg c]; exact ⟨8, CellLaws.decode_bad hb c⟩
structure CellOk (c : S106) : Prop where
  f0 : 0 ≤ c.f0 ∧ c.f0 < 18446744073709551616
  f1 : 0 ≤ c.f1 ∧ c.f1 < 18446744073709551616
  f3 : 0 ≤ c.f3
  f4 : c.f4.length ≤ 39
theorem num8 {l : List Int} (hb : CrcK.Bytes l) (h : l.length = 8) : 0 ≤ CellLaws.num l ∧ CellLaws.num l < 18446744073709551616 := by
  have := CellLaws.num_range l hb
  rw [h] at this
  exact ⟨this.1, by have := this.2; omega⟩
theorem decZ_ok {b : List Int} (hb : CrcK.Bytes b) : CellOk (decZ b) := by
  unfold decZ
  by_cases c : CellLaws.Good b
  · rw [if_pos c]
    have hl := c.1
    have ho := CellLaws.ofs_le hb hl
    refine ⟨num8 (CellLaws.by_take hb _) (by rw [List.length_take]; omega), num8 (CellLaws.by_drop (CellLaws.by_take hb _) _) (by rw [List.length_drop, List.length_take]; omega), ho.2.2.1, ?_⟩
    show (CellLaws.dat b).length ≤ 39
    rw [CellLaws.dat_length hl c.2.1]
    exact c.2.1
  · rw [if_neg c]
    exact ⟨⟨by decide, by decide⟩, ⟨by decide, by decide⟩, by decide, by decide⟩
theorem cells_ev (rows : List (List Int)) (hb : ∀ b ∈ rows, CrcK.Bytes b) (hl : rows.length ≤ 100000) : Ev (fun k => wal_cells.f k rows) (rows.map decZ) := by
  have key : ∀ (m j : Nat), j + m = rows.length → Ev (fun k => wal_cells.l0 k ((rows.take j).map decZ) rows (rows.length : Int) (j : Int)) (rows.map decZ) := by
    intro m
    induction m with
    | zero =>
      intro j hj
      refine Ev.step (f := fun _ => some (rows.map decZ)) (fun k => ?_) (Ev.now _)
      rw [wal_cells.l0, if_neg (by omega), List.take_of_length_le (by omega)]
    | succ m ih =>
      intro j hj
      have hjl : j < rows.length := by omega
      obtain ⟨r6, hd⟩ := dec_ev (hb _ (List.getElem_mem hjl))
      have hrd : rd_L3 rows (j : Int) = rows[j] := by
        unfold rd_L3
        rw [Int.toNat_natCast, List.getD_eq_getElem?_getD, List.getElem?_eq_getElem hjl]; rfl
      refine Ev.step (f := fun k => (cell_Decode.f k (rd_L3 rows (j : Int))).bind fun bt => wal_cells.l0 k ((rows.take j).map decZ ++ [(⟨bt.1, bt.2.1, bt.2.2.1, bt.2.2.2.1, bt.2.2.2.2.1⟩ : S106)]) rows (rows.length : Int) (wrap64 ((j : Int) + 1))) (fun k => ?_) ?_
      · rw [wal_cells.l0, if_pos (by omega), if_pos (by omega), if_pos (by omega)]
        congr 1
        funext bt
        rw [if_pos (by rw [List.length_map, List.length_take]; omega)]
      · rw [hrd]
        refine Ev.bind hd ?_
        have h1 : (rows.take j).map decZ ++ [decZ rows[j]] = (rows.take (j + 1)).map decZ := by rw [List.take_succ_eq_append_getElem hjl, List.map_append]; rfl
        show Ev (fun k => wal_cells.l0 k ((rows.take j).map decZ ++ [decZ rows[j]]) rows (rows.length : Int) (wrap64 ((j : Int) + 1))) _
        rw [h1, show wrap64 ((j : Int) + 1) = ((j + 1 : Nat) : Int) by unfold wrap64; omega]
        exact ih (j + 1) (by omega)
  exact key rows.length 0 (by omega)
open Classical in
noncomputable def rec1 (cs : List S106) (ep : Int) : Option (List Int × Int × Nat) :=
  if cs.length = 0 then none else if (rd_T106 cs 0).f3 = 0 then none else if (rd_T106 cs 0).f3 > (cs.length : Int) then none else if (rd_T106 cs 0).f0 ≠ ep then none
  else if CellLaws.Row (cs.take (rd_T106 cs 0).f3.toNat) then some (CellLaws.cat (cs.take (rd_T106 cs 0).f3.toNat), (rd_T106 cs 0).f1, (rd_T106 cs 0).f3.toNat) else none
def RecIs (o : Option (List Int × Int × Nat)) (b : List Int) (li of : Int) (ok : Bool) : Prop := (o = none ∧ ok = false) ∨ ∃ n : Nat, o = some (b, li, n) ∧ ok = true ∧ of = (n : Int) ∧ 0 < n
/- All records that begin with cells. -/
noncomputable def prs (ep : Int) : Nat → List S106 → Int → List (List Int) × Nat
  | 0, _, _ => ([], 0)
  | k + 1, cs, least => match rec1 cs ep with
    | none => ([], 0)
    | some (b, li, n) => if li < least then ([], 0) else (b :: (prs ep k (cs.drop n) li).1, n + (prs ep k (cs.drop n) li).2)
def lmax (cs : List S106) : Int := cs.foldl (fun m c => if m < c.f1 then c.f1 else m) 0
end Go.Proofs.Ytepipgneefcoiaa.D
