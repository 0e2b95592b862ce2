/- The functions of the program that these laws reach, each as a plain Lean function, and the proof that the machine's call comes to it; no condition beyond those that each theorem names. Made by wip/xprint.py. -/
import Derived.Test.YtnmopjmlilekjaaKx0
import Derived.Test.YtnmopjmlilekjaaKf19
import Derived.Test.YtnmopjmlilekjaaKf20
import Derived.Test.YtnmopjmlilekjaaKf22
import Derived.Test.YtnmopjmlilekjaaKf24
import Derived.Test.YtnmopjmlilekjaaKf27
import Derived.Test.YtnmopjmlilekjaaKf29
import Derived.Test.YtnmopjmlilekjaaKh
namespace Go.Proofs.Ytnmopjmlilekjaa.K
open Go.RowKit Go.Proofs.YtnmopjmlilekjaaW.PrintWords Go.Proofs.YtnmopjmlilekjaaW.PrintLast Go.Proofs.YtnmopjmlilekjaaW.PrintMore
attribute [local go_sem] max2_int min2_int max_two min_two max_three min_three max_four min_four   -- for this text's walks alone
set_option linter.unusedVariables false
set_option linter.unusedSimpArgs false

/-! ### marginalialaw16_CellBack: function 13 -/
mutual
def marginalialaw16_CellBack.j0 : Nat → List Int → Bool → Int → Int → Int → Int → List Int → Option (Bool)
  | 0, _, _, _, _, _, _, _ => none
  | k + 1, x1, x26, x357000, x357001, x357002, x357003, x357004 => if x26 = true then ((marginalialaw16_alive.f k).bind fun t357 => (some t357)) else ((cell_Encode.f k x357000 x357001 x357002 x357003 x357004).bind fun bt358 => (if bt358.2 = 0 then ((cell_Decode.f k bt358.1).bind fun bt362 => (if bt362.2.2.2.2.2 = 0 then (if (bt358.1.length : Int) = 64 then ((marginaliaref16_Same.f x357000 x357001 x357002 x357003 x357004 bt362.1 bt362.2.1 bt362.2.2.1 bt362.2.2.2.1 bt362.2.2.2.2.1).bind fun t371 => (marginalialaw16_CellBack.j1 k x1 (!t371) x357000 x357001 x357002 x357003 x357004)) else (marginalialaw16_CellBack.j1 k x1 true x357000 x357001 x357002 x357003 x357004)) else (marginalialaw16_CellBack.j1 k x1 true x357000 x357001 x357002 x357003 x357004))) else (marginalialaw16_CellBack.j2 k x1 x357000 x357001 x357002 x357003 x357004)))
def marginalialaw16_CellBack.j2 : Nat → List Int → Int → Int → Int → Int → List Int → Option (Bool)
  | 0, _, _, _, _, _, _ => none
  | k + 1, x1, x357000, x357001, x357002, x357003, x357004 => (cell_Cut.f k x1 x357000 x357001).bind fun t372 => (marginalialaw16_CellBack.l0 k x1 ([] : List (S34)) t372 0)
def marginalialaw16_CellBack.l0 : Nat → List Int → List (S34) → List (S34) → Int → Option (Bool)
  | 0, _, _, _, _ => none
  | k + 1, x1, x9, x10, x11 => if x11 < (x10.length : Int) then (if 0 ≤ x11 then ((cell_Encode.f k ((rd_T34 x10 x11).f0) ((rd_T34 x10 x11).f1) ((rd_T34 x10 x11).f2) ((rd_T34 x10 x11).f3) ((rd_T34 x10 x11).f4)).bind fun bt376 => ((cell_Decode.f k bt376.1).bind fun bt380 => (if bt376.2 = 0 then (if bt380.2.2.2.2.2 = 0 then (if x9.length < 2513169434916 then (marginalialaw16_CellBack.l0 k x1 (x9 ++ [(⟨bt380.1, bt380.2.1, bt380.2.2.1, bt380.2.2.2.1, bt380.2.2.2.2.1⟩ : S34)]) x10 (wrap64 (x11 + 1))) else (none)) else (some false)) else (some false)))) else (none)) else ((cell_Join.f k x9).bind fun bt392 => ((marginalialaw16_alive.f k).bind fun t396 => (if t396 = true then (if (bt392.2 == (decide ((x1.length : Int) > 0))) = true then (some ((strOfNums bt392.1).toList == (strOfNums x1).toList)) else (some false)) else (some false))))
def marginalialaw16_CellBack.j1 : Nat → List Int → Bool → Int → Int → Int → Int → List Int → Option (Bool)
  | 0, _, _, _, _, _, _, _ => none
  | k + 1, x1, x52, x357000, x357001, x357002, x357003, x357004 => if x52 = true then (some false) else (marginalialaw16_CellBack.j2 k x1 x357000 x357001 x357002 x357003 x357004)
end
def marginalialaw16_CellBack.f (k : Nat) (a0_0 : Int) (a0_1 : Int) (a0_2 : Int) (a0_3 : Int) (l0_4 : List Int) (l1 : List Int) : Option (Bool) := if (l0_4.length : Int) > 300 then (marginalialaw16_CellBack.j0 k l1 true a0_0 a0_1 a0_2 a0_3 l0_4) else (marginalialaw16_CellBack.j0 k l1 (decide ((l1.length : Int) > 300)) a0_0 a0_1 a0_2 a0_3 l0_4)
theorem marginalialaw16_CellBack.mono_l : ∀ k, (∀ y0 y1 y2 y3 y4 y5 y6, LeO (marginalialaw16_CellBack.j0 k y0 y1 y2 y3 y4 y5 y6) (marginalialaw16_CellBack.j0 (k + 1) y0 y1 y2 y3 y4 y5 y6)) ∧ (∀ y0 y1 y2 y3 y4 y5, LeO (marginalialaw16_CellBack.j2 k y0 y1 y2 y3 y4 y5) (marginalialaw16_CellBack.j2 (k + 1) y0 y1 y2 y3 y4 y5)) ∧ (∀ y0 y1 y2 y3, LeO (marginalialaw16_CellBack.l0 k y0 y1 y2 y3) (marginalialaw16_CellBack.l0 (k + 1) y0 y1 y2 y3)) ∧ (∀ y0 y1 y2 y3 y4 y5 y6, LeO (marginalialaw16_CellBack.j1 k y0 y1 y2 y3 y4 y5 y6) (marginalialaw16_CellBack.j1 (k + 1) y0 y1 y2 y3 y4 y5 y6))
  | 0 => ⟨fun _ _ _ _ _ _ _ r h => by simp [marginalialaw16_CellBack.j0] at h, fun _ _ _ _ _ _ r h => by simp [marginalialaw16_CellBack.j2] at h, fun _ _ _ _ r h => by simp [marginalialaw16_CellBack.l0] at h, fun _ _ _ _ _ _ _ r h => by simp [marginalialaw16_CellBack.j1] at h⟩
  | k + 1 => by
    obtain ⟨ih0, ih1, ih2, ih3⟩ := marginalialaw16_CellBack.mono_l k
    refine ⟨?_, ?_, ?_, ?_⟩
    · intro y0 y1 y2 y3 y4 y5 y6
      unfold marginalialaw16_CellBack.j0
      repeat' first
      | (with_reducible exact ih0 _ _ _ _ _ _ _)
      | (with_reducible exact ih1 _ _ _ _ _ _)
      | (with_reducible exact ih2 _ _ _ _)
      | (with_reducible exact ih3 _ _ _ _ _ _ _)
      | (with_reducible exact cell_Cut.mono _ _ _ _)
      | (with_reducible exact cell_Decode.mono _ _)
      | (with_reducible exact cell_Encode.mono _ _ _ _ _ _)
      | (with_reducible exact cell_Join.mono _ _)
      | (with_reducible exact marginalialaw16_alive.mono _)
      | (with_reducible exact LeO.refl _)
      | (with_reducible exact LeO.none _)
      | (with_reducible refine LeO.ite ?_ ?_)
      | (with_reducible refine LeO.bind ?_ (fun _ => ?_))
      | exact ih0 _ _ _ _ _ _ _
      | exact ih1 _ _ _ _ _ _
      | exact ih2 _ _ _ _
      | exact ih3 _ _ _ _ _ _ _
      | exact cell_Cut.mono _ _ _ _
      | exact cell_Decode.mono _ _
      | exact cell_Encode.mono _ _ _ _ _ _
      | exact cell_Join.mono _ _
      | exact marginalialaw16_alive.mono _
      | exact LeO.none _
      | refine LeO.ite ?_ ?_
      | refine LeO.bind ?_ (fun _ => ?_)
    · intro y0 y1 y2 y3 y4 y5
      unfold marginalialaw16_CellBack.j2
      repeat' first
      | (with_reducible exact ih0 _ _ _ _ _ _ _)
      | (with_reducible exact ih1 _ _ _ _ _ _)
      | (with_reducible exact ih2 _ _ _ _)
      | (with_reducible exact ih3 _ _ _ _ _ _ _)
      | (with_reducible exact cell_Cut.mono _ _ _ _)
      | (with_reducible exact cell_Decode.mono _ _)
      | (with_reducible exact cell_Encode.mono _ _ _ _ _ _)
      | (with_reducible exact cell_Join.mono _ _)
      | (with_reducible exact marginalialaw16_alive.mono _)
      | (with_reducible exact LeO.refl _)
      | (with_reducible exact LeO.none _)
      | (with_reducible refine LeO.ite ?_ ?_)
      | (with_reducible refine LeO.bind ?_ (fun _ => ?_))
      | exact ih0 _ _ _ _ _ _ _
      | exact ih1 _ _ _ _ _ _
      | exact ih2 _ _ _ _
      | exact ih3 _ _ _ _ _ _ _
      | exact cell_Cut.mono _ _ _ _
      | exact cell_Decode.mono _ _
      | exact cell_Encode.mono _ _ _ _ _ _
      | exact cell_Join.mono _ _
      | exact marginalialaw16_alive.mono _
      | exact LeO.none _
      | refine LeO.ite ?_ ?_
      | refine LeO.bind ?_ (fun _ => ?_)
    · intro y0 y1 y2 y3
      unfold marginalialaw16_CellBack.l0
      repeat' first
      | (with_reducible exact ih0 _ _ _ _ _ _ _)
      | (with_reducible exact ih1 _ _ _ _ _ _)
      | (with_reducible exact ih2 _ _ _ _)
      | (with_reducible exact ih3 _ _ _ _ _ _ _)
      | (with_reducible exact cell_Cut.mono _ _ _ _)
      | (with_reducible exact cell_Decode.mono _ _)
      | (with_reducible exact cell_Encode.mono _ _ _ _ _ _)
      | (with_reducible exact cell_Join.mono _ _)
      | (with_reducible exact marginalialaw16_alive.mono _)
      | (with_reducible exact LeO.refl _)
      | (with_reducible exact LeO.none _)
      | (with_reducible refine LeO.ite ?_ ?_)
      | (with_reducible refine LeO.bind ?_ (fun _ => ?_))
      | exact ih0 _ _ _ _ _ _ _
      | exact ih1 _ _ _ _ _ _
      | exact ih2 _ _ _ _
      | exact ih3 _ _ _ _ _ _ _
      | exact cell_Cut.mono _ _ _ _
      | exact cell_Decode.mono _ _
      | exact cell_Encode.mono _ _ _ _ _ _
      | exact cell_Join.mono _ _
      | exact marginalialaw16_alive.mono _
      | exact LeO.none _
      | refine LeO.ite ?_ ?_
      | refine LeO.bind ?_ (fun _ => ?_)
    · intro y0 y1 y2 y3 y4 y5 y6
      unfold marginalialaw16_CellBack.j1
      repeat' first
      | (with_reducible exact ih0 _ _ _ _ _ _ _)
      | (with_reducible exact ih1 _ _ _ _ _ _)
      | (with_reducible exact ih2 _ _ _ _)
      | (with_reducible exact ih3 _ _ _ _ _ _ _)
      | (with_reducible exact cell_Cut.mono _ _ _ _)
      | (with_reducible exact cell_Decode.mono _ _)
      | (with_reducible exact cell_Encode.mono _ _ _ _ _ _)
      | (with_reducible exact cell_Join.mono _ _)
      | (with_reducible exact marginalialaw16_alive.mono _)
      | (with_reducible exact LeO.refl _)
      | (with_reducible exact LeO.none _)
      | (with_reducible refine LeO.ite ?_ ?_)
      | (with_reducible refine LeO.bind ?_ (fun _ => ?_))
      | exact ih0 _ _ _ _ _ _ _
      | exact ih1 _ _ _ _ _ _
      | exact ih2 _ _ _ _
      | exact ih3 _ _ _ _ _ _ _
      | exact cell_Cut.mono _ _ _ _
      | exact cell_Decode.mono _ _
      | exact cell_Encode.mono _ _ _ _ _ _
      | exact cell_Join.mono _ _
      | exact marginalialaw16_alive.mono _
      | exact LeO.none _
      | refine LeO.ite ?_ ?_
      | refine LeO.bind ?_ (fun _ => ?_)
theorem marginalialaw16_CellBack.mono : ∀ a0 a1 a2 a3 a4 a5 k, LeO (marginalialaw16_CellBack.f k a0 a1 a2 a3 a4 a5) (marginalialaw16_CellBack.f (k + 1) a0 a1 a2 a3 a4 a5) := by
  intro a0 a1 a2 a3 a4 a5 k
  obtain ⟨ih0, ih1, ih2, ih3⟩ := marginalialaw16_CellBack.mono_l k
  unfold marginalialaw16_CellBack.f
  repeat' first
      | (with_reducible exact ih0 _ _ _ _ _ _ _)
      | (with_reducible exact ih1 _ _ _ _ _ _)
      | (with_reducible exact ih2 _ _ _ _)
      | (with_reducible exact ih3 _ _ _ _ _ _ _)
      | (with_reducible exact cell_Cut.mono _ _ _ _)
      | (with_reducible exact cell_Decode.mono _ _)
      | (with_reducible exact cell_Encode.mono _ _ _ _ _ _)
      | (with_reducible exact cell_Join.mono _ _)
      | (with_reducible exact marginalialaw16_alive.mono _)
      | (with_reducible exact LeO.refl _)
      | (with_reducible exact LeO.none _)
      | (with_reducible refine LeO.ite ?_ ?_)
      | (with_reducible refine LeO.bind ?_ (fun _ => ?_))
      | exact ih0 _ _ _ _ _ _ _
      | exact ih1 _ _ _ _ _ _
      | exact ih2 _ _ _ _
      | exact ih3 _ _ _ _ _ _ _
      | exact cell_Cut.mono _ _ _ _
      | exact cell_Decode.mono _ _
      | exact cell_Encode.mono _ _ _ _ _ _
      | exact cell_Join.mono _ _
      | exact marginalialaw16_alive.mono _
      | exact LeO.none _
      | refine LeO.ite ?_ ?_
      | refine LeO.bind ?_ (fun _ => ?_)
set_option maxHeartbeats 8000000 in
set_option maxRecDepth 100000 in
theorem marginalialaw16_CellBack.calls (k : Nat) (a0_0 : Int) (a0_1 : Int) (a0_2 : Int) (a0_3 : Int) (A0_4 : Option Addr) (c0_4 : Nat) (l0_4 : List Int) (A1 : Option Addr) (c1 : Nat) (l1 : List Int) (r : Bool) (w : World) (hr0_4 : Kd.C (Kd.int .u8) w A0_4 l0_4.length l0_4) (hc0_4 : l0_4.length ≤ c0_4) (hr1 : Kd.C (Kd.int .u8) w A1 l1.length l1) (hc1 : l1.length ≤ c1) (h : marginalialaw16_CellBack.f k a0_0 a0_1 a0_2 a0_3 l0_4 l1 = some r) :
    Calls Try.prog 13 #[.agg #[.int .u64 a0_0, .int .u64 a0_1, .int .i64 a0_2, .int .i64 a0_3, .slice A0_4 l0_4.length c0_4], .slice A1 l1.length c1] w fun e w' => e = .returned (.bool r) ∧ Below w.heap.size w w' := by
  have hu34 := Try.underlying34
  have HR0_4 := Aside0.mk hr0_4
  have HC0_4 := Aside0.mk hc0_4
  clear hr0_4 hc0_4
  have HR1 := Aside0.mk hr1
  have HC1 := Aside0.mk hc1
  clear hr1 hc1
  have HB := Aside0.mk (Below.refl w.heap.size w)
  have H : (if (l0_4.length : Int) > 300 then (marginalialaw16_CellBack.j0 k l1 true a0_0 a0_1 a0_2 a0_3 l0_4) else (marginalialaw16_CellBack.j0 k l1 (decide ((l1.length : Int) > 300)) a0_0 a0_1 a0_2 a0_3 l0_4)) = some r := h
  clear h
  have HC3 := Aside0.mk H
  clear H
  go_enter Try.func13, Try.ntmps13
  go_upto_region 1 with (first | ((with_reducible refine gate_dst (N := 2) rfl ?_); (try (refine gate_guard (by rfl) ?_; dsimp only)); refine box_event ?hg (N := 2) ?hd (cs := #[.int .u64 a0_0, .int .u64 a0_1, .int .i64 a0_2, .int .i64 a0_3, .slice A0_4 l0_4.length c0_4]) (t := 34) ?hr ?_; (case hd => rfl); (case hg => rfl); (case hr => first | (go_simp; done) | (go_simp; rfl)); intro gb356 hg w4 hbox hb; have n0_ := Aside0.mk (below_step (by repeat (first | (with_reducible first | exact HB.out | apply below_alloc | apply pw_below_drewN | apply below_drew1) | exact HB.out)) hb); have n1_ := Aside0.mk (hbox); have n2_ := Aside0.mk ((by rw [hg]; exact (below_size (by repeat (first | (with_reducible first | exact HB.out | apply below_alloc | apply pw_below_drewN | apply below_drew1) | exact HB.out))) : w.heap.size ≤ gb356)); have n3_ := Aside0.mk ((by rw [hg]; exact (below_size (by repeat (first | (with_reducible first | exact HB.out | apply below_alloc | apply pw_below_drewN | apply below_drew1) | exact HB.out))) : w.heap.size ≤ gb356)); clear HB; have HB := n0_; have BK356 := n1_; have GW356 := n2_; have GE356 := n3_; clear n0_ n1_ n2_ n3_; clear hb hbox hg))
  (try simp only [Act.put, List.setIfInBounds_toArray, List.set_cons_zero, List.set_cons_succ])
  go_cut [26] (fun v26 wc => ∃ (kq : Nat) (x26_2 : Bool), v26 = .bool x26_2 ∧ Aside0 (marginalialaw16_CellBack.j0 kq l1 x26_2 a0_0 a0_1 a0_2 a0_3 l0_4 = some r) ∧ Aside0 (kq ≤ k) ∧ Aside0 (wc.heap[gb356]? = some (.cells #[.int .u64 a0_0, .int .u64 a0_1, .int .i64 a0_2, .int .i64 a0_3, (.slice A0_4 l0_4.length c0_4)] 34 (0, 0))) ∧ Aside0 (Below w.heap.size w wc))
  case first =>
    have H := HC3.out
    clear HC3
    by_cases c5 : (l0_4.length : Int) > 300
    · rw [if_pos c5] at H
      have c5b0 : decide (300 < (l0_4.length : Int)) = true := decide_eq_true c5
      have c5b1 : decide (300 < l0_4.length) = true := decide_eq_true (by omega)
      clear c5
      (first | rw [c5b0] | (simp only [i64_w, i32_w]; rw [c5b0]) | skip)
      have H' := Aside0.mk H
      clear H
      have hcz6_0 : w4.cell? ⟨gb356, 0, none⟩ = some (.int .u64 a0_0) := (blk_cell BK356.out 0).trans rfl
      have hcz6_1 : w4.cell? ⟨gb356, 1, none⟩ = some (.int .u64 a0_1) := (blk_cell BK356.out 1).trans rfl
      have hcz6_2 : w4.cell? ⟨gb356, 2, none⟩ = some (.int .i64 a0_2) := (blk_cell BK356.out 2).trans rfl
      have hcz6_3 : w4.cell? ⟨gb356, 3, none⟩ = some (.int .i64 a0_3) := (blk_cell BK356.out 3).trans rfl
      have hcz6_4 : w4.cell? ⟨gb356, 4, none⟩ = some (.slice A0_4 l0_4.length c0_4) := (blk_cell BK356.out 4).trans rfl
      have hfz6_0 := blk_frozen BK356.out 0
      have hfz6_1 := blk_frozen BK356.out 1
      have hfz6_2 := blk_frozen BK356.out 2
      have hfz6_3 := blk_frozen BK356.out 3
      have hfz6_4 := blk_frozen BK356.out 4
      go_wp2
      go_meet
      case rel => exact ⟨_, (true), (by first | rfl | (simp; done) | (simp [*]; done)), H', ⟨by first | omega | exact Nat.le_refl _⟩, ⟨by (with_reducible repeat (first | refine blk_drewN ?_ _ | refine blk_drew ?_ | refine blk_alloc ?_ _)); exact BK356.out⟩, ⟨by repeat (first | (with_reducible first | exact HB.out | apply below_alloc | apply pw_below_drewN | apply below_drew1 | refine below_set ?_ GE356.out) | exact HB.out)⟩⟩
    · rw [if_neg c5] at H
      have c5b0 : decide (300 < (l0_4.length : Int)) = false := decide_eq_false c5
      have c5b1 : decide (300 < l0_4.length) = false := decide_eq_false (by omega)
      clear c5
      (first | rw [c5b0] | (simp only [i64_w, i32_w]; rw [c5b0]) | skip)
      have H' := Aside0.mk H
      clear H
      have hcz7_0 : w4.cell? ⟨gb356, 0, none⟩ = some (.int .u64 a0_0) := (blk_cell BK356.out 0).trans rfl
      have hcz7_1 : w4.cell? ⟨gb356, 1, none⟩ = some (.int .u64 a0_1) := (blk_cell BK356.out 1).trans rfl
      have hcz7_2 : w4.cell? ⟨gb356, 2, none⟩ = some (.int .i64 a0_2) := (blk_cell BK356.out 2).trans rfl
      have hcz7_3 : w4.cell? ⟨gb356, 3, none⟩ = some (.int .i64 a0_3) := (blk_cell BK356.out 3).trans rfl
      have hcz7_4 : w4.cell? ⟨gb356, 4, none⟩ = some (.slice A0_4 l0_4.length c0_4) := (blk_cell BK356.out 4).trans rfl
      have hfz7_0 := blk_frozen BK356.out 0
      have hfz7_1 := blk_frozen BK356.out 1
      have hfz7_2 := blk_frozen BK356.out 2
      have hfz7_3 := blk_frozen BK356.out 3
      have hfz7_4 := blk_frozen BK356.out 4
      go_wp2
      go_meet
      case rel => exact ⟨_, (decide ((l1.length : Int) > 300)), (by first | rfl | (simp; done) | (simp [*]; done)), H', ⟨by first | omega | exact Nat.le_refl _⟩, ⟨by (with_reducible repeat (first | refine blk_drewN ?_ _ | refine blk_drew ?_ | refine blk_alloc ?_ _)); exact BK356.out⟩, ⟨by repeat (first | (with_reducible first | exact HB.out | apply below_alloc | apply pw_below_drewN | apply below_drew1 | refine below_set ?_ GE356.out) | exact HB.out)⟩⟩
  case rest =>
    clear HC3
    try clear c1
    try clear p2
    try clear c5
    try clear c5b0
    try clear c5b1
    try clear hcz6_0
    try clear hcz6_1
    try clear hcz6_2
    try clear hcz6_3
    try clear hcz6_4
    try clear hcz7_0
    try clear hcz7_1
    try clear hcz7_2
    try clear hcz7_3
    try clear hcz7_4
    try clear hfz6_0
    try clear hfz6_1
    try clear hfz6_2
    try clear hfz6_3
    try clear hfz6_4
    try clear hfz7_0
    try clear hfz7_1
    try clear hfz7_2
    try clear hfz7_3
    try clear hfz7_4
    obtain ⟨kq, x26_2, rfl, HA, HJ2, BK356, HB⟩ := hcut
    cases kq with
    | zero => exact absurd HA.out (by simp [marginalialaw16_CellBack.j0])
    | succ kj2 =>
      have H := HA.out
      clear HA
      simp only [marginalialaw16_CellBack.j0] at H
      by_cases c8 : x26_2 = true
      · subst c8
        have H1 : ((marginalialaw16_alive.f kj2).bind fun t357 => (some t357)) = some r := by rw [if_pos rfl] at H; exact H
        clear H
        have H := H1
        clear H1
        replace H := Option.bind_eq_some_iff.mp H
        obtain ⟨t357, A90, H⟩ := H
        replace H : (some t357) = some r := H
        have A9 := Aside0.mk A90
        clear A90
        obtain rfl := Option.some.inj H
        go_wp2_with (first | ((with_reducible refine gate_callee (f := 19) rfl ?_); refine goesL_ (some 27) rfl rfl Try.func19 (by kernel_rfl) rfl #[] rfl (by (try simp only [List.map_toArray, List.map_cons, List.map_nil]); first | done | rfl | (simp only [List.length_drop, List.length_take]; rfl)) ?_; (with_reducible refine (marginalialaw16_alive.calls kj2  t357 _ A9.out).mono ?_); rintro e w10 ⟨rfl, hb⟩; refine ⟨_, rfl, ?_⟩; have n0_ := Aside0.mk (blk_below (g := gb356) (o := .cells #[.int .u64 a0_0, .int .u64 a0_1, .int .i64 a0_2, .int .i64 a0_3, .slice A0_4 l0_4.length c0_4] 34 (0, 0)) (by (with_reducible repeat (first | refine blk_drewN ?_ _ | refine blk_drew ?_ | refine blk_alloc ?_ _)); exact BK356.out) hb); have n1_ := Aside0.mk (below_step (by repeat (first | (with_reducible first | exact HB.out | apply below_alloc | apply pw_below_drewN | apply below_drew1 | refine below_set ?_ GE356.out) | exact HB.out)) hb); clear BK356; clear HB; have BK356 := n0_; have HB := n1_; clear n0_ n1_; (try clear hb); (try clear hb2); (try clear hk); (try clear hi)))
        go_ret
        exact ⟨by first | rfl | (simp [errW_none, errW_some] <;> rfl) | (simp [*, errW_none, errW_some] <;> rfl), by repeat (first | (with_reducible first | exact HB.out | apply below_alloc | apply pw_below_drewN | apply below_drew1 | refine below_set ?_ GE356.out) | exact HB.out)⟩
      · replace c8 := Bool.eq_false_iff.mpr c8
        subst c8
        have H1 : ((cell_Encode.f kj2 a0_0 a0_1 a0_2 a0_3 l0_4).bind fun bt358 => (if bt358.2 = 0 then ((cell_Decode.f kj2 bt358.1).bind fun bt362 => (if bt362.2.2.2.2.2 = 0 then (if (bt358.1.length : Int) = 64 then ((marginaliaref16_Same.f a0_0 a0_1 a0_2 a0_3 l0_4 bt362.1 bt362.2.1 bt362.2.2.1 bt362.2.2.2.1 bt362.2.2.2.2.1).bind fun t371 => (marginalialaw16_CellBack.j1 kj2 l1 (!t371) a0_0 a0_1 a0_2 a0_3 l0_4)) else (marginalialaw16_CellBack.j1 kj2 l1 true a0_0 a0_1 a0_2 a0_3 l0_4)) else (marginalialaw16_CellBack.j1 kj2 l1 true a0_0 a0_1 a0_2 a0_3 l0_4))) else (marginalialaw16_CellBack.j2 kj2 l1 a0_0 a0_1 a0_2 a0_3 l0_4))) = some r := by rw [if_neg (show ¬ (false = true) by decide)] at H; exact H
        clear H
        have H := H1
        clear H1
        replace H := Option.bind_eq_some_iff.mp H
        obtain ⟨⟨t358, t361⟩, A110, H⟩ := H
        replace H : (if t361 = 0 then ((cell_Decode.f kj2 t358).bind fun bt362 => (if bt362.2.2.2.2.2 = 0 then (if (t358.length : Int) = 64 then ((marginaliaref16_Same.f a0_0 a0_1 a0_2 a0_3 l0_4 bt362.1 bt362.2.1 bt362.2.2.1 bt362.2.2.2.1 bt362.2.2.2.2.1).bind fun t371 => (marginalialaw16_CellBack.j1 kj2 l1 (!t371) a0_0 a0_1 a0_2 a0_3 l0_4)) else (marginalialaw16_CellBack.j1 kj2 l1 true a0_0 a0_1 a0_2 a0_3 l0_4)) else (marginalialaw16_CellBack.j1 kj2 l1 true a0_0 a0_1 a0_2 a0_3 l0_4))) else (marginalialaw16_CellBack.j2 kj2 l1 a0_0 a0_1 a0_2 a0_3 l0_4)) = some r := H
        have A11 := Aside0.mk A110
        clear A110
        have HC12 := Aside0.mk H
        clear H
        have hcz13_0 : wc.cell? ⟨gb356, 0, none⟩ = some (.int .u64 a0_0) := (blk_cell BK356.out 0).trans rfl
        have hcz13_1 : wc.cell? ⟨gb356, 1, none⟩ = some (.int .u64 a0_1) := (blk_cell BK356.out 1).trans rfl
        have hcz13_2 : wc.cell? ⟨gb356, 2, none⟩ = some (.int .i64 a0_2) := (blk_cell BK356.out 2).trans rfl
        have hcz13_3 : wc.cell? ⟨gb356, 3, none⟩ = some (.int .i64 a0_3) := (blk_cell BK356.out 3).trans rfl
        have hcz13_4 : wc.cell? ⟨gb356, 4, none⟩ = some (.slice A0_4 l0_4.length c0_4) := (blk_cell BK356.out 4).trans rfl
        have hfz13_0 := blk_frozen BK356.out 0
        have hfz13_1 := blk_frozen BK356.out 1
        have hfz13_2 := blk_frozen BK356.out 2
        have hfz13_3 := blk_frozen BK356.out 3
        have hfz13_4 := blk_frozen BK356.out 4
        go_upto_if 34 with (first | ((with_reducible refine gate_callee (f := 29) rfl ?_); refine goesL_ (some 30) rfl rfl Try.func29 (by kernel_rfl) rfl #[.agg #[.int .u64 a0_0, .int .u64 a0_1, .int .i64 a0_2, .int .i64 a0_3, .slice A0_4 l0_4.length c0_4]] rfl (by (try simp only [List.map_toArray, List.map_cons, List.map_nil]); first | done | rfl | (simp only [List.length_drop, List.length_take]; rfl)) ?_; (with_reducible refine (cell_Encode.calls kj2 a0_0 a0_1 a0_2 a0_3 _ _ l0_4 t358 t361 _ ?side1 ?side2 A11.out).mono ?_); (case side1 => repeat (first | exact (Kd.C_below HR0_4.out HB.out) | (with_reducible refine Kd.C_alloc ?_ _) | (with_reducible refine Kd.C_drewN ?_ _) | (with_reducible refine Kd.C_drew ?_))); (case side2 => exact HC0_4.out); rintro e w14 ⟨v359, rfl, ho0, hb⟩; refine ⟨_, rfl, ?_⟩; have n0_ := Aside0.mk (Kd.V_lower (Kd.V_mono (ok' := fun k_ => k_ ≠ gb356) ho0 (fun k_ hk_ => (Kd.freshB (g := gb356) (o := .cells #[.int .u64 a0_0, .int .u64 a0_1, .int .i64 a0_2, .int .i64 a0_3, .slice A0_4 l0_4.length c0_4] 34 (0, 0)) (by (with_reducible repeat (first | refine blk_drewN ?_ _ | refine blk_drew ?_ | refine blk_alloc ?_ _)); exact BK356.out) k_ hk_))) (below_size (by repeat (first | (with_reducible first | exact HB.out | apply below_alloc | apply pw_below_drewN | apply below_drew1 | refine below_set ?_ GE356.out) | exact HB.out)))); have n1_ := Aside0.mk (blk_below (g := gb356) (o := .cells #[.int .u64 a0_0, .int .u64 a0_1, .int .i64 a0_2, .int .i64 a0_3, .slice A0_4 l0_4.length c0_4] 34 (0, 0)) (by (with_reducible repeat (first | refine blk_drewN ?_ _ | refine blk_drew ?_ | refine blk_alloc ?_ _)); exact BK356.out) hb); have n2_ := Aside0.mk (below_step (by repeat (first | (with_reducible first | exact HB.out | apply below_alloc | apply pw_below_drewN | apply below_drew1 | refine below_set ?_ GE356.out) | exact HB.out)) hb); clear BK356; clear HB; have HO360 := n0_; have BK356 := n1_; have HB := n2_; clear n0_ n1_ n2_; (try clear hb); (try clear hb2); (try clear hk); (try clear hi); (try clear ho0)))
        (try simp only [Act.put, List.setIfInBounds_toArray, List.set_cons_zero, List.set_cons_succ])
        go_cut [] (fun wc => ∃ (kq : Nat), Aside0 (marginalialaw16_CellBack.j2 kq l1 a0_0 a0_1 a0_2 a0_3 l0_4 = some r) ∧ Aside0 (kq ≤ kj2) ∧ Aside0 (wc.heap[gb356]? = some (.cells #[.int .u64 a0_0, .int .u64 a0_1, .int .i64 a0_2, .int .i64 a0_3, (.slice A0_4 l0_4.length c0_4)] 34 (0, 0))) ∧ Aside0 (Below w.heap.size w wc))
        case first =>
          have H := HC12.out
          clear HC12
          by_cases c15 : t361 = 0
          · rw [if_pos c15] at H
            have c15b0 : (t361 == 0) = true := beq_iff_eq.mpr c15
            have c15b1 : (t361 != 0) = false := bne_eq_false_iff_eq.mpr c15
            clear c15
            (first | rw [c15b0] | (simp only [i64_w, i32_w]; rw [c15b0]) | skip)
            replace H := Option.bind_eq_some_iff.mp H
            obtain ⟨⟨t362, t363, t364, t365, t366, t369⟩, A160, H⟩ := H
            replace H : (if t369 = 0 then (if (t358.length : Int) = 64 then ((marginaliaref16_Same.f a0_0 a0_1 a0_2 a0_3 l0_4 t362 t363 t364 t365 t366).bind fun t371 => (marginalialaw16_CellBack.j1 kj2 l1 (!t371) a0_0 a0_1 a0_2 a0_3 l0_4)) else (marginalialaw16_CellBack.j1 kj2 l1 true a0_0 a0_1 a0_2 a0_3 l0_4)) else (marginalialaw16_CellBack.j1 kj2 l1 true a0_0 a0_1 a0_2 a0_3 l0_4)) = some r := H
            have A16 := Aside0.mk A160
            clear A160
            have HC17 := Aside0.mk H
            clear H
            obtain ⟨Ao18, co18, eo18⟩ := Kd.V_slice HO360.out
            subst eo18
            go_upto_region 6 with (first | ((with_reducible refine gate_callee (f := 20) rfl ?_); refine goesL_ (some 37) rfl rfl Try.func20 (by kernel_rfl) rfl #[.slice Ao18 t358.length co18] rfl (by (try simp only [List.map_toArray, List.map_cons, List.map_nil]); first | done | rfl | (simp only [List.length_drop, List.length_take]; rfl)) ?_; (with_reducible refine (cell_Decode.calls kj2 _ _ t358 t362 t363 t364 t365 t366 t369 _ ?side1 ?side2 A16.out).mono ?_); (case side1 => repeat (first | exact (Kd.V_reads' HO360.out).2.2 | (with_reducible refine Kd.C_alloc ?_ _) | (with_reducible refine Kd.C_drewN ?_ _) | (with_reducible refine Kd.C_drew ?_))); (case side2 => exact (Kd.V_reads' HO360.out).2.1); rintro e w19 ⟨v367, rfl, ho0, hb⟩; refine ⟨_, rfl, ?_⟩; have n0_ := Aside0.mk (Kd.V_elder' (by (with_reducible repeat (first | apply Kd.V_alloc | apply Kd.V_drewN | apply Kd.V_drew)); exact HO360.out) (Kd.R_base ho0) hb); have n1_ := Aside0.mk (Kd.R_lower ho0 (below_size (by repeat (first | (with_reducible first | exact HB.out | apply below_alloc | apply pw_below_drewN | apply below_drew1 | refine below_set ?_ GE356.out) | exact HB.out)))); have n2_ := Aside0.mk (blk_below (g := gb356) (o := .cells #[.int .u64 a0_0, .int .u64 a0_1, .int .i64 a0_2, .int .i64 a0_3, .slice A0_4 l0_4.length c0_4] 34 (0, 0)) (by (with_reducible repeat (first | refine blk_drewN ?_ _ | refine blk_drew ?_ | refine blk_alloc ?_ _)); exact BK356.out) hb); have n3_ := Aside0.mk (below_step (by repeat (first | (with_reducible first | exact HB.out | apply below_alloc | apply pw_below_drewN | apply below_drew1 | refine below_set ?_ GE356.out) | exact HB.out)) hb); clear HO360; clear BK356; clear HB; have HO360 := n0_; have HO368 := n1_; have BK356 := n2_; have HB := n3_; clear n0_ n1_ n2_ n3_; (try clear hb); (try clear hb2); (try clear hk); (try clear hi); (try clear ho0)) | ((with_reducible refine gate_dst (N := 7) rfl ?_); (try (refine gate_guard (by rfl) ?_; dsimp only)); refine box_event ?hg (N := 7) ?hd (cs := #[.int .u64 0, .int .u64 0, .int .i64 0, .int .i64 0, .slice none 0 0]) (t := 34) ?hr ?_; (case hd => rfl); (case hg => rfl); (case hr => first | (go_simp; done) | (go_simp; rfl)); intro gb370 hg w20 hbox hb; have n0_ := Aside0.mk (Kd.V_below (Kd.V_elderB (by (with_reducible repeat (first | apply Kd.V_alloc | apply Kd.V_drewN | apply Kd.V_drew)); exact HO360.out) gb370 (Nat.le_of_eq hg.symm)) hb); have n1_ := Aside0.mk (Kd.R_below (by (with_reducible repeat (first | apply Kd.R_alloc | apply Kd.R_drewN | apply Kd.R_drew)); exact HO368.out) hb); have n2_ := Aside0.mk (blk_below (g := gb356) (o := .cells #[.int .u64 a0_0, .int .u64 a0_1, .int .i64 a0_2, .int .i64 a0_3, .slice A0_4 l0_4.length c0_4] 34 (0, 0)) (by (with_reducible repeat (first | refine blk_drewN ?_ _ | refine blk_drew ?_ | refine blk_alloc ?_ _)); exact BK356.out) hb); have n3_ := Aside0.mk (below_step (by repeat (first | (with_reducible first | exact HB.out | apply below_alloc | apply pw_below_drewN | apply below_drew1 | refine below_set ?_ GE356.out) | exact HB.out)) hb); have n4_ := Aside0.mk (hbox); have n5_ := Aside0.mk ((by rw [hg]; exact (below_size (by repeat (first | (with_reducible first | exact HB.out | apply below_alloc | apply pw_below_drewN | apply below_drew1 | refine below_set ?_ GE356.out) | exact HB.out))) : w.heap.size ≤ gb370)); have n6_ := Aside0.mk ((by rw [hg]; exact (below_size (by repeat (first | (with_reducible first | exact HB.out | apply below_alloc | apply pw_below_drewN | apply below_drew1 | refine below_set ?_ GE356.out) | exact HB.out))) : w.heap.size ≤ gb370)); have n7_ := Aside0.mk ((by rw [hg]; exact Nat.ne_of_lt (blk_lt (g := gb356) (o := .cells #[.int .u64 a0_0, .int .u64 a0_1, .int .i64 a0_2, .int .i64 a0_3, .slice A0_4 l0_4.length c0_4] 34 (0, 0)) (by (with_reducible repeat (first | refine blk_drewN ?_ _ | refine blk_drew ?_ | refine blk_alloc ?_ _)); exact BK356.out)) : gb356 ≠ gb370)); have n8_ := Aside0.mk ((by rw [hg]; exact Nat.ne_of_gt (blk_lt (g := gb356) (o := .cells #[.int .u64 a0_0, .int .u64 a0_1, .int .i64 a0_2, .int .i64 a0_3, .slice A0_4 l0_4.length c0_4] 34 (0, 0)) (by (with_reducible repeat (first | refine blk_drewN ?_ _ | refine blk_drew ?_ | refine blk_alloc ?_ _)); exact BK356.out)) : gb370 ≠ gb356)); clear HO360; clear HO368; clear BK356; clear HB; have HO360 := n0_; have HO368 := n1_; have BK356 := n2_; have HB := n3_; have BK370 := n4_; have GW370 := n5_; have GE370 := n6_; have NB356_370 := n7_; have NB370_356 := n8_; clear n0_ n1_ n2_ n3_ n4_ n5_ n6_ n7_ n8_; clear hb hbox hg; have hnb21 := NB370_356.out; have hnc21 := NB356_370.out; have hcz22_0 : w20.cell? ⟨gb370, 0, none⟩ = some (.int .u64 0) := (blk_cell BK370.out 0).trans rfl; have hcz22_1 : w20.cell? ⟨gb370, 1, none⟩ = some (.int .u64 0) := (blk_cell BK370.out 1).trans rfl; have hcz22_2 : w20.cell? ⟨gb370, 2, none⟩ = some (.int .i64 0) := (blk_cell BK370.out 2).trans rfl; have hcz22_3 : w20.cell? ⟨gb370, 3, none⟩ = some (.int .i64 0) := (blk_cell BK370.out 3).trans rfl; have hcz22_4 : w20.cell? ⟨gb370, 4, none⟩ = some (.slice none 0 0) := (blk_cell BK370.out 4).trans rfl; have hfz22_0 := blk_frozen BK370.out 0; have hfz22_1 := blk_frozen BK370.out 1; have hfz22_2 := blk_frozen BK370.out 2; have hfz22_3 := blk_frozen BK370.out 3; have hfz22_4 := blk_frozen BK370.out 4; obtain ⟨Ao23, co23, eo23⟩ := Kd.R_slice HO368.out; subst eo23))
            (try simp only [Act.put, List.setIfInBounds_toArray, List.set_cons_zero, List.set_cons_succ])
            go_cut [52] (fun v52 wc => ∃ (kq : Nat) (x52_16 : Bool), v52 = .bool x52_16 ∧ Aside0 (marginalialaw16_CellBack.j1 kq l1 x52_16 a0_0 a0_1 a0_2 a0_3 l0_4 = some r) ∧ Aside0 (kq ≤ kj2) ∧ Aside0 (Kd.R (Kd.int .u8) 5 wc w.heap.size (fun _ => True) (.slice Ao23 t366.length co23) t366) ∧ Aside0 (wc.heap[gb356]? = some (.cells #[.int .u64 a0_0, .int .u64 a0_1, .int .i64 a0_2, .int .i64 a0_3, (.slice A0_4 l0_4.length c0_4)] 34 (0, 0))) ∧ Aside0 (wc.heap[gb370]? = some (.cells #[.int .u64 t362, .int .u64 t363, .int .i64 t364, .int .i64 t365, (.slice Ao23 t366.length co23)] 34 (0, 0))) ∧ Aside0 (Below w.heap.size w wc))
            case first =>
              have H := HC17.out
              clear HC17
              by_cases c24 : t369 = 0
              · rw [if_pos c24] at H
                have c24b0 : (t369 == 0) = true := beq_iff_eq.mpr c24
                have c24b1 : (t369 != 0) = false := bne_eq_false_iff_eq.mpr c24
                clear c24
                (first | rw [c24b0] | (simp only [i64_w, i32_w]; rw [c24b0]) | skip)
                by_cases c25 : (t358.length : Int) = 64
                · rw [if_pos c25] at H
                  have c25b0 : ((t358.length : Int) == 64) = true := beq_iff_eq.mpr c25
                  have c25b1 : ((t358.length : Int) != 64) = false := bne_eq_false_iff_eq.mpr c25
                  clear c25
                  replace H := Option.bind_eq_some_iff.mp H
                  obtain ⟨t371, A260, H⟩ := H
                  replace H : (marginalialaw16_CellBack.j1 kj2 l1 (!t371) a0_0 a0_1 a0_2 a0_3 l0_4) = some r := H
                  have A26 := Aside0.mk A260
                  clear A260
                  have H' := Aside0.mk H
                  clear H
                  have hnb27 := NB356_370.out
                  have hnc27 := NB370_356.out
                  have hcz28_0 : w20.cell? ⟨gb356, 0, none⟩ = some (.int .u64 a0_0) := (blk_cell BK356.out 0).trans rfl
                  have hcz28_1 : w20.cell? ⟨gb356, 1, none⟩ = some (.int .u64 a0_1) := (blk_cell BK356.out 1).trans rfl
                  have hcz28_2 : w20.cell? ⟨gb356, 2, none⟩ = some (.int .i64 a0_2) := (blk_cell BK356.out 2).trans rfl
                  have hcz28_3 : w20.cell? ⟨gb356, 3, none⟩ = some (.int .i64 a0_3) := (blk_cell BK356.out 3).trans rfl
                  have hcz28_4 : w20.cell? ⟨gb356, 4, none⟩ = some (.slice A0_4 l0_4.length c0_4) := (blk_cell BK356.out 4).trans rfl
                  have hfz28_0 := blk_frozen BK356.out 0
                  have hfz28_1 := blk_frozen BK356.out 1
                  have hfz28_2 := blk_frozen BK356.out 2
                  have hfz28_3 := blk_frozen BK356.out 3
                  have hfz28_4 := blk_frozen BK356.out 4
                  have hcz29_0 : w20.cell? ⟨gb370, 0, none⟩ = some (.int .u64 0) := (blk_cell BK370.out 0).trans rfl
                  have hcz29_1 : w20.cell? ⟨gb370, 1, none⟩ = some (.int .u64 0) := (blk_cell BK370.out 1).trans rfl
                  have hcz29_2 : w20.cell? ⟨gb370, 2, none⟩ = some (.int .i64 0) := (blk_cell BK370.out 2).trans rfl
                  have hcz29_3 : w20.cell? ⟨gb370, 3, none⟩ = some (.int .i64 0) := (blk_cell BK370.out 3).trans rfl
                  have hcz29_4 : w20.cell? ⟨gb370, 4, none⟩ = some (.slice none 0 0) := (blk_cell BK370.out 4).trans rfl
                  have hfz29_0 := blk_frozen BK370.out 0
                  have hfz29_1 := blk_frozen BK370.out 1
                  have hfz29_2 := blk_frozen BK370.out 2
                  have hfz29_3 := blk_frozen BK370.out 3
                  have hfz29_4 := blk_frozen BK370.out 4
                  go_wp2_with (first | (go_at_call 22; (with_reducible refine (marginaliaref16_Same.calls a0_0 a0_1 a0_2 a0_3 _ _ l0_4 t362 t363 t364 t365 _ _ t366 t371 _ ?side1 ?side2 ?side3 ?side4 A26.out).mono ?_); (case side1 => exact Kd.C_below HR0_4.out (by repeat (first | (with_reducible first | exact HB.out | apply below_alloc | apply pw_below_drewN | apply below_drew1 | refine below_set ?_ GE356.out | refine below_set ?_ GE370.out) | exact HB.out))); (case side2 => exact HC0_4.out); (case side3 => refine (Kd.R_reads' (e := 5) (base := w.heap.size) (ok := fun k_ => True) (n := t366.length) (c := co23) ?_).2.2; exact (by (with_reducible repeat (first | apply Kd.R_alloc | apply Kd.R_drewN | apply Kd.R_drew)); exact (Kd.R_mono (Kd.R_far (p := ⟨gb370, 4, none⟩) (Kd.R_far (p := ⟨gb370, 3, none⟩) (Kd.R_far (p := ⟨gb370, 2, none⟩) (Kd.R_far (p := ⟨gb370, 1, none⟩) (Kd.R_far (p := ⟨gb370, 0, none⟩) (Kd.R_types HO368.out BK370.out (by decide)) (fun _ hk => hk.2) (.int .u64 t362)) (fun _ hk => hk.2) (.int .u64 t363)) (fun _ hk => hk.2) (.int .i64 t364)) (fun _ hk => hk.2) (.int .i64 t365)) (fun _ hk => hk.2) (.slice Ao23 t366.length co23)) (fun _ h_ => h_.1)))); (case side4 => exact (Kd.R_reads' HO368.out).2.1); rintro e w30 ⟨rfl, hb⟩; have n0_ := Aside0.mk (Kd.V_below (by (with_reducible repeat (first | apply Kd.V_alloc | apply Kd.V_drewN | apply Kd.V_drew)); exact (Kd.V_mono (Kd.V_far (p := ⟨gb370, 4, none⟩) (Kd.V_far (p := ⟨gb370, 3, none⟩) (Kd.V_far (p := ⟨gb370, 2, none⟩) (Kd.V_far (p := ⟨gb370, 1, none⟩) (Kd.V_far (p := ⟨gb370, 0, none⟩) (Kd.V_mono HO360.out (fun k_ hk => (⟨hk, hk.2⟩ : _ ∧ k_ ≠ gb370))) (fun _ hk => hk.2) (.int .u64 t362)) (fun _ hk => hk.2) (.int .u64 t363)) (fun _ hk => hk.2) (.int .i64 t364)) (fun _ hk => hk.2) (.int .i64 t365)) (fun _ hk => hk.2) (.slice Ao23 t366.length co23)) (fun _ h_ => h_.1))) hb); have n1_ := Aside0.mk (Kd.R_below (by (with_reducible repeat (first | apply Kd.R_alloc | apply Kd.R_drewN | apply Kd.R_drew)); exact (Kd.R_mono (Kd.R_far (p := ⟨gb370, 4, none⟩) (Kd.R_far (p := ⟨gb370, 3, none⟩) (Kd.R_far (p := ⟨gb370, 2, none⟩) (Kd.R_far (p := ⟨gb370, 1, none⟩) (Kd.R_far (p := ⟨gb370, 0, none⟩) (Kd.R_types HO368.out BK370.out (by decide)) (fun _ hk => hk.2) (.int .u64 t362)) (fun _ hk => hk.2) (.int .u64 t363)) (fun _ hk => hk.2) (.int .i64 t364)) (fun _ hk => hk.2) (.int .i64 t365)) (fun _ hk => hk.2) (.slice Ao23 t366.length co23)) (fun _ h_ => h_.1))) hb); have n2_ := Aside0.mk (blk_below (g := gb356) (o := .cells #[.int .u64 a0_0, .int .u64 a0_1, .int .i64 a0_2, .int .i64 a0_3, .slice A0_4 l0_4.length c0_4] 34 (0, 0)) (by (with_reducible repeat (first | refine blk_drewN ?_ _ | refine blk_drew ?_ | refine blk_alloc ?_ _)); refine blk_far ?_ NB356_370.out _; (with_reducible repeat (first | refine blk_drewN ?_ _ | refine blk_drew ?_ | refine blk_alloc ?_ _)); refine blk_far ?_ NB356_370.out _; (with_reducible repeat (first | refine blk_drewN ?_ _ | refine blk_drew ?_ | refine blk_alloc ?_ _)); refine blk_far ?_ NB356_370.out _; (with_reducible repeat (first | refine blk_drewN ?_ _ | refine blk_drew ?_ | refine blk_alloc ?_ _)); refine blk_far ?_ NB356_370.out _; (with_reducible repeat (first | refine blk_drewN ?_ _ | refine blk_drew ?_ | refine blk_alloc ?_ _)); refine blk_far ?_ NB356_370.out _; (with_reducible repeat (first | refine blk_drewN ?_ _ | refine blk_drew ?_ | refine blk_alloc ?_ _)); exact BK356.out) hb); have n3_ := Aside0.mk (blk_below (g := gb370) (o := .cells #[.int .u64 t362, .int .u64 t363, .int .i64 t364, .int .i64 t365, .slice Ao23 t366.length co23] 34 (0, 0)) (by (with_reducible repeat (first | refine blk_drewN ?_ _ | refine blk_drew ?_ | refine blk_alloc ?_ _)); refine blk_put (cs := #[.int .u64 t362, .int .u64 t363, .int .i64 t364, .int .i64 t365, .slice none 0 0]) ?_ 4 _ rfl; (with_reducible repeat (first | refine blk_drewN ?_ _ | refine blk_drew ?_ | refine blk_alloc ?_ _)); refine blk_put (cs := #[.int .u64 t362, .int .u64 t363, .int .i64 t364, .int .i64 0, .slice none 0 0]) ?_ 3 _ rfl; (with_reducible repeat (first | refine blk_drewN ?_ _ | refine blk_drew ?_ | refine blk_alloc ?_ _)); refine blk_put (cs := #[.int .u64 t362, .int .u64 t363, .int .i64 0, .int .i64 0, .slice none 0 0]) ?_ 2 _ rfl; (with_reducible repeat (first | refine blk_drewN ?_ _ | refine blk_drew ?_ | refine blk_alloc ?_ _)); refine blk_put (cs := #[.int .u64 t362, .int .u64 0, .int .i64 0, .int .i64 0, .slice none 0 0]) ?_ 1 _ rfl; (with_reducible repeat (first | refine blk_drewN ?_ _ | refine blk_drew ?_ | refine blk_alloc ?_ _)); refine blk_put (cs := #[.int .u64 0, .int .u64 0, .int .i64 0, .int .i64 0, .slice none 0 0]) ?_ 0 _ rfl; (with_reducible repeat (first | refine blk_drewN ?_ _ | refine blk_drew ?_ | refine blk_alloc ?_ _)); exact BK370.out) hb); have n4_ := Aside0.mk (below_step (by repeat (first | (with_reducible first | exact HB.out | apply below_alloc | apply pw_below_drewN | apply below_drew1 | refine below_set ?_ GE356.out | refine below_set ?_ GE370.out) | exact HB.out)) hb); clear HO360; clear HO368; clear BK356; clear BK370; clear HB; have HO360 := n0_; have HO368 := n1_; have BK356 := n2_; have BK370 := n3_; have HB := n4_; clear n0_ n1_ n2_ n3_ n4_; (try clear hb); (try clear hb2); (try clear hk); (try clear hi)))
                  go_meet
                  case rel => exact ⟨_, (!t371), (by first | rfl | (simp; done) | (simp [*]; done)), H', ⟨by have := HJ2.out; first | omega | exact Nat.le_refl _⟩, ⟨by (with_reducible repeat (first | apply Kd.R_alloc | apply Kd.R_drewN | apply Kd.R_drew)); exact HO368.out⟩, ⟨by (with_reducible repeat (first | refine blk_drewN ?_ _ | refine blk_drew ?_ | refine blk_alloc ?_ _)); exact BK356.out⟩, ⟨by (with_reducible repeat (first | refine blk_drewN ?_ _ | refine blk_drew ?_ | refine blk_alloc ?_ _)); exact BK370.out⟩, ⟨by repeat (first | (with_reducible first | exact HB.out | apply below_alloc | apply pw_below_drewN | apply below_drew1 | refine below_set ?_ GE356.out | refine below_set ?_ GE370.out) | exact HB.out)⟩⟩
                · rw [if_neg c25] at H
                  have c25b0 : ((t358.length : Int) == 64) = false := beq_eq_false_iff_ne.mpr c25
                  have c25b1 : ((t358.length : Int) != 64) = true := bne_iff_ne.mpr c25
                  have H' := Aside0.mk H
                  clear H
                  go_wp2
                  go_meet
                  case rel => exact ⟨_, (true), (by first | rfl | (simp; done) | (simp [*]; done)), H', ⟨by have := HJ2.out; first | omega | exact Nat.le_refl _⟩, ⟨by (with_reducible repeat (first | apply Kd.R_alloc | apply Kd.R_drewN | apply Kd.R_drew)); exact Kd.R_mono (Kd.R_far (p := ⟨gb370, 4, none⟩) (Kd.R_far (p := ⟨gb370, 3, none⟩) (Kd.R_far (p := ⟨gb370, 2, none⟩) (Kd.R_far (p := ⟨gb370, 1, none⟩) (Kd.R_far (p := ⟨gb370, 0, none⟩) (Kd.R_types HO368.out BK370.out (by decide)) (fun _ hk => hk.2) (.int .u64 t362)) (fun _ hk => hk.2) (.int .u64 t363)) (fun _ hk => hk.2) (.int .i64 t364)) (fun _ hk => hk.2) (.int .i64 t365)) (fun _ hk => hk.2) (.slice Ao23 t366.length co23)) (fun _ hk => trivial)⟩, ⟨by (with_reducible repeat (first | refine blk_drewN ?_ _ | refine blk_drew ?_ | refine blk_alloc ?_ _)); refine blk_far ?_ NB356_370.out _; (with_reducible repeat (first | refine blk_drewN ?_ _ | refine blk_drew ?_ | refine blk_alloc ?_ _)); refine blk_far ?_ NB356_370.out _; (with_reducible repeat (first | refine blk_drewN ?_ _ | refine blk_drew ?_ | refine blk_alloc ?_ _)); refine blk_far ?_ NB356_370.out _; (with_reducible repeat (first | refine blk_drewN ?_ _ | refine blk_drew ?_ | refine blk_alloc ?_ _)); refine blk_far ?_ NB356_370.out _; (with_reducible repeat (first | refine blk_drewN ?_ _ | refine blk_drew ?_ | refine blk_alloc ?_ _)); refine blk_far ?_ NB356_370.out _; (with_reducible repeat (first | refine blk_drewN ?_ _ | refine blk_drew ?_ | refine blk_alloc ?_ _)); exact BK356.out⟩, ⟨by (with_reducible repeat (first | refine blk_drewN ?_ _ | refine blk_drew ?_ | refine blk_alloc ?_ _)); refine blk_put (cs := #[.int .u64 t362, .int .u64 t363, .int .i64 t364, .int .i64 t365, .slice none 0 0]) ?_ 4 _ rfl; (with_reducible repeat (first | refine blk_drewN ?_ _ | refine blk_drew ?_ | refine blk_alloc ?_ _)); refine blk_put (cs := #[.int .u64 t362, .int .u64 t363, .int .i64 t364, .int .i64 0, .slice none 0 0]) ?_ 3 _ rfl; (with_reducible repeat (first | refine blk_drewN ?_ _ | refine blk_drew ?_ | refine blk_alloc ?_ _)); refine blk_put (cs := #[.int .u64 t362, .int .u64 t363, .int .i64 0, .int .i64 0, .slice none 0 0]) ?_ 2 _ rfl; (with_reducible repeat (first | refine blk_drewN ?_ _ | refine blk_drew ?_ | refine blk_alloc ?_ _)); refine blk_put (cs := #[.int .u64 t362, .int .u64 0, .int .i64 0, .int .i64 0, .slice none 0 0]) ?_ 1 _ rfl; (with_reducible repeat (first | refine blk_drewN ?_ _ | refine blk_drew ?_ | refine blk_alloc ?_ _)); refine blk_put (cs := #[.int .u64 0, .int .u64 0, .int .i64 0, .int .i64 0, .slice none 0 0]) ?_ 0 _ rfl; (with_reducible repeat (first | refine blk_drewN ?_ _ | refine blk_drew ?_ | refine blk_alloc ?_ _)); exact BK370.out⟩, ⟨by repeat (first | (with_reducible first | exact HB.out | apply below_alloc | apply pw_below_drewN | apply below_drew1 | refine below_set ?_ GE356.out | refine below_set ?_ GE370.out) | exact HB.out)⟩⟩
              · rw [if_neg c24] at H
                have c24b0 : (t369 == 0) = false := beq_eq_false_iff_ne.mpr c24
                have c24b1 : (t369 != 0) = true := bne_iff_ne.mpr c24
                (first | rw [c24b0] | (simp only [i64_w, i32_w]; rw [c24b0]) | skip)
                have H' := Aside0.mk H
                clear H
                go_wp2
                go_meet
                case rel => exact ⟨_, (true), (by first | rfl | (simp; done) | (simp [*]; done)), H', ⟨by have := HJ2.out; first | omega | exact Nat.le_refl _⟩, ⟨by (with_reducible repeat (first | apply Kd.R_alloc | apply Kd.R_drewN | apply Kd.R_drew)); exact Kd.R_mono (Kd.R_far (p := ⟨gb370, 4, none⟩) (Kd.R_far (p := ⟨gb370, 3, none⟩) (Kd.R_far (p := ⟨gb370, 2, none⟩) (Kd.R_far (p := ⟨gb370, 1, none⟩) (Kd.R_far (p := ⟨gb370, 0, none⟩) (Kd.R_types HO368.out BK370.out (by decide)) (fun _ hk => hk.2) (.int .u64 t362)) (fun _ hk => hk.2) (.int .u64 t363)) (fun _ hk => hk.2) (.int .i64 t364)) (fun _ hk => hk.2) (.int .i64 t365)) (fun _ hk => hk.2) (.slice Ao23 t366.length co23)) (fun _ hk => trivial)⟩, ⟨by (with_reducible repeat (first | refine blk_drewN ?_ _ | refine blk_drew ?_ | refine blk_alloc ?_ _)); refine blk_far ?_ NB356_370.out _; (with_reducible repeat (first | refine blk_drewN ?_ _ | refine blk_drew ?_ | refine blk_alloc ?_ _)); refine blk_far ?_ NB356_370.out _; (with_reducible repeat (first | refine blk_drewN ?_ _ | refine blk_drew ?_ | refine blk_alloc ?_ _)); refine blk_far ?_ NB356_370.out _; (with_reducible repeat (first | refine blk_drewN ?_ _ | refine blk_drew ?_ | refine blk_alloc ?_ _)); refine blk_far ?_ NB356_370.out _; (with_reducible repeat (first | refine blk_drewN ?_ _ | refine blk_drew ?_ | refine blk_alloc ?_ _)); refine blk_far ?_ NB356_370.out _; (with_reducible repeat (first | refine blk_drewN ?_ _ | refine blk_drew ?_ | refine blk_alloc ?_ _)); exact BK356.out⟩, ⟨by (with_reducible repeat (first | refine blk_drewN ?_ _ | refine blk_drew ?_ | refine blk_alloc ?_ _)); refine blk_put (cs := #[.int .u64 t362, .int .u64 t363, .int .i64 t364, .int .i64 t365, .slice none 0 0]) ?_ 4 _ rfl; (with_reducible repeat (first | refine blk_drewN ?_ _ | refine blk_drew ?_ | refine blk_alloc ?_ _)); refine blk_put (cs := #[.int .u64 t362, .int .u64 t363, .int .i64 t364, .int .i64 0, .slice none 0 0]) ?_ 3 _ rfl; (with_reducible repeat (first | refine blk_drewN ?_ _ | refine blk_drew ?_ | refine blk_alloc ?_ _)); refine blk_put (cs := #[.int .u64 t362, .int .u64 t363, .int .i64 0, .int .i64 0, .slice none 0 0]) ?_ 2 _ rfl; (with_reducible repeat (first | refine blk_drewN ?_ _ | refine blk_drew ?_ | refine blk_alloc ?_ _)); refine blk_put (cs := #[.int .u64 t362, .int .u64 0, .int .i64 0, .int .i64 0, .slice none 0 0]) ?_ 1 _ rfl; (with_reducible repeat (first | refine blk_drewN ?_ _ | refine blk_drew ?_ | refine blk_alloc ?_ _)); refine blk_put (cs := #[.int .u64 0, .int .u64 0, .int .i64 0, .int .i64 0, .slice none 0 0]) ?_ 0 _ rfl; (with_reducible repeat (first | refine blk_drewN ?_ _ | refine blk_drew ?_ | refine blk_alloc ?_ _)); exact BK370.out⟩, ⟨by repeat (first | (with_reducible first | exact HB.out | apply below_alloc | apply pw_below_drewN | apply below_drew1 | refine below_set ?_ GE356.out | refine below_set ?_ GE370.out) | exact HB.out)⟩⟩
            case rest =>
              clear HC17
              try clear c1
              try clear c2
              try clear p2
              try clear c5
              try clear c5b0
              try clear c5b1
              try clear c8
              try clear c13
              try clear c15
              try clear c15b0
              try clear c15b1
              try clear c19
              try clear c20
              try clear c21
              try clear c24
              try clear c24b0
              try clear c24b1
              try clear c25
              try clear c25b0
              try clear c25b1
              try clear c27
              try clear c29
              try clear hcz13_0
              try clear hcz13_1
              try clear hcz13_2
              try clear hcz13_3
              try clear hcz13_4
              try clear hcz22_0
              try clear hcz22_1
              try clear hcz22_2
              try clear hcz22_3
              try clear hcz22_4
              try clear hcz28_0
              try clear hcz28_1
              try clear hcz28_2
              try clear hcz28_3
              try clear hcz28_4
              try clear hcz29_0
              try clear hcz29_1
              try clear hcz29_2
              try clear hcz29_3
              try clear hcz29_4
              try clear hcz6_0
              try clear hcz6_1
              try clear hcz6_2
              try clear hcz6_3
              try clear hcz6_4
              try clear hcz7_0
              try clear hcz7_1
              try clear hcz7_2
              try clear hcz7_3
              try clear hcz7_4
              try clear hfz13_0
              try clear hfz13_1
              try clear hfz13_2
              try clear hfz13_3
              try clear hfz13_4
              try clear hfz22_0
              try clear hfz22_1
              try clear hfz22_2
              try clear hfz22_3
              try clear hfz22_4
              try clear hfz28_0
              try clear hfz28_1
              try clear hfz28_2
              try clear hfz28_3
              try clear hfz28_4
              try clear hfz29_0
              try clear hfz29_1
              try clear hfz29_2
              try clear hfz29_3
              try clear hfz29_4
              try clear hfz6_0
              try clear hfz6_1
              try clear hfz6_2
              try clear hfz6_3
              try clear hfz6_4
              try clear hfz7_0
              try clear hfz7_1
              try clear hfz7_2
              try clear hfz7_3
              try clear hfz7_4
              try clear p2
              obtain ⟨kq, x52_16, rfl, HA, HJ16, HO_371004, BK356, BK370, HB⟩ := hcut
              cases kq with
              | zero => exact absurd HA.out (by simp [marginalialaw16_CellBack.j1])
              | succ kj16 =>
                have H := HA.out
                clear HA
                simp only [marginalialaw16_CellBack.j1] at H
                by_cases c31 : x52_16 = true
                · subst c31
                  have H1 : (some false) = some r := by rw [if_pos rfl] at H; exact H
                  clear H
                  have H := H1
                  clear H1
                  obtain rfl := Option.some.inj H
                  go_wp2
                  go_ret
                  exact ⟨by first | rfl | (simp [errW_none, errW_some] <;> rfl) | (simp [*, errW_none, errW_some] <;> rfl), by repeat (first | (with_reducible first | exact HB.out | apply below_alloc | apply pw_below_drewN | apply below_drew1 | refine below_set ?_ GE356.out | refine below_set ?_ GE370.out) | exact HB.out)⟩
                · replace c31 := Bool.eq_false_iff.mpr c31
                  subst c31
                  have H1 : (marginalialaw16_CellBack.j2 kj16 l1 a0_0 a0_1 a0_2 a0_3 l0_4) = some r := by rw [if_neg (show ¬ (false = true) by decide)] at H; exact H
                  clear H
                  have H := H1
                  clear H1
                  have H' := Aside0.mk H
                  clear H
                  go_wp2
                  go_meet
                  case rel => exact ⟨_, H', ⟨by have := HJ2.out; have := HJ16.out; first | omega | exact Nat.le_refl _⟩, ⟨by (with_reducible repeat (first | refine blk_drewN ?_ _ | refine blk_drew ?_ | refine blk_alloc ?_ _)); exact BK356.out⟩, ⟨by repeat (first | (with_reducible first | exact HB.out | apply below_alloc | apply pw_below_drewN | apply below_drew1 | refine below_set ?_ GE356.out | refine below_set ?_ GE370.out) | exact HB.out)⟩⟩
          · rw [if_neg c15] at H
            have c15b0 : (t361 == 0) = false := beq_eq_false_iff_ne.mpr c15
            have c15b1 : (t361 != 0) = true := bne_iff_ne.mpr c15
            (first | rw [c15b0] | (simp only [i64_w, i32_w]; rw [c15b0]) | skip)
            have H' := Aside0.mk H
            clear H
            go_wp2
            go_meet
            case rel => exact ⟨_, H', ⟨by have := HJ2.out; first | omega | exact Nat.le_refl _⟩, ⟨by (with_reducible repeat (first | refine blk_drewN ?_ _ | refine blk_drew ?_ | refine blk_alloc ?_ _)); exact BK356.out⟩, ⟨by repeat (first | (with_reducible first | exact HB.out | apply below_alloc | apply pw_below_drewN | apply below_drew1 | refine below_set ?_ GE356.out) | exact HB.out)⟩⟩
        case rest =>
          clear HC12
          try clear c1
          try clear c2
          try clear p2
          try clear c3
          try clear c5
          try clear c5b0
          try clear c5b1
          try clear c8
          try clear c13
          try clear c15
          try clear c15b0
          try clear c15b1
          try clear c19
          try clear c20
          try clear c21
          try clear c24
          try clear c24b0
          try clear c24b1
          try clear c25
          try clear c25b0
          try clear c25b1
          try clear c27
          try clear c29
          try clear c31
          try clear hcz13_0
          try clear hcz13_1
          try clear hcz13_2
          try clear hcz13_3
          try clear hcz13_4
          try clear hcz22_0
          try clear hcz22_1
          try clear hcz22_2
          try clear hcz22_3
          try clear hcz22_4
          try clear hcz28_0
          try clear hcz28_1
          try clear hcz28_2
          try clear hcz28_3
          try clear hcz28_4
          try clear hcz29_0
          try clear hcz29_1
          try clear hcz29_2
          try clear hcz29_3
          try clear hcz29_4
          try clear hcz6_0
          try clear hcz6_1
          try clear hcz6_2
          try clear hcz6_3
          try clear hcz6_4
          try clear hcz7_0
          try clear hcz7_1
          try clear hcz7_2
          try clear hcz7_3
          try clear hcz7_4
          try clear hfz13_0
          try clear hfz13_1
          try clear hfz13_2
          try clear hfz13_3
          try clear hfz13_4
          try clear hfz22_0
          try clear hfz22_1
          try clear hfz22_2
          try clear hfz22_3
          try clear hfz22_4
          try clear hfz28_0
          try clear hfz28_1
          try clear hfz28_2
          try clear hfz28_3
          try clear hfz28_4
          try clear hfz29_0
          try clear hfz29_1
          try clear hfz29_2
          try clear hfz29_3
          try clear hfz29_4
          try clear hfz6_0
          try clear hfz6_1
          try clear hfz6_2
          try clear hfz6_3
          try clear hfz6_4
          try clear hfz7_0
          try clear hfz7_1
          try clear hfz7_2
          try clear hfz7_3
          try clear hfz7_4
          try clear p2
          obtain ⟨kq, HA, HJ11, BK356, HB⟩ := hcut
          cases kq with
          | zero => exact absurd HA.out (by simp [marginalialaw16_CellBack.j2])
          | succ kj11 =>
            have H := HA.out
            clear HA
            simp only [marginalialaw16_CellBack.j2] at H
            replace H := Option.bind_eq_some_iff.mp H
            obtain ⟨t372, A320, H⟩ := H
            replace H : (marginalialaw16_CellBack.l0 kj11 l1 ([] : List (S34)) t372 0) = some r := H
            have A32 := Aside0.mk A320
            clear A320
            have H' := Aside0.mk H
            clear H
            have hcz33_0 : wc.cell? ⟨gb356, 0, none⟩ = some (.int .u64 a0_0) := (blk_cell BK356.out 0).trans rfl
            have hcz33_1 : wc.cell? ⟨gb356, 1, none⟩ = some (.int .u64 a0_1) := (blk_cell BK356.out 1).trans rfl
            have hcz33_2 : wc.cell? ⟨gb356, 2, none⟩ = some (.int .i64 a0_2) := (blk_cell BK356.out 2).trans rfl
            have hcz33_3 : wc.cell? ⟨gb356, 3, none⟩ = some (.int .i64 a0_3) := (blk_cell BK356.out 3).trans rfl
            have hcz33_4 : wc.cell? ⟨gb356, 4, none⟩ = some (.slice A0_4 l0_4.length c0_4) := (blk_cell BK356.out 4).trans rfl
            have hfz33_0 := blk_frozen BK356.out 0
            have hfz33_1 := blk_frozen BK356.out 1
            have hfz33_2 := blk_frozen BK356.out 2
            have hfz33_3 := blk_frozen BK356.out 3
            have hfz33_4 := blk_frozen BK356.out 4
            go_wp2_with (first | ((with_reducible refine gate_callee (f := 24) rfl ?_); refine goesL_ (some 58) rfl rfl Try.func24 (by kernel_rfl) rfl #[.slice A1 l1.length c1, .int .u64 a0_0, .int .u64 a0_1] rfl (by (try simp only [List.map_toArray, List.map_cons, List.map_nil]); first | done | rfl | (simp only [List.length_drop, List.length_take]; rfl)) ?_; (with_reducible refine (cell_Cut.calls kj11 _ _ l1 a0_0 a0_1 t372 _ ?side1 ?side2 A32.out).mono ?_); (case side1 => repeat (first | exact (Kd.C_below HR1.out HB.out) | (with_reducible refine Kd.C_alloc ?_ _) | (with_reducible refine Kd.C_drewN ?_ _) | (with_reducible refine Kd.C_drew ?_))); (case side2 => exact HC1.out); rintro e w34 ⟨v373, rfl, ho0, hb⟩; refine ⟨_, rfl, ?_⟩; have n0_ := Aside0.mk (Kd.S_lower (Kd.S_newB ho0 (g := gb356) (o := .cells #[.int .u64 a0_0, .int .u64 a0_1, .int .i64 a0_2, .int .i64 a0_3, .slice A0_4 l0_4.length c0_4] 34 (0, 0)) (by (with_reducible repeat (first | refine blk_drewN ?_ _ | refine blk_drew ?_ | refine blk_alloc ?_ _)); exact BK356.out)) (below_size (by repeat (first | (with_reducible first | exact HB.out | apply below_alloc | apply pw_below_drewN | apply below_drew1 | refine below_set ?_ GE356.out) | exact HB.out)))); have n1_ := Aside0.mk (blk_below (g := gb356) (o := .cells #[.int .u64 a0_0, .int .u64 a0_1, .int .i64 a0_2, .int .i64 a0_3, .slice A0_4 l0_4.length c0_4] 34 (0, 0)) (by (with_reducible repeat (first | refine blk_drewN ?_ _ | refine blk_drew ?_ | refine blk_alloc ?_ _)); exact BK356.out) hb); have n2_ := Aside0.mk (below_step (by repeat (first | (with_reducible first | exact HB.out | apply below_alloc | apply pw_below_drewN | apply below_drew1 | refine below_set ?_ GE356.out) | exact HB.out)) hb); clear BK356; clear HB; have HO374 := n0_; have BK356 := n1_; have HB := n2_; clear n0_ n1_ n2_; (try clear hb); (try clear hb2); (try clear hk); (try clear hi); (try clear ho0)))
            go_loopg [9, 11] kj11 (fun kq v9 v11 w' => ∃ (x9_3 : List (S34)) (x11_3 : Int), v11 = .int .i64 x11_3 ∧ Aside0 (marginalialaw16_CellBack.l0 kq l1 x9_3 t372 x11_3 = some r) ∧ Aside0 (kq ≤ kj11) ∧ Aside0 (Kd.S k34 34 w' w.heap.size (fun k_ => some k_ ≠ (v373 : Value).ownBlock ∧ k_ ≠ gb356) v9 x9_3) ∧ Aside0 (Kd.S k34 34 w' w.heap.size (fun k_ => some k_ ≠ (v9 : Value).ownBlock ∧ k_ ≠ gb356) v373 t372) ∧ Aside0 (w'.heap[gb356]? = some (.cells #[.int .u64 a0_0, .int .u64 a0_1, .int .i64 a0_2, .int .i64 a0_3, (.slice A0_4 l0_4.length c0_4)] 34 (0, 0))) ∧ Aside0 (Below w.heap.size w w'))
            case atStart => exact ⟨(([] : List (S34))), (0), (by first | rfl | (simp; done) | (simp [*]; done)), H', ⟨Nat.le_refl _⟩, ⟨by first | exact Kd.S_nil _ _ _ _ _ | exact Kd.N_nil _ _ _ _ _ | exact Kd.V_nil _ _ _ _ _ | exact Kd.Q_nil _ _ _ _ _ | exact Kd.R_nil _ _ _ _ _⟩, ⟨by (with_reducible repeat (first | apply Kd.S_alloc | apply Kd.S_drewN | apply Kd.S_drew)); exact Kd.S_mono HO374.out (fun _ hk => ⟨(by simp [Value.ownBlock]), hk.2⟩)⟩, ⟨by (with_reducible repeat (first | refine blk_drewN ?_ _ | refine blk_drew ?_ | refine blk_alloc ?_ _)); exact BK356.out⟩, ⟨by repeat (first | (with_reducible first | exact HB.out | apply below_alloc | apply pw_below_drewN | apply below_drew1 | refine below_set ?_ GE356.out) | exact HB.out)⟩⟩
            case round =>
              clear H'
              try clear c1
              try clear c2
              try clear p2
              try clear c3
              try clear c5
              try clear c5b0
              try clear c5b1
              try clear c8
              try clear c13
              try clear c15
              try clear c15b0
              try clear c15b1
              try clear c19
              try clear c20
              try clear c21
              try clear c24
              try clear c24b0
              try clear c24b1
              try clear c25
              try clear c25b0
              try clear c25b1
              try clear c27
              try clear c29
              try clear c31
              try clear hcz13_0
              try clear hcz13_1
              try clear hcz13_2
              try clear hcz13_3
              try clear hcz13_4
              try clear hcz22_0
              try clear hcz22_1
              try clear hcz22_2
              try clear hcz22_3
              try clear hcz22_4
              try clear hcz28_0
              try clear hcz28_1
              try clear hcz28_2
              try clear hcz28_3
              try clear hcz28_4
              try clear hcz29_0
              try clear hcz29_1
              try clear hcz29_2
              try clear hcz29_3
              try clear hcz29_4
              try clear hcz33_0
              try clear hcz33_1
              try clear hcz33_2
              try clear hcz33_3
              try clear hcz33_4
              try clear hcz6_0
              try clear hcz6_1
              try clear hcz6_2
              try clear hcz6_3
              try clear hcz6_4
              try clear hcz7_0
              try clear hcz7_1
              try clear hcz7_2
              try clear hcz7_3
              try clear hcz7_4
              try clear hfz13_0
              try clear hfz13_1
              try clear hfz13_2
              try clear hfz13_3
              try clear hfz13_4
              try clear hfz22_0
              try clear hfz22_1
              try clear hfz22_2
              try clear hfz22_3
              try clear hfz22_4
              try clear hfz28_0
              try clear hfz28_1
              try clear hfz28_2
              try clear hfz28_3
              try clear hfz28_4
              try clear hfz29_0
              try clear hfz29_1
              try clear hfz29_2
              try clear hfz29_3
              try clear hfz29_4
              try clear hfz33_0
              try clear hfz33_1
              try clear hfz33_2
              try clear hfz33_3
              try clear hfz33_4
              try clear hfz6_0
              try clear hfz6_1
              try clear hfz6_2
              try clear hfz6_3
              try clear hfz6_4
              try clear hfz7_0
              try clear hfz7_1
              try clear hfz7_2
              try clear hfz7_3
              try clear hfz7_4
              try clear p2
              obtain ⟨x9_3, x11_3, rfl, HA, HK3, HO_9, HO_10, BK356, HB⟩ := hrel
              cases gk with
              | zero => exact absurd HA.out (by simp [marginalialaw16_CellBack.l0])
              | succ k3 =>
                have H := HA.out
                clear HA
                simp only [marginalialaw16_CellBack.l0] at H
                by_cases c35 : x11_3 < (t372.length : Int)
                · rw [if_pos c35] at H
                  have c35b0 : decide (x11_3 < (t372.length : Int)) = true := decide_eq_true c35
                  clear c35
                  by_cases c36 : 0 ≤ x11_3
                  · rw [if_pos c36] at H
                    have c36b0 : decide (0 ≤ x11_3) = true := decide_eq_true c36
                    clear c36
                    replace H := Option.bind_eq_some_iff.mp H
                    obtain ⟨⟨t376, t379⟩, A370, H⟩ := H
                    replace H : ((cell_Decode.f k3 t376).bind fun bt380 => (if t379 = 0 then (if bt380.2.2.2.2.2 = 0 then (if x9_3.length < 2513169434916 then (marginalialaw16_CellBack.l0 k3 l1 (x9_3 ++ [(⟨bt380.1, bt380.2.1, bt380.2.2.1, bt380.2.2.2.1, bt380.2.2.2.2.1⟩ : S34)]) t372 (wrap64 (x11_3 + 1))) else (none)) else (some false)) else (some false))) = some r := H
                    have A37 := Aside0.mk A370
                    clear A370
                    replace H := Option.bind_eq_some_iff.mp H
                    obtain ⟨⟨t380, t381, t382, t383, t384, t387⟩, A380, H⟩ := H
                    replace H : (if t379 = 0 then (if t387 = 0 then (if x9_3.length < 2513169434916 then (marginalialaw16_CellBack.l0 k3 l1 (x9_3 ++ [(⟨t380, t381, t382, t383, t384⟩ : S34)]) t372 (wrap64 (x11_3 + 1))) else (none)) else (some false)) else (some false)) = some r := H
                    have A38 := Aside0.mk A380
                    clear A380
                    by_cases c39 : t379 = 0
                    · rw [if_pos c39] at H
                      have c39b0 : (t379 == 0) = true := beq_iff_eq.mpr c39
                      have c39b1 : (t379 != 0) = false := bne_eq_false_iff_eq.mpr c39
                      clear c39
                      by_cases c40 : t387 = 0
                      · rw [if_pos c40] at H
                        have c40b0 : (t387 == 0) = true := beq_iff_eq.mpr c40
                        have c40b1 : (t387 != 0) = false := bne_eq_false_iff_eq.mpr c40
                        clear c40
                        by_cases c41 : x9_3.length < 2513169434916
                        · rw [if_pos c41] at H
                          have LMc41 := Aside0.mk c41
                          clear c41
                          obtain ⟨y389, hy389⟩ : ∃ y_ : List (S34), y_ = (x9_3 ++ [(⟨t380, t381, t382, t383, t384⟩ : S34)]) := ⟨_, rfl⟩
                          replace H : (marginalialaw16_CellBack.l0 k3 l1 y389 t372 (wrap64 (x11_3 + 1))) = some r := by first | (rw [hy389]; with_reducible exact H) | (have H2_ := (Option.bind_some _ _).symm.trans H; rw [hy389]; with_reducible exact H2_) | (have H2_ := (Option.bind_some _ _).symm.trans H; with_reducible exact H2_) | with_reducible exact H | (rw [hy389]; exact H) | exact H
                          have Ny389 := Aside0.mk hy389
                          clear hy389
                          have H' := Aside0.mk H
                          clear H
                          obtain ⟨Ao42, co42, eo42⟩ := Kd.S_slice HO_10.out
                          subst eo42
                          have p375 : 0 ≤ (x11_3 : Int) := of_decide_eq_true (by first | (with_reducible assumption) | assumption)
                          have q375 : x11_3 < (t372.length : Int) := of_decide_eq_true (by first | (with_reducible assumption) | assumption)
                          obtain ⟨ad375, A375_4, c375_4, e375, hx375_0, hx375_1, hx375_2, hx375_3, hx375_4, hl375_4, hi375_4⟩ := at_T34 (Kd.S_reads' HO_10.out).2.2 x11_3 p375 q375
                          cases e375
                          obtain ⟨ce375, hce375, hMe375, hcc375⟩ := Kd.S_get HO_10.out z34 x11_3 p375 (by first | exact q375 | exact of_decide_eq_true (by first | (with_reducible assumption) | assumption) | (have e_ := (Kd.S_reads' HO_10.out).1; omega))
                          obtain ⟨ve375_4, rfl, ge375_4⟩ := k34_openM hMe375
                          have hv375_4 := hcc375 4 _ rfl
                          rw [add_field _ _ 4 (by omega)] at hv375_4
                          replace hv375_4 := Option.some.inj (hv375_4.symm.trans hx375_4)
                          rw [hv375_4] at ge375_4
                          have HL375_4 := Aside0.mk (show Kd.R (Kd.int .u8) 5 _ _ _ _ ((rd_T34 t372 x11_3).f4) from ge375_4)
                          clear hv375_4 ge375_4
                          clear hcc375 hce375
                          have HR375_4 := Aside0.mk hi375_4
                          have HC375_4 := Aside0.mk hl375_4
                          clear hi375_4 hl375_4
                          replace p375 := eq_true p375
                          replace q375 := eq_true q375
                          go_wp2_with (first | ((with_reducible refine gate_callee (f := 29) rfl ?_); refine goesL_ (some 70) rfl rfl Try.func29 (by kernel_rfl) rfl #[.agg #[.int .u64 ((rd_T34 t372 x11_3).f0), .int .u64 ((rd_T34 t372 x11_3).f1), .int .i64 ((rd_T34 t372 x11_3).f2), .int .i64 ((rd_T34 t372 x11_3).f3), .slice A375_4 ((rd_T34 t372 x11_3).f4).length c375_4]] rfl (by (try simp only [List.map_toArray, List.map_cons, List.map_nil]); first | done | rfl | (simp only [List.length_drop, List.length_take]; rfl)) ?_; (with_reducible refine (cell_Encode.calls k3 ((rd_T34 t372 x11_3).f0) ((rd_T34 t372 x11_3).f1) ((rd_T34 t372 x11_3).f2) ((rd_T34 t372 x11_3).f3) _ _ ((rd_T34 t372 x11_3).f4) t376 t379 _ ?side1 ?side2 A37.out).mono ?_); (case side1 => repeat (first | exact (by repeat (first | (with_reducible exact HR375_4.out) | (with_reducible refine Kd.C_alloc ?_ _) | (with_reducible refine Kd.C_drewN ?_ _) | (with_reducible refine Kd.C_drew ?_) | exact HR375_4.out)) | (with_reducible refine Kd.C_alloc ?_ _) | (with_reducible refine Kd.C_drewN ?_ _) | (with_reducible refine Kd.C_drew ?_))); (case side2 => exact HC375_4.out); rintro e w43 ⟨v377, rfl, ho0, hb⟩; refine ⟨_, rfl, ?_⟩; have n0_ := Aside0.mk (Kd.S_below (by (with_reducible repeat (first | apply Kd.S_alloc | apply Kd.S_drewN | apply Kd.S_drew)); exact HO_9.out) hb); have n1_ := Aside0.mk (Kd.S_below (by (with_reducible repeat (first | apply Kd.S_alloc | apply Kd.S_drewN | apply Kd.S_drew)); exact HO_10.out) hb); have n2_ := Aside0.mk (Kd.R_below (by (with_reducible repeat (first | apply Kd.R_alloc | apply Kd.R_drewN | apply Kd.R_drew)); exact HL375_4.out) hb); have n3_ := Aside0.mk (Kd.V_lower (Kd.V_mono (ok' := fun k_ => some k_ ≠ (u9 : Value).ownBlock ∧ some k_ ≠ (.slice (some ad375) t372.length co42 : Value).ownBlock ∧ k_ ≠ gb356) ho0 (fun k_ hk_ => ⟨(Kd.fresh' (Kd.S_lt (by (with_reducible repeat (first | apply Kd.S_alloc | apply Kd.S_drewN | apply Kd.S_drew)); exact HO_9.out)) k_ hk_), (Kd.fresh' (Kd.S_lt (by (with_reducible repeat (first | apply Kd.S_alloc | apply Kd.S_drewN | apply Kd.S_drew)); exact HO_10.out)) k_ hk_), (Kd.freshB (g := gb356) (o := .cells #[.int .u64 a0_0, .int .u64 a0_1, .int .i64 a0_2, .int .i64 a0_3, .slice A0_4 l0_4.length c0_4] 34 (0, 0)) (by (with_reducible repeat (first | refine blk_drewN ?_ _ | refine blk_drew ?_ | refine blk_alloc ?_ _)); exact BK356.out) k_ hk_)⟩)) (below_size (by repeat (first | (with_reducible first | exact HB.out | apply below_alloc | apply pw_below_drewN | apply below_drew1 | refine below_set ?_ GE356.out) | exact HB.out)))); have n4_ := Aside0.mk (blk_below (g := gb356) (o := .cells #[.int .u64 a0_0, .int .u64 a0_1, .int .i64 a0_2, .int .i64 a0_3, .slice A0_4 l0_4.length c0_4] 34 (0, 0)) (by (with_reducible repeat (first | refine blk_drewN ?_ _ | refine blk_drew ?_ | refine blk_alloc ?_ _)); exact BK356.out) hb); have n5_ := Aside0.mk (Kd.C_below (by repeat (first | (with_reducible exact HR375_4.out) | (with_reducible refine Kd.C_alloc ?_ _) | (with_reducible refine Kd.C_drewN ?_ _) | (with_reducible refine Kd.C_drew ?_) | exact HR375_4.out)) hb); have n6_ := Aside0.mk (below_step (by repeat (first | (with_reducible first | exact HB.out | apply below_alloc | apply pw_below_drewN | apply below_drew1 | refine below_set ?_ GE356.out) | exact HB.out)) hb); clear HO_9; clear HO_10; clear HL375_4; clear BK356; clear HR375_4; clear HB; have HO_9 := n0_; have HO_10 := n1_; have HL375_4 := n2_; have HO378 := n3_; have BK356 := n4_; have HR375_4 := n5_; have HB := n6_; clear n0_ n1_ n2_ n3_ n4_ n5_ n6_; (try clear hb); (try clear hb2); (try clear hk); (try clear hi); (try clear ho0); obtain ⟨Ao44, co44, eo44⟩ := Kd.V_slice HO378.out; subst eo44) | ((with_reducible refine gate_callee (f := 20) rfl ?_); refine goesL_ (some 75) rfl rfl Try.func20 (by kernel_rfl) rfl #[.slice Ao44 t376.length co44] rfl (by (try simp only [List.map_toArray, List.map_cons, List.map_nil]); first | done | rfl | (simp only [List.length_drop, List.length_take]; rfl)) ?_; (with_reducible refine (cell_Decode.calls k3 _ _ t376 t380 t381 t382 t383 t384 t387 _ ?side1 ?side2 A38.out).mono ?_); (case side1 => repeat (first | exact (Kd.V_reads' HO378.out).2.2 | (with_reducible refine Kd.C_alloc ?_ _) | (with_reducible refine Kd.C_drewN ?_ _) | (with_reducible refine Kd.C_drew ?_))); (case side2 => exact (Kd.V_reads' HO378.out).2.1); rintro e w45 ⟨v385, rfl, ho0, hb⟩; refine ⟨_, rfl, ?_⟩; have n0_ := Aside0.mk (Kd.S_elder' (by (with_reducible repeat (first | apply Kd.S_alloc | apply Kd.S_drewN | apply Kd.S_drew)); exact HO_9.out) (Kd.R_base ho0) hb); have n1_ := Aside0.mk (Kd.S_elder' (by (with_reducible repeat (first | apply Kd.S_alloc | apply Kd.S_drewN | apply Kd.S_drew)); exact HO_10.out) (Kd.R_base ho0) hb); have n2_ := Aside0.mk (Kd.R_elder' (by (with_reducible repeat (first | apply Kd.R_alloc | apply Kd.R_drewN | apply Kd.R_drew)); exact HL375_4.out) (Kd.R_base ho0) hb); have n3_ := Aside0.mk (Kd.V_elder' (by (with_reducible repeat (first | apply Kd.V_alloc | apply Kd.V_drewN | apply Kd.V_drew)); exact HO378.out) (Kd.R_base ho0) hb); have n4_ := Aside0.mk (Kd.R_lower (Kd.R_new' ho0 (Kd.R_lt (by (with_reducible repeat (first | apply Kd.R_alloc | apply Kd.R_drewN | apply Kd.R_drew)); exact HL375_4.out))) (below_size (by repeat (first | (with_reducible first | exact HB.out | apply below_alloc | apply pw_below_drewN | apply below_drew1 | refine below_set ?_ GE356.out) | exact HB.out)))); have n5_ := Aside0.mk (blk_below (g := gb356) (o := .cells #[.int .u64 a0_0, .int .u64 a0_1, .int .i64 a0_2, .int .i64 a0_3, .slice A0_4 l0_4.length c0_4] 34 (0, 0)) (by (with_reducible repeat (first | refine blk_drewN ?_ _ | refine blk_drew ?_ | refine blk_alloc ?_ _)); exact BK356.out) hb); have n6_ := Aside0.mk (Kd.C_below (by repeat (first | (with_reducible exact HR375_4.out) | (with_reducible refine Kd.C_alloc ?_ _) | (with_reducible refine Kd.C_drewN ?_ _) | (with_reducible refine Kd.C_drew ?_) | exact HR375_4.out)) hb); have n7_ := Aside0.mk (below_step (by repeat (first | (with_reducible first | exact HB.out | apply below_alloc | apply pw_below_drewN | apply below_drew1 | refine below_set ?_ GE356.out) | exact HB.out)) hb); clear HO_9; clear HO_10; clear HL375_4; clear HO378; clear BK356; clear HR375_4; clear HB; have HO_9 := n0_; have HO_10 := n1_; have HL375_4 := n2_; have HO378 := n3_; have HO386 := n4_; have BK356 := n5_; have HR375_4 := n6_; have HB := n7_; clear n0_ n1_ n2_ n3_ n4_ n5_ n6_ n7_; (try clear hb); (try clear hb2); (try clear hk); (try clear hi); (try clear ho0)) | ((with_reducible refine gate_dst (N := 14) rfl ?_); (try (refine gate_guard (by rfl) ?_; dsimp only)); refine box_event ?hg (N := 14) ?hd (cs := #[.int .u64 0, .int .u64 0, .int .i64 0, .int .i64 0, .slice none 0 0]) (t := 34) ?hr ?_; (case hd => rfl); (case hg => rfl); (case hr => first | (go_simp; done) | (go_simp; rfl)); intro gb388 hg w46 hbox hb; have n0_ := Aside0.mk (Kd.S_below (Kd.S_elderB (by (with_reducible repeat (first | apply Kd.S_alloc | apply Kd.S_drewN | apply Kd.S_drew)); exact HO_9.out) gb388 (Nat.le_of_eq hg.symm)) hb); have n1_ := Aside0.mk (Kd.S_below (Kd.S_elderB (by (with_reducible repeat (first | apply Kd.S_alloc | apply Kd.S_drewN | apply Kd.S_drew)); exact HO_10.out) gb388 (Nat.le_of_eq hg.symm)) hb); have n2_ := Aside0.mk (Kd.R_below (by (with_reducible repeat (first | apply Kd.R_alloc | apply Kd.R_drewN | apply Kd.R_drew)); exact HL375_4.out) hb); have n3_ := Aside0.mk (Kd.V_below (Kd.V_elderB (by (with_reducible repeat (first | apply Kd.V_alloc | apply Kd.V_drewN | apply Kd.V_drew)); exact HO378.out) gb388 (Nat.le_of_eq hg.symm)) hb); have n4_ := Aside0.mk (Kd.R_below (by (with_reducible repeat (first | apply Kd.R_alloc | apply Kd.R_drewN | apply Kd.R_drew)); exact HO386.out) hb); have n5_ := Aside0.mk (blk_below (g := gb356) (o := .cells #[.int .u64 a0_0, .int .u64 a0_1, .int .i64 a0_2, .int .i64 a0_3, .slice A0_4 l0_4.length c0_4] 34 (0, 0)) (by (with_reducible repeat (first | refine blk_drewN ?_ _ | refine blk_drew ?_ | refine blk_alloc ?_ _)); exact BK356.out) hb); have n6_ := Aside0.mk (Kd.C_below (by repeat (first | (with_reducible exact HR375_4.out) | (with_reducible refine Kd.C_alloc ?_ _) | (with_reducible refine Kd.C_drewN ?_ _) | (with_reducible refine Kd.C_drew ?_) | exact HR375_4.out)) hb); have n7_ := Aside0.mk (below_step (by repeat (first | (with_reducible first | exact HB.out | apply below_alloc | apply pw_below_drewN | apply below_drew1 | refine below_set ?_ GE356.out) | exact HB.out)) hb); have n8_ := Aside0.mk (hbox); have n9_ := Aside0.mk ((by rw [hg]; exact (below_size (by repeat (first | (with_reducible first | exact HB.out | apply below_alloc | apply pw_below_drewN | apply below_drew1 | refine below_set ?_ GE356.out) | exact HB.out))) : w.heap.size ≤ gb388)); have n10_ := Aside0.mk ((by rw [hg]; exact (below_size (by repeat (first | (with_reducible first | exact HB.out | apply below_alloc | apply pw_below_drewN | apply below_drew1 | refine below_set ?_ GE356.out) | exact HB.out))) : w.heap.size ≤ gb388)); have n11_ := Aside0.mk ((by rw [hg]; exact Nat.ne_of_lt (blk_lt (g := gb356) (o := .cells #[.int .u64 a0_0, .int .u64 a0_1, .int .i64 a0_2, .int .i64 a0_3, .slice A0_4 l0_4.length c0_4] 34 (0, 0)) (by (with_reducible repeat (first | refine blk_drewN ?_ _ | refine blk_drew ?_ | refine blk_alloc ?_ _)); exact BK356.out)) : gb356 ≠ gb388)); have n12_ := Aside0.mk ((by rw [hg]; exact Nat.ne_of_gt (blk_lt (g := gb356) (o := .cells #[.int .u64 a0_0, .int .u64 a0_1, .int .i64 a0_2, .int .i64 a0_3, .slice A0_4 l0_4.length c0_4] 34 (0, 0)) (by (with_reducible repeat (first | refine blk_drewN ?_ _ | refine blk_drew ?_ | refine blk_alloc ?_ _)); exact BK356.out)) : gb388 ≠ gb356)); clear HO_9; clear HO_10; clear HL375_4; clear HO378; clear HO386; clear BK356; clear HR375_4; clear HB; have HO_9 := n0_; have HO_10 := n1_; have HL375_4 := n2_; have HO378 := n3_; have HO386 := n4_; have BK356 := n5_; have HR375_4 := n6_; have HB := n7_; have BK388 := n8_; have GW388 := n9_; have GE388 := n10_; have NB356_388 := n11_; have NB388_356 := n12_; clear n0_ n1_ n2_ n3_ n4_ n5_ n6_ n7_ n8_ n9_ n10_ n11_ n12_; clear hb hbox hg; have hnb47 := NB388_356.out; have hnc47 := NB356_388.out; have hcz48_0 : w46.cell? ⟨gb388, 0, none⟩ = some (.int .u64 0) := (blk_cell BK388.out 0).trans rfl; have hcz48_1 : w46.cell? ⟨gb388, 1, none⟩ = some (.int .u64 0) := (blk_cell BK388.out 1).trans rfl; have hcz48_2 : w46.cell? ⟨gb388, 2, none⟩ = some (.int .i64 0) := (blk_cell BK388.out 2).trans rfl; have hcz48_3 : w46.cell? ⟨gb388, 3, none⟩ = some (.int .i64 0) := (blk_cell BK388.out 3).trans rfl; have hcz48_4 : w46.cell? ⟨gb388, 4, none⟩ = some (.slice none 0 0) := (blk_cell BK388.out 4).trans rfl; have hfz48_0 := blk_frozen BK388.out 0; have hfz48_1 := blk_frozen BK388.out 1; have hfz48_2 := blk_frozen BK388.out 2; have hfz48_3 := blk_frozen BK388.out 3; have hfz48_4 := blk_frozen BK388.out 4; obtain ⟨Ao49, co49, eo49⟩ := Kd.R_slice HO386.out; subst eo49) | ((with_reducible refine gate_store (t := 34) (p := 14) rfl ?_); refine store_event (t := 34) (p := 14) (v := ?vo_w50) (w1 := (((((w46.setCell ⟨gb388, 0, none⟩ (.int .u64 t380)).setCell ⟨gb388, 1, none⟩ (.int .u64 t381)).setCell ⟨gb388, 2, none⟩ (.int .i64 t382)).setCell ⟨gb388, 3, none⟩ (.int .i64 t383)).setCell ⟨gb388, 4, none⟩ (.slice Ao49 t384.length co49))) ?hg ?ho ?hn ?hr ?_; (case ho => rfl); (case hg => rfl); (case hn => rfl); (case hr => first | (go_simp; done) | (go_simp; rfl)); intro w50 hw; have n0_ : Aside0 (Kd.S k34 34 w50 w.heap.size (fun k_ => some k_ ≠ (.slice (some ad375) t372.length co42 : Value).ownBlock ∧ some k_ ≠ (.slice Ao49 t384.length co49 : Value).ownBlock ∧ k_ ≠ gb356 ∧ k_ ≠ gb388) u9 x9_3) := ⟨(by rw [hw]; exact (by (with_reducible repeat (first | apply Kd.S_alloc | apply Kd.S_drewN | apply Kd.S_drew)); exact Kd.S_mono (Kd.S_far (p := ⟨gb388, 4, none⟩) (Kd.S_far (p := ⟨gb388, 3, none⟩) (Kd.S_far (p := ⟨gb388, 2, none⟩) (Kd.S_far (p := ⟨gb388, 1, none⟩) (Kd.S_far (p := ⟨gb388, 0, none⟩) (Kd.S_mono HO_9.out (fun k_ hk => (⟨hk, hk.2⟩ : _ ∧ k_ ≠ gb388))) (fun _ hk => hk.2) (.int .u64 t380)) (fun _ hk => hk.2) (.int .u64 t381)) (fun _ hk => hk.2) (.int .i64 t382)) (fun _ hk => hk.2) (.int .i64 t383)) (fun _ hk => hk.2) (.slice Ao49 t384.length co49)) (fun _ hk => ⟨hk.1.1.1.1, ⟨hk.1.1.2, ⟨hk.1.1.1.2, hk.1.2⟩⟩⟩)))⟩; have n1_ : Aside0 (Kd.S k34 34 w50 w.heap.size (fun k_ => some k_ ≠ (u9 : Value).ownBlock ∧ some k_ ≠ (.slice Ao49 t384.length co49 : Value).ownBlock ∧ k_ ≠ gb356 ∧ k_ ≠ gb388) (.slice (some ad375) t372.length co42) t372) := ⟨(by rw [hw]; exact (by (with_reducible repeat (first | apply Kd.S_alloc | apply Kd.S_drewN | apply Kd.S_drew)); exact Kd.S_mono (Kd.S_far (p := ⟨gb388, 4, none⟩) (Kd.S_far (p := ⟨gb388, 3, none⟩) (Kd.S_far (p := ⟨gb388, 2, none⟩) (Kd.S_far (p := ⟨gb388, 1, none⟩) (Kd.S_far (p := ⟨gb388, 0, none⟩) (Kd.S_mono HO_10.out (fun k_ hk => (⟨hk, hk.2⟩ : _ ∧ k_ ≠ gb388))) (fun _ hk => hk.2) (.int .u64 t380)) (fun _ hk => hk.2) (.int .u64 t381)) (fun _ hk => hk.2) (.int .i64 t382)) (fun _ hk => hk.2) (.int .i64 t383)) (fun _ hk => hk.2) (.slice Ao49 t384.length co49)) (fun _ hk => ⟨hk.1.1.1.1, ⟨hk.1.1.2, ⟨hk.1.1.1.2, hk.1.2⟩⟩⟩)))⟩; have n2_ : Aside0 (Kd.R (Kd.int .u8) 5 w50 w.heap.size (fun k_ => some k_ ≠ (u9 : Value).ownBlock ∧ some k_ ≠ (.slice (some ad375) t372.length co42 : Value).ownBlock ∧ some k_ ≠ (.slice Ao49 t384.length co49 : Value).ownBlock ∧ k_ ≠ gb356) (.slice A375_4 ((rd_T34 t372 x11_3).f4).length c375_4) ((rd_T34 t372 x11_3).f4)) := ⟨(by rw [hw]; exact (by (with_reducible repeat (first | apply Kd.R_alloc | apply Kd.R_drewN | apply Kd.R_drew)); exact Kd.R_mono (Kd.R_far (p := ⟨gb388, 4, none⟩) (Kd.R_far (p := ⟨gb388, 3, none⟩) (Kd.R_far (p := ⟨gb388, 2, none⟩) (Kd.R_far (p := ⟨gb388, 1, none⟩) (Kd.R_far (p := ⟨gb388, 0, none⟩) (Kd.R_types HL375_4.out BK388.out (by decide)) (fun _ hk => hk.2) (.int .u64 t380)) (fun _ hk => hk.2) (.int .u64 t381)) (fun _ hk => hk.2) (.int .i64 t382)) (fun _ hk => hk.2) (.int .i64 t383)) (fun _ hk => hk.2) (.slice Ao49 t384.length co49)) (fun _ hk => ⟨hk.1.1.1.1, ⟨hk.1.1.2, ⟨hk.1.2, hk.1.1.1.2⟩⟩⟩)))⟩; have n3_ : Aside0 (Kd.V (Kd.int .u8) 5 w50 w.heap.size (fun k_ => some k_ ≠ (u9 : Value).ownBlock ∧ some k_ ≠ (.slice (some ad375) t372.length co42 : Value).ownBlock ∧ some k_ ≠ (.slice Ao49 t384.length co49 : Value).ownBlock ∧ k_ ≠ gb356 ∧ k_ ≠ gb388) (.slice Ao44 t376.length co44) t376) := ⟨(by rw [hw]; exact (by (with_reducible repeat (first | apply Kd.V_alloc | apply Kd.V_drewN | apply Kd.V_drew)); exact Kd.V_mono (Kd.V_far (p := ⟨gb388, 4, none⟩) (Kd.V_far (p := ⟨gb388, 3, none⟩) (Kd.V_far (p := ⟨gb388, 2, none⟩) (Kd.V_far (p := ⟨gb388, 1, none⟩) (Kd.V_far (p := ⟨gb388, 0, none⟩) (Kd.V_mono HO378.out (fun k_ hk => (⟨hk, hk.2⟩ : _ ∧ k_ ≠ gb388))) (fun _ hk => hk.2) (.int .u64 t380)) (fun _ hk => hk.2) (.int .u64 t381)) (fun _ hk => hk.2) (.int .i64 t382)) (fun _ hk => hk.2) (.int .i64 t383)) (fun _ hk => hk.2) (.slice Ao49 t384.length co49)) (fun _ hk => ⟨hk.1.1.1.1, ⟨hk.1.1.1.2.1, ⟨hk.1.1.2, ⟨hk.1.1.1.2.2, hk.1.2⟩⟩⟩⟩)))⟩; have n4_ : Aside0 (Kd.R (Kd.int .u8) 5 w50 w.heap.size (fun k_ => some k_ ≠ (.slice A375_4 ((rd_T34 t372 x11_3).f4).length c375_4 : Value).ownBlock) (.slice Ao49 t384.length co49) t384) := ⟨(by rw [hw]; exact (by (with_reducible repeat (first | apply Kd.R_alloc | apply Kd.R_drewN | apply Kd.R_drew)); exact Kd.R_mono (Kd.R_far (p := ⟨gb388, 4, none⟩) (Kd.R_far (p := ⟨gb388, 3, none⟩) (Kd.R_far (p := ⟨gb388, 2, none⟩) (Kd.R_far (p := ⟨gb388, 1, none⟩) (Kd.R_far (p := ⟨gb388, 0, none⟩) (Kd.R_types HO386.out BK388.out (by decide)) (fun _ hk => hk.2) (.int .u64 t380)) (fun _ hk => hk.2) (.int .u64 t381)) (fun _ hk => hk.2) (.int .i64 t382)) (fun _ hk => hk.2) (.int .i64 t383)) (fun _ hk => hk.2) (.slice Ao49 t384.length co49)) (fun _ hk => hk.1.2)))⟩; have n5_ : Aside0 (w50.heap[gb356]? = some (.cells #[.int .u64 a0_0, .int .u64 a0_1, .int .i64 a0_2, .int .i64 a0_3, .slice A0_4 l0_4.length c0_4] 34 (0, 0))) := ⟨(by rw [hw]; exact (by (with_reducible repeat (first | refine blk_drewN ?_ _ | refine blk_drew ?_ | refine blk_alloc ?_ _)); refine blk_far ?_ NB356_388.out _; (with_reducible repeat (first | refine blk_drewN ?_ _ | refine blk_drew ?_ | refine blk_alloc ?_ _)); refine blk_far ?_ NB356_388.out _; (with_reducible repeat (first | refine blk_drewN ?_ _ | refine blk_drew ?_ | refine blk_alloc ?_ _)); refine blk_far ?_ NB356_388.out _; (with_reducible repeat (first | refine blk_drewN ?_ _ | refine blk_drew ?_ | refine blk_alloc ?_ _)); refine blk_far ?_ NB356_388.out _; (with_reducible repeat (first | refine blk_drewN ?_ _ | refine blk_drew ?_ | refine blk_alloc ?_ _)); refine blk_far ?_ NB356_388.out _; (with_reducible repeat (first | refine blk_drewN ?_ _ | refine blk_drew ?_ | refine blk_alloc ?_ _)); exact BK356.out))⟩; have n6_ : Aside0 (w50.heap[gb388]? = some (.cells #[.int .u64 t380, .int .u64 t381, .int .i64 t382, .int .i64 t383, .slice Ao49 t384.length co49] 34 (0, 0))) := ⟨(by rw [hw]; exact (by (with_reducible repeat (first | refine blk_drewN ?_ _ | refine blk_drew ?_ | refine blk_alloc ?_ _)); refine blk_put (cs := #[.int .u64 t380, .int .u64 t381, .int .i64 t382, .int .i64 t383, .slice none 0 0]) ?_ 4 _ rfl; (with_reducible repeat (first | refine blk_drewN ?_ _ | refine blk_drew ?_ | refine blk_alloc ?_ _)); refine blk_put (cs := #[.int .u64 t380, .int .u64 t381, .int .i64 t382, .int .i64 0, .slice none 0 0]) ?_ 3 _ rfl; (with_reducible repeat (first | refine blk_drewN ?_ _ | refine blk_drew ?_ | refine blk_alloc ?_ _)); refine blk_put (cs := #[.int .u64 t380, .int .u64 t381, .int .i64 0, .int .i64 0, .slice none 0 0]) ?_ 2 _ rfl; (with_reducible repeat (first | refine blk_drewN ?_ _ | refine blk_drew ?_ | refine blk_alloc ?_ _)); refine blk_put (cs := #[.int .u64 t380, .int .u64 0, .int .i64 0, .int .i64 0, .slice none 0 0]) ?_ 1 _ rfl; (with_reducible repeat (first | refine blk_drewN ?_ _ | refine blk_drew ?_ | refine blk_alloc ?_ _)); refine blk_put (cs := #[.int .u64 0, .int .u64 0, .int .i64 0, .int .i64 0, .slice none 0 0]) ?_ 0 _ rfl; (with_reducible repeat (first | refine blk_drewN ?_ _ | refine blk_drew ?_ | refine blk_alloc ?_ _)); exact BK388.out))⟩; have n7_ : Aside0 (Below w.heap.size w w50) := ⟨(by rw [hw]; exact (by repeat (first | (with_reducible first | exact HB.out | apply below_alloc | apply pw_below_drewN | apply below_drew1 | refine below_set ?_ GE356.out | refine below_set ?_ GE388.out) | exact HB.out)))⟩; clear hw; clear HO_9; clear HO_10; clear HL375_4; clear HO378; clear HO386; clear BK356; clear BK388; clear HB; have HO_9 := n0_; have HO_10 := n1_; have HL375_4 := n2_; have HO378 := n3_; have HO386 := n4_; have BK356 := n5_; have BK388 := n6_; have HB := n7_; clear n0_ n1_ n2_ n3_ n4_ n5_ n6_ n7_; have hcz51_0 : w50.cell? ⟨gb388, 0, none⟩ = some (.int .u64 t380) := (blk_cell BK388.out 0).trans rfl; have hcz51_1 : w50.cell? ⟨gb388, 1, none⟩ = some (.int .u64 t381) := (blk_cell BK388.out 1).trans rfl; have hcz51_2 : w50.cell? ⟨gb388, 2, none⟩ = some (.int .i64 t382) := (blk_cell BK388.out 2).trans rfl; have hcz51_3 : w50.cell? ⟨gb388, 3, none⟩ = some (.int .i64 t383) := (blk_cell BK388.out 3).trans rfl; have hcz51_4 : w50.cell? ⟨gb388, 4, none⟩ = some (.slice Ao49 t384.length co49) := (blk_cell BK388.out 4).trans rfl; have hfz51_0 := blk_frozen BK388.out 0; have hfz51_1 := blk_frozen BK388.out 1; have hfz51_2 := blk_frozen BK388.out 2; have hfz51_3 := blk_frozen BK388.out 3; have hfz51_4 := blk_frozen BK388.out 4) | ((with_reducible refine gate_builtin (b := .append) (xs := #[.tmp 84, .tmp 86]) rfl ?_); (try (refine gate_guard (by rfl) ?_; dsimp only)); at_builtin; refine Kd.S_append k34 (w0 := w) w.heap.size rfl (.tmp 84) (.tmp 86) 40 34 (.agg #[(.int .u64 0), (.int .u64 0), (.int .i64 0), (.int .i64 0), (.slice none 0 0)]) 56 rfl Try.underlying40 info34 rfl (by decide) (by omega) u9 x9_3 (⟨t380, t381, t382, t383, t384⟩ : S34) [.int .u64 t380, .int .u64 t381, .int .i64 t382, .int .i64 t383, .slice Ao49 t384.length co49] (fun k_ => some k_ ≠ (.slice (some ad375) t372.length co42 : Value).ownBlock ∧ k_ ≠ gb356 ∧ k_ ≠ gb388) (fun k_ => some k_ = (.slice Ao49 t384.length co49 : Value).ownBlock) rfl rfl ?aP (fun k_ hk_ => ((Kd.R_mono (ok' := fun k_ => ((fun k_ => some k_ ≠ (.slice (some ad375) t372.length co42 : Value).ownBlock ∧ k_ ≠ gb356 ∧ k_ ≠ gb388)) k_ ∧ some k_ ≠ (u9 : Value).ownBlock) (Kd.R_types (Kd.R_types (Kd.R_apart' (Kd.R_apart' (HO386.out) (Kd.S_typed HO_10.out) (by decide)) (Kd.S_typed HO_9.out) (by decide)) BK356.out (by decide)) BK388.out (by decide)) (fun k_ hk => ⟨⟨hk.1.1.1.2, ⟨hk.1.2, hk.2⟩⟩, hk.1.1.2⟩))).1 k_ hk_.symm) ?aF ?aO ?aB ?aS ?aL ?_; (case aP => exact k34_mkM _ _ _ (⟨t380, t381, t382, t383, t384⟩ : S34) (Kd.R_mono (Kd.R_tight rfl (Kd.R_mono (ok' := fun k_ => ((fun k_ => some k_ ≠ (.slice (some ad375) t372.length co42 : Value).ownBlock ∧ k_ ≠ gb356 ∧ k_ ≠ gb388)) k_ ∧ some k_ ≠ (u9 : Value).ownBlock) (Kd.R_types (Kd.R_types (Kd.R_apart' (Kd.R_apart' (HO386.out) (Kd.S_typed HO_10.out) (by decide)) (Kd.S_typed HO_9.out) (by decide)) BK356.out (by decide)) BK388.out (by decide)) (fun k_ hk => ⟨⟨hk.1.1.1.2, ⟨hk.1.2, hk.2⟩⟩, hk.1.1.2⟩))) (fun _ h_ => h_))); (case aB => exact (by repeat (first | (with_reducible first | exact HB.out | apply below_alloc | apply pw_below_drewN | apply below_drew1 | refine below_set ?_ GE356.out | refine below_set ?_ GE388.out) | exact HB.out))); (case aF => exact (fun k_ hk => ⟨Kd.fresh' (Kd.S_lt (by (with_reducible repeat (first | apply Kd.S_alloc | apply Kd.S_drewN | apply Kd.S_drew)); exact HO_10.out)) k_ hk, Kd.freshB (g := gb356) (o := .cells #[.int .u64 a0_0, .int .u64 a0_1, .int .i64 a0_2, .int .i64 a0_3, .slice A0_4 l0_4.length c0_4] 34 (0, 0)) (by (with_reducible repeat (first | refine blk_drewN ?_ _ | refine blk_drew ?_ | refine blk_alloc ?_ _)); exact BK356.out) k_ hk, Kd.freshB (g := gb388) (o := .cells #[.int .u64 t380, .int .u64 t381, .int .i64 t382, .int .i64 t383, .slice Ao49 t384.length co49] 34 (0, 0)) (by (with_reducible repeat (first | refine blk_drewN ?_ _ | refine blk_drew ?_ | refine blk_alloc ?_ _)); exact BK388.out) k_ hk⟩)); (case aO => exact (by (with_reducible repeat (first | apply Kd.S_alloc | apply Kd.S_drewN | apply Kd.S_drew)); exact Kd.S_mono HO_9.out (fun k_ hk => ⟨⟨hk.1, ⟨hk.2.2.1, hk.2.2.2⟩⟩, fun e_ => hk.2.1 e_⟩))); (case aS => exact (below_size (by repeat (first | (with_reducible first | exact HB.out | apply below_alloc | apply pw_below_drewN | apply below_drew1 | refine below_set ?_ GE356.out | refine below_set ?_ GE388.out) | exact HB.out)))); (case aL => have := LMc41.out; omega); intro v390 w52 ho hb hg hat; rw [← Ny389.out] at ho; have n0_ := Aside0.mk (Kd.S_after (ok := (fun k_ => some k_ ≠ (.slice Ao49 t384.length co49 : Value).ownBlock ∧ k_ ≠ gb356 ∧ k_ ≠ gb388)) (by (with_reducible repeat (first | apply Kd.S_alloc | apply Kd.S_drewN | apply Kd.S_drew)); exact Kd.S_mono HO_10.out (fun _ hk => ⟨⟨hk.2.1, ⟨hk.2.2.1, hk.2.2.2⟩⟩, hk.1⟩)) hg hat); have n1_ := Aside0.mk (blk_grown (g := gb356) (o := .cells #[.int .u64 a0_0, .int .u64 a0_1, .int .i64 a0_2, .int .i64 a0_3, .slice A0_4 l0_4.length c0_4] 34 (0, 0)) (by (with_reducible repeat (first | refine blk_drewN ?_ _ | refine blk_drew ?_ | refine blk_alloc ?_ _)); exact BK356.out) hg (Kd.S_away HO_9.out (fun _ hk => hk.2.2.1))); have n2_ := Aside0.mk (Kd.R_after (ok := (fun k_ => some k_ ≠ (.slice (some ad375) t372.length co42 : Value).ownBlock ∧ some k_ ≠ (.slice Ao49 t384.length co49 : Value).ownBlock ∧ k_ ≠ gb356)) (by (with_reducible repeat (first | apply Kd.R_alloc | apply Kd.R_drewN | apply Kd.R_drew)); exact Kd.R_mono HL375_4.out (fun _ hk => ⟨⟨hk.2.1, ⟨hk.2.2.1, hk.2.2.2⟩⟩, hk.1⟩)) hg hat); have n3_ := Aside0.mk (Kd.V_afterv (ok := (fun k_ => some k_ ≠ (.slice (some ad375) t372.length co42 : Value).ownBlock ∧ some k_ ≠ (.slice Ao49 t384.length co49 : Value).ownBlock ∧ k_ ≠ gb356 ∧ k_ ≠ gb388)) (by (with_reducible repeat (first | apply Kd.V_alloc | apply Kd.V_drewN | apply Kd.V_drew)); exact Kd.V_mono HO378.out (fun _ hk => ⟨⟨hk.2.1, ⟨hk.2.2.1, ⟨hk.2.2.2.1, hk.2.2.2.2⟩⟩⟩, hk.1⟩)) hg hat); have n4_ := Aside0.mk (blk_grown (g := gb388) (o := .cells #[.int .u64 t380, .int .u64 t381, .int .i64 t382, .int .i64 t383, .slice Ao49 t384.length co49] 34 (0, 0)) (by (with_reducible repeat (first | refine blk_drewN ?_ _ | refine blk_drew ?_ | refine blk_alloc ?_ _)); exact BK388.out) hg (Kd.S_away HO_9.out (fun _ hk => hk.2.2.2))); have n5_ := Aside0.mk (hb); have n6_ := Aside0.mk (ho); clear HO_10; clear BK356; clear HL375_4; clear HO378; clear BK388; clear HB; clear HO_9; clear HO386; have HO_10 := n0_; have BK356 := n1_; have HL375_4 := n2_; have HO378 := n3_; have BK388 := n4_; have HB := n5_; have HO391 := n6_; clear n0_ n1_ n2_ n3_ n4_ n5_ n6_; clear ho hb hg hat))
                          go_roundg k3
                          case measure => have := HJ2.out; have := HJ11.out; have := HK3.out; omega
                          case rel => exact ⟨(y389), (wrap64 (x11_3 + 1)), (by first | rfl | (simp; done) | (simp [*]; done)), H', ⟨by have := HJ2.out; have := HJ11.out; have := HK3.out; omega⟩, ⟨by (with_reducible repeat (first | apply Kd.S_alloc | apply Kd.S_drewN | apply Kd.S_drew)); exact Kd.S_mono HO391.out (fun _ hk => ⟨hk.1, hk.2.1⟩)⟩, ⟨by (with_reducible repeat (first | apply Kd.S_alloc | apply Kd.S_drewN | apply Kd.S_drew)); exact Kd.S_mono HO_10.out (fun _ hk => ⟨hk.2, hk.1.2.1⟩)⟩, ⟨by (with_reducible repeat (first | refine blk_drewN ?_ _ | refine blk_drew ?_ | refine blk_alloc ?_ _)); exact BK356.out⟩, ⟨by repeat (first | (with_reducible first | exact HB.out | apply below_alloc | apply pw_below_drewN | apply below_drew1 | refine below_set ?_ GE356.out | refine below_set ?_ GE388.out) | exact HB.out)⟩⟩
                        · rw [if_neg c41] at H
                          exact absurd H (by simp)
                      · rw [if_neg c40] at H
                        have c40b0 : (t387 == 0) = false := beq_eq_false_iff_ne.mpr c40
                        have c40b1 : (t387 != 0) = true := bne_iff_ne.mpr c40
                        obtain rfl := Option.some.inj H
                        obtain ⟨Ao53, co53, eo53⟩ := Kd.S_slice HO_10.out
                        subst eo53
                        have p375 : 0 ≤ (x11_3 : Int) := of_decide_eq_true (by first | (with_reducible assumption) | assumption)
                        have q375 : x11_3 < (t372.length : Int) := of_decide_eq_true (by first | (with_reducible assumption) | assumption)
                        obtain ⟨ad375, A375_4, c375_4, e375, hx375_0, hx375_1, hx375_2, hx375_3, hx375_4, hl375_4, hi375_4⟩ := at_T34 (Kd.S_reads' HO_10.out).2.2 x11_3 p375 q375
                        cases e375
                        obtain ⟨ce375, hce375, hMe375, hcc375⟩ := Kd.S_get HO_10.out z34 x11_3 p375 (by first | exact q375 | exact of_decide_eq_true (by first | (with_reducible assumption) | assumption) | (have e_ := (Kd.S_reads' HO_10.out).1; omega))
                        obtain ⟨ve375_4, rfl, ge375_4⟩ := k34_openM hMe375
                        have hv375_4 := hcc375 4 _ rfl
                        rw [add_field _ _ 4 (by omega)] at hv375_4
                        replace hv375_4 := Option.some.inj (hv375_4.symm.trans hx375_4)
                        rw [hv375_4] at ge375_4
                        have HL375_4 := Aside0.mk (show Kd.R (Kd.int .u8) 5 _ _ _ _ ((rd_T34 t372 x11_3).f4) from ge375_4)
                        clear hv375_4 ge375_4
                        clear hcc375 hce375
                        have HR375_4 := Aside0.mk hi375_4
                        have HC375_4 := Aside0.mk hl375_4
                        clear hi375_4 hl375_4
                        replace p375 := eq_true p375
                        replace q375 := eq_true q375
                        go_wp2_with (first | ((with_reducible refine gate_callee (f := 29) rfl ?_); refine goesL_ (some 70) rfl rfl Try.func29 (by kernel_rfl) rfl #[.agg #[.int .u64 ((rd_T34 t372 x11_3).f0), .int .u64 ((rd_T34 t372 x11_3).f1), .int .i64 ((rd_T34 t372 x11_3).f2), .int .i64 ((rd_T34 t372 x11_3).f3), .slice A375_4 ((rd_T34 t372 x11_3).f4).length c375_4]] rfl (by (try simp only [List.map_toArray, List.map_cons, List.map_nil]); first | done | rfl | (simp only [List.length_drop, List.length_take]; rfl)) ?_; (with_reducible refine (cell_Encode.calls k3 ((rd_T34 t372 x11_3).f0) ((rd_T34 t372 x11_3).f1) ((rd_T34 t372 x11_3).f2) ((rd_T34 t372 x11_3).f3) _ _ ((rd_T34 t372 x11_3).f4) t376 t379 _ ?side1 ?side2 A37.out).mono ?_); (case side1 => repeat (first | exact (by repeat (first | (with_reducible exact HR375_4.out) | (with_reducible refine Kd.C_alloc ?_ _) | (with_reducible refine Kd.C_drewN ?_ _) | (with_reducible refine Kd.C_drew ?_) | exact HR375_4.out)) | (with_reducible refine Kd.C_alloc ?_ _) | (with_reducible refine Kd.C_drewN ?_ _) | (with_reducible refine Kd.C_drew ?_))); (case side2 => exact HC375_4.out); rintro e w54 ⟨v377, rfl, ho0, hb⟩; refine ⟨_, rfl, ?_⟩; have n0_ := Aside0.mk (Kd.S_below (by (with_reducible repeat (first | apply Kd.S_alloc | apply Kd.S_drewN | apply Kd.S_drew)); exact HO_9.out) hb); have n1_ := Aside0.mk (Kd.S_below (by (with_reducible repeat (first | apply Kd.S_alloc | apply Kd.S_drewN | apply Kd.S_drew)); exact HO_10.out) hb); have n2_ := Aside0.mk (Kd.R_below (by (with_reducible repeat (first | apply Kd.R_alloc | apply Kd.R_drewN | apply Kd.R_drew)); exact HL375_4.out) hb); have n3_ := Aside0.mk (Kd.V_lower (Kd.V_mono (ok' := fun k_ => some k_ ≠ (u9 : Value).ownBlock ∧ some k_ ≠ (.slice (some ad375) t372.length co53 : Value).ownBlock ∧ k_ ≠ gb356) ho0 (fun k_ hk_ => ⟨(Kd.fresh' (Kd.S_lt (by (with_reducible repeat (first | apply Kd.S_alloc | apply Kd.S_drewN | apply Kd.S_drew)); exact HO_9.out)) k_ hk_), (Kd.fresh' (Kd.S_lt (by (with_reducible repeat (first | apply Kd.S_alloc | apply Kd.S_drewN | apply Kd.S_drew)); exact HO_10.out)) k_ hk_), (Kd.freshB (g := gb356) (o := .cells #[.int .u64 a0_0, .int .u64 a0_1, .int .i64 a0_2, .int .i64 a0_3, .slice A0_4 l0_4.length c0_4] 34 (0, 0)) (by (with_reducible repeat (first | refine blk_drewN ?_ _ | refine blk_drew ?_ | refine blk_alloc ?_ _)); exact BK356.out) k_ hk_)⟩)) (below_size (by repeat (first | (with_reducible first | exact HB.out | apply below_alloc | apply pw_below_drewN | apply below_drew1 | refine below_set ?_ GE356.out) | exact HB.out)))); have n4_ := Aside0.mk (blk_below (g := gb356) (o := .cells #[.int .u64 a0_0, .int .u64 a0_1, .int .i64 a0_2, .int .i64 a0_3, .slice A0_4 l0_4.length c0_4] 34 (0, 0)) (by (with_reducible repeat (first | refine blk_drewN ?_ _ | refine blk_drew ?_ | refine blk_alloc ?_ _)); exact BK356.out) hb); have n5_ := Aside0.mk (Kd.C_below (by repeat (first | (with_reducible exact HR375_4.out) | (with_reducible refine Kd.C_alloc ?_ _) | (with_reducible refine Kd.C_drewN ?_ _) | (with_reducible refine Kd.C_drew ?_) | exact HR375_4.out)) hb); have n6_ := Aside0.mk (below_step (by repeat (first | (with_reducible first | exact HB.out | apply below_alloc | apply pw_below_drewN | apply below_drew1 | refine below_set ?_ GE356.out) | exact HB.out)) hb); clear HO_9; clear HO_10; clear HL375_4; clear BK356; clear HR375_4; clear HB; have HO_9 := n0_; have HO_10 := n1_; have HL375_4 := n2_; have HO378 := n3_; have BK356 := n4_; have HR375_4 := n5_; have HB := n6_; clear n0_ n1_ n2_ n3_ n4_ n5_ n6_; (try clear hb); (try clear hb2); (try clear hk); (try clear hi); (try clear ho0); obtain ⟨Ao55, co55, eo55⟩ := Kd.V_slice HO378.out; subst eo55) | ((with_reducible refine gate_callee (f := 20) rfl ?_); refine goesL_ (some 75) rfl rfl Try.func20 (by kernel_rfl) rfl #[.slice Ao55 t376.length co55] rfl (by (try simp only [List.map_toArray, List.map_cons, List.map_nil]); first | done | rfl | (simp only [List.length_drop, List.length_take]; rfl)) ?_; (with_reducible refine (cell_Decode.calls k3 _ _ t376 t380 t381 t382 t383 t384 t387 _ ?side1 ?side2 A38.out).mono ?_); (case side1 => repeat (first | exact (Kd.V_reads' HO378.out).2.2 | (with_reducible refine Kd.C_alloc ?_ _) | (with_reducible refine Kd.C_drewN ?_ _) | (with_reducible refine Kd.C_drew ?_))); (case side2 => exact (Kd.V_reads' HO378.out).2.1); rintro e w56 ⟨v385, rfl, ho0, hb⟩; refine ⟨_, rfl, ?_⟩; have n0_ := Aside0.mk (Kd.S_elder' (by (with_reducible repeat (first | apply Kd.S_alloc | apply Kd.S_drewN | apply Kd.S_drew)); exact HO_9.out) (Kd.R_base ho0) hb); have n1_ := Aside0.mk (Kd.S_elder' (by (with_reducible repeat (first | apply Kd.S_alloc | apply Kd.S_drewN | apply Kd.S_drew)); exact HO_10.out) (Kd.R_base ho0) hb); have n2_ := Aside0.mk (Kd.R_elder' (by (with_reducible repeat (first | apply Kd.R_alloc | apply Kd.R_drewN | apply Kd.R_drew)); exact HL375_4.out) (Kd.R_base ho0) hb); have n3_ := Aside0.mk (Kd.V_elder' (by (with_reducible repeat (first | apply Kd.V_alloc | apply Kd.V_drewN | apply Kd.V_drew)); exact HO378.out) (Kd.R_base ho0) hb); have n4_ := Aside0.mk (Kd.R_lower (Kd.R_new' ho0 (Kd.R_lt (by (with_reducible repeat (first | apply Kd.R_alloc | apply Kd.R_drewN | apply Kd.R_drew)); exact HL375_4.out))) (below_size (by repeat (first | (with_reducible first | exact HB.out | apply below_alloc | apply pw_below_drewN | apply below_drew1 | refine below_set ?_ GE356.out) | exact HB.out)))); have n5_ := Aside0.mk (blk_below (g := gb356) (o := .cells #[.int .u64 a0_0, .int .u64 a0_1, .int .i64 a0_2, .int .i64 a0_3, .slice A0_4 l0_4.length c0_4] 34 (0, 0)) (by (with_reducible repeat (first | refine blk_drewN ?_ _ | refine blk_drew ?_ | refine blk_alloc ?_ _)); exact BK356.out) hb); have n6_ := Aside0.mk (Kd.C_below (by repeat (first | (with_reducible exact HR375_4.out) | (with_reducible refine Kd.C_alloc ?_ _) | (with_reducible refine Kd.C_drewN ?_ _) | (with_reducible refine Kd.C_drew ?_) | exact HR375_4.out)) hb); have n7_ := Aside0.mk (below_step (by repeat (first | (with_reducible first | exact HB.out | apply below_alloc | apply pw_below_drewN | apply below_drew1 | refine below_set ?_ GE356.out) | exact HB.out)) hb); clear HO_9; clear HO_10; clear HL375_4; clear HO378; clear BK356; clear HR375_4; clear HB; have HO_9 := n0_; have HO_10 := n1_; have HL375_4 := n2_; have HO378 := n3_; have HO386 := n4_; have BK356 := n5_; have HR375_4 := n6_; have HB := n7_; clear n0_ n1_ n2_ n3_ n4_ n5_ n6_ n7_; (try clear hb); (try clear hb2); (try clear hk); (try clear hi); (try clear ho0)) | ((with_reducible refine gate_dst (N := 14) rfl ?_); (try (refine gate_guard (by rfl) ?_; dsimp only)); refine box_event ?hg (N := 14) ?hd (cs := #[.int .u64 0, .int .u64 0, .int .i64 0, .int .i64 0, .slice none 0 0]) (t := 34) ?hr ?_; (case hd => rfl); (case hg => rfl); (case hr => first | (go_simp; done) | (go_simp; rfl)); intro gb388 hg w57 hbox hb; have n0_ := Aside0.mk (Kd.S_below (Kd.S_elderB (by (with_reducible repeat (first | apply Kd.S_alloc | apply Kd.S_drewN | apply Kd.S_drew)); exact HO_9.out) gb388 (Nat.le_of_eq hg.symm)) hb); have n1_ := Aside0.mk (Kd.S_below (Kd.S_elderB (by (with_reducible repeat (first | apply Kd.S_alloc | apply Kd.S_drewN | apply Kd.S_drew)); exact HO_10.out) gb388 (Nat.le_of_eq hg.symm)) hb); have n2_ := Aside0.mk (Kd.R_below (by (with_reducible repeat (first | apply Kd.R_alloc | apply Kd.R_drewN | apply Kd.R_drew)); exact HL375_4.out) hb); have n3_ := Aside0.mk (Kd.V_below (Kd.V_elderB (by (with_reducible repeat (first | apply Kd.V_alloc | apply Kd.V_drewN | apply Kd.V_drew)); exact HO378.out) gb388 (Nat.le_of_eq hg.symm)) hb); have n4_ := Aside0.mk (Kd.R_below (by (with_reducible repeat (first | apply Kd.R_alloc | apply Kd.R_drewN | apply Kd.R_drew)); exact HO386.out) hb); have n5_ := Aside0.mk (blk_below (g := gb356) (o := .cells #[.int .u64 a0_0, .int .u64 a0_1, .int .i64 a0_2, .int .i64 a0_3, .slice A0_4 l0_4.length c0_4] 34 (0, 0)) (by (with_reducible repeat (first | refine blk_drewN ?_ _ | refine blk_drew ?_ | refine blk_alloc ?_ _)); exact BK356.out) hb); have n6_ := Aside0.mk (Kd.C_below (by repeat (first | (with_reducible exact HR375_4.out) | (with_reducible refine Kd.C_alloc ?_ _) | (with_reducible refine Kd.C_drewN ?_ _) | (with_reducible refine Kd.C_drew ?_) | exact HR375_4.out)) hb); have n7_ := Aside0.mk (below_step (by repeat (first | (with_reducible first | exact HB.out | apply below_alloc | apply pw_below_drewN | apply below_drew1 | refine below_set ?_ GE356.out) | exact HB.out)) hb); have n8_ := Aside0.mk (hbox); have n9_ := Aside0.mk ((by rw [hg]; exact (below_size (by repeat (first | (with_reducible first | exact HB.out | apply below_alloc | apply pw_below_drewN | apply below_drew1 | refine below_set ?_ GE356.out) | exact HB.out))) : w.heap.size ≤ gb388)); have n10_ := Aside0.mk ((by rw [hg]; exact (below_size (by repeat (first | (with_reducible first | exact HB.out | apply below_alloc | apply pw_below_drewN | apply below_drew1 | refine below_set ?_ GE356.out) | exact HB.out))) : w.heap.size ≤ gb388)); have n11_ := Aside0.mk ((by rw [hg]; exact Nat.ne_of_lt (blk_lt (g := gb356) (o := .cells #[.int .u64 a0_0, .int .u64 a0_1, .int .i64 a0_2, .int .i64 a0_3, .slice A0_4 l0_4.length c0_4] 34 (0, 0)) (by (with_reducible repeat (first | refine blk_drewN ?_ _ | refine blk_drew ?_ | refine blk_alloc ?_ _)); exact BK356.out)) : gb356 ≠ gb388)); have n12_ := Aside0.mk ((by rw [hg]; exact Nat.ne_of_gt (blk_lt (g := gb356) (o := .cells #[.int .u64 a0_0, .int .u64 a0_1, .int .i64 a0_2, .int .i64 a0_3, .slice A0_4 l0_4.length c0_4] 34 (0, 0)) (by (with_reducible repeat (first | refine blk_drewN ?_ _ | refine blk_drew ?_ | refine blk_alloc ?_ _)); exact BK356.out)) : gb388 ≠ gb356)); clear HO_9; clear HO_10; clear HL375_4; clear HO378; clear HO386; clear BK356; clear HR375_4; clear HB; have HO_9 := n0_; have HO_10 := n1_; have HL375_4 := n2_; have HO378 := n3_; have HO386 := n4_; have BK356 := n5_; have HR375_4 := n6_; have HB := n7_; have BK388 := n8_; have GW388 := n9_; have GE388 := n10_; have NB356_388 := n11_; have NB388_356 := n12_; clear n0_ n1_ n2_ n3_ n4_ n5_ n6_ n7_ n8_ n9_ n10_ n11_ n12_; clear hb hbox hg; have hnb58 := NB388_356.out; have hnc58 := NB356_388.out; have hcz59_0 : w57.cell? ⟨gb388, 0, none⟩ = some (.int .u64 0) := (blk_cell BK388.out 0).trans rfl; have hcz59_1 : w57.cell? ⟨gb388, 1, none⟩ = some (.int .u64 0) := (blk_cell BK388.out 1).trans rfl; have hcz59_2 : w57.cell? ⟨gb388, 2, none⟩ = some (.int .i64 0) := (blk_cell BK388.out 2).trans rfl; have hcz59_3 : w57.cell? ⟨gb388, 3, none⟩ = some (.int .i64 0) := (blk_cell BK388.out 3).trans rfl; have hcz59_4 : w57.cell? ⟨gb388, 4, none⟩ = some (.slice none 0 0) := (blk_cell BK388.out 4).trans rfl; have hfz59_0 := blk_frozen BK388.out 0; have hfz59_1 := blk_frozen BK388.out 1; have hfz59_2 := blk_frozen BK388.out 2; have hfz59_3 := blk_frozen BK388.out 3; have hfz59_4 := blk_frozen BK388.out 4; obtain ⟨Ao60, co60, eo60⟩ := Kd.R_slice HO386.out; subst eo60))
                        go_ret
                        exact ⟨by first | rfl | (simp [errW_none, errW_some] <;> rfl) | (simp [*, errW_none, errW_some] <;> rfl), by repeat (first | (with_reducible first | exact HB.out | apply below_alloc | apply pw_below_drewN | apply below_drew1 | refine below_set ?_ GE356.out | refine below_set ?_ GE388.out) | exact HB.out)⟩
                    · rw [if_neg c39] at H
                      have c39b0 : (t379 == 0) = false := beq_eq_false_iff_ne.mpr c39
                      have c39b1 : (t379 != 0) = true := bne_iff_ne.mpr c39
                      obtain rfl := Option.some.inj H
                      obtain ⟨Ao61, co61, eo61⟩ := Kd.S_slice HO_10.out
                      subst eo61
                      have p375 : 0 ≤ (x11_3 : Int) := of_decide_eq_true (by first | (with_reducible assumption) | assumption)
                      have q375 : x11_3 < (t372.length : Int) := of_decide_eq_true (by first | (with_reducible assumption) | assumption)
                      obtain ⟨ad375, A375_4, c375_4, e375, hx375_0, hx375_1, hx375_2, hx375_3, hx375_4, hl375_4, hi375_4⟩ := at_T34 (Kd.S_reads' HO_10.out).2.2 x11_3 p375 q375
                      cases e375
                      obtain ⟨ce375, hce375, hMe375, hcc375⟩ := Kd.S_get HO_10.out z34 x11_3 p375 (by first | exact q375 | exact of_decide_eq_true (by first | (with_reducible assumption) | assumption) | (have e_ := (Kd.S_reads' HO_10.out).1; omega))
                      obtain ⟨ve375_4, rfl, ge375_4⟩ := k34_openM hMe375
                      have hv375_4 := hcc375 4 _ rfl
                      rw [add_field _ _ 4 (by omega)] at hv375_4
                      replace hv375_4 := Option.some.inj (hv375_4.symm.trans hx375_4)
                      rw [hv375_4] at ge375_4
                      have HL375_4 := Aside0.mk (show Kd.R (Kd.int .u8) 5 _ _ _ _ ((rd_T34 t372 x11_3).f4) from ge375_4)
                      clear hv375_4 ge375_4
                      clear hcc375 hce375
                      have HR375_4 := Aside0.mk hi375_4
                      have HC375_4 := Aside0.mk hl375_4
                      clear hi375_4 hl375_4
                      replace p375 := eq_true p375
                      replace q375 := eq_true q375
                      go_wp2_with (first | ((with_reducible refine gate_callee (f := 29) rfl ?_); refine goesL_ (some 70) rfl rfl Try.func29 (by kernel_rfl) rfl #[.agg #[.int .u64 ((rd_T34 t372 x11_3).f0), .int .u64 ((rd_T34 t372 x11_3).f1), .int .i64 ((rd_T34 t372 x11_3).f2), .int .i64 ((rd_T34 t372 x11_3).f3), .slice A375_4 ((rd_T34 t372 x11_3).f4).length c375_4]] rfl (by (try simp only [List.map_toArray, List.map_cons, List.map_nil]); first | done | rfl | (simp only [List.length_drop, List.length_take]; rfl)) ?_; (with_reducible refine (cell_Encode.calls k3 ((rd_T34 t372 x11_3).f0) ((rd_T34 t372 x11_3).f1) ((rd_T34 t372 x11_3).f2) ((rd_T34 t372 x11_3).f3) _ _ ((rd_T34 t372 x11_3).f4) t376 t379 _ ?side1 ?side2 A37.out).mono ?_); (case side1 => repeat (first | exact (by repeat (first | (with_reducible exact HR375_4.out) | (with_reducible refine Kd.C_alloc ?_ _) | (with_reducible refine Kd.C_drewN ?_ _) | (with_reducible refine Kd.C_drew ?_) | exact HR375_4.out)) | (with_reducible refine Kd.C_alloc ?_ _) | (with_reducible refine Kd.C_drewN ?_ _) | (with_reducible refine Kd.C_drew ?_))); (case side2 => exact HC375_4.out); rintro e w62 ⟨v377, rfl, ho0, hb⟩; refine ⟨_, rfl, ?_⟩; have n0_ := Aside0.mk (Kd.S_below (by (with_reducible repeat (first | apply Kd.S_alloc | apply Kd.S_drewN | apply Kd.S_drew)); exact HO_9.out) hb); have n1_ := Aside0.mk (Kd.S_below (by (with_reducible repeat (first | apply Kd.S_alloc | apply Kd.S_drewN | apply Kd.S_drew)); exact HO_10.out) hb); have n2_ := Aside0.mk (Kd.R_below (by (with_reducible repeat (first | apply Kd.R_alloc | apply Kd.R_drewN | apply Kd.R_drew)); exact HL375_4.out) hb); have n3_ := Aside0.mk (Kd.V_lower (Kd.V_mono (ok' := fun k_ => some k_ ≠ (u9 : Value).ownBlock ∧ some k_ ≠ (.slice (some ad375) t372.length co61 : Value).ownBlock ∧ k_ ≠ gb356) ho0 (fun k_ hk_ => ⟨(Kd.fresh' (Kd.S_lt (by (with_reducible repeat (first | apply Kd.S_alloc | apply Kd.S_drewN | apply Kd.S_drew)); exact HO_9.out)) k_ hk_), (Kd.fresh' (Kd.S_lt (by (with_reducible repeat (first | apply Kd.S_alloc | apply Kd.S_drewN | apply Kd.S_drew)); exact HO_10.out)) k_ hk_), (Kd.freshB (g := gb356) (o := .cells #[.int .u64 a0_0, .int .u64 a0_1, .int .i64 a0_2, .int .i64 a0_3, .slice A0_4 l0_4.length c0_4] 34 (0, 0)) (by (with_reducible repeat (first | refine blk_drewN ?_ _ | refine blk_drew ?_ | refine blk_alloc ?_ _)); exact BK356.out) k_ hk_)⟩)) (below_size (by repeat (first | (with_reducible first | exact HB.out | apply below_alloc | apply pw_below_drewN | apply below_drew1 | refine below_set ?_ GE356.out) | exact HB.out)))); have n4_ := Aside0.mk (blk_below (g := gb356) (o := .cells #[.int .u64 a0_0, .int .u64 a0_1, .int .i64 a0_2, .int .i64 a0_3, .slice A0_4 l0_4.length c0_4] 34 (0, 0)) (by (with_reducible repeat (first | refine blk_drewN ?_ _ | refine blk_drew ?_ | refine blk_alloc ?_ _)); exact BK356.out) hb); have n5_ := Aside0.mk (Kd.C_below (by repeat (first | (with_reducible exact HR375_4.out) | (with_reducible refine Kd.C_alloc ?_ _) | (with_reducible refine Kd.C_drewN ?_ _) | (with_reducible refine Kd.C_drew ?_) | exact HR375_4.out)) hb); have n6_ := Aside0.mk (below_step (by repeat (first | (with_reducible first | exact HB.out | apply below_alloc | apply pw_below_drewN | apply below_drew1 | refine below_set ?_ GE356.out) | exact HB.out)) hb); clear HO_9; clear HO_10; clear HL375_4; clear BK356; clear HR375_4; clear HB; have HO_9 := n0_; have HO_10 := n1_; have HL375_4 := n2_; have HO378 := n3_; have BK356 := n4_; have HR375_4 := n5_; have HB := n6_; clear n0_ n1_ n2_ n3_ n4_ n5_ n6_; (try clear hb); (try clear hb2); (try clear hk); (try clear hi); (try clear ho0); obtain ⟨Ao63, co63, eo63⟩ := Kd.V_slice HO378.out; subst eo63) | ((with_reducible refine gate_callee (f := 20) rfl ?_); refine goesL_ (some 75) rfl rfl Try.func20 (by kernel_rfl) rfl #[.slice Ao63 t376.length co63] rfl (by (try simp only [List.map_toArray, List.map_cons, List.map_nil]); first | done | rfl | (simp only [List.length_drop, List.length_take]; rfl)) ?_; (with_reducible refine (cell_Decode.calls k3 _ _ t376 t380 t381 t382 t383 t384 t387 _ ?side1 ?side2 A38.out).mono ?_); (case side1 => repeat (first | exact (Kd.V_reads' HO378.out).2.2 | (with_reducible refine Kd.C_alloc ?_ _) | (with_reducible refine Kd.C_drewN ?_ _) | (with_reducible refine Kd.C_drew ?_))); (case side2 => exact (Kd.V_reads' HO378.out).2.1); rintro e w64 ⟨v385, rfl, ho0, hb⟩; refine ⟨_, rfl, ?_⟩; have n0_ := Aside0.mk (Kd.S_elder' (by (with_reducible repeat (first | apply Kd.S_alloc | apply Kd.S_drewN | apply Kd.S_drew)); exact HO_9.out) (Kd.R_base ho0) hb); have n1_ := Aside0.mk (Kd.S_elder' (by (with_reducible repeat (first | apply Kd.S_alloc | apply Kd.S_drewN | apply Kd.S_drew)); exact HO_10.out) (Kd.R_base ho0) hb); have n2_ := Aside0.mk (Kd.R_elder' (by (with_reducible repeat (first | apply Kd.R_alloc | apply Kd.R_drewN | apply Kd.R_drew)); exact HL375_4.out) (Kd.R_base ho0) hb); have n3_ := Aside0.mk (Kd.V_elder' (by (with_reducible repeat (first | apply Kd.V_alloc | apply Kd.V_drewN | apply Kd.V_drew)); exact HO378.out) (Kd.R_base ho0) hb); have n4_ := Aside0.mk (Kd.R_lower (Kd.R_new' ho0 (Kd.R_lt (by (with_reducible repeat (first | apply Kd.R_alloc | apply Kd.R_drewN | apply Kd.R_drew)); exact HL375_4.out))) (below_size (by repeat (first | (with_reducible first | exact HB.out | apply below_alloc | apply pw_below_drewN | apply below_drew1 | refine below_set ?_ GE356.out) | exact HB.out)))); have n5_ := Aside0.mk (blk_below (g := gb356) (o := .cells #[.int .u64 a0_0, .int .u64 a0_1, .int .i64 a0_2, .int .i64 a0_3, .slice A0_4 l0_4.length c0_4] 34 (0, 0)) (by (with_reducible repeat (first | refine blk_drewN ?_ _ | refine blk_drew ?_ | refine blk_alloc ?_ _)); exact BK356.out) hb); have n6_ := Aside0.mk (Kd.C_below (by repeat (first | (with_reducible exact HR375_4.out) | (with_reducible refine Kd.C_alloc ?_ _) | (with_reducible refine Kd.C_drewN ?_ _) | (with_reducible refine Kd.C_drew ?_) | exact HR375_4.out)) hb); have n7_ := Aside0.mk (below_step (by repeat (first | (with_reducible first | exact HB.out | apply below_alloc | apply pw_below_drewN | apply below_drew1 | refine below_set ?_ GE356.out) | exact HB.out)) hb); clear HO_9; clear HO_10; clear HL375_4; clear HO378; clear BK356; clear HR375_4; clear HB; have HO_9 := n0_; have HO_10 := n1_; have HL375_4 := n2_; have HO378 := n3_; have HO386 := n4_; have BK356 := n5_; have HR375_4 := n6_; have HB := n7_; clear n0_ n1_ n2_ n3_ n4_ n5_ n6_ n7_; (try clear hb); (try clear hb2); (try clear hk); (try clear hi); (try clear ho0)) | ((with_reducible refine gate_dst (N := 14) rfl ?_); (try (refine gate_guard (by rfl) ?_; dsimp only)); refine box_event ?hg (N := 14) ?hd (cs := #[.int .u64 0, .int .u64 0, .int .i64 0, .int .i64 0, .slice none 0 0]) (t := 34) ?hr ?_; (case hd => rfl); (case hg => rfl); (case hr => first | (go_simp; done) | (go_simp; rfl)); intro gb388 hg w65 hbox hb; have n0_ := Aside0.mk (Kd.S_below (Kd.S_elderB (by (with_reducible repeat (first | apply Kd.S_alloc | apply Kd.S_drewN | apply Kd.S_drew)); exact HO_9.out) gb388 (Nat.le_of_eq hg.symm)) hb); have n1_ := Aside0.mk (Kd.S_below (Kd.S_elderB (by (with_reducible repeat (first | apply Kd.S_alloc | apply Kd.S_drewN | apply Kd.S_drew)); exact HO_10.out) gb388 (Nat.le_of_eq hg.symm)) hb); have n2_ := Aside0.mk (Kd.R_below (by (with_reducible repeat (first | apply Kd.R_alloc | apply Kd.R_drewN | apply Kd.R_drew)); exact HL375_4.out) hb); have n3_ := Aside0.mk (Kd.V_below (Kd.V_elderB (by (with_reducible repeat (first | apply Kd.V_alloc | apply Kd.V_drewN | apply Kd.V_drew)); exact HO378.out) gb388 (Nat.le_of_eq hg.symm)) hb); have n4_ := Aside0.mk (Kd.R_below (by (with_reducible repeat (first | apply Kd.R_alloc | apply Kd.R_drewN | apply Kd.R_drew)); exact HO386.out) hb); have n5_ := Aside0.mk (blk_below (g := gb356) (o := .cells #[.int .u64 a0_0, .int .u64 a0_1, .int .i64 a0_2, .int .i64 a0_3, .slice A0_4 l0_4.length c0_4] 34 (0, 0)) (by (with_reducible repeat (first | refine blk_drewN ?_ _ | refine blk_drew ?_ | refine blk_alloc ?_ _)); exact BK356.out) hb); have n6_ := Aside0.mk (Kd.C_below (by repeat (first | (with_reducible exact HR375_4.out) | (with_reducible refine Kd.C_alloc ?_ _) | (with_reducible refine Kd.C_drewN ?_ _) | (with_reducible refine Kd.C_drew ?_) | exact HR375_4.out)) hb); have n7_ := Aside0.mk (below_step (by repeat (first | (with_reducible first | exact HB.out | apply below_alloc | apply pw_below_drewN | apply below_drew1 | refine below_set ?_ GE356.out) | exact HB.out)) hb); have n8_ := Aside0.mk (hbox); have n9_ := Aside0.mk ((by rw [hg]; exact (below_size (by repeat (first | (with_reducible first | exact HB.out | apply below_alloc | apply pw_below_drewN | apply below_drew1 | refine below_set ?_ GE356.out) | exact HB.out))) : w.heap.size ≤ gb388)); have n10_ := Aside0.mk ((by rw [hg]; exact (below_size (by repeat (first | (with_reducible first | exact HB.out | apply below_alloc | apply pw_below_drewN | apply below_drew1 | refine below_set ?_ GE356.out) | exact HB.out))) : w.heap.size ≤ gb388)); have n11_ := Aside0.mk ((by rw [hg]; exact Nat.ne_of_lt (blk_lt (g := gb356) (o := .cells #[.int .u64 a0_0, .int .u64 a0_1, .int .i64 a0_2, .int .i64 a0_3, .slice A0_4 l0_4.length c0_4] 34 (0, 0)) (by (with_reducible repeat (first | refine blk_drewN ?_ _ | refine blk_drew ?_ | refine blk_alloc ?_ _)); exact BK356.out)) : gb356 ≠ gb388)); have n12_ := Aside0.mk ((by rw [hg]; exact Nat.ne_of_gt (blk_lt (g := gb356) (o := .cells #[.int .u64 a0_0, .int .u64 a0_1, .int .i64 a0_2, .int .i64 a0_3, .slice A0_4 l0_4.length c0_4] 34 (0, 0)) (by (with_reducible repeat (first | refine blk_drewN ?_ _ | refine blk_drew ?_ | refine blk_alloc ?_ _)); exact BK356.out)) : gb388 ≠ gb356)); clear HO_9; clear HO_10; clear HL375_4; clear HO378; clear HO386; clear BK356; clear HR375_4; clear HB; have HO_9 := n0_; have HO_10 := n1_; have HL375_4 := n2_; have HO378 := n3_; have HO386 := n4_; have BK356 := n5_; have HR375_4 := n6_; have HB := n7_; have BK388 := n8_; have GW388 := n9_; have GE388 := n10_; have NB356_388 := n11_; have NB388_356 := n12_; clear n0_ n1_ n2_ n3_ n4_ n5_ n6_ n7_ n8_ n9_ n10_ n11_ n12_; clear hb hbox hg; have hnb66 := NB388_356.out; have hnc66 := NB356_388.out; have hcz67_0 : w65.cell? ⟨gb388, 0, none⟩ = some (.int .u64 0) := (blk_cell BK388.out 0).trans rfl; have hcz67_1 : w65.cell? ⟨gb388, 1, none⟩ = some (.int .u64 0) := (blk_cell BK388.out 1).trans rfl; have hcz67_2 : w65.cell? ⟨gb388, 2, none⟩ = some (.int .i64 0) := (blk_cell BK388.out 2).trans rfl; have hcz67_3 : w65.cell? ⟨gb388, 3, none⟩ = some (.int .i64 0) := (blk_cell BK388.out 3).trans rfl; have hcz67_4 : w65.cell? ⟨gb388, 4, none⟩ = some (.slice none 0 0) := (blk_cell BK388.out 4).trans rfl; have hfz67_0 := blk_frozen BK388.out 0; have hfz67_1 := blk_frozen BK388.out 1; have hfz67_2 := blk_frozen BK388.out 2; have hfz67_3 := blk_frozen BK388.out 3; have hfz67_4 := blk_frozen BK388.out 4; obtain ⟨Ao68, co68, eo68⟩ := Kd.R_slice HO386.out; subst eo68))
                      go_ret
                      exact ⟨by first | rfl | (simp [errW_none, errW_some] <;> rfl) | (simp [*, errW_none, errW_some] <;> rfl), by repeat (first | (with_reducible first | exact HB.out | apply below_alloc | apply pw_below_drewN | apply below_drew1 | refine below_set ?_ GE356.out | refine below_set ?_ GE388.out) | exact HB.out)⟩
                  · rw [if_neg c36] at H
                    exact absurd H (by simp)
                · rw [if_neg c35] at H
                  have c35b0 : decide (x11_3 < (t372.length : Int)) = false := decide_eq_false c35
                  clear c35
                  replace H := Option.bind_eq_some_iff.mp H
                  obtain ⟨⟨t392, t393⟩, A690, H⟩ := H
                  replace H : ((marginalialaw16_alive.f k3).bind fun t396 => (if t396 = true then (if (t393 == (decide ((l1.length : Int) > 0))) = true then (some ((strOfNums t392).toList == (strOfNums l1).toList)) else (some false)) else (some false))) = some r := H
                  have A69 := Aside0.mk A690
                  clear A690
                  replace H := Option.bind_eq_some_iff.mp H
                  obtain ⟨t396, A700, H⟩ := H
                  replace H : (if t396 = true then (if (t393 == (decide ((l1.length : Int) > 0))) = true then (some ((strOfNums t392).toList == (strOfNums l1).toList)) else (some false)) else (some false)) = some r := H
                  have A70 := Aside0.mk A700
                  clear A700
                  by_cases c71 : t396 = true
                  · subst c71
                    have H1 : (if (t393 == (decide ((l1.length : Int) > 0))) = true then (some ((strOfNums t392).toList == (strOfNums l1).toList)) else (some false)) = some r := by rw [if_pos rfl] at H; exact H
                    clear H
                    have H := H1
                    clear H1
                    by_cases c72 : (t393 == (decide ((l1.length : Int) > 0))) = true
                    · rw [if_pos c72] at H
                      have c72b0 : (t393 == (decide ((l1.length : Int) > 0))) = true := c72
                      (try (have c72b1 : decide (t393 = (decide ((l1.length : Int) > 0))) = true := by simpa using c72))
                      (try (have c72b2 : (t393 == (decide ((l1.length : Int) > 0))) = true := by simpa using c72))
                      clear c72
                      obtain rfl := Option.some.inj H
                      obtain ⟨Ao73, co73, eo73⟩ := Kd.S_slice HO_10.out
                      subst eo73
                      obtain ⟨Ao74, co74, eo74⟩ := Kd.S_slice HO_9.out
                      subst eo74
                      go_wp2_with (first | ((with_reducible refine gate_callee (f := 27) rfl ?_); refine goesL_ (some 90) rfl rfl Try.func27 (by kernel_rfl) rfl #[.slice Ao74 x9_3.length co74] rfl (by (try simp only [List.map_toArray, List.map_cons, List.map_nil]); first | done | rfl | (simp only [List.length_drop, List.length_take]; rfl)) ?_; (with_reducible refine (cell_Join.calls k3 _ _ x9_3 t392 t393 _ ?side1 ?side2 A69.out).mono ?_); (case side1 => repeat (first | exact (Kd.S_reads' HO_9.out).2.2 | (with_reducible refine Kd.C_alloc ?_ _) | (with_reducible refine Kd.C_drewN ?_ _) | (with_reducible refine Kd.C_drew ?_))); (case side2 => exact (Kd.S_reads' HO_9.out).2.1); rintro e w75 ⟨v394, rfl, ho0, hb⟩; refine ⟨_, rfl, ?_⟩; have n0_ := Aside0.mk (Kd.S_elder' (by (with_reducible repeat (first | apply Kd.S_alloc | apply Kd.S_drewN | apply Kd.S_drew)); exact HO_9.out) (Kd.R_base ho0) hb); have n1_ := Aside0.mk (Kd.S_elder' (by (with_reducible repeat (first | apply Kd.S_alloc | apply Kd.S_drewN | apply Kd.S_drew)); exact HO_10.out) (Kd.R_base ho0) hb); have n2_ := Aside0.mk (Kd.R_lower ho0 (below_size (by repeat (first | (with_reducible first | exact HB.out | apply below_alloc | apply pw_below_drewN | apply below_drew1 | refine below_set ?_ GE356.out) | exact HB.out)))); have n3_ := Aside0.mk (blk_below (g := gb356) (o := .cells #[.int .u64 a0_0, .int .u64 a0_1, .int .i64 a0_2, .int .i64 a0_3, .slice A0_4 l0_4.length c0_4] 34 (0, 0)) (by (with_reducible repeat (first | refine blk_drewN ?_ _ | refine blk_drew ?_ | refine blk_alloc ?_ _)); exact BK356.out) hb); have n4_ := Aside0.mk (below_step (by repeat (first | (with_reducible first | exact HB.out | apply below_alloc | apply pw_below_drewN | apply below_drew1 | refine below_set ?_ GE356.out) | exact HB.out)) hb); clear HO_9; clear HO_10; clear BK356; clear HB; have HO_9 := n0_; have HO_10 := n1_; have HO395 := n2_; have BK356 := n3_; have HB := n4_; clear n0_ n1_ n2_ n3_ n4_; (try clear hb); (try clear hb2); (try clear hk); (try clear hi); (try clear ho0)) | ((with_reducible refine gate_callee (f := 19) rfl ?_); refine goesL_ (some 93) rfl rfl Try.func19 (by kernel_rfl) rfl #[] rfl (by (try simp only [List.map_toArray, List.map_cons, List.map_nil]); first | done | rfl | (simp only [List.length_drop, List.length_take]; rfl)) ?_; (with_reducible refine (marginalialaw16_alive.calls k3  true _ A70.out).mono ?_); rintro e w76 ⟨rfl, hb⟩; refine ⟨_, rfl, ?_⟩; have n0_ := Aside0.mk (Kd.S_below (by (with_reducible repeat (first | apply Kd.S_alloc | apply Kd.S_drewN | apply Kd.S_drew)); exact HO_9.out) hb); have n1_ := Aside0.mk (Kd.S_below (by (with_reducible repeat (first | apply Kd.S_alloc | apply Kd.S_drewN | apply Kd.S_drew)); exact HO_10.out) hb); have n2_ := Aside0.mk (Kd.R_below (by (with_reducible repeat (first | apply Kd.R_alloc | apply Kd.R_drewN | apply Kd.R_drew)); exact HO395.out) hb); have n3_ := Aside0.mk (blk_below (g := gb356) (o := .cells #[.int .u64 a0_0, .int .u64 a0_1, .int .i64 a0_2, .int .i64 a0_3, .slice A0_4 l0_4.length c0_4] 34 (0, 0)) (by (with_reducible repeat (first | refine blk_drewN ?_ _ | refine blk_drew ?_ | refine blk_alloc ?_ _)); exact BK356.out) hb); have n4_ := Aside0.mk (below_step (by repeat (first | (with_reducible first | exact HB.out | apply below_alloc | apply pw_below_drewN | apply below_drew1 | refine below_set ?_ GE356.out) | exact HB.out)) hb); clear HO_9; clear HO_10; clear HO395; clear BK356; clear HB; have HO_9 := n0_; have HO_10 := n1_; have HO395 := n2_; have BK356 := n3_; have HB := n4_; clear n0_ n1_ n2_ n3_ n4_; (try clear hb); (try clear hb2); (try clear hk); (try clear hi); have hcv77 := own_string (P := Try.prog) Try.underlying22 Try.underlying5 Try.underlying9 (Kd.own_of_R HO395.out); have hcd77 := fun (nq_ : Nat) => own_string (P := Try.prog) Try.underlying22 Try.underlying5 Try.underlying9 (Kd.own_of_R (Kd.R_drewN HO395.out nq_)); have hcv78 := Kd.C_string (P := Try.prog) (A := A1) (c := c1) Try.underlying22 Try.underlying5 Try.underlying9 (Kd.C_below HR1.out HB.out); have hcd78 := fun (nq_ : Nat) => Kd.C_string (P := Try.prog) (A := A1) (c := c1) Try.underlying22 Try.underlying5 Try.underlying9 (Kd.C_drewN (Kd.C_below HR1.out HB.out) nq_)))
                      any_goals (try (exfalso; rename_i hq_; exact hq_ (by simpa using c72b0)))
                      go_ret
                      exact ⟨by first | rfl | (simp [errW_none, errW_some] <;> rfl) | (simp [*, errW_none, errW_some] <;> rfl), by repeat (first | (with_reducible first | exact HB.out | apply below_alloc | apply pw_below_drewN | apply below_drew1 | refine below_set ?_ GE356.out) | exact HB.out)⟩
                    · rw [if_neg c72] at H
                      have c72b0 : (t393 == (decide ((l1.length : Int) > 0))) = false := by simpa using c72
                      (try (have c72b1 : decide (t393 = (decide ((l1.length : Int) > 0))) = false := by simpa using c72))
                      (try (have c72b2 : (t393 == (decide ((l1.length : Int) > 0))) = false := by simpa using c72))
                      (try (have c72b3 : ¬ (t393 = (decide ((l1.length : Int) > 0))) := by simpa using c72))
                      clear c72
                      obtain rfl := Option.some.inj H
                      obtain ⟨Ao79, co79, eo79⟩ := Kd.S_slice HO_10.out
                      subst eo79
                      obtain ⟨Ao80, co80, eo80⟩ := Kd.S_slice HO_9.out
                      subst eo80
                      go_wp2_with (first | ((with_reducible refine gate_callee (f := 27) rfl ?_); refine goesL_ (some 90) rfl rfl Try.func27 (by kernel_rfl) rfl #[.slice Ao80 x9_3.length co80] rfl (by (try simp only [List.map_toArray, List.map_cons, List.map_nil]); first | done | rfl | (simp only [List.length_drop, List.length_take]; rfl)) ?_; (with_reducible refine (cell_Join.calls k3 _ _ x9_3 t392 t393 _ ?side1 ?side2 A69.out).mono ?_); (case side1 => repeat (first | exact (Kd.S_reads' HO_9.out).2.2 | (with_reducible refine Kd.C_alloc ?_ _) | (with_reducible refine Kd.C_drewN ?_ _) | (with_reducible refine Kd.C_drew ?_))); (case side2 => exact (Kd.S_reads' HO_9.out).2.1); rintro e w81 ⟨v394, rfl, ho0, hb⟩; refine ⟨_, rfl, ?_⟩; have n0_ := Aside0.mk (Kd.S_elder' (by (with_reducible repeat (first | apply Kd.S_alloc | apply Kd.S_drewN | apply Kd.S_drew)); exact HO_9.out) (Kd.R_base ho0) hb); have n1_ := Aside0.mk (Kd.S_elder' (by (with_reducible repeat (first | apply Kd.S_alloc | apply Kd.S_drewN | apply Kd.S_drew)); exact HO_10.out) (Kd.R_base ho0) hb); have n2_ := Aside0.mk (Kd.R_lower ho0 (below_size (by repeat (first | (with_reducible first | exact HB.out | apply below_alloc | apply pw_below_drewN | apply below_drew1 | refine below_set ?_ GE356.out) | exact HB.out)))); have n3_ := Aside0.mk (blk_below (g := gb356) (o := .cells #[.int .u64 a0_0, .int .u64 a0_1, .int .i64 a0_2, .int .i64 a0_3, .slice A0_4 l0_4.length c0_4] 34 (0, 0)) (by (with_reducible repeat (first | refine blk_drewN ?_ _ | refine blk_drew ?_ | refine blk_alloc ?_ _)); exact BK356.out) hb); have n4_ := Aside0.mk (below_step (by repeat (first | (with_reducible first | exact HB.out | apply below_alloc | apply pw_below_drewN | apply below_drew1 | refine below_set ?_ GE356.out) | exact HB.out)) hb); clear HO_9; clear HO_10; clear BK356; clear HB; have HO_9 := n0_; have HO_10 := n1_; have HO395 := n2_; have BK356 := n3_; have HB := n4_; clear n0_ n1_ n2_ n3_ n4_; (try clear hb); (try clear hb2); (try clear hk); (try clear hi); (try clear ho0)) | ((with_reducible refine gate_callee (f := 19) rfl ?_); refine goesL_ (some 93) rfl rfl Try.func19 (by kernel_rfl) rfl #[] rfl (by (try simp only [List.map_toArray, List.map_cons, List.map_nil]); first | done | rfl | (simp only [List.length_drop, List.length_take]; rfl)) ?_; (with_reducible refine (marginalialaw16_alive.calls k3  true _ A70.out).mono ?_); rintro e w82 ⟨rfl, hb⟩; refine ⟨_, rfl, ?_⟩; have n0_ := Aside0.mk (Kd.S_below (by (with_reducible repeat (first | apply Kd.S_alloc | apply Kd.S_drewN | apply Kd.S_drew)); exact HO_9.out) hb); have n1_ := Aside0.mk (Kd.S_below (by (with_reducible repeat (first | apply Kd.S_alloc | apply Kd.S_drewN | apply Kd.S_drew)); exact HO_10.out) hb); have n2_ := Aside0.mk (Kd.R_below (by (with_reducible repeat (first | apply Kd.R_alloc | apply Kd.R_drewN | apply Kd.R_drew)); exact HO395.out) hb); have n3_ := Aside0.mk (blk_below (g := gb356) (o := .cells #[.int .u64 a0_0, .int .u64 a0_1, .int .i64 a0_2, .int .i64 a0_3, .slice A0_4 l0_4.length c0_4] 34 (0, 0)) (by (with_reducible repeat (first | refine blk_drewN ?_ _ | refine blk_drew ?_ | refine blk_alloc ?_ _)); exact BK356.out) hb); have n4_ := Aside0.mk (below_step (by repeat (first | (with_reducible first | exact HB.out | apply below_alloc | apply pw_below_drewN | apply below_drew1 | refine below_set ?_ GE356.out) | exact HB.out)) hb); clear HO_9; clear HO_10; clear HO395; clear BK356; clear HB; have HO_9 := n0_; have HO_10 := n1_; have HO395 := n2_; have BK356 := n3_; have HB := n4_; clear n0_ n1_ n2_ n3_ n4_; (try clear hb); (try clear hb2); (try clear hk); (try clear hi)))
                      any_goals (try (exfalso; rename _ = decide _ => hq_; have hb_ := c72b0; rw [hq_] at hb_; simp at hb_))
                      go_ret
                      exact ⟨by first | rfl | (simp [errW_none, errW_some] <;> rfl) | (simp [*, errW_none, errW_some] <;> rfl), by repeat (first | (with_reducible first | exact HB.out | apply below_alloc | apply pw_below_drewN | apply below_drew1 | refine below_set ?_ GE356.out) | exact HB.out)⟩
                  · replace c71 := Bool.eq_false_iff.mpr c71
                    subst c71
                    have H1 : (some false) = some r := by rw [if_neg (show ¬ (false = true) by decide)] at H; exact H
                    clear H
                    have H := H1
                    clear H1
                    obtain rfl := Option.some.inj H
                    obtain ⟨Ao83, co83, eo83⟩ := Kd.S_slice HO_10.out
                    subst eo83
                    obtain ⟨Ao84, co84, eo84⟩ := Kd.S_slice HO_9.out
                    subst eo84
                    go_wp2_with (first | ((with_reducible refine gate_callee (f := 27) rfl ?_); refine goesL_ (some 90) rfl rfl Try.func27 (by kernel_rfl) rfl #[.slice Ao84 x9_3.length co84] rfl (by (try simp only [List.map_toArray, List.map_cons, List.map_nil]); first | done | rfl | (simp only [List.length_drop, List.length_take]; rfl)) ?_; (with_reducible refine (cell_Join.calls k3 _ _ x9_3 t392 t393 _ ?side1 ?side2 A69.out).mono ?_); (case side1 => repeat (first | exact (Kd.S_reads' HO_9.out).2.2 | (with_reducible refine Kd.C_alloc ?_ _) | (with_reducible refine Kd.C_drewN ?_ _) | (with_reducible refine Kd.C_drew ?_))); (case side2 => exact (Kd.S_reads' HO_9.out).2.1); rintro e w85 ⟨v394, rfl, ho0, hb⟩; refine ⟨_, rfl, ?_⟩; have n0_ := Aside0.mk (Kd.S_elder' (by (with_reducible repeat (first | apply Kd.S_alloc | apply Kd.S_drewN | apply Kd.S_drew)); exact HO_9.out) (Kd.R_base ho0) hb); have n1_ := Aside0.mk (Kd.S_elder' (by (with_reducible repeat (first | apply Kd.S_alloc | apply Kd.S_drewN | apply Kd.S_drew)); exact HO_10.out) (Kd.R_base ho0) hb); have n2_ := Aside0.mk (Kd.R_lower ho0 (below_size (by repeat (first | (with_reducible first | exact HB.out | apply below_alloc | apply pw_below_drewN | apply below_drew1 | refine below_set ?_ GE356.out) | exact HB.out)))); have n3_ := Aside0.mk (blk_below (g := gb356) (o := .cells #[.int .u64 a0_0, .int .u64 a0_1, .int .i64 a0_2, .int .i64 a0_3, .slice A0_4 l0_4.length c0_4] 34 (0, 0)) (by (with_reducible repeat (first | refine blk_drewN ?_ _ | refine blk_drew ?_ | refine blk_alloc ?_ _)); exact BK356.out) hb); have n4_ := Aside0.mk (below_step (by repeat (first | (with_reducible first | exact HB.out | apply below_alloc | apply pw_below_drewN | apply below_drew1 | refine below_set ?_ GE356.out) | exact HB.out)) hb); clear HO_9; clear HO_10; clear BK356; clear HB; have HO_9 := n0_; have HO_10 := n1_; have HO395 := n2_; have BK356 := n3_; have HB := n4_; clear n0_ n1_ n2_ n3_ n4_; (try clear hb); (try clear hb2); (try clear hk); (try clear hi); (try clear ho0)) | ((with_reducible refine gate_callee (f := 19) rfl ?_); refine goesL_ (some 93) rfl rfl Try.func19 (by kernel_rfl) rfl #[] rfl (by (try simp only [List.map_toArray, List.map_cons, List.map_nil]); first | done | rfl | (simp only [List.length_drop, List.length_take]; rfl)) ?_; (with_reducible refine (marginalialaw16_alive.calls k3  false _ A70.out).mono ?_); rintro e w86 ⟨rfl, hb⟩; refine ⟨_, rfl, ?_⟩; have n0_ := Aside0.mk (Kd.S_below (by (with_reducible repeat (first | apply Kd.S_alloc | apply Kd.S_drewN | apply Kd.S_drew)); exact HO_9.out) hb); have n1_ := Aside0.mk (Kd.S_below (by (with_reducible repeat (first | apply Kd.S_alloc | apply Kd.S_drewN | apply Kd.S_drew)); exact HO_10.out) hb); have n2_ := Aside0.mk (Kd.R_below (by (with_reducible repeat (first | apply Kd.R_alloc | apply Kd.R_drewN | apply Kd.R_drew)); exact HO395.out) hb); have n3_ := Aside0.mk (blk_below (g := gb356) (o := .cells #[.int .u64 a0_0, .int .u64 a0_1, .int .i64 a0_2, .int .i64 a0_3, .slice A0_4 l0_4.length c0_4] 34 (0, 0)) (by (with_reducible repeat (first | refine blk_drewN ?_ _ | refine blk_drew ?_ | refine blk_alloc ?_ _)); exact BK356.out) hb); have n4_ := Aside0.mk (below_step (by repeat (first | (with_reducible first | exact HB.out | apply below_alloc | apply pw_below_drewN | apply below_drew1 | refine below_set ?_ GE356.out) | exact HB.out)) hb); clear HO_9; clear HO_10; clear HO395; clear BK356; clear HB; have HO_9 := n0_; have HO_10 := n1_; have HO395 := n2_; have BK356 := n3_; have HB := n4_; clear n0_ n1_ n2_ n3_ n4_; (try clear hb); (try clear hb2); (try clear hk); (try clear hi)))
                    go_ret
                    exact ⟨by first | rfl | (simp [errW_none, errW_some] <;> rfl) | (simp [*, errW_none, errW_some] <;> rfl), by repeat (first | (with_reducible first | exact HB.out | apply below_alloc | apply pw_below_drewN | apply below_drew1 | refine below_set ?_ GE356.out) | exact HB.out)⟩

end Go.Proofs.Ytnmopjmlilekjaa.K
