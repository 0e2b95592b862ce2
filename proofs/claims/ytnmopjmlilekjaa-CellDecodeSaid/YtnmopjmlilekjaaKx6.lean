/- The functions of the program that these laws reach, each as a plain Lean function, and the proof that the machine's call comes to it; no condition beyond those that each theorem names. Made by wip/xprint.py. -/
import Derived.Test.YtnmopjmlilekjaaKx0
import Derived.Test.YtnmopjmlilekjaaKx2
import Derived.Test.YtnmopjmlilekjaaKx3
import Derived.Test.YtnmopjmlilekjaaKx5
namespace Go.Proofs.Ytnmopjmlilekjaa.K
open Go.RowKit Go.Proofs.YtnmopjmlilekjaaW.PrintWords Go.Proofs.YtnmopjmlilekjaaW.PrintLast Go.Proofs.YtnmopjmlilekjaaW.PrintMore
attribute [local go_sem] max2_int min2_int max_two min_two max_three min_three max_four min_four   -- for this text's walks alone
set_option linter.unusedVariables false
set_option linter.unusedSimpArgs false

/-! ### marginaliaref16_Same: function 22 -/
def marginaliaref16_Same.f (a0_0 : Int) (a0_1 : Int) (a0_2 : Int) (a0_3 : Int) (l0_4 : List Int) (a1_0 : Int) (a1_1 : Int) (a1_2 : Int) (a1_3 : Int) (l1_4 : List Int) : Option (Bool) := if a0_0 = a1_0 then (if a0_1 = a1_1 then (if a0_2 = a1_2 then (if a0_3 = a1_3 then (some ((strOfNums l0_4).toList == (strOfNums l1_4).toList)) else (some false)) else (some false)) else (some false)) else (some false)
set_option maxHeartbeats 8000000 in
set_option maxRecDepth 100000 in
theorem marginaliaref16_Same.calls (a0_0 : Int) (a0_1 : Int) (a0_2 : Int) (a0_3 : Int) (A0_4 : Option Addr) (c0_4 : Nat) (l0_4 : List Int) (a1_0 : Int) (a1_1 : Int) (a1_2 : Int) (a1_3 : Int) (A1_4 : Option Addr) (c1_4 : Nat) (l1_4 : List Int) (r : Bool) (w : World) (hr0_4 : Kd.C (Kd.int .u8) w A0_4 l0_4.length l0_4) (hc0_4 : l0_4.length ≤ c0_4) (hr1_4 : Kd.C (Kd.int .u8) w A1_4 l1_4.length l1_4) (hc1_4 : l1_4.length ≤ c1_4) (h : marginaliaref16_Same.f a0_0 a0_1 a0_2 a0_3 l0_4 a1_0 a1_1 a1_2 a1_3 l1_4 = some r) :
    Calls Try.prog 22 #[.agg #[.int .u64 a0_0, .int .u64 a0_1, .int .i64 a0_2, .int .i64 a0_3, .slice A0_4 l0_4.length c0_4], .agg #[.int .u64 a1_0, .int .u64 a1_1, .int .i64 a1_2, .int .i64 a1_3, .slice A1_4 l1_4.length c1_4]] w fun e w' => e = .returned (.bool r) ∧ Below w.heap.size w w' := by
  have hu34 := Try.underlying34
  have HR0_4 := Aside0.mk hr0_4
  have HC0_4 := Aside0.mk hc0_4
  clear hr0_4 hc0_4
  have HR1_4 := Aside0.mk hr1_4
  have HC1_4 := Aside0.mk hc1_4
  clear hr1_4 hc1_4
  have HB := Aside0.mk (Below.refl w.heap.size w)
  have H : (if a0_0 = a1_0 then (if a0_1 = a1_1 then (if a0_2 = a1_2 then (if a0_3 = a1_3 then (some ((strOfNums l0_4).toList == (strOfNums l1_4).toList)) else (some false)) else (some false)) else (some false)) else (some false)) = some r := h
  clear h
  by_cases c3 : a0_0 = a1_0
  · rw [if_pos c3] at H
    have c3b0 : (a0_0 == a1_0) = true := beq_iff_eq.mpr c3
    have c3b1 : (a0_0 != a1_0) = false := bne_eq_false_iff_eq.mpr c3
    clear c3
    by_cases c4 : a0_1 = a1_1
    · rw [if_pos c4] at H
      have c4b0 : (a0_1 == a1_1) = true := beq_iff_eq.mpr c4
      have c4b1 : (a0_1 != a1_1) = false := bne_eq_false_iff_eq.mpr c4
      clear c4
      by_cases c5 : a0_2 = a1_2
      · rw [if_pos c5] at H
        have c5b0 : (a0_2 == a1_2) = true := beq_iff_eq.mpr c5
        have c5b1 : (a0_2 != a1_2) = false := bne_eq_false_iff_eq.mpr c5
        clear c5
        by_cases c6 : a0_3 = a1_3
        · rw [if_pos c6] at H
          have c6b0 : (a0_3 == a1_3) = true := beq_iff_eq.mpr c6
          have c6b1 : (a0_3 != a1_3) = false := bne_eq_false_iff_eq.mpr c6
          clear c6
          obtain rfl := Option.some.inj H
          go_enter Try.func22, Try.ntmps22
          go_wp2_with (first | ((with_reducible refine gate_dst (N := 2) rfl ?_); refine box_event ?hg (N := 2) ?hd (cs := #[.int .u64 a0_0, .int .u64 a0_1, .int .i64 a0_2, .int .i64 a0_3, .slice A0_4 l0_4.length c0_4]) (t := 34) ?hr ?_; (case hd => rfl); (case hg => rfl); (case hr => first | (go_simp; done) | (go_simp; rfl)); intro gb219 hg w7 hbox hb; have n0_ := Aside0.mk (below_step (by repeat (first | (with_reducible first | exact HB.out | apply below_alloc | apply pw_below_drewN | apply below_drew1) | exact HB.out)) hb); have n1_ := Aside0.mk (hbox); have n2_ := Aside0.mk ((by rw [hg]; exact (below_size (by repeat (first | (with_reducible first | exact HB.out | apply below_alloc | apply pw_below_drewN | apply below_drew1) | exact HB.out))) : w.heap.size ≤ gb219)); have n3_ := Aside0.mk ((by rw [hg]; exact (below_size (by repeat (first | (with_reducible first | exact HB.out | apply below_alloc | apply pw_below_drewN | apply below_drew1) | exact HB.out))) : w.heap.size ≤ gb219)); clear HB; have HB := n0_; have BK219 := n1_; have GW219 := n2_; have GE219 := n3_; clear n0_ n1_ n2_ n3_; clear hb hbox hg) | ((with_reducible refine gate_dst (N := 3) rfl ?_); refine box_event ?hg (N := 3) ?hd (cs := #[.int .u64 a1_0, .int .u64 a1_1, .int .i64 a1_2, .int .i64 a1_3, .slice A1_4 l1_4.length c1_4]) (t := 34) ?hr ?_; (case hd => rfl); (case hg => rfl); (case hr => first | (go_simp; done) | (go_simp; rfl)); intro gb220 hg w8 hbox hb; have n0_ := Aside0.mk (blk_below (g := gb219) (o := .cells #[.int .u64 a0_0, .int .u64 a0_1, .int .i64 a0_2, .int .i64 a0_3, .slice A0_4 l0_4.length c0_4] 34 (0, 0)) (by (with_reducible repeat (first | refine blk_drewN ?_ _ | refine blk_drew ?_ | refine blk_alloc ?_ _)); exact BK219.out) hb); have n1_ := Aside0.mk (below_step (by repeat (first | (with_reducible first | exact HB.out | apply below_alloc | apply pw_below_drewN | apply below_drew1 | refine below_set ?_ GE219.out) | exact HB.out)) hb); have n2_ := Aside0.mk (hbox); have n3_ := Aside0.mk ((by rw [hg]; exact (below_size (by repeat (first | (with_reducible first | exact HB.out | apply below_alloc | apply pw_below_drewN | apply below_drew1 | refine below_set ?_ GE219.out) | exact HB.out))) : w.heap.size ≤ gb220)); have n4_ := Aside0.mk ((by rw [hg]; exact (below_size (by repeat (first | (with_reducible first | exact HB.out | apply below_alloc | apply pw_below_drewN | apply below_drew1 | refine below_set ?_ GE219.out) | exact HB.out))) : w.heap.size ≤ gb220)); have n5_ := Aside0.mk ((by rw [hg]; exact Nat.ne_of_lt (blk_lt (g := gb219) (o := .cells #[.int .u64 a0_0, .int .u64 a0_1, .int .i64 a0_2, .int .i64 a0_3, .slice A0_4 l0_4.length c0_4] 34 (0, 0)) (by (with_reducible repeat (first | refine blk_drewN ?_ _ | refine blk_drew ?_ | refine blk_alloc ?_ _)); exact BK219.out)) : gb219 ≠ gb220)); have n6_ := Aside0.mk ((by rw [hg]; exact Nat.ne_of_gt (blk_lt (g := gb219) (o := .cells #[.int .u64 a0_0, .int .u64 a0_1, .int .i64 a0_2, .int .i64 a0_3, .slice A0_4 l0_4.length c0_4] 34 (0, 0)) (by (with_reducible repeat (first | refine blk_drewN ?_ _ | refine blk_drew ?_ | refine blk_alloc ?_ _)); exact BK219.out)) : gb220 ≠ gb219)); clear BK219; clear HB; have BK219 := n0_; have HB := n1_; have BK220 := n2_; have GW220 := n3_; have GE220 := n4_; have NB219_220 := n5_; have NB220_219 := n6_; clear n0_ n1_ n2_ n3_ n4_ n5_ n6_; clear hb hbox hg; have hnb9 := NB219_220.out; have hnc9 := NB220_219.out; have hcz10_0 : w8.cell? ⟨gb219, 0, none⟩ = some (.int .u64 a0_0) := (blk_cell BK219.out 0).trans rfl; have hcz10_1 : w8.cell? ⟨gb219, 1, none⟩ = some (.int .u64 a0_1) := (blk_cell BK219.out 1).trans rfl; have hcz10_2 : w8.cell? ⟨gb219, 2, none⟩ = some (.int .i64 a0_2) := (blk_cell BK219.out 2).trans rfl; have hcz10_3 : w8.cell? ⟨gb219, 3, none⟩ = some (.int .i64 a0_3) := (blk_cell BK219.out 3).trans rfl; have hcz10_4 : w8.cell? ⟨gb219, 4, none⟩ = some (.slice A0_4 l0_4.length c0_4) := (blk_cell BK219.out 4).trans rfl; have hfz10_0 := blk_frozen BK219.out 0; have hfz10_1 := blk_frozen BK219.out 1; have hfz10_2 := blk_frozen BK219.out 2; have hfz10_3 := blk_frozen BK219.out 3; have hfz10_4 := blk_frozen BK219.out 4; have hcz11_0 : w8.cell? ⟨gb220, 0, none⟩ = some (.int .u64 a1_0) := (blk_cell BK220.out 0).trans rfl; have hcz11_1 : w8.cell? ⟨gb220, 1, none⟩ = some (.int .u64 a1_1) := (blk_cell BK220.out 1).trans rfl; have hcz11_2 : w8.cell? ⟨gb220, 2, none⟩ = some (.int .i64 a1_2) := (blk_cell BK220.out 2).trans rfl; have hcz11_3 : w8.cell? ⟨gb220, 3, none⟩ = some (.int .i64 a1_3) := (blk_cell BK220.out 3).trans rfl; have hcz11_4 : w8.cell? ⟨gb220, 4, none⟩ = some (.slice A1_4 l1_4.length c1_4) := (blk_cell BK220.out 4).trans rfl; have hfz11_0 := blk_frozen BK220.out 0; have hfz11_1 := blk_frozen BK220.out 1; have hfz11_2 := blk_frozen BK220.out 2; have hfz11_3 := blk_frozen BK220.out 3; have hfz11_4 := blk_frozen BK220.out 4; have hcv12 := Kd.C_string (P := Try.prog) (A := A0_4) (c := c0_4) Try.underlying22 Try.underlying5 Try.underlying9 (Kd.C_below HR0_4.out HB.out); have hcd12 := fun (nq_ : Nat) => Kd.C_string (P := Try.prog) (A := A0_4) (c := c0_4) Try.underlying22 Try.underlying5 Try.underlying9 (Kd.C_drewN (Kd.C_below HR0_4.out HB.out) nq_); have hcv13 := Kd.C_string (P := Try.prog) (A := A1_4) (c := c1_4) Try.underlying22 Try.underlying5 Try.underlying9 (Kd.C_below HR1_4.out HB.out); have hcd13 := fun (nq_ : Nat) => Kd.C_string (P := Try.prog) (A := A1_4) (c := c1_4) Try.underlying22 Try.underlying5 Try.underlying9 (Kd.C_drewN (Kd.C_below HR1_4.out HB.out) nq_)))
          go_ret
          exact ⟨by first | rfl | (simp [errW_none, errW_some] <;> rfl) | (simp [*, errW_none, errW_some] <;> rfl), by repeat (first | (with_reducible first | exact HB.out | apply below_alloc | apply pw_below_drewN | apply below_drew1 | refine below_set ?_ GE219.out | refine below_set ?_ GE220.out) | exact HB.out)⟩
        · rw [if_neg c6] at H
          have c6b0 : (a0_3 == a1_3) = false := beq_eq_false_iff_ne.mpr c6
          have c6b1 : (a0_3 != a1_3) = true := bne_iff_ne.mpr c6
          obtain rfl := Option.some.inj H
          go_enter Try.func22, Try.ntmps22
          go_wp2_with (first | ((with_reducible refine gate_dst (N := 2) rfl ?_); refine box_event ?hg (N := 2) ?hd (cs := #[.int .u64 a0_0, .int .u64 a0_1, .int .i64 a0_2, .int .i64 a0_3, .slice A0_4 l0_4.length c0_4]) (t := 34) ?hr ?_; (case hd => rfl); (case hg => rfl); (case hr => first | (go_simp; done) | (go_simp; rfl)); intro gb219 hg w14 hbox hb; have n0_ := Aside0.mk (below_step (by repeat (first | (with_reducible first | exact HB.out | apply below_alloc | apply pw_below_drewN | apply below_drew1) | exact HB.out)) hb); have n1_ := Aside0.mk (hbox); have n2_ := Aside0.mk ((by rw [hg]; exact (below_size (by repeat (first | (with_reducible first | exact HB.out | apply below_alloc | apply pw_below_drewN | apply below_drew1) | exact HB.out))) : w.heap.size ≤ gb219)); have n3_ := Aside0.mk ((by rw [hg]; exact (below_size (by repeat (first | (with_reducible first | exact HB.out | apply below_alloc | apply pw_below_drewN | apply below_drew1) | exact HB.out))) : w.heap.size ≤ gb219)); clear HB; have HB := n0_; have BK219 := n1_; have GW219 := n2_; have GE219 := n3_; clear n0_ n1_ n2_ n3_; clear hb hbox hg) | ((with_reducible refine gate_dst (N := 3) rfl ?_); refine box_event ?hg (N := 3) ?hd (cs := #[.int .u64 a1_0, .int .u64 a1_1, .int .i64 a1_2, .int .i64 a1_3, .slice A1_4 l1_4.length c1_4]) (t := 34) ?hr ?_; (case hd => rfl); (case hg => rfl); (case hr => first | (go_simp; done) | (go_simp; rfl)); intro gb220 hg w15 hbox hb; have n0_ := Aside0.mk (blk_below (g := gb219) (o := .cells #[.int .u64 a0_0, .int .u64 a0_1, .int .i64 a0_2, .int .i64 a0_3, .slice A0_4 l0_4.length c0_4] 34 (0, 0)) (by (with_reducible repeat (first | refine blk_drewN ?_ _ | refine blk_drew ?_ | refine blk_alloc ?_ _)); exact BK219.out) hb); have n1_ := Aside0.mk (below_step (by repeat (first | (with_reducible first | exact HB.out | apply below_alloc | apply pw_below_drewN | apply below_drew1 | refine below_set ?_ GE219.out) | exact HB.out)) hb); have n2_ := Aside0.mk (hbox); have n3_ := Aside0.mk ((by rw [hg]; exact (below_size (by repeat (first | (with_reducible first | exact HB.out | apply below_alloc | apply pw_below_drewN | apply below_drew1 | refine below_set ?_ GE219.out) | exact HB.out))) : w.heap.size ≤ gb220)); have n4_ := Aside0.mk ((by rw [hg]; exact (below_size (by repeat (first | (with_reducible first | exact HB.out | apply below_alloc | apply pw_below_drewN | apply below_drew1 | refine below_set ?_ GE219.out) | exact HB.out))) : w.heap.size ≤ gb220)); have n5_ := Aside0.mk ((by rw [hg]; exact Nat.ne_of_lt (blk_lt (g := gb219) (o := .cells #[.int .u64 a0_0, .int .u64 a0_1, .int .i64 a0_2, .int .i64 a0_3, .slice A0_4 l0_4.length c0_4] 34 (0, 0)) (by (with_reducible repeat (first | refine blk_drewN ?_ _ | refine blk_drew ?_ | refine blk_alloc ?_ _)); exact BK219.out)) : gb219 ≠ gb220)); have n6_ := Aside0.mk ((by rw [hg]; exact Nat.ne_of_gt (blk_lt (g := gb219) (o := .cells #[.int .u64 a0_0, .int .u64 a0_1, .int .i64 a0_2, .int .i64 a0_3, .slice A0_4 l0_4.length c0_4] 34 (0, 0)) (by (with_reducible repeat (first | refine blk_drewN ?_ _ | refine blk_drew ?_ | refine blk_alloc ?_ _)); exact BK219.out)) : gb220 ≠ gb219)); clear BK219; clear HB; have BK219 := n0_; have HB := n1_; have BK220 := n2_; have GW220 := n3_; have GE220 := n4_; have NB219_220 := n5_; have NB220_219 := n6_; clear n0_ n1_ n2_ n3_ n4_ n5_ n6_; clear hb hbox hg; have hnb16 := NB219_220.out; have hnc16 := NB220_219.out; have hcz17_0 : w15.cell? ⟨gb219, 0, none⟩ = some (.int .u64 a0_0) := (blk_cell BK219.out 0).trans rfl; have hcz17_1 : w15.cell? ⟨gb219, 1, none⟩ = some (.int .u64 a0_1) := (blk_cell BK219.out 1).trans rfl; have hcz17_2 : w15.cell? ⟨gb219, 2, none⟩ = some (.int .i64 a0_2) := (blk_cell BK219.out 2).trans rfl; have hcz17_3 : w15.cell? ⟨gb219, 3, none⟩ = some (.int .i64 a0_3) := (blk_cell BK219.out 3).trans rfl; have hcz17_4 : w15.cell? ⟨gb219, 4, none⟩ = some (.slice A0_4 l0_4.length c0_4) := (blk_cell BK219.out 4).trans rfl; have hfz17_0 := blk_frozen BK219.out 0; have hfz17_1 := blk_frozen BK219.out 1; have hfz17_2 := blk_frozen BK219.out 2; have hfz17_3 := blk_frozen BK219.out 3; have hfz17_4 := blk_frozen BK219.out 4; have hcz18_0 : w15.cell? ⟨gb220, 0, none⟩ = some (.int .u64 a1_0) := (blk_cell BK220.out 0).trans rfl; have hcz18_1 : w15.cell? ⟨gb220, 1, none⟩ = some (.int .u64 a1_1) := (blk_cell BK220.out 1).trans rfl; have hcz18_2 : w15.cell? ⟨gb220, 2, none⟩ = some (.int .i64 a1_2) := (blk_cell BK220.out 2).trans rfl; have hcz18_3 : w15.cell? ⟨gb220, 3, none⟩ = some (.int .i64 a1_3) := (blk_cell BK220.out 3).trans rfl; have hcz18_4 : w15.cell? ⟨gb220, 4, none⟩ = some (.slice A1_4 l1_4.length c1_4) := (blk_cell BK220.out 4).trans rfl; have hfz18_0 := blk_frozen BK220.out 0; have hfz18_1 := blk_frozen BK220.out 1; have hfz18_2 := blk_frozen BK220.out 2; have hfz18_3 := blk_frozen BK220.out 3; have hfz18_4 := blk_frozen BK220.out 4))
          go_ret
          exact ⟨by first | rfl | (simp [errW_none, errW_some] <;> rfl) | (simp [*, errW_none, errW_some] <;> rfl), by repeat (first | (with_reducible first | exact HB.out | apply below_alloc | apply pw_below_drewN | apply below_drew1 | refine below_set ?_ GE219.out | refine below_set ?_ GE220.out) | exact HB.out)⟩
      · rw [if_neg c5] at H
        have c5b0 : (a0_2 == a1_2) = false := beq_eq_false_iff_ne.mpr c5
        have c5b1 : (a0_2 != a1_2) = true := bne_iff_ne.mpr c5
        obtain rfl := Option.some.inj H
        go_enter Try.func22, Try.ntmps22
        go_wp2_with (first | ((with_reducible refine gate_dst (N := 2) rfl ?_); refine box_event ?hg (N := 2) ?hd (cs := #[.int .u64 a0_0, .int .u64 a0_1, .int .i64 a0_2, .int .i64 a0_3, .slice A0_4 l0_4.length c0_4]) (t := 34) ?hr ?_; (case hd => rfl); (case hg => rfl); (case hr => first | (go_simp; done) | (go_simp; rfl)); intro gb219 hg w19 hbox hb; have n0_ := Aside0.mk (below_step (by repeat (first | (with_reducible first | exact HB.out | apply below_alloc | apply pw_below_drewN | apply below_drew1) | exact HB.out)) hb); have n1_ := Aside0.mk (hbox); have n2_ := Aside0.mk ((by rw [hg]; exact (below_size (by repeat (first | (with_reducible first | exact HB.out | apply below_alloc | apply pw_below_drewN | apply below_drew1) | exact HB.out))) : w.heap.size ≤ gb219)); have n3_ := Aside0.mk ((by rw [hg]; exact (below_size (by repeat (first | (with_reducible first | exact HB.out | apply below_alloc | apply pw_below_drewN | apply below_drew1) | exact HB.out))) : w.heap.size ≤ gb219)); clear HB; have HB := n0_; have BK219 := n1_; have GW219 := n2_; have GE219 := n3_; clear n0_ n1_ n2_ n3_; clear hb hbox hg) | ((with_reducible refine gate_dst (N := 3) rfl ?_); refine box_event ?hg (N := 3) ?hd (cs := #[.int .u64 a1_0, .int .u64 a1_1, .int .i64 a1_2, .int .i64 a1_3, .slice A1_4 l1_4.length c1_4]) (t := 34) ?hr ?_; (case hd => rfl); (case hg => rfl); (case hr => first | (go_simp; done) | (go_simp; rfl)); intro gb220 hg w20 hbox hb; have n0_ := Aside0.mk (blk_below (g := gb219) (o := .cells #[.int .u64 a0_0, .int .u64 a0_1, .int .i64 a0_2, .int .i64 a0_3, .slice A0_4 l0_4.length c0_4] 34 (0, 0)) (by (with_reducible repeat (first | refine blk_drewN ?_ _ | refine blk_drew ?_ | refine blk_alloc ?_ _)); exact BK219.out) hb); have n1_ := Aside0.mk (below_step (by repeat (first | (with_reducible first | exact HB.out | apply below_alloc | apply pw_below_drewN | apply below_drew1 | refine below_set ?_ GE219.out) | exact HB.out)) hb); have n2_ := Aside0.mk (hbox); have n3_ := Aside0.mk ((by rw [hg]; exact (below_size (by repeat (first | (with_reducible first | exact HB.out | apply below_alloc | apply pw_below_drewN | apply below_drew1 | refine below_set ?_ GE219.out) | exact HB.out))) : w.heap.size ≤ gb220)); have n4_ := Aside0.mk ((by rw [hg]; exact (below_size (by repeat (first | (with_reducible first | exact HB.out | apply below_alloc | apply pw_below_drewN | apply below_drew1 | refine below_set ?_ GE219.out) | exact HB.out))) : w.heap.size ≤ gb220)); have n5_ := Aside0.mk ((by rw [hg]; exact Nat.ne_of_lt (blk_lt (g := gb219) (o := .cells #[.int .u64 a0_0, .int .u64 a0_1, .int .i64 a0_2, .int .i64 a0_3, .slice A0_4 l0_4.length c0_4] 34 (0, 0)) (by (with_reducible repeat (first | refine blk_drewN ?_ _ | refine blk_drew ?_ | refine blk_alloc ?_ _)); exact BK219.out)) : gb219 ≠ gb220)); have n6_ := Aside0.mk ((by rw [hg]; exact Nat.ne_of_gt (blk_lt (g := gb219) (o := .cells #[.int .u64 a0_0, .int .u64 a0_1, .int .i64 a0_2, .int .i64 a0_3, .slice A0_4 l0_4.length c0_4] 34 (0, 0)) (by (with_reducible repeat (first | refine blk_drewN ?_ _ | refine blk_drew ?_ | refine blk_alloc ?_ _)); exact BK219.out)) : gb220 ≠ gb219)); clear BK219; clear HB; have BK219 := n0_; have HB := n1_; have BK220 := n2_; have GW220 := n3_; have GE220 := n4_; have NB219_220 := n5_; have NB220_219 := n6_; clear n0_ n1_ n2_ n3_ n4_ n5_ n6_; clear hb hbox hg; have hnb21 := NB219_220.out; have hnc21 := NB220_219.out; have hcz22_0 : w20.cell? ⟨gb219, 0, none⟩ = some (.int .u64 a0_0) := (blk_cell BK219.out 0).trans rfl; have hcz22_1 : w20.cell? ⟨gb219, 1, none⟩ = some (.int .u64 a0_1) := (blk_cell BK219.out 1).trans rfl; have hcz22_2 : w20.cell? ⟨gb219, 2, none⟩ = some (.int .i64 a0_2) := (blk_cell BK219.out 2).trans rfl; have hcz22_3 : w20.cell? ⟨gb219, 3, none⟩ = some (.int .i64 a0_3) := (blk_cell BK219.out 3).trans rfl; have hcz22_4 : w20.cell? ⟨gb219, 4, none⟩ = some (.slice A0_4 l0_4.length c0_4) := (blk_cell BK219.out 4).trans rfl; have hfz22_0 := blk_frozen BK219.out 0; have hfz22_1 := blk_frozen BK219.out 1; have hfz22_2 := blk_frozen BK219.out 2; have hfz22_3 := blk_frozen BK219.out 3; have hfz22_4 := blk_frozen BK219.out 4; have hcz23_0 : w20.cell? ⟨gb220, 0, none⟩ = some (.int .u64 a1_0) := (blk_cell BK220.out 0).trans rfl; have hcz23_1 : w20.cell? ⟨gb220, 1, none⟩ = some (.int .u64 a1_1) := (blk_cell BK220.out 1).trans rfl; have hcz23_2 : w20.cell? ⟨gb220, 2, none⟩ = some (.int .i64 a1_2) := (blk_cell BK220.out 2).trans rfl; have hcz23_3 : w20.cell? ⟨gb220, 3, none⟩ = some (.int .i64 a1_3) := (blk_cell BK220.out 3).trans rfl; have hcz23_4 : w20.cell? ⟨gb220, 4, none⟩ = some (.slice A1_4 l1_4.length c1_4) := (blk_cell BK220.out 4).trans rfl; have hfz23_0 := blk_frozen BK220.out 0; have hfz23_1 := blk_frozen BK220.out 1; have hfz23_2 := blk_frozen BK220.out 2; have hfz23_3 := blk_frozen BK220.out 3; have hfz23_4 := blk_frozen BK220.out 4))
        go_ret
        exact ⟨by first | rfl | (simp [errW_none, errW_some] <;> rfl) | (simp [*, errW_none, errW_some] <;> rfl), by repeat (first | (with_reducible first | exact HB.out | apply below_alloc | apply pw_below_drewN | apply below_drew1 | refine below_set ?_ GE219.out | refine below_set ?_ GE220.out) | exact HB.out)⟩
    · rw [if_neg c4] at H
      have c4b0 : (a0_1 == a1_1) = false := beq_eq_false_iff_ne.mpr c4
      have c4b1 : (a0_1 != a1_1) = true := bne_iff_ne.mpr c4
      obtain rfl := Option.some.inj H
      go_enter Try.func22, Try.ntmps22
      go_wp2_with (first | ((with_reducible refine gate_dst (N := 2) rfl ?_); refine box_event ?hg (N := 2) ?hd (cs := #[.int .u64 a0_0, .int .u64 a0_1, .int .i64 a0_2, .int .i64 a0_3, .slice A0_4 l0_4.length c0_4]) (t := 34) ?hr ?_; (case hd => rfl); (case hg => rfl); (case hr => first | (go_simp; done) | (go_simp; rfl)); intro gb219 hg w24 hbox hb; have n0_ := Aside0.mk (below_step (by repeat (first | (with_reducible first | exact HB.out | apply below_alloc | apply pw_below_drewN | apply below_drew1) | exact HB.out)) hb); have n1_ := Aside0.mk (hbox); have n2_ := Aside0.mk ((by rw [hg]; exact (below_size (by repeat (first | (with_reducible first | exact HB.out | apply below_alloc | apply pw_below_drewN | apply below_drew1) | exact HB.out))) : w.heap.size ≤ gb219)); have n3_ := Aside0.mk ((by rw [hg]; exact (below_size (by repeat (first | (with_reducible first | exact HB.out | apply below_alloc | apply pw_below_drewN | apply below_drew1) | exact HB.out))) : w.heap.size ≤ gb219)); clear HB; have HB := n0_; have BK219 := n1_; have GW219 := n2_; have GE219 := n3_; clear n0_ n1_ n2_ n3_; clear hb hbox hg) | ((with_reducible refine gate_dst (N := 3) rfl ?_); refine box_event ?hg (N := 3) ?hd (cs := #[.int .u64 a1_0, .int .u64 a1_1, .int .i64 a1_2, .int .i64 a1_3, .slice A1_4 l1_4.length c1_4]) (t := 34) ?hr ?_; (case hd => rfl); (case hg => rfl); (case hr => first | (go_simp; done) | (go_simp; rfl)); intro gb220 hg w25 hbox hb; have n0_ := Aside0.mk (blk_below (g := gb219) (o := .cells #[.int .u64 a0_0, .int .u64 a0_1, .int .i64 a0_2, .int .i64 a0_3, .slice A0_4 l0_4.length c0_4] 34 (0, 0)) (by (with_reducible repeat (first | refine blk_drewN ?_ _ | refine blk_drew ?_ | refine blk_alloc ?_ _)); exact BK219.out) hb); have n1_ := Aside0.mk (below_step (by repeat (first | (with_reducible first | exact HB.out | apply below_alloc | apply pw_below_drewN | apply below_drew1 | refine below_set ?_ GE219.out) | exact HB.out)) hb); have n2_ := Aside0.mk (hbox); have n3_ := Aside0.mk ((by rw [hg]; exact (below_size (by repeat (first | (with_reducible first | exact HB.out | apply below_alloc | apply pw_below_drewN | apply below_drew1 | refine below_set ?_ GE219.out) | exact HB.out))) : w.heap.size ≤ gb220)); have n4_ := Aside0.mk ((by rw [hg]; exact (below_size (by repeat (first | (with_reducible first | exact HB.out | apply below_alloc | apply pw_below_drewN | apply below_drew1 | refine below_set ?_ GE219.out) | exact HB.out))) : w.heap.size ≤ gb220)); have n5_ := Aside0.mk ((by rw [hg]; exact Nat.ne_of_lt (blk_lt (g := gb219) (o := .cells #[.int .u64 a0_0, .int .u64 a0_1, .int .i64 a0_2, .int .i64 a0_3, .slice A0_4 l0_4.length c0_4] 34 (0, 0)) (by (with_reducible repeat (first | refine blk_drewN ?_ _ | refine blk_drew ?_ | refine blk_alloc ?_ _)); exact BK219.out)) : gb219 ≠ gb220)); have n6_ := Aside0.mk ((by rw [hg]; exact Nat.ne_of_gt (blk_lt (g := gb219) (o := .cells #[.int .u64 a0_0, .int .u64 a0_1, .int .i64 a0_2, .int .i64 a0_3, .slice A0_4 l0_4.length c0_4] 34 (0, 0)) (by (with_reducible repeat (first | refine blk_drewN ?_ _ | refine blk_drew ?_ | refine blk_alloc ?_ _)); exact BK219.out)) : gb220 ≠ gb219)); clear BK219; clear HB; have BK219 := n0_; have HB := n1_; have BK220 := n2_; have GW220 := n3_; have GE220 := n4_; have NB219_220 := n5_; have NB220_219 := n6_; clear n0_ n1_ n2_ n3_ n4_ n5_ n6_; clear hb hbox hg; have hnb26 := NB219_220.out; have hnc26 := NB220_219.out; have hcz27_0 : w25.cell? ⟨gb219, 0, none⟩ = some (.int .u64 a0_0) := (blk_cell BK219.out 0).trans rfl; have hcz27_1 : w25.cell? ⟨gb219, 1, none⟩ = some (.int .u64 a0_1) := (blk_cell BK219.out 1).trans rfl; have hcz27_2 : w25.cell? ⟨gb219, 2, none⟩ = some (.int .i64 a0_2) := (blk_cell BK219.out 2).trans rfl; have hcz27_3 : w25.cell? ⟨gb219, 3, none⟩ = some (.int .i64 a0_3) := (blk_cell BK219.out 3).trans rfl; have hcz27_4 : w25.cell? ⟨gb219, 4, none⟩ = some (.slice A0_4 l0_4.length c0_4) := (blk_cell BK219.out 4).trans rfl; have hfz27_0 := blk_frozen BK219.out 0; have hfz27_1 := blk_frozen BK219.out 1; have hfz27_2 := blk_frozen BK219.out 2; have hfz27_3 := blk_frozen BK219.out 3; have hfz27_4 := blk_frozen BK219.out 4; have hcz28_0 : w25.cell? ⟨gb220, 0, none⟩ = some (.int .u64 a1_0) := (blk_cell BK220.out 0).trans rfl; have hcz28_1 : w25.cell? ⟨gb220, 1, none⟩ = some (.int .u64 a1_1) := (blk_cell BK220.out 1).trans rfl; have hcz28_2 : w25.cell? ⟨gb220, 2, none⟩ = some (.int .i64 a1_2) := (blk_cell BK220.out 2).trans rfl; have hcz28_3 : w25.cell? ⟨gb220, 3, none⟩ = some (.int .i64 a1_3) := (blk_cell BK220.out 3).trans rfl; have hcz28_4 : w25.cell? ⟨gb220, 4, none⟩ = some (.slice A1_4 l1_4.length c1_4) := (blk_cell BK220.out 4).trans rfl; have hfz28_0 := blk_frozen BK220.out 0; have hfz28_1 := blk_frozen BK220.out 1; have hfz28_2 := blk_frozen BK220.out 2; have hfz28_3 := blk_frozen BK220.out 3; have hfz28_4 := blk_frozen BK220.out 4))
      go_ret
      exact ⟨by first | rfl | (simp [errW_none, errW_some] <;> rfl) | (simp [*, errW_none, errW_some] <;> rfl), by repeat (first | (with_reducible first | exact HB.out | apply below_alloc | apply pw_below_drewN | apply below_drew1 | refine below_set ?_ GE219.out | refine below_set ?_ GE220.out) | exact HB.out)⟩
  · rw [if_neg c3] at H
    have c3b0 : (a0_0 == a1_0) = false := beq_eq_false_iff_ne.mpr c3
    have c3b1 : (a0_0 != a1_0) = true := bne_iff_ne.mpr c3
    obtain rfl := Option.some.inj H
    go_enter Try.func22, Try.ntmps22
    go_wp2_with (first | ((with_reducible refine gate_dst (N := 2) rfl ?_); refine box_event ?hg (N := 2) ?hd (cs := #[.int .u64 a0_0, .int .u64 a0_1, .int .i64 a0_2, .int .i64 a0_3, .slice A0_4 l0_4.length c0_4]) (t := 34) ?hr ?_; (case hd => rfl); (case hg => rfl); (case hr => first | (go_simp; done) | (go_simp; rfl)); intro gb219 hg w29 hbox hb; have n0_ := Aside0.mk (below_step (by repeat (first | (with_reducible first | exact HB.out | apply below_alloc | apply pw_below_drewN | apply below_drew1) | exact HB.out)) hb); have n1_ := Aside0.mk (hbox); have n2_ := Aside0.mk ((by rw [hg]; exact (below_size (by repeat (first | (with_reducible first | exact HB.out | apply below_alloc | apply pw_below_drewN | apply below_drew1) | exact HB.out))) : w.heap.size ≤ gb219)); have n3_ := Aside0.mk ((by rw [hg]; exact (below_size (by repeat (first | (with_reducible first | exact HB.out | apply below_alloc | apply pw_below_drewN | apply below_drew1) | exact HB.out))) : w.heap.size ≤ gb219)); clear HB; have HB := n0_; have BK219 := n1_; have GW219 := n2_; have GE219 := n3_; clear n0_ n1_ n2_ n3_; clear hb hbox hg) | ((with_reducible refine gate_dst (N := 3) rfl ?_); refine box_event ?hg (N := 3) ?hd (cs := #[.int .u64 a1_0, .int .u64 a1_1, .int .i64 a1_2, .int .i64 a1_3, .slice A1_4 l1_4.length c1_4]) (t := 34) ?hr ?_; (case hd => rfl); (case hg => rfl); (case hr => first | (go_simp; done) | (go_simp; rfl)); intro gb220 hg w30 hbox hb; have n0_ := Aside0.mk (blk_below (g := gb219) (o := .cells #[.int .u64 a0_0, .int .u64 a0_1, .int .i64 a0_2, .int .i64 a0_3, .slice A0_4 l0_4.length c0_4] 34 (0, 0)) (by (with_reducible repeat (first | refine blk_drewN ?_ _ | refine blk_drew ?_ | refine blk_alloc ?_ _)); exact BK219.out) hb); have n1_ := Aside0.mk (below_step (by repeat (first | (with_reducible first | exact HB.out | apply below_alloc | apply pw_below_drewN | apply below_drew1 | refine below_set ?_ GE219.out) | exact HB.out)) hb); have n2_ := Aside0.mk (hbox); have n3_ := Aside0.mk ((by rw [hg]; exact (below_size (by repeat (first | (with_reducible first | exact HB.out | apply below_alloc | apply pw_below_drewN | apply below_drew1 | refine below_set ?_ GE219.out) | exact HB.out))) : w.heap.size ≤ gb220)); have n4_ := Aside0.mk ((by rw [hg]; exact (below_size (by repeat (first | (with_reducible first | exact HB.out | apply below_alloc | apply pw_below_drewN | apply below_drew1 | refine below_set ?_ GE219.out) | exact HB.out))) : w.heap.size ≤ gb220)); have n5_ := Aside0.mk ((by rw [hg]; exact Nat.ne_of_lt (blk_lt (g := gb219) (o := .cells #[.int .u64 a0_0, .int .u64 a0_1, .int .i64 a0_2, .int .i64 a0_3, .slice A0_4 l0_4.length c0_4] 34 (0, 0)) (by (with_reducible repeat (first | refine blk_drewN ?_ _ | refine blk_drew ?_ | refine blk_alloc ?_ _)); exact BK219.out)) : gb219 ≠ gb220)); have n6_ := Aside0.mk ((by rw [hg]; exact Nat.ne_of_gt (blk_lt (g := gb219) (o := .cells #[.int .u64 a0_0, .int .u64 a0_1, .int .i64 a0_2, .int .i64 a0_3, .slice A0_4 l0_4.length c0_4] 34 (0, 0)) (by (with_reducible repeat (first | refine blk_drewN ?_ _ | refine blk_drew ?_ | refine blk_alloc ?_ _)); exact BK219.out)) : gb220 ≠ gb219)); clear BK219; clear HB; have BK219 := n0_; have HB := n1_; have BK220 := n2_; have GW220 := n3_; have GE220 := n4_; have NB219_220 := n5_; have NB220_219 := n6_; clear n0_ n1_ n2_ n3_ n4_ n5_ n6_; clear hb hbox hg; have hnb31 := NB219_220.out; have hnc31 := NB220_219.out; have hcz32_0 : w30.cell? ⟨gb219, 0, none⟩ = some (.int .u64 a0_0) := (blk_cell BK219.out 0).trans rfl; have hcz32_1 : w30.cell? ⟨gb219, 1, none⟩ = some (.int .u64 a0_1) := (blk_cell BK219.out 1).trans rfl; have hcz32_2 : w30.cell? ⟨gb219, 2, none⟩ = some (.int .i64 a0_2) := (blk_cell BK219.out 2).trans rfl; have hcz32_3 : w30.cell? ⟨gb219, 3, none⟩ = some (.int .i64 a0_3) := (blk_cell BK219.out 3).trans rfl; have hcz32_4 : w30.cell? ⟨gb219, 4, none⟩ = some (.slice A0_4 l0_4.length c0_4) := (blk_cell BK219.out 4).trans rfl; have hfz32_0 := blk_frozen BK219.out 0; have hfz32_1 := blk_frozen BK219.out 1; have hfz32_2 := blk_frozen BK219.out 2; have hfz32_3 := blk_frozen BK219.out 3; have hfz32_4 := blk_frozen BK219.out 4; have hcz33_0 : w30.cell? ⟨gb220, 0, none⟩ = some (.int .u64 a1_0) := (blk_cell BK220.out 0).trans rfl; have hcz33_1 : w30.cell? ⟨gb220, 1, none⟩ = some (.int .u64 a1_1) := (blk_cell BK220.out 1).trans rfl; have hcz33_2 : w30.cell? ⟨gb220, 2, none⟩ = some (.int .i64 a1_2) := (blk_cell BK220.out 2).trans rfl; have hcz33_3 : w30.cell? ⟨gb220, 3, none⟩ = some (.int .i64 a1_3) := (blk_cell BK220.out 3).trans rfl; have hcz33_4 : w30.cell? ⟨gb220, 4, none⟩ = some (.slice A1_4 l1_4.length c1_4) := (blk_cell BK220.out 4).trans rfl; have hfz33_0 := blk_frozen BK220.out 0; have hfz33_1 := blk_frozen BK220.out 1; have hfz33_2 := blk_frozen BK220.out 2; have hfz33_3 := blk_frozen BK220.out 3; have hfz33_4 := blk_frozen BK220.out 4))
    go_ret
    exact ⟨by first | rfl | (simp [errW_none, errW_some] <;> rfl) | (simp [*, errW_none, errW_some] <;> rfl), by repeat (first | (with_reducible first | exact HB.out | apply below_alloc | apply pw_below_drewN | apply below_drew1 | refine below_set ?_ GE219.out | refine below_set ?_ GE220.out) | exact HB.out)⟩

/-! ### marginalialaw16_CellDecode: function 8 -/
def marginalialaw16_CellDecode.f (k : Nat) (l0 : List Int) : Option (Bool) := if (l0.length : Int) > 300 then ((marginalialaw16_alive.f k).bind fun t221 => (some t221)) else ((cell_Decode.f k l0).bind fun bt222 => ((marginaliaref16_Decode.f k l0).bind fun bt231 => ((marginalialaw16_alive.f k).bind fun t240 => (if t240 = true then ((marginaliaref16_Same.f bt222.1 bt222.2.1 bt222.2.2.1 bt222.2.2.2.1 bt222.2.2.2.2.1 bt231.1 bt231.2.1 bt231.2.2.1 bt231.2.2.2.1 bt231.2.2.2.2.1).bind fun t241 => (if t241 = true then (some (bt222.2.2.2.2.2 == bt231.2.2.2.2.2)) else (some false))) else (some false)))))
theorem marginalialaw16_CellDecode.mono : ∀ a0 k, LeO (marginalialaw16_CellDecode.f k a0) (marginalialaw16_CellDecode.f (k + 1) a0) := by
  intro a0 k
  unfold marginalialaw16_CellDecode.f
  repeat' first
      | (with_reducible exact cell_Decode.mono _ _)
      | (with_reducible exact marginalialaw16_alive.mono _)
      | (with_reducible exact marginaliaref16_Decode.mono _ _)
      | (with_reducible exact LeO.refl _)
      | (with_reducible exact LeO.none _)
      | (with_reducible refine LeO.ite ?_ ?_)
      | (with_reducible refine LeO.bind ?_ (fun _ => ?_))
      | exact cell_Decode.mono _ _
      | exact marginalialaw16_alive.mono _
      | exact marginaliaref16_Decode.mono _ _
      | exact LeO.none _
      | refine LeO.ite ?_ ?_
      | refine LeO.bind ?_ (fun _ => ?_)
set_option maxHeartbeats 8000000 in
set_option maxRecDepth 100000 in
theorem marginalialaw16_CellDecode.calls (k : Nat) (A0 : Option Addr) (c0 : Nat) (l0 : List Int) (r : Bool) (w : World) (hr0 : Kd.C (Kd.int .u8) w A0 l0.length l0) (hc0 : l0.length ≤ c0) (h : marginalialaw16_CellDecode.f k l0 = some r) :
    Calls Try.prog 8 #[.slice A0 l0.length c0] w fun e w' => e = .returned (.bool r) ∧ Below w.heap.size w w' := by
  have hu34 := Try.underlying34
  have HR0 := Aside0.mk hr0
  have HC0 := Aside0.mk hc0
  clear hr0 hc0
  have HB := Aside0.mk (Below.refl w.heap.size w)
  have H : (if (l0.length : Int) > 300 then ((marginalialaw16_alive.f k).bind fun t221 => (some t221)) else ((cell_Decode.f k l0).bind fun bt222 => ((marginaliaref16_Decode.f k l0).bind fun bt231 => ((marginalialaw16_alive.f k).bind fun t240 => (if t240 = true then ((marginaliaref16_Same.f bt222.1 bt222.2.1 bt222.2.2.1 bt222.2.2.2.1 bt222.2.2.2.2.1 bt231.1 bt231.2.1 bt231.2.2.1 bt231.2.2.2.1 bt231.2.2.2.2.1).bind fun t241 => (if t241 = true then (some (bt222.2.2.2.2.2 == bt231.2.2.2.2.2)) else (some false))) else (some false)))))) = some r := h
  clear h
  by_cases c2 : (l0.length : Int) > 300
  · rw [if_pos c2] at H
    have c2b0 : decide (300 < (l0.length : Int)) = true := decide_eq_true c2
    have c2b1 : decide (300 < l0.length) = true := decide_eq_true (by omega)
    clear c2
    replace H := Option.bind_eq_some_iff.mp H
    obtain ⟨t221, A30, H⟩ := H
    replace H : (some t221) = some r := H
    have A3 := Aside0.mk A30
    clear A30
    obtain rfl := Option.some.inj H
    go_enter Try.func8, Try.ntmps8
    go_wp2_with (first | ((with_reducible refine gate_callee (f := 19) rfl ?_); refine goesL_ (some 10) rfl rfl Try.func19 (by kernel_rfl) rfl #[] rfl (by (try simp only [List.map_toArray, List.map_cons, List.map_nil]); first | done | rfl | (simp only [List.length_drop, List.length_take]; rfl)) ?_; (with_reducible refine (marginalialaw16_alive.calls k  t221 _ A3.out).mono ?_); rintro e w4 ⟨rfl, hb⟩; refine ⟨_, rfl, ?_⟩; have n0_ := Aside0.mk (below_step (by repeat (first | (with_reducible first | exact HB.out | apply below_alloc | apply pw_below_drewN | apply below_drew1) | exact HB.out)) hb); clear HB; have HB := n0_; clear n0_; (try clear hb); (try clear hb2); (try clear hk); (try clear hi)))
    go_ret
    exact ⟨by first | rfl | (simp [errW_none, errW_some] <;> rfl) | (simp [*, errW_none, errW_some] <;> rfl), by repeat (first | (with_reducible first | exact HB.out | apply below_alloc | apply pw_below_drewN | apply below_drew1) | exact HB.out)⟩
  · rw [if_neg c2] at H
    have c2b0 : decide (300 < (l0.length : Int)) = false := decide_eq_false c2
    have c2b1 : decide (300 < l0.length) = false := decide_eq_false (by omega)
    clear c2
    replace H := Option.bind_eq_some_iff.mp H
    obtain ⟨⟨t222, t223, t224, t225, t226, t229⟩, A50, H⟩ := H
    replace H : ((marginaliaref16_Decode.f k l0).bind fun bt231 => ((marginalialaw16_alive.f k).bind fun t240 => (if t240 = true then ((marginaliaref16_Same.f t222 t223 t224 t225 t226 bt231.1 bt231.2.1 bt231.2.2.1 bt231.2.2.2.1 bt231.2.2.2.2.1).bind fun t241 => (if t241 = true then (some (t229 == bt231.2.2.2.2.2)) else (some false))) else (some false)))) = some r := H
    have A5 := Aside0.mk A50
    clear A50
    replace H := Option.bind_eq_some_iff.mp H
    obtain ⟨⟨t231, t232, t233, t234, t235, t238⟩, A60, H⟩ := H
    replace H : ((marginalialaw16_alive.f k).bind fun t240 => (if t240 = true then ((marginaliaref16_Same.f t222 t223 t224 t225 t226 t231 t232 t233 t234 t235).bind fun t241 => (if t241 = true then (some (t229 == t238)) else (some false))) else (some false))) = some r := H
    have A6 := Aside0.mk A60
    clear A60
    replace H := Option.bind_eq_some_iff.mp H
    obtain ⟨t240, A70, H⟩ := H
    replace H : (if t240 = true then ((marginaliaref16_Same.f t222 t223 t224 t225 t226 t231 t232 t233 t234 t235).bind fun t241 => (if t241 = true then (some (t229 == t238)) else (some false))) else (some false)) = some r := H
    have A7 := Aside0.mk A70
    clear A70
    by_cases c8 : t240 = true
    · subst c8
      have H1 : ((marginaliaref16_Same.f t222 t223 t224 t225 t226 t231 t232 t233 t234 t235).bind fun t241 => (if t241 = true then (some (t229 == t238)) else (some false))) = some r := by rw [if_pos rfl] at H; exact H
      clear H
      have H := H1
      clear H1
      replace H := Option.bind_eq_some_iff.mp H
      obtain ⟨t241, A90, H⟩ := H
      replace H : (if t241 = true then (some (t229 == t238)) else (some false)) = some r := H
      have A9 := Aside0.mk A90
      clear A90
      by_cases c10 : t241 = true
      · subst c10
        have H1 : (some (t229 == t238)) = some r := by rw [if_pos rfl] at H; exact H
        clear H
        have H := H1
        clear H1
        obtain rfl := Option.some.inj H
        go_enter Try.func8, Try.ntmps8
        go_wp2_with (first | ((with_reducible refine gate_callee (f := 20) rfl ?_); refine goesL_ (some 13) rfl rfl Try.func20 (by kernel_rfl) rfl #[.slice A0 l0.length c0] rfl (by (try simp only [List.map_toArray, List.map_cons, List.map_nil]); first | done | rfl | (simp only [List.length_drop, List.length_take]; rfl)) ?_; (with_reducible refine (cell_Decode.calls k _ _ l0 t222 t223 t224 t225 t226 t229 _ ?side1 ?side2 A5.out).mono ?_); (case side1 => repeat (first | exact HR0.out | (with_reducible refine Kd.C_alloc ?_ _) | (with_reducible refine Kd.C_drewN ?_ _) | (with_reducible refine Kd.C_drew ?_))); (case side2 => exact HC0.out); rintro e w11 ⟨v227, rfl, ho0, hb⟩; refine ⟨_, rfl, ?_⟩; have n0_ := Aside0.mk (Kd.R_lower ho0 (below_size (by repeat (first | (with_reducible first | exact HB.out | apply below_alloc | apply pw_below_drewN | apply below_drew1) | exact HB.out)))); have n1_ := Aside0.mk (below_step (by repeat (first | (with_reducible first | exact HB.out | apply below_alloc | apply pw_below_drewN | apply below_drew1) | exact HB.out)) hb); clear HB; have HO228 := n0_; have HB := n1_; clear n0_ n1_; (try clear hb); (try clear hb2); (try clear hk); (try clear hi); (try clear ho0)) | ((with_reducible refine gate_dst (N := 3) rfl ?_); refine box_event ?hg (N := 3) ?hd (cs := #[.int .u64 0, .int .u64 0, .int .i64 0, .int .i64 0, .slice none 0 0]) (t := 34) ?hr ?_; (case hd => rfl); (case hg => rfl); (case hr => first | (go_simp; done) | (go_simp; rfl)); intro gb230 hg w12 hbox hb; have n0_ := Aside0.mk (Kd.R_below (by (with_reducible repeat (first | apply Kd.R_alloc | apply Kd.R_drewN | apply Kd.R_drew)); exact HO228.out) hb); have n1_ := Aside0.mk (below_step (by repeat (first | (with_reducible first | exact HB.out | apply below_alloc | apply pw_below_drewN | apply below_drew1) | exact HB.out)) hb); have n2_ := Aside0.mk (hbox); have n3_ := Aside0.mk ((by rw [hg]; exact (below_size (by repeat (first | (with_reducible first | exact HB.out | apply below_alloc | apply pw_below_drewN | apply below_drew1) | exact HB.out))) : w.heap.size ≤ gb230)); have n4_ := Aside0.mk ((by rw [hg]; exact (below_size (by repeat (first | (with_reducible first | exact HB.out | apply below_alloc | apply pw_below_drewN | apply below_drew1) | exact HB.out))) : w.heap.size ≤ gb230)); clear HO228; clear HB; have HO228 := n0_; have HB := n1_; have BK230 := n2_; have GW230 := n3_; have GE230 := n4_; clear n0_ n1_ n2_ n3_ n4_; clear hb hbox hg; have hcz13_0 : w12.cell? ⟨gb230, 0, none⟩ = some (.int .u64 0) := (blk_cell BK230.out 0).trans rfl; have hcz13_1 : w12.cell? ⟨gb230, 1, none⟩ = some (.int .u64 0) := (blk_cell BK230.out 1).trans rfl; have hcz13_2 : w12.cell? ⟨gb230, 2, none⟩ = some (.int .i64 0) := (blk_cell BK230.out 2).trans rfl; have hcz13_3 : w12.cell? ⟨gb230, 3, none⟩ = some (.int .i64 0) := (blk_cell BK230.out 3).trans rfl; have hcz13_4 : w12.cell? ⟨gb230, 4, none⟩ = some (.slice none 0 0) := (blk_cell BK230.out 4).trans rfl; have hfz13_0 := blk_frozen BK230.out 0; have hfz13_1 := blk_frozen BK230.out 1; have hfz13_2 := blk_frozen BK230.out 2; have hfz13_3 := blk_frozen BK230.out 3; have hfz13_4 := blk_frozen BK230.out 4; obtain ⟨Ao14, co14, eo14⟩ := Kd.R_slice HO228.out; subst eo14) | ((with_reducible refine gate_callee (f := 21) rfl ?_); refine goesL_ (some 18) rfl rfl Try.func21 (by kernel_rfl) rfl #[.slice A0 l0.length c0] rfl (by (try simp only [List.map_toArray, List.map_cons, List.map_nil]); first | done | rfl | (simp only [List.length_drop, List.length_take]; rfl)) ?_; (with_reducible refine (marginaliaref16_Decode.calls k _ _ l0 t231 t232 t233 t234 t235 t238 _ ?side1 ?side2 A6.out).mono ?_); (case side1 => exact Kd.C_below HR0.out (by repeat (first | (with_reducible first | exact HB.out | apply below_alloc | apply pw_below_drewN | apply below_drew1 | refine below_set ?_ GE230.out) | exact HB.out))); (case side2 => exact HC0.out); rintro e w15 ⟨v236, rfl, ho0, hb⟩; refine ⟨_, rfl, ?_⟩; have n0_ := Aside0.mk (Kd.R_elder' (by (with_reducible repeat (first | apply Kd.R_alloc | apply Kd.R_drewN | apply Kd.R_drew)); exact (Kd.R_mono (Kd.R_far (p := ⟨gb230, 4, none⟩) (Kd.R_far (p := ⟨gb230, 3, none⟩) (Kd.R_far (p := ⟨gb230, 2, none⟩) (Kd.R_far (p := ⟨gb230, 1, none⟩) (Kd.R_far (p := ⟨gb230, 0, none⟩) (Kd.R_types HO228.out BK230.out (by decide)) (fun _ hk => hk.2) (.int .u64 t222)) (fun _ hk => hk.2) (.int .u64 t223)) (fun _ hk => hk.2) (.int .i64 t224)) (fun _ hk => hk.2) (.int .i64 t225)) (fun _ hk => hk.2) (.slice Ao14 t226.length co14)) (fun _ h_ => h_.1))) (Kd.R_base ho0) hb); have n1_ := Aside0.mk (Kd.R_lower (Kd.R_new' ho0 (Kd.R_lt (by (with_reducible repeat (first | apply Kd.R_alloc | apply Kd.R_drewN | apply Kd.R_drew)); exact (Kd.R_mono (Kd.R_far (p := ⟨gb230, 4, none⟩) (Kd.R_far (p := ⟨gb230, 3, none⟩) (Kd.R_far (p := ⟨gb230, 2, none⟩) (Kd.R_far (p := ⟨gb230, 1, none⟩) (Kd.R_far (p := ⟨gb230, 0, none⟩) (Kd.R_types HO228.out BK230.out (by decide)) (fun _ hk => hk.2) (.int .u64 t222)) (fun _ hk => hk.2) (.int .u64 t223)) (fun _ hk => hk.2) (.int .i64 t224)) (fun _ hk => hk.2) (.int .i64 t225)) (fun _ hk => hk.2) (.slice Ao14 t226.length co14)) (fun _ h_ => h_.1))))) (below_size (by repeat (first | (with_reducible first | exact HB.out | apply below_alloc | apply pw_below_drewN | apply below_drew1 | refine below_set ?_ GE230.out) | exact HB.out)))); have n2_ := Aside0.mk (blk_below (g := gb230) (o := .cells #[.int .u64 t222, .int .u64 t223, .int .i64 t224, .int .i64 t225, .slice Ao14 t226.length co14] 34 (0, 0)) (by (with_reducible repeat (first | refine blk_drewN ?_ _ | refine blk_drew ?_ | refine blk_alloc ?_ _)); refine blk_put (cs := #[.int .u64 t222, .int .u64 t223, .int .i64 t224, .int .i64 t225, .slice none 0 0]) ?_ 4 _ rfl; (with_reducible repeat (first | refine blk_drewN ?_ _ | refine blk_drew ?_ | refine blk_alloc ?_ _)); refine blk_put (cs := #[.int .u64 t222, .int .u64 t223, .int .i64 t224, .int .i64 0, .slice none 0 0]) ?_ 3 _ rfl; (with_reducible repeat (first | refine blk_drewN ?_ _ | refine blk_drew ?_ | refine blk_alloc ?_ _)); refine blk_put (cs := #[.int .u64 t222, .int .u64 t223, .int .i64 0, .int .i64 0, .slice none 0 0]) ?_ 2 _ rfl; (with_reducible repeat (first | refine blk_drewN ?_ _ | refine blk_drew ?_ | refine blk_alloc ?_ _)); refine blk_put (cs := #[.int .u64 t222, .int .u64 0, .int .i64 0, .int .i64 0, .slice none 0 0]) ?_ 1 _ rfl; (with_reducible repeat (first | refine blk_drewN ?_ _ | refine blk_drew ?_ | refine blk_alloc ?_ _)); refine blk_put (cs := #[.int .u64 0, .int .u64 0, .int .i64 0, .int .i64 0, .slice none 0 0]) ?_ 0 _ rfl; (with_reducible repeat (first | refine blk_drewN ?_ _ | refine blk_drew ?_ | refine blk_alloc ?_ _)); exact BK230.out) hb); have n3_ := Aside0.mk (below_step (by repeat (first | (with_reducible first | exact HB.out | apply below_alloc | apply pw_below_drewN | apply below_drew1 | refine below_set ?_ GE230.out) | exact HB.out)) hb); clear HO228; clear BK230; clear HB; have HO228 := n0_; have HO237 := n1_; have BK230 := n2_; have HB := n3_; clear n0_ n1_ n2_ n3_; (try clear hb); (try clear hb2); (try clear hk); (try clear hi); (try clear ho0)) | ((with_reducible refine gate_dst (N := 5) rfl ?_); refine box_event ?hg (N := 5) ?hd (cs := #[.int .u64 0, .int .u64 0, .int .i64 0, .int .i64 0, .slice none 0 0]) (t := 34) ?hr ?_; (case hd => rfl); (case hg => rfl); (case hr => first | (go_simp; done) | (go_simp; rfl)); intro gb239 hg w16 hbox hb; have n0_ := Aside0.mk (Kd.R_below (by (with_reducible repeat (first | apply Kd.R_alloc | apply Kd.R_drewN | apply Kd.R_drew)); exact HO228.out) hb); have n1_ := Aside0.mk (Kd.R_below (by (with_reducible repeat (first | apply Kd.R_alloc | apply Kd.R_drewN | apply Kd.R_drew)); exact HO237.out) hb); have n2_ := Aside0.mk (blk_below (g := gb230) (o := .cells #[.int .u64 t222, .int .u64 t223, .int .i64 t224, .int .i64 t225, .slice Ao14 t226.length co14] 34 (0, 0)) (by (with_reducible repeat (first | refine blk_drewN ?_ _ | refine blk_drew ?_ | refine blk_alloc ?_ _)); exact BK230.out) hb); have n3_ := Aside0.mk (below_step (by repeat (first | (with_reducible first | exact HB.out | apply below_alloc | apply pw_below_drewN | apply below_drew1 | refine below_set ?_ GE230.out) | exact HB.out)) hb); have n4_ := Aside0.mk (hbox); have n5_ := Aside0.mk ((by rw [hg]; exact (below_size (by repeat (first | (with_reducible first | exact HB.out | apply below_alloc | apply pw_below_drewN | apply below_drew1 | refine below_set ?_ GE230.out) | exact HB.out))) : w.heap.size ≤ gb239)); have n6_ := Aside0.mk ((by rw [hg]; exact (below_size (by repeat (first | (with_reducible first | exact HB.out | apply below_alloc | apply pw_below_drewN | apply below_drew1 | refine below_set ?_ GE230.out) | exact HB.out))) : w.heap.size ≤ gb239)); have n7_ := Aside0.mk ((by rw [hg]; exact Nat.ne_of_lt (blk_lt (g := gb230) (o := .cells #[.int .u64 t222, .int .u64 t223, .int .i64 t224, .int .i64 t225, .slice Ao14 t226.length co14] 34 (0, 0)) (by (with_reducible repeat (first | refine blk_drewN ?_ _ | refine blk_drew ?_ | refine blk_alloc ?_ _)); exact BK230.out)) : gb230 ≠ gb239)); have n8_ := Aside0.mk ((by rw [hg]; exact Nat.ne_of_gt (blk_lt (g := gb230) (o := .cells #[.int .u64 t222, .int .u64 t223, .int .i64 t224, .int .i64 t225, .slice Ao14 t226.length co14] 34 (0, 0)) (by (with_reducible repeat (first | refine blk_drewN ?_ _ | refine blk_drew ?_ | refine blk_alloc ?_ _)); exact BK230.out)) : gb239 ≠ gb230)); clear HO228; clear HO237; clear BK230; clear HB; have HO228 := n0_; have HO237 := n1_; have BK230 := n2_; have HB := n3_; have BK239 := n4_; have GW239 := n5_; have GE239 := n6_; have NB230_239 := n7_; have NB239_230 := n8_; clear n0_ n1_ n2_ n3_ n4_ n5_ n6_ n7_ n8_; clear hb hbox hg; have hnb17 := NB239_230.out; have hnc17 := NB230_239.out; have hcz18_0 : w16.cell? ⟨gb239, 0, none⟩ = some (.int .u64 0) := (blk_cell BK239.out 0).trans rfl; have hcz18_1 : w16.cell? ⟨gb239, 1, none⟩ = some (.int .u64 0) := (blk_cell BK239.out 1).trans rfl; have hcz18_2 : w16.cell? ⟨gb239, 2, none⟩ = some (.int .i64 0) := (blk_cell BK239.out 2).trans rfl; have hcz18_3 : w16.cell? ⟨gb239, 3, none⟩ = some (.int .i64 0) := (blk_cell BK239.out 3).trans rfl; have hcz18_4 : w16.cell? ⟨gb239, 4, none⟩ = some (.slice none 0 0) := (blk_cell BK239.out 4).trans rfl; have hfz18_0 := blk_frozen BK239.out 0; have hfz18_1 := blk_frozen BK239.out 1; have hfz18_2 := blk_frozen BK239.out 2; have hfz18_3 := blk_frozen BK239.out 3; have hfz18_4 := blk_frozen BK239.out 4; obtain ⟨Ao19, co19, eo19⟩ := Kd.R_slice HO237.out; subst eo19) | ((with_reducible refine gate_callee (f := 19) rfl ?_); refine goesL_ (some 21) rfl rfl Try.func19 (by kernel_rfl) rfl #[] rfl (by (try simp only [List.map_toArray, List.map_cons, List.map_nil]); first | done | rfl | (simp only [List.length_drop, List.length_take]; rfl)) ?_; (with_reducible refine (marginalialaw16_alive.calls k  true _ A7.out).mono ?_); rintro e w20 ⟨rfl, hb⟩; refine ⟨_, rfl, ?_⟩; have n0_ := Aside0.mk (Kd.R_below (by (with_reducible repeat (first | apply Kd.R_alloc | apply Kd.R_drewN | apply Kd.R_drew)); exact (Kd.R_mono (Kd.R_far (p := ⟨gb239, 4, none⟩) (Kd.R_far (p := ⟨gb239, 3, none⟩) (Kd.R_far (p := ⟨gb239, 2, none⟩) (Kd.R_far (p := ⟨gb239, 1, none⟩) (Kd.R_far (p := ⟨gb239, 0, none⟩) (Kd.R_types HO228.out BK239.out (by decide)) (fun _ hk => hk.2) (.int .u64 t231)) (fun _ hk => hk.2) (.int .u64 t232)) (fun _ hk => hk.2) (.int .i64 t233)) (fun _ hk => hk.2) (.int .i64 t234)) (fun _ hk => hk.2) (.slice Ao19 t235.length co19)) (fun _ h_ => h_.1))) hb); have n1_ := Aside0.mk (Kd.R_below (by (with_reducible repeat (first | apply Kd.R_alloc | apply Kd.R_drewN | apply Kd.R_drew)); exact (Kd.R_mono (Kd.R_far (p := ⟨gb239, 4, none⟩) (Kd.R_far (p := ⟨gb239, 3, none⟩) (Kd.R_far (p := ⟨gb239, 2, none⟩) (Kd.R_far (p := ⟨gb239, 1, none⟩) (Kd.R_far (p := ⟨gb239, 0, none⟩) (Kd.R_types HO237.out BK239.out (by decide)) (fun _ hk => hk.2) (.int .u64 t231)) (fun _ hk => hk.2) (.int .u64 t232)) (fun _ hk => hk.2) (.int .i64 t233)) (fun _ hk => hk.2) (.int .i64 t234)) (fun _ hk => hk.2) (.slice Ao19 t235.length co19)) (fun _ h_ => h_.1))) hb); have n2_ := Aside0.mk (blk_below (g := gb230) (o := .cells #[.int .u64 t222, .int .u64 t223, .int .i64 t224, .int .i64 t225, .slice Ao14 t226.length co14] 34 (0, 0)) (by (with_reducible repeat (first | refine blk_drewN ?_ _ | refine blk_drew ?_ | refine blk_alloc ?_ _)); refine blk_far ?_ NB230_239.out _; (with_reducible repeat (first | refine blk_drewN ?_ _ | refine blk_drew ?_ | refine blk_alloc ?_ _)); refine blk_far ?_ NB230_239.out _; (with_reducible repeat (first | refine blk_drewN ?_ _ | refine blk_drew ?_ | refine blk_alloc ?_ _)); refine blk_far ?_ NB230_239.out _; (with_reducible repeat (first | refine blk_drewN ?_ _ | refine blk_drew ?_ | refine blk_alloc ?_ _)); refine blk_far ?_ NB230_239.out _; (with_reducible repeat (first | refine blk_drewN ?_ _ | refine blk_drew ?_ | refine blk_alloc ?_ _)); refine blk_far ?_ NB230_239.out _; (with_reducible repeat (first | refine blk_drewN ?_ _ | refine blk_drew ?_ | refine blk_alloc ?_ _)); exact BK230.out) hb); have n3_ := Aside0.mk (blk_below (g := gb239) (o := .cells #[.int .u64 t231, .int .u64 t232, .int .i64 t233, .int .i64 t234, .slice Ao19 t235.length co19] 34 (0, 0)) (by (with_reducible repeat (first | refine blk_drewN ?_ _ | refine blk_drew ?_ | refine blk_alloc ?_ _)); refine blk_put (cs := #[.int .u64 t231, .int .u64 t232, .int .i64 t233, .int .i64 t234, .slice none 0 0]) ?_ 4 _ rfl; (with_reducible repeat (first | refine blk_drewN ?_ _ | refine blk_drew ?_ | refine blk_alloc ?_ _)); refine blk_put (cs := #[.int .u64 t231, .int .u64 t232, .int .i64 t233, .int .i64 0, .slice none 0 0]) ?_ 3 _ rfl; (with_reducible repeat (first | refine blk_drewN ?_ _ | refine blk_drew ?_ | refine blk_alloc ?_ _)); refine blk_put (cs := #[.int .u64 t231, .int .u64 t232, .int .i64 0, .int .i64 0, .slice none 0 0]) ?_ 2 _ rfl; (with_reducible repeat (first | refine blk_drewN ?_ _ | refine blk_drew ?_ | refine blk_alloc ?_ _)); refine blk_put (cs := #[.int .u64 t231, .int .u64 0, .int .i64 0, .int .i64 0, .slice none 0 0]) ?_ 1 _ rfl; (with_reducible repeat (first | refine blk_drewN ?_ _ | refine blk_drew ?_ | refine blk_alloc ?_ _)); refine blk_put (cs := #[.int .u64 0, .int .u64 0, .int .i64 0, .int .i64 0, .slice none 0 0]) ?_ 0 _ rfl; (with_reducible repeat (first | refine blk_drewN ?_ _ | refine blk_drew ?_ | refine blk_alloc ?_ _)); exact BK239.out) hb); have n4_ := Aside0.mk (below_step (by repeat (first | (with_reducible first | exact HB.out | apply below_alloc | apply pw_below_drewN | apply below_drew1 | refine below_set ?_ GE230.out | refine below_set ?_ GE239.out) | exact HB.out)) hb); clear HO228; clear HO237; clear BK230; clear BK239; clear HB; have HO228 := n0_; have HO237 := n1_; have BK230 := n2_; have BK239 := n3_; have HB := n4_; clear n0_ n1_ n2_ n3_ n4_; (try clear hb); (try clear hb2); (try clear hk); (try clear hi); have hcz21_0 : w20.cell? ⟨gb230, 0, none⟩ = some (.int .u64 t222) := (blk_cell BK230.out 0).trans rfl; have hcz21_1 : w20.cell? ⟨gb230, 1, none⟩ = some (.int .u64 t223) := (blk_cell BK230.out 1).trans rfl; have hcz21_2 : w20.cell? ⟨gb230, 2, none⟩ = some (.int .i64 t224) := (blk_cell BK230.out 2).trans rfl; have hcz21_3 : w20.cell? ⟨gb230, 3, none⟩ = some (.int .i64 t225) := (blk_cell BK230.out 3).trans rfl; have hcz21_4 : w20.cell? ⟨gb230, 4, none⟩ = some (.slice Ao14 t226.length co14) := (blk_cell BK230.out 4).trans rfl; have hfz21_0 := blk_frozen BK230.out 0; have hfz21_1 := blk_frozen BK230.out 1; have hfz21_2 := blk_frozen BK230.out 2; have hfz21_3 := blk_frozen BK230.out 3; have hfz21_4 := blk_frozen BK230.out 4; have hcz22_0 : w20.cell? ⟨gb239, 0, none⟩ = some (.int .u64 t231) := (blk_cell BK239.out 0).trans rfl; have hcz22_1 : w20.cell? ⟨gb239, 1, none⟩ = some (.int .u64 t232) := (blk_cell BK239.out 1).trans rfl; have hcz22_2 : w20.cell? ⟨gb239, 2, none⟩ = some (.int .i64 t233) := (blk_cell BK239.out 2).trans rfl; have hcz22_3 : w20.cell? ⟨gb239, 3, none⟩ = some (.int .i64 t234) := (blk_cell BK239.out 3).trans rfl; have hcz22_4 : w20.cell? ⟨gb239, 4, none⟩ = some (.slice Ao19 t235.length co19) := (blk_cell BK239.out 4).trans rfl; have hfz22_0 := blk_frozen BK239.out 0; have hfz22_1 := blk_frozen BK239.out 1; have hfz22_2 := blk_frozen BK239.out 2; have hfz22_3 := blk_frozen BK239.out 3; have hfz22_4 := blk_frozen BK239.out 4) | (go_at_call 22; (with_reducible refine (marginaliaref16_Same.calls t222 t223 t224 t225 _ _ t226 t231 t232 t233 t234 _ _ t235 true _ ?side1 ?side2 ?side3 ?side4 A9.out).mono ?_); (case side1 => repeat (first | exact (Kd.R_reads' HO228.out).2.2 | (with_reducible refine Kd.C_alloc ?_ _) | (with_reducible refine Kd.C_drewN ?_ _) | (with_reducible refine Kd.C_drew ?_))); (case side2 => exact (Kd.R_reads' HO228.out).2.1); (case side3 => repeat (first | exact (Kd.R_reads' HO237.out).2.2 | (with_reducible refine Kd.C_alloc ?_ _) | (with_reducible refine Kd.C_drewN ?_ _) | (with_reducible refine Kd.C_drew ?_))); (case side4 => exact (Kd.R_reads' HO237.out).2.1); rintro e w23 ⟨rfl, hb⟩; have n0_ := Aside0.mk (Kd.R_below (by (with_reducible repeat (first | apply Kd.R_alloc | apply Kd.R_drewN | apply Kd.R_drew)); exact HO228.out) hb); have n1_ := Aside0.mk (Kd.R_below (by (with_reducible repeat (first | apply Kd.R_alloc | apply Kd.R_drewN | apply Kd.R_drew)); exact HO237.out) hb); have n2_ := Aside0.mk (blk_below (g := gb230) (o := .cells #[.int .u64 t222, .int .u64 t223, .int .i64 t224, .int .i64 t225, .slice Ao14 t226.length co14] 34 (0, 0)) (by (with_reducible repeat (first | refine blk_drewN ?_ _ | refine blk_drew ?_ | refine blk_alloc ?_ _)); exact BK230.out) hb); have n3_ := Aside0.mk (blk_below (g := gb239) (o := .cells #[.int .u64 t231, .int .u64 t232, .int .i64 t233, .int .i64 t234, .slice Ao19 t235.length co19] 34 (0, 0)) (by (with_reducible repeat (first | refine blk_drewN ?_ _ | refine blk_drew ?_ | refine blk_alloc ?_ _)); exact BK239.out) hb); have n4_ := Aside0.mk (below_step (by repeat (first | (with_reducible first | exact HB.out | apply below_alloc | apply pw_below_drewN | apply below_drew1 | refine below_set ?_ GE230.out | refine below_set ?_ GE239.out) | exact HB.out)) hb); clear HO228; clear HO237; clear BK230; clear BK239; clear HB; have HO228 := n0_; have HO237 := n1_; have BK230 := n2_; have BK239 := n3_; have HB := n4_; clear n0_ n1_ n2_ n3_ n4_; (try clear hb); (try clear hb2); (try clear hk); (try clear hi)))
        go_ret
        exact ⟨by first | rfl | (simp [errW_none, errW_some] <;> rfl) | (simp [*, errW_none, errW_some] <;> rfl), by repeat (first | (with_reducible first | exact HB.out | apply below_alloc | apply pw_below_drewN | apply below_drew1 | refine below_set ?_ GE230.out | refine below_set ?_ GE239.out) | exact HB.out)⟩
      · replace c10 := Bool.eq_false_iff.mpr c10
        subst c10
        have H1 : (some false) = some r := by rw [if_neg (show ¬ (false = true) by decide)] at H; exact H
        clear H
        have H := H1
        clear H1
        obtain rfl := Option.some.inj H
        go_enter Try.func8, Try.ntmps8
        go_wp2_with (first | ((with_reducible refine gate_callee (f := 20) rfl ?_); refine goesL_ (some 13) rfl rfl Try.func20 (by kernel_rfl) rfl #[.slice A0 l0.length c0] rfl (by (try simp only [List.map_toArray, List.map_cons, List.map_nil]); first | done | rfl | (simp only [List.length_drop, List.length_take]; rfl)) ?_; (with_reducible refine (cell_Decode.calls k _ _ l0 t222 t223 t224 t225 t226 t229 _ ?side1 ?side2 A5.out).mono ?_); (case side1 => repeat (first | exact HR0.out | (with_reducible refine Kd.C_alloc ?_ _) | (with_reducible refine Kd.C_drewN ?_ _) | (with_reducible refine Kd.C_drew ?_))); (case side2 => exact HC0.out); rintro e w24 ⟨v227, rfl, ho0, hb⟩; refine ⟨_, rfl, ?_⟩; have n0_ := Aside0.mk (Kd.R_lower ho0 (below_size (by repeat (first | (with_reducible first | exact HB.out | apply below_alloc | apply pw_below_drewN | apply below_drew1) | exact HB.out)))); have n1_ := Aside0.mk (below_step (by repeat (first | (with_reducible first | exact HB.out | apply below_alloc | apply pw_below_drewN | apply below_drew1) | exact HB.out)) hb); clear HB; have HO228 := n0_; have HB := n1_; clear n0_ n1_; (try clear hb); (try clear hb2); (try clear hk); (try clear hi); (try clear ho0)) | ((with_reducible refine gate_dst (N := 3) rfl ?_); refine box_event ?hg (N := 3) ?hd (cs := #[.int .u64 0, .int .u64 0, .int .i64 0, .int .i64 0, .slice none 0 0]) (t := 34) ?hr ?_; (case hd => rfl); (case hg => rfl); (case hr => first | (go_simp; done) | (go_simp; rfl)); intro gb230 hg w25 hbox hb; have n0_ := Aside0.mk (Kd.R_below (by (with_reducible repeat (first | apply Kd.R_alloc | apply Kd.R_drewN | apply Kd.R_drew)); exact HO228.out) hb); have n1_ := Aside0.mk (below_step (by repeat (first | (with_reducible first | exact HB.out | apply below_alloc | apply pw_below_drewN | apply below_drew1) | exact HB.out)) hb); have n2_ := Aside0.mk (hbox); have n3_ := Aside0.mk ((by rw [hg]; exact (below_size (by repeat (first | (with_reducible first | exact HB.out | apply below_alloc | apply pw_below_drewN | apply below_drew1) | exact HB.out))) : w.heap.size ≤ gb230)); have n4_ := Aside0.mk ((by rw [hg]; exact (below_size (by repeat (first | (with_reducible first | exact HB.out | apply below_alloc | apply pw_below_drewN | apply below_drew1) | exact HB.out))) : w.heap.size ≤ gb230)); clear HO228; clear HB; have HO228 := n0_; have HB := n1_; have BK230 := n2_; have GW230 := n3_; have GE230 := n4_; clear n0_ n1_ n2_ n3_ n4_; clear hb hbox hg; have hcz26_0 : w25.cell? ⟨gb230, 0, none⟩ = some (.int .u64 0) := (blk_cell BK230.out 0).trans rfl; have hcz26_1 : w25.cell? ⟨gb230, 1, none⟩ = some (.int .u64 0) := (blk_cell BK230.out 1).trans rfl; have hcz26_2 : w25.cell? ⟨gb230, 2, none⟩ = some (.int .i64 0) := (blk_cell BK230.out 2).trans rfl; have hcz26_3 : w25.cell? ⟨gb230, 3, none⟩ = some (.int .i64 0) := (blk_cell BK230.out 3).trans rfl; have hcz26_4 : w25.cell? ⟨gb230, 4, none⟩ = some (.slice none 0 0) := (blk_cell BK230.out 4).trans rfl; have hfz26_0 := blk_frozen BK230.out 0; have hfz26_1 := blk_frozen BK230.out 1; have hfz26_2 := blk_frozen BK230.out 2; have hfz26_3 := blk_frozen BK230.out 3; have hfz26_4 := blk_frozen BK230.out 4; obtain ⟨Ao27, co27, eo27⟩ := Kd.R_slice HO228.out; subst eo27) | ((with_reducible refine gate_callee (f := 21) rfl ?_); refine goesL_ (some 18) rfl rfl Try.func21 (by kernel_rfl) rfl #[.slice A0 l0.length c0] rfl (by (try simp only [List.map_toArray, List.map_cons, List.map_nil]); first | done | rfl | (simp only [List.length_drop, List.length_take]; rfl)) ?_; (with_reducible refine (marginaliaref16_Decode.calls k _ _ l0 t231 t232 t233 t234 t235 t238 _ ?side1 ?side2 A6.out).mono ?_); (case side1 => exact Kd.C_below HR0.out (by repeat (first | (with_reducible first | exact HB.out | apply below_alloc | apply pw_below_drewN | apply below_drew1 | refine below_set ?_ GE230.out) | exact HB.out))); (case side2 => exact HC0.out); rintro e w28 ⟨v236, rfl, ho0, hb⟩; refine ⟨_, rfl, ?_⟩; have n0_ := Aside0.mk (Kd.R_elder' (by (with_reducible repeat (first | apply Kd.R_alloc | apply Kd.R_drewN | apply Kd.R_drew)); exact (Kd.R_mono (Kd.R_far (p := ⟨gb230, 4, none⟩) (Kd.R_far (p := ⟨gb230, 3, none⟩) (Kd.R_far (p := ⟨gb230, 2, none⟩) (Kd.R_far (p := ⟨gb230, 1, none⟩) (Kd.R_far (p := ⟨gb230, 0, none⟩) (Kd.R_types HO228.out BK230.out (by decide)) (fun _ hk => hk.2) (.int .u64 t222)) (fun _ hk => hk.2) (.int .u64 t223)) (fun _ hk => hk.2) (.int .i64 t224)) (fun _ hk => hk.2) (.int .i64 t225)) (fun _ hk => hk.2) (.slice Ao27 t226.length co27)) (fun _ h_ => h_.1))) (Kd.R_base ho0) hb); have n1_ := Aside0.mk (Kd.R_lower (Kd.R_new' ho0 (Kd.R_lt (by (with_reducible repeat (first | apply Kd.R_alloc | apply Kd.R_drewN | apply Kd.R_drew)); exact (Kd.R_mono (Kd.R_far (p := ⟨gb230, 4, none⟩) (Kd.R_far (p := ⟨gb230, 3, none⟩) (Kd.R_far (p := ⟨gb230, 2, none⟩) (Kd.R_far (p := ⟨gb230, 1, none⟩) (Kd.R_far (p := ⟨gb230, 0, none⟩) (Kd.R_types HO228.out BK230.out (by decide)) (fun _ hk => hk.2) (.int .u64 t222)) (fun _ hk => hk.2) (.int .u64 t223)) (fun _ hk => hk.2) (.int .i64 t224)) (fun _ hk => hk.2) (.int .i64 t225)) (fun _ hk => hk.2) (.slice Ao27 t226.length co27)) (fun _ h_ => h_.1))))) (below_size (by repeat (first | (with_reducible first | exact HB.out | apply below_alloc | apply pw_below_drewN | apply below_drew1 | refine below_set ?_ GE230.out) | exact HB.out)))); have n2_ := Aside0.mk (blk_below (g := gb230) (o := .cells #[.int .u64 t222, .int .u64 t223, .int .i64 t224, .int .i64 t225, .slice Ao27 t226.length co27] 34 (0, 0)) (by (with_reducible repeat (first | refine blk_drewN ?_ _ | refine blk_drew ?_ | refine blk_alloc ?_ _)); refine blk_put (cs := #[.int .u64 t222, .int .u64 t223, .int .i64 t224, .int .i64 t225, .slice none 0 0]) ?_ 4 _ rfl; (with_reducible repeat (first | refine blk_drewN ?_ _ | refine blk_drew ?_ | refine blk_alloc ?_ _)); refine blk_put (cs := #[.int .u64 t222, .int .u64 t223, .int .i64 t224, .int .i64 0, .slice none 0 0]) ?_ 3 _ rfl; (with_reducible repeat (first | refine blk_drewN ?_ _ | refine blk_drew ?_ | refine blk_alloc ?_ _)); refine blk_put (cs := #[.int .u64 t222, .int .u64 t223, .int .i64 0, .int .i64 0, .slice none 0 0]) ?_ 2 _ rfl; (with_reducible repeat (first | refine blk_drewN ?_ _ | refine blk_drew ?_ | refine blk_alloc ?_ _)); refine blk_put (cs := #[.int .u64 t222, .int .u64 0, .int .i64 0, .int .i64 0, .slice none 0 0]) ?_ 1 _ rfl; (with_reducible repeat (first | refine blk_drewN ?_ _ | refine blk_drew ?_ | refine blk_alloc ?_ _)); refine blk_put (cs := #[.int .u64 0, .int .u64 0, .int .i64 0, .int .i64 0, .slice none 0 0]) ?_ 0 _ rfl; (with_reducible repeat (first | refine blk_drewN ?_ _ | refine blk_drew ?_ | refine blk_alloc ?_ _)); exact BK230.out) hb); have n3_ := Aside0.mk (below_step (by repeat (first | (with_reducible first | exact HB.out | apply below_alloc | apply pw_below_drewN | apply below_drew1 | refine below_set ?_ GE230.out) | exact HB.out)) hb); clear HO228; clear BK230; clear HB; have HO228 := n0_; have HO237 := n1_; have BK230 := n2_; have HB := n3_; clear n0_ n1_ n2_ n3_; (try clear hb); (try clear hb2); (try clear hk); (try clear hi); (try clear ho0)) | ((with_reducible refine gate_dst (N := 5) rfl ?_); refine box_event ?hg (N := 5) ?hd (cs := #[.int .u64 0, .int .u64 0, .int .i64 0, .int .i64 0, .slice none 0 0]) (t := 34) ?hr ?_; (case hd => rfl); (case hg => rfl); (case hr => first | (go_simp; done) | (go_simp; rfl)); intro gb239 hg w29 hbox hb; have n0_ := Aside0.mk (Kd.R_below (by (with_reducible repeat (first | apply Kd.R_alloc | apply Kd.R_drewN | apply Kd.R_drew)); exact HO228.out) hb); have n1_ := Aside0.mk (Kd.R_below (by (with_reducible repeat (first | apply Kd.R_alloc | apply Kd.R_drewN | apply Kd.R_drew)); exact HO237.out) hb); have n2_ := Aside0.mk (blk_below (g := gb230) (o := .cells #[.int .u64 t222, .int .u64 t223, .int .i64 t224, .int .i64 t225, .slice Ao27 t226.length co27] 34 (0, 0)) (by (with_reducible repeat (first | refine blk_drewN ?_ _ | refine blk_drew ?_ | refine blk_alloc ?_ _)); exact BK230.out) hb); have n3_ := Aside0.mk (below_step (by repeat (first | (with_reducible first | exact HB.out | apply below_alloc | apply pw_below_drewN | apply below_drew1 | refine below_set ?_ GE230.out) | exact HB.out)) hb); have n4_ := Aside0.mk (hbox); have n5_ := Aside0.mk ((by rw [hg]; exact (below_size (by repeat (first | (with_reducible first | exact HB.out | apply below_alloc | apply pw_below_drewN | apply below_drew1 | refine below_set ?_ GE230.out) | exact HB.out))) : w.heap.size ≤ gb239)); have n6_ := Aside0.mk ((by rw [hg]; exact (below_size (by repeat (first | (with_reducible first | exact HB.out | apply below_alloc | apply pw_below_drewN | apply below_drew1 | refine below_set ?_ GE230.out) | exact HB.out))) : w.heap.size ≤ gb239)); have n7_ := Aside0.mk ((by rw [hg]; exact Nat.ne_of_lt (blk_lt (g := gb230) (o := .cells #[.int .u64 t222, .int .u64 t223, .int .i64 t224, .int .i64 t225, .slice Ao27 t226.length co27] 34 (0, 0)) (by (with_reducible repeat (first | refine blk_drewN ?_ _ | refine blk_drew ?_ | refine blk_alloc ?_ _)); exact BK230.out)) : gb230 ≠ gb239)); have n8_ := Aside0.mk ((by rw [hg]; exact Nat.ne_of_gt (blk_lt (g := gb230) (o := .cells #[.int .u64 t222, .int .u64 t223, .int .i64 t224, .int .i64 t225, .slice Ao27 t226.length co27] 34 (0, 0)) (by (with_reducible repeat (first | refine blk_drewN ?_ _ | refine blk_drew ?_ | refine blk_alloc ?_ _)); exact BK230.out)) : gb239 ≠ gb230)); clear HO228; clear HO237; clear BK230; clear HB; have HO228 := n0_; have HO237 := n1_; have BK230 := n2_; have HB := n3_; have BK239 := n4_; have GW239 := n5_; have GE239 := n6_; have NB230_239 := n7_; have NB239_230 := n8_; clear n0_ n1_ n2_ n3_ n4_ n5_ n6_ n7_ n8_; clear hb hbox hg; have hnb30 := NB239_230.out; have hnc30 := NB230_239.out; have hcz31_0 : w29.cell? ⟨gb239, 0, none⟩ = some (.int .u64 0) := (blk_cell BK239.out 0).trans rfl; have hcz31_1 : w29.cell? ⟨gb239, 1, none⟩ = some (.int .u64 0) := (blk_cell BK239.out 1).trans rfl; have hcz31_2 : w29.cell? ⟨gb239, 2, none⟩ = some (.int .i64 0) := (blk_cell BK239.out 2).trans rfl; have hcz31_3 : w29.cell? ⟨gb239, 3, none⟩ = some (.int .i64 0) := (blk_cell BK239.out 3).trans rfl; have hcz31_4 : w29.cell? ⟨gb239, 4, none⟩ = some (.slice none 0 0) := (blk_cell BK239.out 4).trans rfl; have hfz31_0 := blk_frozen BK239.out 0; have hfz31_1 := blk_frozen BK239.out 1; have hfz31_2 := blk_frozen BK239.out 2; have hfz31_3 := blk_frozen BK239.out 3; have hfz31_4 := blk_frozen BK239.out 4; obtain ⟨Ao32, co32, eo32⟩ := Kd.R_slice HO237.out; subst eo32) | ((with_reducible refine gate_callee (f := 19) rfl ?_); refine goesL_ (some 21) rfl rfl Try.func19 (by kernel_rfl) rfl #[] rfl (by (try simp only [List.map_toArray, List.map_cons, List.map_nil]); first | done | rfl | (simp only [List.length_drop, List.length_take]; rfl)) ?_; (with_reducible refine (marginalialaw16_alive.calls k  true _ A7.out).mono ?_); rintro e w33 ⟨rfl, hb⟩; refine ⟨_, rfl, ?_⟩; have n0_ := Aside0.mk (Kd.R_below (by (with_reducible repeat (first | apply Kd.R_alloc | apply Kd.R_drewN | apply Kd.R_drew)); exact (Kd.R_mono (Kd.R_far (p := ⟨gb239, 4, none⟩) (Kd.R_far (p := ⟨gb239, 3, none⟩) (Kd.R_far (p := ⟨gb239, 2, none⟩) (Kd.R_far (p := ⟨gb239, 1, none⟩) (Kd.R_far (p := ⟨gb239, 0, none⟩) (Kd.R_types HO228.out BK239.out (by decide)) (fun _ hk => hk.2) (.int .u64 t231)) (fun _ hk => hk.2) (.int .u64 t232)) (fun _ hk => hk.2) (.int .i64 t233)) (fun _ hk => hk.2) (.int .i64 t234)) (fun _ hk => hk.2) (.slice Ao32 t235.length co32)) (fun _ h_ => h_.1))) hb); have n1_ := Aside0.mk (Kd.R_below (by (with_reducible repeat (first | apply Kd.R_alloc | apply Kd.R_drewN | apply Kd.R_drew)); exact (Kd.R_mono (Kd.R_far (p := ⟨gb239, 4, none⟩) (Kd.R_far (p := ⟨gb239, 3, none⟩) (Kd.R_far (p := ⟨gb239, 2, none⟩) (Kd.R_far (p := ⟨gb239, 1, none⟩) (Kd.R_far (p := ⟨gb239, 0, none⟩) (Kd.R_types HO237.out BK239.out (by decide)) (fun _ hk => hk.2) (.int .u64 t231)) (fun _ hk => hk.2) (.int .u64 t232)) (fun _ hk => hk.2) (.int .i64 t233)) (fun _ hk => hk.2) (.int .i64 t234)) (fun _ hk => hk.2) (.slice Ao32 t235.length co32)) (fun _ h_ => h_.1))) hb); have n2_ := Aside0.mk (blk_below (g := gb230) (o := .cells #[.int .u64 t222, .int .u64 t223, .int .i64 t224, .int .i64 t225, .slice Ao27 t226.length co27] 34 (0, 0)) (by (with_reducible repeat (first | refine blk_drewN ?_ _ | refine blk_drew ?_ | refine blk_alloc ?_ _)); refine blk_far ?_ NB230_239.out _; (with_reducible repeat (first | refine blk_drewN ?_ _ | refine blk_drew ?_ | refine blk_alloc ?_ _)); refine blk_far ?_ NB230_239.out _; (with_reducible repeat (first | refine blk_drewN ?_ _ | refine blk_drew ?_ | refine blk_alloc ?_ _)); refine blk_far ?_ NB230_239.out _; (with_reducible repeat (first | refine blk_drewN ?_ _ | refine blk_drew ?_ | refine blk_alloc ?_ _)); refine blk_far ?_ NB230_239.out _; (with_reducible repeat (first | refine blk_drewN ?_ _ | refine blk_drew ?_ | refine blk_alloc ?_ _)); refine blk_far ?_ NB230_239.out _; (with_reducible repeat (first | refine blk_drewN ?_ _ | refine blk_drew ?_ | refine blk_alloc ?_ _)); exact BK230.out) hb); have n3_ := Aside0.mk (blk_below (g := gb239) (o := .cells #[.int .u64 t231, .int .u64 t232, .int .i64 t233, .int .i64 t234, .slice Ao32 t235.length co32] 34 (0, 0)) (by (with_reducible repeat (first | refine blk_drewN ?_ _ | refine blk_drew ?_ | refine blk_alloc ?_ _)); refine blk_put (cs := #[.int .u64 t231, .int .u64 t232, .int .i64 t233, .int .i64 t234, .slice none 0 0]) ?_ 4 _ rfl; (with_reducible repeat (first | refine blk_drewN ?_ _ | refine blk_drew ?_ | refine blk_alloc ?_ _)); refine blk_put (cs := #[.int .u64 t231, .int .u64 t232, .int .i64 t233, .int .i64 0, .slice none 0 0]) ?_ 3 _ rfl; (with_reducible repeat (first | refine blk_drewN ?_ _ | refine blk_drew ?_ | refine blk_alloc ?_ _)); refine blk_put (cs := #[.int .u64 t231, .int .u64 t232, .int .i64 0, .int .i64 0, .slice none 0 0]) ?_ 2 _ rfl; (with_reducible repeat (first | refine blk_drewN ?_ _ | refine blk_drew ?_ | refine blk_alloc ?_ _)); refine blk_put (cs := #[.int .u64 t231, .int .u64 0, .int .i64 0, .int .i64 0, .slice none 0 0]) ?_ 1 _ rfl; (with_reducible repeat (first | refine blk_drewN ?_ _ | refine blk_drew ?_ | refine blk_alloc ?_ _)); refine blk_put (cs := #[.int .u64 0, .int .u64 0, .int .i64 0, .int .i64 0, .slice none 0 0]) ?_ 0 _ rfl; (with_reducible repeat (first | refine blk_drewN ?_ _ | refine blk_drew ?_ | refine blk_alloc ?_ _)); exact BK239.out) hb); have n4_ := Aside0.mk (below_step (by repeat (first | (with_reducible first | exact HB.out | apply below_alloc | apply pw_below_drewN | apply below_drew1 | refine below_set ?_ GE230.out | refine below_set ?_ GE239.out) | exact HB.out)) hb); clear HO228; clear HO237; clear BK230; clear BK239; clear HB; have HO228 := n0_; have HO237 := n1_; have BK230 := n2_; have BK239 := n3_; have HB := n4_; clear n0_ n1_ n2_ n3_ n4_; (try clear hb); (try clear hb2); (try clear hk); (try clear hi); have hcz34_0 : w33.cell? ⟨gb230, 0, none⟩ = some (.int .u64 t222) := (blk_cell BK230.out 0).trans rfl; have hcz34_1 : w33.cell? ⟨gb230, 1, none⟩ = some (.int .u64 t223) := (blk_cell BK230.out 1).trans rfl; have hcz34_2 : w33.cell? ⟨gb230, 2, none⟩ = some (.int .i64 t224) := (blk_cell BK230.out 2).trans rfl; have hcz34_3 : w33.cell? ⟨gb230, 3, none⟩ = some (.int .i64 t225) := (blk_cell BK230.out 3).trans rfl; have hcz34_4 : w33.cell? ⟨gb230, 4, none⟩ = some (.slice Ao27 t226.length co27) := (blk_cell BK230.out 4).trans rfl; have hfz34_0 := blk_frozen BK230.out 0; have hfz34_1 := blk_frozen BK230.out 1; have hfz34_2 := blk_frozen BK230.out 2; have hfz34_3 := blk_frozen BK230.out 3; have hfz34_4 := blk_frozen BK230.out 4; have hcz35_0 : w33.cell? ⟨gb239, 0, none⟩ = some (.int .u64 t231) := (blk_cell BK239.out 0).trans rfl; have hcz35_1 : w33.cell? ⟨gb239, 1, none⟩ = some (.int .u64 t232) := (blk_cell BK239.out 1).trans rfl; have hcz35_2 : w33.cell? ⟨gb239, 2, none⟩ = some (.int .i64 t233) := (blk_cell BK239.out 2).trans rfl; have hcz35_3 : w33.cell? ⟨gb239, 3, none⟩ = some (.int .i64 t234) := (blk_cell BK239.out 3).trans rfl; have hcz35_4 : w33.cell? ⟨gb239, 4, none⟩ = some (.slice Ao32 t235.length co32) := (blk_cell BK239.out 4).trans rfl; have hfz35_0 := blk_frozen BK239.out 0; have hfz35_1 := blk_frozen BK239.out 1; have hfz35_2 := blk_frozen BK239.out 2; have hfz35_3 := blk_frozen BK239.out 3; have hfz35_4 := blk_frozen BK239.out 4) | (go_at_call 22; (with_reducible refine (marginaliaref16_Same.calls t222 t223 t224 t225 _ _ t226 t231 t232 t233 t234 _ _ t235 false _ ?side1 ?side2 ?side3 ?side4 A9.out).mono ?_); (case side1 => repeat (first | exact (Kd.R_reads' HO228.out).2.2 | (with_reducible refine Kd.C_alloc ?_ _) | (with_reducible refine Kd.C_drewN ?_ _) | (with_reducible refine Kd.C_drew ?_))); (case side2 => exact (Kd.R_reads' HO228.out).2.1); (case side3 => repeat (first | exact (Kd.R_reads' HO237.out).2.2 | (with_reducible refine Kd.C_alloc ?_ _) | (with_reducible refine Kd.C_drewN ?_ _) | (with_reducible refine Kd.C_drew ?_))); (case side4 => exact (Kd.R_reads' HO237.out).2.1); rintro e w36 ⟨rfl, hb⟩; have n0_ := Aside0.mk (Kd.R_below (by (with_reducible repeat (first | apply Kd.R_alloc | apply Kd.R_drewN | apply Kd.R_drew)); exact HO228.out) hb); have n1_ := Aside0.mk (Kd.R_below (by (with_reducible repeat (first | apply Kd.R_alloc | apply Kd.R_drewN | apply Kd.R_drew)); exact HO237.out) hb); have n2_ := Aside0.mk (blk_below (g := gb230) (o := .cells #[.int .u64 t222, .int .u64 t223, .int .i64 t224, .int .i64 t225, .slice Ao27 t226.length co27] 34 (0, 0)) (by (with_reducible repeat (first | refine blk_drewN ?_ _ | refine blk_drew ?_ | refine blk_alloc ?_ _)); exact BK230.out) hb); have n3_ := Aside0.mk (blk_below (g := gb239) (o := .cells #[.int .u64 t231, .int .u64 t232, .int .i64 t233, .int .i64 t234, .slice Ao32 t235.length co32] 34 (0, 0)) (by (with_reducible repeat (first | refine blk_drewN ?_ _ | refine blk_drew ?_ | refine blk_alloc ?_ _)); exact BK239.out) hb); have n4_ := Aside0.mk (below_step (by repeat (first | (with_reducible first | exact HB.out | apply below_alloc | apply pw_below_drewN | apply below_drew1 | refine below_set ?_ GE230.out | refine below_set ?_ GE239.out) | exact HB.out)) hb); clear HO228; clear HO237; clear BK230; clear BK239; clear HB; have HO228 := n0_; have HO237 := n1_; have BK230 := n2_; have BK239 := n3_; have HB := n4_; clear n0_ n1_ n2_ n3_ n4_; (try clear hb); (try clear hb2); (try clear hk); (try clear hi)))
        go_ret
        exact ⟨by first | rfl | (simp [errW_none, errW_some] <;> rfl) | (simp [*, errW_none, errW_some] <;> rfl), by repeat (first | (with_reducible first | exact HB.out | apply below_alloc | apply pw_below_drewN | apply below_drew1 | refine below_set ?_ GE230.out | refine below_set ?_ GE239.out) | exact HB.out)⟩
    · replace c8 := Bool.eq_false_iff.mpr c8
      subst c8
      have H1 : (some false) = some r := by rw [if_neg (show ¬ (false = true) by decide)] at H; exact H
      clear H
      have H := H1
      clear H1
      obtain rfl := Option.some.inj H
      go_enter Try.func8, Try.ntmps8
      go_wp2_with (first | ((with_reducible refine gate_callee (f := 20) rfl ?_); refine goesL_ (some 13) rfl rfl Try.func20 (by kernel_rfl) rfl #[.slice A0 l0.length c0] rfl (by (try simp only [List.map_toArray, List.map_cons, List.map_nil]); first | done | rfl | (simp only [List.length_drop, List.length_take]; rfl)) ?_; (with_reducible refine (cell_Decode.calls k _ _ l0 t222 t223 t224 t225 t226 t229 _ ?side1 ?side2 A5.out).mono ?_); (case side1 => repeat (first | exact HR0.out | (with_reducible refine Kd.C_alloc ?_ _) | (with_reducible refine Kd.C_drewN ?_ _) | (with_reducible refine Kd.C_drew ?_))); (case side2 => exact HC0.out); rintro e w37 ⟨v227, rfl, ho0, hb⟩; refine ⟨_, rfl, ?_⟩; have n0_ := Aside0.mk (Kd.R_lower ho0 (below_size (by repeat (first | (with_reducible first | exact HB.out | apply below_alloc | apply pw_below_drewN | apply below_drew1) | exact HB.out)))); have n1_ := Aside0.mk (below_step (by repeat (first | (with_reducible first | exact HB.out | apply below_alloc | apply pw_below_drewN | apply below_drew1) | exact HB.out)) hb); clear HB; have HO228 := n0_; have HB := n1_; clear n0_ n1_; (try clear hb); (try clear hb2); (try clear hk); (try clear hi); (try clear ho0)) | ((with_reducible refine gate_dst (N := 3) rfl ?_); refine box_event ?hg (N := 3) ?hd (cs := #[.int .u64 0, .int .u64 0, .int .i64 0, .int .i64 0, .slice none 0 0]) (t := 34) ?hr ?_; (case hd => rfl); (case hg => rfl); (case hr => first | (go_simp; done) | (go_simp; rfl)); intro gb230 hg w38 hbox hb; have n0_ := Aside0.mk (Kd.R_below (by (with_reducible repeat (first | apply Kd.R_alloc | apply Kd.R_drewN | apply Kd.R_drew)); exact HO228.out) hb); have n1_ := Aside0.mk (below_step (by repeat (first | (with_reducible first | exact HB.out | apply below_alloc | apply pw_below_drewN | apply below_drew1) | exact HB.out)) hb); have n2_ := Aside0.mk (hbox); have n3_ := Aside0.mk ((by rw [hg]; exact (below_size (by repeat (first | (with_reducible first | exact HB.out | apply below_alloc | apply pw_below_drewN | apply below_drew1) | exact HB.out))) : w.heap.size ≤ gb230)); have n4_ := Aside0.mk ((by rw [hg]; exact (below_size (by repeat (first | (with_reducible first | exact HB.out | apply below_alloc | apply pw_below_drewN | apply below_drew1) | exact HB.out))) : w.heap.size ≤ gb230)); clear HO228; clear HB; have HO228 := n0_; have HB := n1_; have BK230 := n2_; have GW230 := n3_; have GE230 := n4_; clear n0_ n1_ n2_ n3_ n4_; clear hb hbox hg; have hcz39_0 : w38.cell? ⟨gb230, 0, none⟩ = some (.int .u64 0) := (blk_cell BK230.out 0).trans rfl; have hcz39_1 : w38.cell? ⟨gb230, 1, none⟩ = some (.int .u64 0) := (blk_cell BK230.out 1).trans rfl; have hcz39_2 : w38.cell? ⟨gb230, 2, none⟩ = some (.int .i64 0) := (blk_cell BK230.out 2).trans rfl; have hcz39_3 : w38.cell? ⟨gb230, 3, none⟩ = some (.int .i64 0) := (blk_cell BK230.out 3).trans rfl; have hcz39_4 : w38.cell? ⟨gb230, 4, none⟩ = some (.slice none 0 0) := (blk_cell BK230.out 4).trans rfl; have hfz39_0 := blk_frozen BK230.out 0; have hfz39_1 := blk_frozen BK230.out 1; have hfz39_2 := blk_frozen BK230.out 2; have hfz39_3 := blk_frozen BK230.out 3; have hfz39_4 := blk_frozen BK230.out 4; obtain ⟨Ao40, co40, eo40⟩ := Kd.R_slice HO228.out; subst eo40) | ((with_reducible refine gate_callee (f := 21) rfl ?_); refine goesL_ (some 18) rfl rfl Try.func21 (by kernel_rfl) rfl #[.slice A0 l0.length c0] rfl (by (try simp only [List.map_toArray, List.map_cons, List.map_nil]); first | done | rfl | (simp only [List.length_drop, List.length_take]; rfl)) ?_; (with_reducible refine (marginaliaref16_Decode.calls k _ _ l0 t231 t232 t233 t234 t235 t238 _ ?side1 ?side2 A6.out).mono ?_); (case side1 => exact Kd.C_below HR0.out (by repeat (first | (with_reducible first | exact HB.out | apply below_alloc | apply pw_below_drewN | apply below_drew1 | refine below_set ?_ GE230.out) | exact HB.out))); (case side2 => exact HC0.out); rintro e w41 ⟨v236, rfl, ho0, hb⟩; refine ⟨_, rfl, ?_⟩; have n0_ := Aside0.mk (Kd.R_elder' (by (with_reducible repeat (first | apply Kd.R_alloc | apply Kd.R_drewN | apply Kd.R_drew)); exact (Kd.R_mono (Kd.R_far (p := ⟨gb230, 4, none⟩) (Kd.R_far (p := ⟨gb230, 3, none⟩) (Kd.R_far (p := ⟨gb230, 2, none⟩) (Kd.R_far (p := ⟨gb230, 1, none⟩) (Kd.R_far (p := ⟨gb230, 0, none⟩) (Kd.R_types HO228.out BK230.out (by decide)) (fun _ hk => hk.2) (.int .u64 t222)) (fun _ hk => hk.2) (.int .u64 t223)) (fun _ hk => hk.2) (.int .i64 t224)) (fun _ hk => hk.2) (.int .i64 t225)) (fun _ hk => hk.2) (.slice Ao40 t226.length co40)) (fun _ h_ => h_.1))) (Kd.R_base ho0) hb); have n1_ := Aside0.mk (Kd.R_lower (Kd.R_new' ho0 (Kd.R_lt (by (with_reducible repeat (first | apply Kd.R_alloc | apply Kd.R_drewN | apply Kd.R_drew)); exact (Kd.R_mono (Kd.R_far (p := ⟨gb230, 4, none⟩) (Kd.R_far (p := ⟨gb230, 3, none⟩) (Kd.R_far (p := ⟨gb230, 2, none⟩) (Kd.R_far (p := ⟨gb230, 1, none⟩) (Kd.R_far (p := ⟨gb230, 0, none⟩) (Kd.R_types HO228.out BK230.out (by decide)) (fun _ hk => hk.2) (.int .u64 t222)) (fun _ hk => hk.2) (.int .u64 t223)) (fun _ hk => hk.2) (.int .i64 t224)) (fun _ hk => hk.2) (.int .i64 t225)) (fun _ hk => hk.2) (.slice Ao40 t226.length co40)) (fun _ h_ => h_.1))))) (below_size (by repeat (first | (with_reducible first | exact HB.out | apply below_alloc | apply pw_below_drewN | apply below_drew1 | refine below_set ?_ GE230.out) | exact HB.out)))); have n2_ := Aside0.mk (blk_below (g := gb230) (o := .cells #[.int .u64 t222, .int .u64 t223, .int .i64 t224, .int .i64 t225, .slice Ao40 t226.length co40] 34 (0, 0)) (by (with_reducible repeat (first | refine blk_drewN ?_ _ | refine blk_drew ?_ | refine blk_alloc ?_ _)); refine blk_put (cs := #[.int .u64 t222, .int .u64 t223, .int .i64 t224, .int .i64 t225, .slice none 0 0]) ?_ 4 _ rfl; (with_reducible repeat (first | refine blk_drewN ?_ _ | refine blk_drew ?_ | refine blk_alloc ?_ _)); refine blk_put (cs := #[.int .u64 t222, .int .u64 t223, .int .i64 t224, .int .i64 0, .slice none 0 0]) ?_ 3 _ rfl; (with_reducible repeat (first | refine blk_drewN ?_ _ | refine blk_drew ?_ | refine blk_alloc ?_ _)); refine blk_put (cs := #[.int .u64 t222, .int .u64 t223, .int .i64 0, .int .i64 0, .slice none 0 0]) ?_ 2 _ rfl; (with_reducible repeat (first | refine blk_drewN ?_ _ | refine blk_drew ?_ | refine blk_alloc ?_ _)); refine blk_put (cs := #[.int .u64 t222, .int .u64 0, .int .i64 0, .int .i64 0, .slice none 0 0]) ?_ 1 _ rfl; (with_reducible repeat (first | refine blk_drewN ?_ _ | refine blk_drew ?_ | refine blk_alloc ?_ _)); refine blk_put (cs := #[.int .u64 0, .int .u64 0, .int .i64 0, .int .i64 0, .slice none 0 0]) ?_ 0 _ rfl; (with_reducible repeat (first | refine blk_drewN ?_ _ | refine blk_drew ?_ | refine blk_alloc ?_ _)); exact BK230.out) hb); have n3_ := Aside0.mk (below_step (by repeat (first | (with_reducible first | exact HB.out | apply below_alloc | apply pw_below_drewN | apply below_drew1 | refine below_set ?_ GE230.out) | exact HB.out)) hb); clear HO228; clear BK230; clear HB; have HO228 := n0_; have HO237 := n1_; have BK230 := n2_; have HB := n3_; clear n0_ n1_ n2_ n3_; (try clear hb); (try clear hb2); (try clear hk); (try clear hi); (try clear ho0)) | ((with_reducible refine gate_dst (N := 5) rfl ?_); refine box_event ?hg (N := 5) ?hd (cs := #[.int .u64 0, .int .u64 0, .int .i64 0, .int .i64 0, .slice none 0 0]) (t := 34) ?hr ?_; (case hd => rfl); (case hg => rfl); (case hr => first | (go_simp; done) | (go_simp; rfl)); intro gb239 hg w42 hbox hb; have n0_ := Aside0.mk (Kd.R_below (by (with_reducible repeat (first | apply Kd.R_alloc | apply Kd.R_drewN | apply Kd.R_drew)); exact HO228.out) hb); have n1_ := Aside0.mk (Kd.R_below (by (with_reducible repeat (first | apply Kd.R_alloc | apply Kd.R_drewN | apply Kd.R_drew)); exact HO237.out) hb); have n2_ := Aside0.mk (blk_below (g := gb230) (o := .cells #[.int .u64 t222, .int .u64 t223, .int .i64 t224, .int .i64 t225, .slice Ao40 t226.length co40] 34 (0, 0)) (by (with_reducible repeat (first | refine blk_drewN ?_ _ | refine blk_drew ?_ | refine blk_alloc ?_ _)); exact BK230.out) hb); have n3_ := Aside0.mk (below_step (by repeat (first | (with_reducible first | exact HB.out | apply below_alloc | apply pw_below_drewN | apply below_drew1 | refine below_set ?_ GE230.out) | exact HB.out)) hb); have n4_ := Aside0.mk (hbox); have n5_ := Aside0.mk ((by rw [hg]; exact (below_size (by repeat (first | (with_reducible first | exact HB.out | apply below_alloc | apply pw_below_drewN | apply below_drew1 | refine below_set ?_ GE230.out) | exact HB.out))) : w.heap.size ≤ gb239)); have n6_ := Aside0.mk ((by rw [hg]; exact (below_size (by repeat (first | (with_reducible first | exact HB.out | apply below_alloc | apply pw_below_drewN | apply below_drew1 | refine below_set ?_ GE230.out) | exact HB.out))) : w.heap.size ≤ gb239)); have n7_ := Aside0.mk ((by rw [hg]; exact Nat.ne_of_lt (blk_lt (g := gb230) (o := .cells #[.int .u64 t222, .int .u64 t223, .int .i64 t224, .int .i64 t225, .slice Ao40 t226.length co40] 34 (0, 0)) (by (with_reducible repeat (first | refine blk_drewN ?_ _ | refine blk_drew ?_ | refine blk_alloc ?_ _)); exact BK230.out)) : gb230 ≠ gb239)); have n8_ := Aside0.mk ((by rw [hg]; exact Nat.ne_of_gt (blk_lt (g := gb230) (o := .cells #[.int .u64 t222, .int .u64 t223, .int .i64 t224, .int .i64 t225, .slice Ao40 t226.length co40] 34 (0, 0)) (by (with_reducible repeat (first | refine blk_drewN ?_ _ | refine blk_drew ?_ | refine blk_alloc ?_ _)); exact BK230.out)) : gb239 ≠ gb230)); clear HO228; clear HO237; clear BK230; clear HB; have HO228 := n0_; have HO237 := n1_; have BK230 := n2_; have HB := n3_; have BK239 := n4_; have GW239 := n5_; have GE239 := n6_; have NB230_239 := n7_; have NB239_230 := n8_; clear n0_ n1_ n2_ n3_ n4_ n5_ n6_ n7_ n8_; clear hb hbox hg; have hnb43 := NB239_230.out; have hnc43 := NB230_239.out; have hcz44_0 : w42.cell? ⟨gb239, 0, none⟩ = some (.int .u64 0) := (blk_cell BK239.out 0).trans rfl; have hcz44_1 : w42.cell? ⟨gb239, 1, none⟩ = some (.int .u64 0) := (blk_cell BK239.out 1).trans rfl; have hcz44_2 : w42.cell? ⟨gb239, 2, none⟩ = some (.int .i64 0) := (blk_cell BK239.out 2).trans rfl; have hcz44_3 : w42.cell? ⟨gb239, 3, none⟩ = some (.int .i64 0) := (blk_cell BK239.out 3).trans rfl; have hcz44_4 : w42.cell? ⟨gb239, 4, none⟩ = some (.slice none 0 0) := (blk_cell BK239.out 4).trans rfl; have hfz44_0 := blk_frozen BK239.out 0; have hfz44_1 := blk_frozen BK239.out 1; have hfz44_2 := blk_frozen BK239.out 2; have hfz44_3 := blk_frozen BK239.out 3; have hfz44_4 := blk_frozen BK239.out 4; obtain ⟨Ao45, co45, eo45⟩ := Kd.R_slice HO237.out; subst eo45) | ((with_reducible refine gate_callee (f := 19) rfl ?_); refine goesL_ (some 21) rfl rfl Try.func19 (by kernel_rfl) rfl #[] rfl (by (try simp only [List.map_toArray, List.map_cons, List.map_nil]); first | done | rfl | (simp only [List.length_drop, List.length_take]; rfl)) ?_; (with_reducible refine (marginalialaw16_alive.calls k  false _ A7.out).mono ?_); rintro e w46 ⟨rfl, hb⟩; refine ⟨_, rfl, ?_⟩; have n0_ := Aside0.mk (Kd.R_below (by (with_reducible repeat (first | apply Kd.R_alloc | apply Kd.R_drewN | apply Kd.R_drew)); exact (Kd.R_mono (Kd.R_far (p := ⟨gb239, 4, none⟩) (Kd.R_far (p := ⟨gb239, 3, none⟩) (Kd.R_far (p := ⟨gb239, 2, none⟩) (Kd.R_far (p := ⟨gb239, 1, none⟩) (Kd.R_far (p := ⟨gb239, 0, none⟩) (Kd.R_types HO228.out BK239.out (by decide)) (fun _ hk => hk.2) (.int .u64 t231)) (fun _ hk => hk.2) (.int .u64 t232)) (fun _ hk => hk.2) (.int .i64 t233)) (fun _ hk => hk.2) (.int .i64 t234)) (fun _ hk => hk.2) (.slice Ao45 t235.length co45)) (fun _ h_ => h_.1))) hb); have n1_ := Aside0.mk (Kd.R_below (by (with_reducible repeat (first | apply Kd.R_alloc | apply Kd.R_drewN | apply Kd.R_drew)); exact (Kd.R_mono (Kd.R_far (p := ⟨gb239, 4, none⟩) (Kd.R_far (p := ⟨gb239, 3, none⟩) (Kd.R_far (p := ⟨gb239, 2, none⟩) (Kd.R_far (p := ⟨gb239, 1, none⟩) (Kd.R_far (p := ⟨gb239, 0, none⟩) (Kd.R_types HO237.out BK239.out (by decide)) (fun _ hk => hk.2) (.int .u64 t231)) (fun _ hk => hk.2) (.int .u64 t232)) (fun _ hk => hk.2) (.int .i64 t233)) (fun _ hk => hk.2) (.int .i64 t234)) (fun _ hk => hk.2) (.slice Ao45 t235.length co45)) (fun _ h_ => h_.1))) hb); have n2_ := Aside0.mk (blk_below (g := gb230) (o := .cells #[.int .u64 t222, .int .u64 t223, .int .i64 t224, .int .i64 t225, .slice Ao40 t226.length co40] 34 (0, 0)) (by (with_reducible repeat (first | refine blk_drewN ?_ _ | refine blk_drew ?_ | refine blk_alloc ?_ _)); refine blk_far ?_ NB230_239.out _; (with_reducible repeat (first | refine blk_drewN ?_ _ | refine blk_drew ?_ | refine blk_alloc ?_ _)); refine blk_far ?_ NB230_239.out _; (with_reducible repeat (first | refine blk_drewN ?_ _ | refine blk_drew ?_ | refine blk_alloc ?_ _)); refine blk_far ?_ NB230_239.out _; (with_reducible repeat (first | refine blk_drewN ?_ _ | refine blk_drew ?_ | refine blk_alloc ?_ _)); refine blk_far ?_ NB230_239.out _; (with_reducible repeat (first | refine blk_drewN ?_ _ | refine blk_drew ?_ | refine blk_alloc ?_ _)); refine blk_far ?_ NB230_239.out _; (with_reducible repeat (first | refine blk_drewN ?_ _ | refine blk_drew ?_ | refine blk_alloc ?_ _)); exact BK230.out) hb); have n3_ := Aside0.mk (blk_below (g := gb239) (o := .cells #[.int .u64 t231, .int .u64 t232, .int .i64 t233, .int .i64 t234, .slice Ao45 t235.length co45] 34 (0, 0)) (by (with_reducible repeat (first | refine blk_drewN ?_ _ | refine blk_drew ?_ | refine blk_alloc ?_ _)); refine blk_put (cs := #[.int .u64 t231, .int .u64 t232, .int .i64 t233, .int .i64 t234, .slice none 0 0]) ?_ 4 _ rfl; (with_reducible repeat (first | refine blk_drewN ?_ _ | refine blk_drew ?_ | refine blk_alloc ?_ _)); refine blk_put (cs := #[.int .u64 t231, .int .u64 t232, .int .i64 t233, .int .i64 0, .slice none 0 0]) ?_ 3 _ rfl; (with_reducible repeat (first | refine blk_drewN ?_ _ | refine blk_drew ?_ | refine blk_alloc ?_ _)); refine blk_put (cs := #[.int .u64 t231, .int .u64 t232, .int .i64 0, .int .i64 0, .slice none 0 0]) ?_ 2 _ rfl; (with_reducible repeat (first | refine blk_drewN ?_ _ | refine blk_drew ?_ | refine blk_alloc ?_ _)); refine blk_put (cs := #[.int .u64 t231, .int .u64 0, .int .i64 0, .int .i64 0, .slice none 0 0]) ?_ 1 _ rfl; (with_reducible repeat (first | refine blk_drewN ?_ _ | refine blk_drew ?_ | refine blk_alloc ?_ _)); refine blk_put (cs := #[.int .u64 0, .int .u64 0, .int .i64 0, .int .i64 0, .slice none 0 0]) ?_ 0 _ rfl; (with_reducible repeat (first | refine blk_drewN ?_ _ | refine blk_drew ?_ | refine blk_alloc ?_ _)); exact BK239.out) hb); have n4_ := Aside0.mk (below_step (by repeat (first | (with_reducible first | exact HB.out | apply below_alloc | apply pw_below_drewN | apply below_drew1 | refine below_set ?_ GE230.out | refine below_set ?_ GE239.out) | exact HB.out)) hb); clear HO228; clear HO237; clear BK230; clear BK239; clear HB; have HO228 := n0_; have HO237 := n1_; have BK230 := n2_; have BK239 := n3_; have HB := n4_; clear n0_ n1_ n2_ n3_ n4_; (try clear hb); (try clear hb2); (try clear hk); (try clear hi)))
      go_ret
      exact ⟨by first | rfl | (simp [errW_none, errW_some] <;> rfl) | (simp [*, errW_none, errW_some] <;> rfl), by repeat (first | (with_reducible first | exact HB.out | apply below_alloc | apply pw_below_drewN | apply below_drew1 | refine below_set ?_ GE230.out | refine below_set ?_ GE239.out) | exact HB.out)⟩

/-- THE ONE PURE STATEMENT of marginalialaw16_CellDecode: yours. -/
def marginalialaw16_CellDecode.Pure : Prop := ∀ (l0 : List Int), l0.length ≤ maxLen → l0.length * 1 ≤ 140737488351232 → (∀ x ∈ l0, (Lit.int .u8 x).wf = true) → ∃ k, marginalialaw16_CellDecode.f k l0 = some true
theorem marginalialaw16_CellDecode.walk (P : marginalialaw16_CellDecode.Pure) (a0 : Option Addr) (len0 cap0 : Nat) (z0 : List Int) (w : World) (w0 : (a0 = none ∧ len0 = 0 ∧ cap0 = 0 ∧ z0 = []) ∨ ∃ x, a0 = some x ∧ len0 ≤ cap0 ∧ cap0 ≤ maxLen ∧ z0.length = cap0 ∧ (∀ i, i < z0.length → w.cell? (x.add i) = some (.int .u8 (z0.getD i 0))) ∧ ∀ n ∈ z0, (Lit.int .u8 n).wf = true) (y0 : len0 * 1 ≤ 140737488351232) :
    Calls Try.prog 8 #[.slice a0 len0 cap0] w fun e w' => e = .returned (.bool true) ∧ Below w.heap.size w w' := by
  obtain ⟨l0, rfl, hr0, hm0, hw0, hc0⟩ := ReadsInt.ofRowC w0
  obtain ⟨k, h⟩ := P l0 hm0 y0 hw0
  refine (marginalialaw16_CellDecode.calls k _ _ l0 true w (Kd.C_of_reads (d := (0 : Int)) (h1 := fun _ => rfl) hr0) hc0 h).mono ?_
  rintro e w' ⟨rfl, hd⟩
  exact ⟨rfl, hd⟩

/-! ### marginaliaref16_Sames: function 23 -/
def marginaliaref16_Sames.l0 : Nat → List (S34) → List (S34) → Int → Option (Bool)
  | 0, _, _, _ => none
  | k + 1, x0, x1, x5 => if x5 < (x0.length : Int) then (if 0 ≤ x5 then (if x5 < (x1.length : Int) then ((marginaliaref16_Same.f ((rd_T34 x0 x5).f0) ((rd_T34 x0 x5).f1) ((rd_T34 x0 x5).f2) ((rd_T34 x0 x5).f3) ((rd_T34 x0 x5).f4) ((rd_T34 x1 x5).f0) ((rd_T34 x1 x5).f1) ((rd_T34 x1 x5).f2) ((rd_T34 x1 x5).f3) ((rd_T34 x1 x5).f4)).bind fun t244 => (if t244 = true then (marginaliaref16_Sames.l0 k x0 x1 (wrap64 (x5 + 1))) else (some false))) else (none)) else (none)) else (some true)
def marginaliaref16_Sames.f (k : Nat) (l0 : List (S34)) (l1 : List (S34)) : Option (Bool) := if (l0.length : Int) = (l1.length : Int) then (marginaliaref16_Sames.l0 k l0 l1 0) else (some false)
theorem marginaliaref16_Sames.mono_l : ∀ k, (∀ y0 y1 y2, LeO (marginaliaref16_Sames.l0 k y0 y1 y2) (marginaliaref16_Sames.l0 (k + 1) y0 y1 y2))
  | 0 => fun _ _ _ r h => by simp [marginaliaref16_Sames.l0] at h
  | k + 1 => by
    have ih0 := marginaliaref16_Sames.mono_l k
    · intro y0 y1 y2
      unfold marginaliaref16_Sames.l0
      repeat' first
      | (with_reducible exact ih0 _ _ _)
      | (with_reducible exact LeO.refl _)
      | (with_reducible exact LeO.none _)
      | (with_reducible refine LeO.ite ?_ ?_)
      | (with_reducible refine LeO.bind ?_ (fun _ => ?_))
      | exact ih0 _ _ _
      | exact LeO.none _
      | refine LeO.ite ?_ ?_
      | refine LeO.bind ?_ (fun _ => ?_)
theorem marginaliaref16_Sames.mono : ∀ a0 a1 k, LeO (marginaliaref16_Sames.f k a0 a1) (marginaliaref16_Sames.f (k + 1) a0 a1) := by
  intro a0 a1 k
  have ih0 := marginaliaref16_Sames.mono_l k
  unfold marginaliaref16_Sames.f
  repeat' first
      | (with_reducible exact ih0 _ _ _)
      | (with_reducible exact LeO.refl _)
      | (with_reducible exact LeO.none _)
      | (with_reducible refine LeO.ite ?_ ?_)
      | (with_reducible refine LeO.bind ?_ (fun _ => ?_))
      | exact ih0 _ _ _
      | exact LeO.none _
      | refine LeO.ite ?_ ?_
      | refine LeO.bind ?_ (fun _ => ?_)
def marginaliaref16_Sames.T6 : Bool × List (List Nat × List Nat) := (true, [([], []), ([], []), ([0, 1], [0, 1]), ([2], [2]), ([], []), ([], []), ([4, 5], [4, 5]), ([6], [6]), ([3, 7], [3, 7]), ([8], [8])])
def marginaliaref16_Sames.B6 : List Nat := [0, 0, 3, 7, 0, 0, 48, 112, 255, 511]
theorem marginaliaref16_Sames.tab6 : rtab .any (opsOf Try.f23 6) = marginaliaref16_Sames.T6 := by kernel_rfl
theorem marginaliaref16_Sames.bits6 : waitsOk marginaliaref16_Sames.T6.2 marginaliaref16_Sames.B6 = true := by kernel_rfl
set_option maxHeartbeats 8000000 in
set_option maxRecDepth 100000 in
theorem marginaliaref16_Sames.calls (k : Nat) (A0 : Option Addr) (c0 : Nat) (l0 : List (S34)) (A1 : Option Addr) (c1 : Nat) (l1 : List (S34)) (r : Bool) (w : World) (hr0 : Kd.C k34 w A0 l0.length l0) (hc0 : l0.length ≤ c0) (hr1 : Kd.C k34 w A1 l1.length l1) (hc1 : l1.length ≤ c1) (h : marginaliaref16_Sames.f k l0 l1 = some r) :
    Calls Try.prog 23 #[.slice A0 l0.length c0, .slice A1 l1.length c1] w fun e w' => e = .returned (.bool r) ∧ Below w.heap.size w w' := by
  have hu34 := Try.underlying34
  have HR0 := Aside0.mk hr0
  have HC0 := Aside0.mk hc0
  clear hr0 hc0
  have HR1 := Aside0.mk hr1
  have HC1 := Aside0.mk hc1
  clear hr1 hc1
  have HB := Aside0.mk (Below.refl w.heap.size w)
  have H : (if (l0.length : Int) = (l1.length : Int) then (marginaliaref16_Sames.l0 k l0 l1 0) else (some false)) = some r := h
  clear h
  by_cases c3 : (l0.length : Int) = (l1.length : Int)
  · rw [if_pos c3] at H
    have c3b0 : ((l0.length : Int) == (l1.length : Int)) = true := beq_iff_eq.mpr c3
    have c3b1 : ((l0.length : Int) != (l1.length : Int)) = false := bne_eq_false_iff_eq.mpr c3
    have c3b2 : (l0.length == l1.length) = true := by first | simpa using c3 | (simp at c3 ⊢; omega)
    clear c3
    have H' := Aside0.mk H
    clear H
    go_enter Try.func23, Try.ntmps23
    go_wp2
    go_loopg [5] k (fun kq v5 w' => ∃ (x5_1 : Int), v5 = .int .i64 x5_1 ∧ Aside0 (marginaliaref16_Sames.l0 kq l0 l1 x5_1 = some r) ∧ Aside0 (kq ≤ k) ∧ Aside0 (Below w.heap.size w w'))
    case atStart => exact ⟨(0), (by first | rfl | (simp; done) | (simp [*]; done)), H', ⟨Nat.le_refl _⟩, ⟨by repeat (first | (with_reducible first | exact HB.out | apply below_alloc | apply pw_below_drewN | apply below_drew1) | exact HB.out)⟩⟩
    case round =>
      clear H'
      try clear c1
      try clear c2
      try clear p2
      try clear c3
      try clear c3b0
      try clear c3b1
      try clear c3b2
      obtain ⟨x5_1, rfl, HA, HK1, HB⟩ := hrel
      cases gk with
      | zero => exact absurd HA.out (by simp [marginaliaref16_Sames.l0])
      | succ k1 =>
        have H := HA.out
        clear HA
        simp only [marginaliaref16_Sames.l0] at H
        by_cases c4 : x5_1 < (l0.length : Int)
        · rw [if_pos c4] at H
          have c4b0 : decide (x5_1 < (l0.length : Int)) = true := decide_eq_true c4
          clear c4
          by_cases c5 : 0 ≤ x5_1
          · rw [if_pos c5] at H
            have c5b0 : decide (0 ≤ x5_1) = true := decide_eq_true c5
            clear c5
            by_cases c6 : x5_1 < (l1.length : Int)
            · rw [if_pos c6] at H
              have c6b0 : decide (x5_1 < (l1.length : Int)) = true := decide_eq_true c6
              clear c6
              replace H := Option.bind_eq_some_iff.mp H
              obtain ⟨t244, A70, H⟩ := H
              replace H : (if t244 = true then (marginaliaref16_Sames.l0 k1 l0 l1 (wrap64 (x5_1 + 1))) else (some false)) = some r := H
              have A7 := Aside0.mk A70
              clear A70
              by_cases c8 : t244 = true
              · subst c8
                have H1 : (marginaliaref16_Sames.l0 k1 l0 l1 (wrap64 (x5_1 + 1))) = some r := by rw [if_pos rfl] at H; exact H
                clear H
                have H := H1
                clear H1
                have H' := Aside0.mk H
                clear H
                try go_wp2
                have n0_ := Aside0.mk (below_drew1 HB.out)
                clear HB
                have HB := n0_
                clear n0_
                have p242 : 0 ≤ (x5_1 : Int) := of_decide_eq_true (by first | (with_reducible assumption) | assumption)
                have q242 : x5_1 < (l0.length : Int) := of_decide_eq_true (by first | (with_reducible assumption) | assumption)
                obtain ⟨ad242, A242_4, c242_4, e242, hx242_0, hx242_1, hx242_2, hx242_3, hx242_4, hl242_4, hi242_4⟩ := at_T34 HR0.out x5_1 p242 q242
                have hw242_4 := hx242_4
                have hw242_3 := hx242_3
                have hw242_2 := hx242_2
                have hw242_1 := hx242_1
                have hw242_0 := hx242_0
                cases e242
                replace hx242_0 := (HB.out.cell (World.block_lt_of_cell? w _ hx242_0)).trans hx242_0
                replace hx242_1 := (HB.out.cell (World.block_lt_of_cell? w _ hx242_1)).trans hx242_1
                replace hx242_2 := (HB.out.cell (World.block_lt_of_cell? w _ hx242_2)).trans hx242_2
                replace hx242_3 := (HB.out.cell (World.block_lt_of_cell? w _ hx242_3)).trans hx242_3
                replace hx242_4 := (HB.out.cell (World.block_lt_of_cell? w _ hx242_4)).trans hx242_4
                have HR242_4 := Aside0.mk hi242_4
                have HC242_4 := Aside0.mk hl242_4
                clear hi242_4 hl242_4
                replace p242 := eq_true p242
                replace q242 := eq_true q242
                have p243 : 0 ≤ (x5_1 : Int) := of_decide_eq_true (by first | (with_reducible assumption) | assumption)
                have q243 : x5_1 < (l1.length : Int) := of_decide_eq_true (by first | (with_reducible assumption) | assumption)
                obtain ⟨ad243, A243_4, c243_4, e243, hx243_0, hx243_1, hx243_2, hx243_3, hx243_4, hl243_4, hi243_4⟩ := at_T34 HR1.out x5_1 p243 q243
                have hw243_4 := hx243_4
                have hw243_3 := hx243_3
                have hw243_2 := hx243_2
                have hw243_1 := hx243_1
                have hw243_0 := hx243_0
                cases e243
                replace hx243_0 := (HB.out.cell (World.block_lt_of_cell? w _ hx243_0)).trans hx243_0
                replace hx243_1 := (HB.out.cell (World.block_lt_of_cell? w _ hx243_1)).trans hx243_1
                replace hx243_2 := (HB.out.cell (World.block_lt_of_cell? w _ hx243_2)).trans hx243_2
                replace hx243_3 := (HB.out.cell (World.block_lt_of_cell? w _ hx243_3)).trans hx243_3
                replace hx243_4 := (HB.out.cell (World.block_lt_of_cell? w _ hx243_4)).trans hx243_4
                have HR243_4 := Aside0.mk hi243_4
                have HC243_4 := Aside0.mk hl243_4
                clear hi243_4 hl243_4
                replace p243 := eq_true p243
                replace q243 := eq_true q243
                refine start_ (n := 10) (S := fun w' => w'.cell? (ad242.add ((x5_1).toNat * 5)) = some (.int .u64 ((rd_T34 l0 x5_1).f0)) ∧ w'.cell? ⟨(ad242.add ((x5_1).toNat * 5)).block, (ad242.add ((x5_1).toNat * 5)).off + 1, none⟩ = some (.int .u64 ((rd_T34 l0 x5_1).f1)) ∧ w'.cell? ⟨(ad242.add ((x5_1).toNat * 5)).block, (ad242.add ((x5_1).toNat * 5)).off + 2, none⟩ = some (.int .i64 ((rd_T34 l0 x5_1).f2)) ∧ w'.cell? ⟨(ad242.add ((x5_1).toNat * 5)).block, (ad242.add ((x5_1).toNat * 5)).off + 3, none⟩ = some (.int .i64 ((rd_T34 l0 x5_1).f3)) ∧ w'.cell? ⟨(ad242.add ((x5_1).toNat * 5)).block, (ad242.add ((x5_1).toNat * 5)).off + 4, none⟩ = some (.slice A242_4 ((rd_T34 l0 x5_1).f4).length c242_4) ∧ w'.cell? (ad243.add ((x5_1).toNat * 5)) = some (.int .u64 ((rd_T34 l1 x5_1).f0)) ∧ w'.cell? ⟨(ad243.add ((x5_1).toNat * 5)).block, (ad243.add ((x5_1).toNat * 5)).off + 1, none⟩ = some (.int .u64 ((rd_T34 l1 x5_1).f1)) ∧ w'.cell? ⟨(ad243.add ((x5_1).toNat * 5)).block, (ad243.add ((x5_1).toNat * 5)).off + 2, none⟩ = some (.int .i64 ((rd_T34 l1 x5_1).f2)) ∧ w'.cell? ⟨(ad243.add ((x5_1).toNat * 5)).block, (ad243.add ((x5_1).toNat * 5)).off + 3, none⟩ = some (.int .i64 ((rd_T34 l1 x5_1).f3)) ∧ w'.cell? ⟨(ad243.add ((x5_1).toNat * 5)).block, (ad243.add ((x5_1).toNat * 5)).off + 4, none⟩ = some (.slice A243_4 ((rd_T34 l1 x5_1).f4).length c243_4)) (ds := []) #[false, false, false, false, false, false, false, false, false, false] (by kernel_rfl) rfl rfl ⟨((HB.out.cell (World.block_lt_of_cell? w _ hw242_0)).trans hw242_0), ((HB.out.cell (World.block_lt_of_cell? w _ hw242_1)).trans hw242_1), ((HB.out.cell (World.block_lt_of_cell? w _ hw242_2)).trans hw242_2), ((HB.out.cell (World.block_lt_of_cell? w _ hw242_3)).trans hw242_3), ((HB.out.cell (World.block_lt_of_cell? w _ hw242_4)).trans hw242_4), ((HB.out.cell (World.block_lt_of_cell? w _ hw243_0)).trans hw243_0), ((HB.out.cell (World.block_lt_of_cell? w _ hw243_1)).trans hw243_1), ((HB.out.cell (World.block_lt_of_cell? w _ hw243_2)).trans hw243_2), ((HB.out.cell (World.block_lt_of_cell? w _ hw243_3)).trans hw243_3), ((HB.out.cell (World.block_lt_of_cell? w _ hw243_4)).trans hw243_4)⟩ (fun hHeld => ?_); refine with_tabW marginaliaref16_Sames.tab6 marginaliaref16_Sames.bits6 (fun HT_ HW_ => ?_)
                generalize wr.drew = w9 at HB HR242_4 HR243_4 hx242_0 hx242_1 hx242_2 hx242_3 hx242_4 hx243_0 hx243_1 hx243_2 hx243_3 hx243_4 hHeld ⊢
                refine pure_ (i := 0) (N := some 17) (v := ?_) (a' := ?_) #[true, false, false, false, false, false, false, false, false, false] rfl rfl (any_of HT_.out (by kernel_rfl)) (fun _ _ _ h => h) (Or.inl ⟨by rfl, ?_⟩) ?_ ?_
                rotate_left
                · intro w'
                  go_simp
                  with_reducible rfl
                rotate_left
                · simp only [Act.put, List.setIfInBounds_toArray, List.set_cons_zero, List.set_cons_succ, i64_w, i32_w]
                  rfl
                refine pure_ (i := 1) (N := some 18) (v := ?_) (a' := ?_) #[true, true, false, false, false, false, false, false, false, false] rfl rfl (any_of HT_.out (by kernel_rfl)) (fun _ _ _ h => h) (Or.inl ⟨by rfl, ?_⟩) ?_ ?_
                rotate_left
                · intro w'
                  go_simp
                  with_reducible rfl
                rotate_left
                · simp only [Act.put, List.setIfInBounds_toArray, List.set_cons_zero, List.set_cons_succ, i64_w, i32_w]
                  rfl
                refine pure_ (i := 2) (N := some 19) (v := ?_) (a' := ?_) #[true, true, true, false, false, false, false, false, false, false] rfl rfl (any_of HT_.out (by kernel_rfl)) (fun _ _ _ h => h) (Or.inl ⟨by rfl, ?_⟩) ?_ ?_
                rotate_left
                · intro w'
                  go_simp
                  with_reducible rfl
                rotate_left
                · simp only [Act.put, List.setIfInBounds_toArray, List.set_cons_zero, List.set_cons_succ, i64_w, i32_w]
                  rfl
                refine pure_ (i := 4) (N := some 21) (v := ?_) (a' := ?_) #[true, true, true, false, true, false, false, false, false, false] rfl rfl (any_of HT_.out (by kernel_rfl)) (fun _ _ _ h => h) (Or.inl ⟨by rfl, ?_⟩) ?_ ?_
                rotate_left
                · intro w'
                  go_simp
                  with_reducible rfl
                rotate_left
                · simp only [Act.put, List.setIfInBounds_toArray, List.set_cons_zero, List.set_cons_succ, i64_w, i32_w]
                  rfl
                refine pure_ (i := 5) (N := some 22) (v := ?_) (a' := ?_) #[true, true, true, false, true, true, false, false, false, false] rfl rfl (any_of HT_.out (by kernel_rfl)) (fun _ _ _ h => h) (Or.inl ⟨by rfl, ?_⟩) ?_ ?_
                rotate_left
                · intro w'
                  go_simp
                  with_reducible rfl
                rotate_left
                · simp only [Act.put, List.setIfInBounds_toArray, List.set_cons_zero, List.set_cons_succ, i64_w, i32_w]
                  rfl
                refine pure_ (i := 6) (N := some 23) (v := ?_) (a' := ?_) #[true, true, true, false, true, true, true, false, false, false] rfl rfl (any_of HT_.out (by kernel_rfl)) (fun _ _ _ h => h) (Or.inl ⟨by rfl, ?_⟩) ?_ ?_
                rotate_left
                · intro w'
                  go_simp
                  with_reducible rfl
                rotate_left
                · simp only [Act.put, List.setIfInBounds_toArray, List.set_cons_zero, List.set_cons_succ, i64_w, i32_w]
                  rfl
                refine take_ (i := 3) (N := some 20) (v := ?_) (a' := ?_) #[true, true, true, true, true, true, true, false, false, false] rfl rfl (take_ofW HT_.out HW_.out (by kernel_rfl)) (fun _ _ _ h => h) (Or.inl ⟨by rfl, ?_⟩) hHeld ?_ ?_
                rotate_left
                · rintro w' ⟨s0, s1, s2, s3, s4, s5, s6, s7, s8, s9⟩
                  go_simp
                  with_reducible rfl
                rotate_left
                · simp only [Act.put, List.setIfInBounds_toArray, List.set_cons_zero, List.set_cons_succ, i64_w, i32_w]
                  rfl
                refine take_ (i := 7) (N := some 24) (v := ?_) (a' := ?_) #[true, true, true, true, true, true, true, true, false, false] rfl rfl (take_ofW HT_.out HW_.out (by kernel_rfl)) (fun _ _ _ h => h) (Or.inl ⟨by rfl, ?_⟩) hHeld ?_ ?_
                rotate_left
                · rintro w' ⟨s0, s1, s2, s3, s4, s5, s6, s7, s8, s9⟩
                  go_simp
                  with_reducible rfl
                rotate_left
                · simp only [Act.put, List.setIfInBounds_toArray, List.set_cons_zero, List.set_cons_succ, i64_w, i32_w]
                  rfl
                refine one_ (i := 8) (N := some 25) #[true, true, true, true, true, true, true, true, true, false] rfl rfl (one_of HT_.out (by kernel_rfl)) (by decide) (fun K hK => ?_)
                refine goes_ Try.func22 (by kernel_rfl) rfl #[.agg #[.int .u64 ((rd_T34 l0 x5_1).f0), .int .u64 ((rd_T34 l0 x5_1).f1), .int .i64 ((rd_T34 l0 x5_1).f2), .int .i64 ((rd_T34 l0 x5_1).f3), .slice A242_4 ((rd_T34 l0 x5_1).f4).length c242_4], .agg #[.int .u64 ((rd_T34 l1 x5_1).f0), .int .u64 ((rd_T34 l1 x5_1).f1), .int .i64 ((rd_T34 l1 x5_1).f2), .int .i64 ((rd_T34 l1 x5_1).f3), .slice A243_4 ((rd_T34 l1 x5_1).f4).length c243_4]] (by rfl) rfl rfl (by (try simp only [List.map_toArray, List.map_cons, List.map_nil]); first | done | rfl | (simp only [List.length_drop, List.length_take]; rfl)) ?_
                with_reducible refine (marginaliaref16_Same.calls ((rd_T34 l0 x5_1).f0) ((rd_T34 l0 x5_1).f1) ((rd_T34 l0 x5_1).f2) ((rd_T34 l0 x5_1).f3) _ _ ((rd_T34 l0 x5_1).f4) ((rd_T34 l1 x5_1).f0) ((rd_T34 l1 x5_1).f1) ((rd_T34 l1 x5_1).f2) ((rd_T34 l1 x5_1).f3) _ _ ((rd_T34 l1 x5_1).f4) true _ ?side1 ?side2 ?side3 ?side4 A7.out).mono ?_
                (case side1 => repeat (first | exact (Kd.C_below HR242_4.out HB.out) | (with_reducible refine Kd.C_alloc ?_ _) | (with_reducible refine Kd.C_drewN ?_ _) | (with_reducible refine Kd.C_drew ?_)))
                (case side2 => exact HC242_4.out)
                (case side3 => repeat (first | exact (Kd.C_below HR243_4.out HB.out) | (with_reducible refine Kd.C_alloc ?_ _) | (with_reducible refine Kd.C_drewN ?_ _) | (with_reducible refine Kd.C_drew ?_)))
                (case side4 => exact HC243_4.out)
                rintro e w10 ⟨rfl, hb⟩
                refine ⟨_, rfl, ?_⟩
                have n0_ := Aside0.mk (below_step (by repeat (first | (with_reducible first | exact HB.out | apply below_alloc | apply pw_below_drewN | apply below_drew1) | exact HB.out)) hb)
                clear HB
                have HB := n0_
                clear n0_
                (try clear hb)
                (try clear hb2)
                (try clear hk)
                (try clear hi)
                refine hK.out _ _ ⟨((HB.out.cell (World.block_lt_of_cell? w _ hw242_0)).trans hw242_0), ((HB.out.cell (World.block_lt_of_cell? w _ hw242_1)).trans hw242_1), ((HB.out.cell (World.block_lt_of_cell? w _ hw242_2)).trans hw242_2), ((HB.out.cell (World.block_lt_of_cell? w _ hw242_3)).trans hw242_3), ((HB.out.cell (World.block_lt_of_cell? w _ hw242_4)).trans hw242_4), ((HB.out.cell (World.block_lt_of_cell? w _ hw243_0)).trans hw243_0), ((HB.out.cell (World.block_lt_of_cell? w _ hw243_1)).trans hw243_1), ((HB.out.cell (World.block_lt_of_cell? w _ hw243_2)).trans hw243_2), ((HB.out.cell (World.block_lt_of_cell? w _ hw243_3)).trans hw243_3), ((HB.out.cell (World.block_lt_of_cell? w _ hw243_4)).trans hw243_4)⟩ (fun hHeld => ?_)
                clear hK K
                refine norm_ (a' := ?_) ?_ ?_
                rotate_left
                · show Act.put _ (some 25) _ = _
                  simp only [Act.put, List.setIfInBounds_toArray, List.set_cons_zero, List.set_cons_succ, i64_w, i32_w]
                  rfl
                refine pure_ (i := 9) (N := some 26) (v := ?_) (a' := ?_) #[true, true, true, true, true, true, true, true, true, true] rfl rfl (any_of HT_.out (by kernel_rfl)) (fun _ _ _ h => h) (Or.inl ⟨by rfl, ?_⟩) ?_ ?_
                rotate_left
                · intro w'
                  go_simp
                  with_reducible rfl
                rotate_left
                · simp only [Act.put, List.setIfInBounds_toArray, List.set_cons_zero, List.set_cons_succ, i64_w, i32_w]
                  rfl
                refine done_ (done_of HT_.out (by kernel_rfl)) ?_
                try go_wp2
                go_roundg k1
                case measure => have := HK1.out; omega
                case rel => exact ⟨(wrap64 (x5_1 + 1)), (by first | rfl | (simp; done) | (simp [*]; done)), H', ⟨by have := HK1.out; omega⟩, ⟨by repeat (first | (with_reducible first | exact HB.out | apply below_alloc | apply pw_below_drewN | apply below_drew1) | exact HB.out)⟩⟩
              · replace c8 := Bool.eq_false_iff.mpr c8
                subst c8
                have H1 : (some false) = some r := by rw [if_neg (show ¬ (false = true) by decide)] at H; exact H
                clear H
                have H := H1
                clear H1
                obtain rfl := Option.some.inj H
                try go_wp2
                have n0_ := Aside0.mk (below_drew1 HB.out)
                clear HB
                have HB := n0_
                clear n0_
                have p242 : 0 ≤ (x5_1 : Int) := of_decide_eq_true (by first | (with_reducible assumption) | assumption)
                have q242 : x5_1 < (l0.length : Int) := of_decide_eq_true (by first | (with_reducible assumption) | assumption)
                obtain ⟨ad242, A242_4, c242_4, e242, hx242_0, hx242_1, hx242_2, hx242_3, hx242_4, hl242_4, hi242_4⟩ := at_T34 HR0.out x5_1 p242 q242
                have hw242_4 := hx242_4
                have hw242_3 := hx242_3
                have hw242_2 := hx242_2
                have hw242_1 := hx242_1
                have hw242_0 := hx242_0
                cases e242
                replace hx242_0 := (HB.out.cell (World.block_lt_of_cell? w _ hx242_0)).trans hx242_0
                replace hx242_1 := (HB.out.cell (World.block_lt_of_cell? w _ hx242_1)).trans hx242_1
                replace hx242_2 := (HB.out.cell (World.block_lt_of_cell? w _ hx242_2)).trans hx242_2
                replace hx242_3 := (HB.out.cell (World.block_lt_of_cell? w _ hx242_3)).trans hx242_3
                replace hx242_4 := (HB.out.cell (World.block_lt_of_cell? w _ hx242_4)).trans hx242_4
                have HR242_4 := Aside0.mk hi242_4
                have HC242_4 := Aside0.mk hl242_4
                clear hi242_4 hl242_4
                replace p242 := eq_true p242
                replace q242 := eq_true q242
                have p243 : 0 ≤ (x5_1 : Int) := of_decide_eq_true (by first | (with_reducible assumption) | assumption)
                have q243 : x5_1 < (l1.length : Int) := of_decide_eq_true (by first | (with_reducible assumption) | assumption)
                obtain ⟨ad243, A243_4, c243_4, e243, hx243_0, hx243_1, hx243_2, hx243_3, hx243_4, hl243_4, hi243_4⟩ := at_T34 HR1.out x5_1 p243 q243
                have hw243_4 := hx243_4
                have hw243_3 := hx243_3
                have hw243_2 := hx243_2
                have hw243_1 := hx243_1
                have hw243_0 := hx243_0
                cases e243
                replace hx243_0 := (HB.out.cell (World.block_lt_of_cell? w _ hx243_0)).trans hx243_0
                replace hx243_1 := (HB.out.cell (World.block_lt_of_cell? w _ hx243_1)).trans hx243_1
                replace hx243_2 := (HB.out.cell (World.block_lt_of_cell? w _ hx243_2)).trans hx243_2
                replace hx243_3 := (HB.out.cell (World.block_lt_of_cell? w _ hx243_3)).trans hx243_3
                replace hx243_4 := (HB.out.cell (World.block_lt_of_cell? w _ hx243_4)).trans hx243_4
                have HR243_4 := Aside0.mk hi243_4
                have HC243_4 := Aside0.mk hl243_4
                clear hi243_4 hl243_4
                replace p243 := eq_true p243
                replace q243 := eq_true q243
                refine start_ (n := 10) (S := fun w' => w'.cell? (ad242.add ((x5_1).toNat * 5)) = some (.int .u64 ((rd_T34 l0 x5_1).f0)) ∧ w'.cell? ⟨(ad242.add ((x5_1).toNat * 5)).block, (ad242.add ((x5_1).toNat * 5)).off + 1, none⟩ = some (.int .u64 ((rd_T34 l0 x5_1).f1)) ∧ w'.cell? ⟨(ad242.add ((x5_1).toNat * 5)).block, (ad242.add ((x5_1).toNat * 5)).off + 2, none⟩ = some (.int .i64 ((rd_T34 l0 x5_1).f2)) ∧ w'.cell? ⟨(ad242.add ((x5_1).toNat * 5)).block, (ad242.add ((x5_1).toNat * 5)).off + 3, none⟩ = some (.int .i64 ((rd_T34 l0 x5_1).f3)) ∧ w'.cell? ⟨(ad242.add ((x5_1).toNat * 5)).block, (ad242.add ((x5_1).toNat * 5)).off + 4, none⟩ = some (.slice A242_4 ((rd_T34 l0 x5_1).f4).length c242_4) ∧ w'.cell? (ad243.add ((x5_1).toNat * 5)) = some (.int .u64 ((rd_T34 l1 x5_1).f0)) ∧ w'.cell? ⟨(ad243.add ((x5_1).toNat * 5)).block, (ad243.add ((x5_1).toNat * 5)).off + 1, none⟩ = some (.int .u64 ((rd_T34 l1 x5_1).f1)) ∧ w'.cell? ⟨(ad243.add ((x5_1).toNat * 5)).block, (ad243.add ((x5_1).toNat * 5)).off + 2, none⟩ = some (.int .i64 ((rd_T34 l1 x5_1).f2)) ∧ w'.cell? ⟨(ad243.add ((x5_1).toNat * 5)).block, (ad243.add ((x5_1).toNat * 5)).off + 3, none⟩ = some (.int .i64 ((rd_T34 l1 x5_1).f3)) ∧ w'.cell? ⟨(ad243.add ((x5_1).toNat * 5)).block, (ad243.add ((x5_1).toNat * 5)).off + 4, none⟩ = some (.slice A243_4 ((rd_T34 l1 x5_1).f4).length c243_4)) (ds := []) #[false, false, false, false, false, false, false, false, false, false] (by kernel_rfl) rfl rfl ⟨((HB.out.cell (World.block_lt_of_cell? w _ hw242_0)).trans hw242_0), ((HB.out.cell (World.block_lt_of_cell? w _ hw242_1)).trans hw242_1), ((HB.out.cell (World.block_lt_of_cell? w _ hw242_2)).trans hw242_2), ((HB.out.cell (World.block_lt_of_cell? w _ hw242_3)).trans hw242_3), ((HB.out.cell (World.block_lt_of_cell? w _ hw242_4)).trans hw242_4), ((HB.out.cell (World.block_lt_of_cell? w _ hw243_0)).trans hw243_0), ((HB.out.cell (World.block_lt_of_cell? w _ hw243_1)).trans hw243_1), ((HB.out.cell (World.block_lt_of_cell? w _ hw243_2)).trans hw243_2), ((HB.out.cell (World.block_lt_of_cell? w _ hw243_3)).trans hw243_3), ((HB.out.cell (World.block_lt_of_cell? w _ hw243_4)).trans hw243_4)⟩ (fun hHeld => ?_); refine with_tabW marginaliaref16_Sames.tab6 marginaliaref16_Sames.bits6 (fun HT_ HW_ => ?_)
                generalize wr.drew = w11 at HB HR242_4 HR243_4 hx242_0 hx242_1 hx242_2 hx242_3 hx242_4 hx243_0 hx243_1 hx243_2 hx243_3 hx243_4 hHeld ⊢
                refine pure_ (i := 0) (N := some 17) (v := ?_) (a' := ?_) #[true, false, false, false, false, false, false, false, false, false] rfl rfl (any_of HT_.out (by kernel_rfl)) (fun _ _ _ h => h) (Or.inl ⟨by rfl, ?_⟩) ?_ ?_
                rotate_left
                · intro w'
                  go_simp
                  with_reducible rfl
                rotate_left
                · simp only [Act.put, List.setIfInBounds_toArray, List.set_cons_zero, List.set_cons_succ, i64_w, i32_w]
                  rfl
                refine pure_ (i := 1) (N := some 18) (v := ?_) (a' := ?_) #[true, true, false, false, false, false, false, false, false, false] rfl rfl (any_of HT_.out (by kernel_rfl)) (fun _ _ _ h => h) (Or.inl ⟨by rfl, ?_⟩) ?_ ?_
                rotate_left
                · intro w'
                  go_simp
                  with_reducible rfl
                rotate_left
                · simp only [Act.put, List.setIfInBounds_toArray, List.set_cons_zero, List.set_cons_succ, i64_w, i32_w]
                  rfl
                refine pure_ (i := 2) (N := some 19) (v := ?_) (a' := ?_) #[true, true, true, false, false, false, false, false, false, false] rfl rfl (any_of HT_.out (by kernel_rfl)) (fun _ _ _ h => h) (Or.inl ⟨by rfl, ?_⟩) ?_ ?_
                rotate_left
                · intro w'
                  go_simp
                  with_reducible rfl
                rotate_left
                · simp only [Act.put, List.setIfInBounds_toArray, List.set_cons_zero, List.set_cons_succ, i64_w, i32_w]
                  rfl
                refine pure_ (i := 4) (N := some 21) (v := ?_) (a' := ?_) #[true, true, true, false, true, false, false, false, false, false] rfl rfl (any_of HT_.out (by kernel_rfl)) (fun _ _ _ h => h) (Or.inl ⟨by rfl, ?_⟩) ?_ ?_
                rotate_left
                · intro w'
                  go_simp
                  with_reducible rfl
                rotate_left
                · simp only [Act.put, List.setIfInBounds_toArray, List.set_cons_zero, List.set_cons_succ, i64_w, i32_w]
                  rfl
                refine pure_ (i := 5) (N := some 22) (v := ?_) (a' := ?_) #[true, true, true, false, true, true, false, false, false, false] rfl rfl (any_of HT_.out (by kernel_rfl)) (fun _ _ _ h => h) (Or.inl ⟨by rfl, ?_⟩) ?_ ?_
                rotate_left
                · intro w'
                  go_simp
                  with_reducible rfl
                rotate_left
                · simp only [Act.put, List.setIfInBounds_toArray, List.set_cons_zero, List.set_cons_succ, i64_w, i32_w]
                  rfl
                refine pure_ (i := 6) (N := some 23) (v := ?_) (a' := ?_) #[true, true, true, false, true, true, true, false, false, false] rfl rfl (any_of HT_.out (by kernel_rfl)) (fun _ _ _ h => h) (Or.inl ⟨by rfl, ?_⟩) ?_ ?_
                rotate_left
                · intro w'
                  go_simp
                  with_reducible rfl
                rotate_left
                · simp only [Act.put, List.setIfInBounds_toArray, List.set_cons_zero, List.set_cons_succ, i64_w, i32_w]
                  rfl
                refine take_ (i := 3) (N := some 20) (v := ?_) (a' := ?_) #[true, true, true, true, true, true, true, false, false, false] rfl rfl (take_ofW HT_.out HW_.out (by kernel_rfl)) (fun _ _ _ h => h) (Or.inl ⟨by rfl, ?_⟩) hHeld ?_ ?_
                rotate_left
                · rintro w' ⟨s0, s1, s2, s3, s4, s5, s6, s7, s8, s9⟩
                  go_simp
                  with_reducible rfl
                rotate_left
                · simp only [Act.put, List.setIfInBounds_toArray, List.set_cons_zero, List.set_cons_succ, i64_w, i32_w]
                  rfl
                refine take_ (i := 7) (N := some 24) (v := ?_) (a' := ?_) #[true, true, true, true, true, true, true, true, false, false] rfl rfl (take_ofW HT_.out HW_.out (by kernel_rfl)) (fun _ _ _ h => h) (Or.inl ⟨by rfl, ?_⟩) hHeld ?_ ?_
                rotate_left
                · rintro w' ⟨s0, s1, s2, s3, s4, s5, s6, s7, s8, s9⟩
                  go_simp
                  with_reducible rfl
                rotate_left
                · simp only [Act.put, List.setIfInBounds_toArray, List.set_cons_zero, List.set_cons_succ, i64_w, i32_w]
                  rfl
                refine one_ (i := 8) (N := some 25) #[true, true, true, true, true, true, true, true, true, false] rfl rfl (one_of HT_.out (by kernel_rfl)) (by decide) (fun K hK => ?_)
                refine goes_ Try.func22 (by kernel_rfl) rfl #[.agg #[.int .u64 ((rd_T34 l0 x5_1).f0), .int .u64 ((rd_T34 l0 x5_1).f1), .int .i64 ((rd_T34 l0 x5_1).f2), .int .i64 ((rd_T34 l0 x5_1).f3), .slice A242_4 ((rd_T34 l0 x5_1).f4).length c242_4], .agg #[.int .u64 ((rd_T34 l1 x5_1).f0), .int .u64 ((rd_T34 l1 x5_1).f1), .int .i64 ((rd_T34 l1 x5_1).f2), .int .i64 ((rd_T34 l1 x5_1).f3), .slice A243_4 ((rd_T34 l1 x5_1).f4).length c243_4]] (by rfl) rfl rfl (by (try simp only [List.map_toArray, List.map_cons, List.map_nil]); first | done | rfl | (simp only [List.length_drop, List.length_take]; rfl)) ?_
                with_reducible refine (marginaliaref16_Same.calls ((rd_T34 l0 x5_1).f0) ((rd_T34 l0 x5_1).f1) ((rd_T34 l0 x5_1).f2) ((rd_T34 l0 x5_1).f3) _ _ ((rd_T34 l0 x5_1).f4) ((rd_T34 l1 x5_1).f0) ((rd_T34 l1 x5_1).f1) ((rd_T34 l1 x5_1).f2) ((rd_T34 l1 x5_1).f3) _ _ ((rd_T34 l1 x5_1).f4) false _ ?side1 ?side2 ?side3 ?side4 A7.out).mono ?_
                (case side1 => repeat (first | exact (Kd.C_below HR242_4.out HB.out) | (with_reducible refine Kd.C_alloc ?_ _) | (with_reducible refine Kd.C_drewN ?_ _) | (with_reducible refine Kd.C_drew ?_)))
                (case side2 => exact HC242_4.out)
                (case side3 => repeat (first | exact (Kd.C_below HR243_4.out HB.out) | (with_reducible refine Kd.C_alloc ?_ _) | (with_reducible refine Kd.C_drewN ?_ _) | (with_reducible refine Kd.C_drew ?_)))
                (case side4 => exact HC243_4.out)
                rintro e w12 ⟨rfl, hb⟩
                refine ⟨_, rfl, ?_⟩
                have n0_ := Aside0.mk (below_step (by repeat (first | (with_reducible first | exact HB.out | apply below_alloc | apply pw_below_drewN | apply below_drew1) | exact HB.out)) hb)
                clear HB
                have HB := n0_
                clear n0_
                (try clear hb)
                (try clear hb2)
                (try clear hk)
                (try clear hi)
                refine hK.out _ _ ⟨((HB.out.cell (World.block_lt_of_cell? w _ hw242_0)).trans hw242_0), ((HB.out.cell (World.block_lt_of_cell? w _ hw242_1)).trans hw242_1), ((HB.out.cell (World.block_lt_of_cell? w _ hw242_2)).trans hw242_2), ((HB.out.cell (World.block_lt_of_cell? w _ hw242_3)).trans hw242_3), ((HB.out.cell (World.block_lt_of_cell? w _ hw242_4)).trans hw242_4), ((HB.out.cell (World.block_lt_of_cell? w _ hw243_0)).trans hw243_0), ((HB.out.cell (World.block_lt_of_cell? w _ hw243_1)).trans hw243_1), ((HB.out.cell (World.block_lt_of_cell? w _ hw243_2)).trans hw243_2), ((HB.out.cell (World.block_lt_of_cell? w _ hw243_3)).trans hw243_3), ((HB.out.cell (World.block_lt_of_cell? w _ hw243_4)).trans hw243_4)⟩ (fun hHeld => ?_)
                clear hK K
                refine norm_ (a' := ?_) ?_ ?_
                rotate_left
                · show Act.put _ (some 25) _ = _
                  simp only [Act.put, List.setIfInBounds_toArray, List.set_cons_zero, List.set_cons_succ, i64_w, i32_w]
                  rfl
                refine pure_ (i := 9) (N := some 26) (v := ?_) (a' := ?_) #[true, true, true, true, true, true, true, true, true, true] rfl rfl (any_of HT_.out (by kernel_rfl)) (fun _ _ _ h => h) (Or.inl ⟨by rfl, ?_⟩) ?_ ?_
                rotate_left
                · intro w'
                  go_simp
                  with_reducible rfl
                rotate_left
                · simp only [Act.put, List.setIfInBounds_toArray, List.set_cons_zero, List.set_cons_succ, i64_w, i32_w]
                  rfl
                refine done_ (done_of HT_.out (by kernel_rfl)) ?_
                try go_wp2
                go_ret
                exact ⟨by first | rfl | (simp [errW_none, errW_some] <;> rfl) | (simp [*, errW_none, errW_some] <;> rfl), by repeat (first | (with_reducible first | exact HB.out | apply below_alloc | apply pw_below_drewN | apply below_drew1) | exact HB.out)⟩
            · rw [if_neg c6] at H
              exact absurd H (by simp)
          · rw [if_neg c5] at H
            exact absurd H (by simp)
        · rw [if_neg c4] at H
          have c4b0 : decide (x5_1 < (l0.length : Int)) = false := decide_eq_false c4
          clear c4
          obtain rfl := Option.some.inj H
          go_wp2
          go_ret
          exact ⟨by first | rfl | (simp [errW_none, errW_some] <;> rfl) | (simp [*, errW_none, errW_some] <;> rfl), by repeat (first | (with_reducible first | exact HB.out | apply below_alloc | apply pw_below_drewN | apply below_drew1) | exact HB.out)⟩
  · rw [if_neg c3] at H
    have c3b0 : ((l0.length : Int) == (l1.length : Int)) = false := beq_eq_false_iff_ne.mpr c3
    have c3b1 : ((l0.length : Int) != (l1.length : Int)) = true := bne_iff_ne.mpr c3
    have c3b2 : (l0.length == l1.length) = false := by first | simpa using c3 | (simp at c3 ⊢; omega)
    obtain rfl := Option.some.inj H
    go_enter Try.func23, Try.ntmps23
    go_wp2
    go_ret
    exact ⟨by first | rfl | (simp [errW_none, errW_some] <;> rfl) | (simp [*, errW_none, errW_some] <;> rfl), by repeat (first | (with_reducible first | exact HB.out | apply below_alloc | apply pw_below_drewN | apply below_drew1) | exact HB.out)⟩

/-! ### marginaliaref16_Many: function 37 -/
def marginaliaref16_Many.f (a0 : Int) : Option (Int) := some (wrap64 (Int.tdiv (wrap64 ((wrap64 (a0 + 39)) - 1)) 39))
set_option maxHeartbeats 8000000 in
set_option maxRecDepth 100000 in
theorem marginaliaref16_Many.calls (a0 : Int) (r : Int) (w : World) (h : marginaliaref16_Many.f a0 = some r) :
    Calls Try.prog 37 #[.int .i64 a0] w fun e w' => e = .returned (.int .i64 r) ∧ Drawn0 w w' := by
  have H : (some (wrap64 (Int.tdiv (wrap64 ((wrap64 (a0 + 39)) - 1)) 39))) = some r := h
  clear h
  obtain rfl := Option.some.inj H
  go_enter Try.func37, Try.ntmps37
  go_wp2
  go_ret
  exact ⟨by first | rfl | (simp; done) | (simp [*]; done), by repeat (first | exact Drawn0.refl _ | apply Drawn0.step)⟩

end Go.Proofs.Ytnmopjmlilekjaa.K
