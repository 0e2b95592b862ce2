/- The functions of the program that these laws reach, each as a plain Lean function, and the proof that the machine's call comes to it; no condition beyond those that each theorem names. Made by wip/xprint.py. -/
-- squeezed
import Derived.Test.YtnkaidaflegnlaaGx0
import Derived.Test.YtnkaidaflegnlaaGh
namespace Go.Proofs.Ytnkaidaflegnlaa.G
open Go.RowKit Go.Proofs.YtnkaidaflegnlaaW.PrintWords Go.Proofs.YtnkaidaflegnlaaW.PrintLast Go.Proofs.YtnkaidaflegnlaaW.PrintMore
attribute [local go_sem] max2_int min2_int max_two min_two max_three min_three max_four min_four   -- for this text's walks alone
set_option linter.unusedVariables false
set_option linter.unusedSimpArgs false

/-! ### marginaliaref20_Same: function 24 -/
mutual
def marginaliaref20_Same.j0 : Nat → Bool → Int → List (S39) → Int → List Int → Int → List (S39) → Int → List Int → Option (Bool)
 | 0, _, _, _, _, _, _, _, _, _ => none
 | k + 1, x37, x172000, x172001, x172002, x172003, x173000, x173001, x173002, x173003 => if x37 = true then (some false) else (marginaliaref20_Same.l0 k 0 x172000 x172001 x172002 x172003 x173000 x173001 x173002 x173003)
def marginaliaref20_Same.l0 : Nat → Int → Int → List (S39) → Int → List Int → Int → List (S39) → Int → List Int → Option (Bool)
 | 0, _, _, _, _, _, _, _, _, _ => none
 | k + 1, x5, x172000, x172001, x172002, x172003, x173000, x173001, x173002, x173003 => if x5 < (x172001.length : Int) then (if 0 ≤ x5 then (if x5 < (x173001.length : Int) then (if ((rd_T39 x172001 x5).f0) = ((rd_T39 x173001 x5).f0) then (if ((rd_T39 x172001 x5).f1) = ((rd_T39 x173001 x5).f1) then (if (strOfNums ((rd_T39 x172001 x5).f2)).toList = (strOfNums ((rd_T39 x173001 x5).f2)).toList then (marginaliaref20_Same.j2 k x5 (((rd_T39 x172001 x5).f3) != ((rd_T39 x173001 x5).f3)) x172000 x172001 x172002 x172003 x173000 x173001 x173002 x173003) else (marginaliaref20_Same.j2 k x5 true x172000 x172001 x172002 x172003 x173000 x173001 x173002 x173003)) else (marginaliaref20_Same.j2 k x5 true x172000 x172001 x172002 x172003 x173000 x173001 x173002 x173003)) else (marginaliaref20_Same.j2 k x5 true x172000 x172001 x172002 x172003 x173000 x173001 x173002 x173003)) else (none)) else (none)) else (some true)
def marginaliaref20_Same.j2 : Nat → Int → Bool → Int → List (S39) → Int → List Int → Int → List (S39) → Int → List Int → Option (Bool)
 | 0, _, _, _, _, _, _, _, _, _, _ => none
 | k + 1, x5, x82, x172000, x172001, x172002, x172003, x173000, x173001, x173002, x173003 => if x82 = true then (some false) else (marginaliaref20_Same.l0 k (wrap64 (x5 + 1)) x172000 x172001 x172002 x172003 x173000 x173001 x173002 x173003)
end
def marginaliaref20_Same.f (k : Nat) (a0_0 : Int) (l0_1 : List (S39)) (a0_2 : Int) (l0_3 : List Int) (a1_0 : Int) (l1_1 : List (S39)) (a1_2 : Int) (l1_3 : List Int) : Option (Bool) := if a0_0 = a1_0 then (if a0_2 = a1_2 then (if (strOfNums l0_3).toList = (strOfNums l1_3).toList then (marginaliaref20_Same.j0 k ((l0_1.length : Int) != (l1_1.length : Int)) a0_0 l0_1 a0_2 l0_3 a1_0 l1_1 a1_2 l1_3) else (marginaliaref20_Same.j0 k true a0_0 l0_1 a0_2 l0_3 a1_0 l1_1 a1_2 l1_3)) else (marginaliaref20_Same.j0 k true a0_0 l0_1 a0_2 l0_3 a1_0 l1_1 a1_2 l1_3)) else (marginaliaref20_Same.j0 k true a0_0 l0_1 a0_2 l0_3 a1_0 l1_1 a1_2 l1_3)
theorem marginaliaref20_Same.mono_l : ∀ k, (∀ y0 y1 y2 y3 y4 y5 y6 y7 y8, LeO (marginaliaref20_Same.j0 k y0 y1 y2 y3 y4 y5 y6 y7 y8) (marginaliaref20_Same.j0 (k + 1) y0 y1 y2 y3 y4 y5 y6 y7 y8)) ∧ (∀ y0 y1 y2 y3 y4 y5 y6 y7 y8, LeO (marginaliaref20_Same.l0 k y0 y1 y2 y3 y4 y5 y6 y7 y8) (marginaliaref20_Same.l0 (k + 1) y0 y1 y2 y3 y4 y5 y6 y7 y8)) ∧ (∀ y0 y1 y2 y3 y4 y5 y6 y7 y8 y9, LeO (marginaliaref20_Same.j2 k y0 y1 y2 y3 y4 y5 y6 y7 y8 y9) (marginaliaref20_Same.j2 (k + 1) y0 y1 y2 y3 y4 y5 y6 y7 y8 y9))
 | 0 => ⟨fun _ _ _ _ _ _ _ _ _ r h => by simp [marginaliaref20_Same.j0] at h, fun _ _ _ _ _ _ _ _ _ r h => by simp [marginaliaref20_Same.l0] at h, fun _ _ _ _ _ _ _ _ _ _ r h => by simp [marginaliaref20_Same.j2] at h⟩
 | k + 1 => by
  obtain ⟨ih0, ih1, ih2⟩ := marginaliaref20_Same.mono_l k
  refine ⟨?_, ?_, ?_⟩
  ·intro y0 y1 y2 y3 y4 y5 y6 y7 y8
   unfold marginaliaref20_Same.j0
   repeat' first
   | (with_reducible exact ih0 _ _ _ _ _ _ _ _ _)
   | (with_reducible exact ih1 _ _ _ _ _ _ _ _ _)
   | (with_reducible exact ih2 _ _ _ _ _ _ _ _ _ _)
   | (with_reducible exact LeO.refl _)
   | (with_reducible exact LeO.none _)
   | (with_reducible refine LeO.ite ?_ ?_)
   | (with_reducible refine LeO.bind ?_ (fun _ => ?_))
   | exact ih0 _ _ _ _ _ _ _ _ _
   | exact ih1 _ _ _ _ _ _ _ _ _
   | exact ih2 _ _ _ _ _ _ _ _ _ _
   | exact LeO.none _
   | refine LeO.ite ?_ ?_
   | refine LeO.bind ?_ (fun _ => ?_)
  ·intro y0 y1 y2 y3 y4 y5 y6 y7 y8
   unfold marginaliaref20_Same.l0
   repeat' first
   | (with_reducible exact ih0 _ _ _ _ _ _ _ _ _)
   | (with_reducible exact ih1 _ _ _ _ _ _ _ _ _)
   | (with_reducible exact ih2 _ _ _ _ _ _ _ _ _ _)
   | (with_reducible exact LeO.refl _)
   | (with_reducible exact LeO.none _)
   | (with_reducible refine LeO.ite ?_ ?_)
   | (with_reducible refine LeO.bind ?_ (fun _ => ?_))
   | exact ih0 _ _ _ _ _ _ _ _ _
   | exact ih1 _ _ _ _ _ _ _ _ _
   | exact ih2 _ _ _ _ _ _ _ _ _ _
   | exact LeO.none _
   | refine LeO.ite ?_ ?_
   | refine LeO.bind ?_ (fun _ => ?_)
  ·intro y0 y1 y2 y3 y4 y5 y6 y7 y8 y9
   unfold marginaliaref20_Same.j2
   repeat' first
   | (with_reducible exact ih0 _ _ _ _ _ _ _ _ _)
   | (with_reducible exact ih1 _ _ _ _ _ _ _ _ _)
   | (with_reducible exact ih2 _ _ _ _ _ _ _ _ _ _)
   | (with_reducible exact LeO.refl _)
   | (with_reducible exact LeO.none _)
   | (with_reducible refine LeO.ite ?_ ?_)
   | (with_reducible refine LeO.bind ?_ (fun _ => ?_))
   | exact ih0 _ _ _ _ _ _ _ _ _
   | exact ih1 _ _ _ _ _ _ _ _ _
   | exact ih2 _ _ _ _ _ _ _ _ _ _
   | exact LeO.none _
   | refine LeO.ite ?_ ?_
   | refine LeO.bind ?_ (fun _ => ?_)
theorem marginaliaref20_Same.mono : ∀ a0 a1 a2 a3 a4 a5 a6 a7 k, LeO (marginaliaref20_Same.f k a0 a1 a2 a3 a4 a5 a6 a7) (marginaliaref20_Same.f (k + 1) a0 a1 a2 a3 a4 a5 a6 a7) := by
 intro a0 a1 a2 a3 a4 a5 a6 a7 k
 obtain ⟨ih0, ih1, ih2⟩ := marginaliaref20_Same.mono_l k
 unfold marginaliaref20_Same.f
 repeat' first
   | (with_reducible exact ih0 _ _ _ _ _ _ _ _ _)
   | (with_reducible exact ih1 _ _ _ _ _ _ _ _ _)
   | (with_reducible exact ih2 _ _ _ _ _ _ _ _ _ _)
   | (with_reducible exact LeO.refl _)
   | (with_reducible exact LeO.none _)
   | (with_reducible refine LeO.ite ?_ ?_)
   | (with_reducible refine LeO.bind ?_ (fun _ => ?_))
   | exact ih0 _ _ _ _ _ _ _ _ _
   | exact ih1 _ _ _ _ _ _ _ _ _
   | exact ih2 _ _ _ _ _ _ _ _ _ _
   | exact LeO.none _
   | refine LeO.ite ?_ ?_
   | refine LeO.bind ?_ (fun _ => ?_)
def marginaliaref20_Same.T6 : Bool × List (List Nat × List Nat) := (true, [([], []), ([0], [0]), ([], []), ([1, 2], [1, 2]), ([3], [3]), ([], []), ([5], [5]), ([], []), ([6, 7], [6, 7]), ([8], [8]), ([], []), ([], []), ([10, 4, 0, 1, 2, 3, 4, 10, 11], [4, 10]), ([11, 9, 12, 0, 1, 2, 3, 4, 5, 6, 7, 8, 9, 10, 11, 12], [9, 11])])
def marginaliaref20_Same.B6 : List Nat := [0, 1, 0, 7, 15, 0, 32, 0, 224, 480, 0, 0, 3103, 8191]
theorem marginaliaref20_Same.tab6 : rtab .any (opsOf Try.f24 6) = marginaliaref20_Same.T6 := by kernel_rfl
theorem marginaliaref20_Same.bits6 : waitsOk marginaliaref20_Same.T6.2 marginaliaref20_Same.B6 = true := by kernel_rfl
set_option maxHeartbeats 8000000 in
set_option maxRecDepth 100000 in
theorem marginaliaref20_Same.calls (k : Nat) (a0_0 : Int) (A0_1 : Option Addr) (c0_1 : Nat) (l0_1 : List (S39)) (a0_2 : Int) (A0_3 : Option Addr) (c0_3 : Nat) (l0_3 : List Int) (a1_0 : Int) (A1_1 : Option Addr) (c1_1 : Nat) (l1_1 : List (S39)) (a1_2 : Int) (A1_3 : Option Addr) (c1_3 : Nat) (l1_3 : List Int) (r : Bool) (w : World) (hr0_1 : Kd.C k39 w A0_1 l0_1.length l0_1) (hc0_1 : l0_1.length ≤ c0_1) (hr0_3 : Kd.C (Kd.int .u8) w A0_3 l0_3.length l0_3) (hc0_3 : l0_3.length ≤ c0_3) (hr1_1 : Kd.C k39 w A1_1 l1_1.length l1_1) (hc1_1 : l1_1.length ≤ c1_1) (hr1_3 : Kd.C (Kd.int .u8) w A1_3 l1_3.length l1_3) (hc1_3 : l1_3.length ≤ c1_3) (h : marginaliaref20_Same.f k a0_0 l0_1 a0_2 l0_3 a1_0 l1_1 a1_2 l1_3 = some r) :
  Calls Try.prog 24 #[.agg #[.int .i64 a0_0, .slice A0_1 l0_1.length c0_1, .int .i64 a0_2, .slice A0_3 l0_3.length c0_3], .agg #[.int .i64 a1_0, .slice A1_1 l1_1.length c1_1, .int .i64 a1_2, .slice A1_3 l1_3.length c1_3]] w fun e w' => e = .returned (.bool r) ∧ Below w.heap.size w w' := by
 have hu26 := Try.underlying26
 have hu39 := Try.underlying39
 have HR0_1 := Aside0.mk hr0_1
 have HC0_1 := Aside0.mk hc0_1
 clear hr0_1 hc0_1
 have HR0_3 := Aside0.mk hr0_3
 have HC0_3 := Aside0.mk hc0_3
 clear hr0_3 hc0_3
 have HR1_1 := Aside0.mk hr1_1
 have HC1_1 := Aside0.mk hc1_1
 clear hr1_1 hc1_1
 have HR1_3 := Aside0.mk hr1_3
 have HC1_3 := Aside0.mk hc1_3
 clear hr1_3 hc1_3
 have HB := Aside0.mk (Below.refl w.heap.size w)
 have H : (if a0_0 = a1_0 then (if a0_2 = a1_2 then (if (strOfNums l0_3).toList = (strOfNums l1_3).toList then (marginaliaref20_Same.j0 k ((l0_1.length : Int) != (l1_1.length : Int)) a0_0 l0_1 a0_2 l0_3 a1_0 l1_1 a1_2 l1_3) else (marginaliaref20_Same.j0 k true a0_0 l0_1 a0_2 l0_3 a1_0 l1_1 a1_2 l1_3)) else (marginaliaref20_Same.j0 k true a0_0 l0_1 a0_2 l0_3 a1_0 l1_1 a1_2 l1_3)) else (marginaliaref20_Same.j0 k true a0_0 l0_1 a0_2 l0_3 a1_0 l1_1 a1_2 l1_3)) = some r := h
 clear h
 have HC3 := Aside0.mk H
 clear H
 go_enter Try.func24, Try.ntmps24
 go_upto_region 1 with (first | ((with_reducible refine gate_dst (N := 2) rfl ?_); (try (refine gate_guard (by rfl) ?_; dsimp only)); refine box_event ?hg (N := 2) ?hd (cs := #[.int .i64 a0_0, .slice A0_1 l0_1.length c0_1, .int .i64 a0_2, .slice A0_3 l0_3.length c0_3]) (t := 26) ?hr ?_; (case hd => rfl); (case hg => rfl); (case hr => first | (go_simp; done) | (go_simp; rfl)); intro gb171 hg w4 hbox hb; have n0_ := Aside0.mk (below_step (by repeat (first | (with_reducible first | exact HB.out | apply below_alloc | apply pw_below_drewN | apply below_drew1) | exact HB.out)) hb); have n1_ := Aside0.mk (hbox); have n2_ := Aside0.mk ((by rw [hg]; exact (below_size (by repeat (first | (with_reducible first | exact HB.out | apply below_alloc | apply pw_below_drewN | apply below_drew1) | exact HB.out))) : w.heap.size ≤ gb171)); have n3_ := Aside0.mk ((by rw [hg]; exact (below_size (by repeat (first | (with_reducible first | exact HB.out | apply below_alloc | apply pw_below_drewN | apply below_drew1) | exact HB.out))) : w.heap.size ≤ gb171)); clear HB; have HB := n0_; have BK171 := n1_; have GW171 := n2_; have GE171 := n3_; clear n0_ n1_ n2_ n3_; clear hb hbox hg) | ((with_reducible refine gate_dst (N := 3) rfl ?_); (try (refine gate_guard (by rfl) ?_; dsimp only)); refine box_event ?hg (N := 3) ?hd (cs := #[.int .i64 a1_0, .slice A1_1 l1_1.length c1_1, .int .i64 a1_2, .slice A1_3 l1_3.length c1_3]) (t := 26) ?hr ?_; (case hd => rfl); (case hg => rfl); (case hr => first | (go_simp; done) | (go_simp; rfl)); intro gb172 hg w5 hbox hb; have n0_ := Aside0.mk (blk_below (g := gb171) (o := .cells #[.int .i64 a0_0, .slice A0_1 l0_1.length c0_1, .int .i64 a0_2, .slice A0_3 l0_3.length c0_3] 26 (0, 0)) (by (with_reducible repeat (first | refine blk_drewN ?_ _ | refine blk_drew ?_ | refine blk_alloc ?_ _)); exact BK171.out) hb); have n1_ := Aside0.mk (below_step (by repeat (first | (with_reducible first | exact HB.out | apply below_alloc | apply pw_below_drewN | apply below_drew1 | refine below_set ?_ GE171.out) | exact HB.out)) hb); have n2_ := Aside0.mk (hbox); have n3_ := Aside0.mk ((by rw [hg]; exact (below_size (by repeat (first | (with_reducible first | exact HB.out | apply below_alloc | apply pw_below_drewN | apply below_drew1 | refine below_set ?_ GE171.out) | exact HB.out))) : w.heap.size ≤ gb172)); have n4_ := Aside0.mk ((by rw [hg]; exact (below_size (by repeat (first | (with_reducible first | exact HB.out | apply below_alloc | apply pw_below_drewN | apply below_drew1 | refine below_set ?_ GE171.out) | exact HB.out))) : w.heap.size ≤ gb172)); have n5_ := Aside0.mk ((by rw [hg]; exact Nat.ne_of_lt (blk_lt (g := gb171) (o := .cells #[.int .i64 a0_0, .slice A0_1 l0_1.length c0_1, .int .i64 a0_2, .slice A0_3 l0_3.length c0_3] 26 (0, 0)) (by (with_reducible repeat (first | refine blk_drewN ?_ _ | refine blk_drew ?_ | refine blk_alloc ?_ _)); exact BK171.out)) : gb171 ≠ gb172)); have n6_ := Aside0.mk ((by rw [hg]; exact Nat.ne_of_gt (blk_lt (g := gb171) (o := .cells #[.int .i64 a0_0, .slice A0_1 l0_1.length c0_1, .int .i64 a0_2, .slice A0_3 l0_3.length c0_3] 26 (0, 0)) (by (with_reducible repeat (first | refine blk_drewN ?_ _ | refine blk_drew ?_ | refine blk_alloc ?_ _)); exact BK171.out)) : gb172 ≠ gb171)); clear BK171; clear HB; have BK171 := n0_; have HB := n1_; have BK172 := n2_; have GW172 := n3_; have GE172 := n4_; have NB171_172 := n5_; have NB172_171 := n6_; clear n0_ n1_ n2_ n3_ n4_ n5_ n6_; clear hb hbox hg))
 (try simp only [Act.put, List.setIfInBounds_toArray, List.set_cons_zero, List.set_cons_succ])
 go_cut [37] (fun v37 wc => ∃ (kq : Nat) (x37_2 : Bool), v37 = .bool x37_2 ∧ Aside0 (marginaliaref20_Same.j0 kq x37_2 a0_0 l0_1 a0_2 l0_3 a1_0 l1_1 a1_2 l1_3 = some r) ∧ Aside0 (kq ≤ k) ∧ Aside0 (wc.heap[gb171]? = some (.cells #[.int .i64 a0_0, (.slice A0_1 l0_1.length c0_1), .int .i64 a0_2, (.slice A0_3 l0_3.length c0_3)] 26 (0, 0))) ∧ Aside0 (wc.heap[gb172]? = some (.cells #[.int .i64 a1_0, (.slice A1_1 l1_1.length c1_1), .int .i64 a1_2, (.slice A1_3 l1_3.length c1_3)] 26 (0, 0))) ∧ Aside0 (Below w.heap.size w wc))
 case first =>
  have H := HC3.out
  clear HC3
  by_cases c6 : a0_0 = a1_0
  ·rw [if_pos c6] at H
   have c6b0 : (a0_0 == a1_0) = true := beq_iff_eq.mpr c6
   have c6b1 : (a0_0 != a1_0) = false := bne_eq_false_iff_eq.mpr c6
   clear c6
   (first | rw [c6b0] | (simp only [i64_w, i32_w]; rw [c6b0]) | skip)
   by_cases c7 : a0_2 = a1_2
   ·rw [if_pos c7] at H
    have c7b0 : (a0_2 == a1_2) = true := beq_iff_eq.mpr c7
    have c7b1 : (a0_2 != a1_2) = false := bne_eq_false_iff_eq.mpr c7
    clear c7
    by_cases c8 : (strOfNums l0_3).toList = (strOfNums l1_3).toList
    ·rw [if_pos c8] at H
     have c8b0 : ((strOfNums l0_3).toList == (strOfNums l1_3).toList) = true := beq_iff_eq.mpr c8
     have c8b1 : ((strOfNums l0_3).toList != (strOfNums l1_3).toList) = false := bne_eq_false_iff_eq.mpr c8
     clear c8
     have H' := Aside0.mk H
     clear H
     have hnb9 := NB171_172.out
     have hnc9 := NB172_171.out
     have hcz10_0 : w5.cell? ⟨gb171, 0, none⟩ = some (.int .i64 a0_0) := (blk_cell BK171.out 0).trans rfl
     have hcz10_1 : w5.cell? ⟨gb171, 1, none⟩ = some (.slice A0_1 l0_1.length c0_1) := (blk_cell BK171.out 1).trans rfl
     have hcz10_2 : w5.cell? ⟨gb171, 2, none⟩ = some (.int .i64 a0_2) := (blk_cell BK171.out 2).trans rfl
     have hcz10_3 : w5.cell? ⟨gb171, 3, none⟩ = some (.slice A0_3 l0_3.length c0_3) := (blk_cell BK171.out 3).trans rfl
     have hfz10_0 := blk_frozen BK171.out 0
     have hfz10_1 := blk_frozen BK171.out 1
     have hfz10_2 := blk_frozen BK171.out 2
     have hfz10_3 := blk_frozen BK171.out 3
     have hcz11_0 : w5.cell? ⟨gb172, 0, none⟩ = some (.int .i64 a1_0) := (blk_cell BK172.out 0).trans rfl
     have hcz11_1 : w5.cell? ⟨gb172, 1, none⟩ = some (.slice A1_1 l1_1.length c1_1) := (blk_cell BK172.out 1).trans rfl
     have hcz11_2 : w5.cell? ⟨gb172, 2, none⟩ = some (.int .i64 a1_2) := (blk_cell BK172.out 2).trans rfl
     have hcz11_3 : w5.cell? ⟨gb172, 3, none⟩ = some (.slice A1_3 l1_3.length c1_3) := (blk_cell BK172.out 3).trans rfl
     have hfz11_0 := blk_frozen BK172.out 0
     have hfz11_1 := blk_frozen BK172.out 1
     have hfz11_2 := blk_frozen BK172.out 2
     have hfz11_3 := blk_frozen BK172.out 3
     have hcv12 := Kd.C_string (P := Try.prog) (A := A0_3) (c := c0_3) Try.underlying24 Try.underlying5 Try.underlying9 (Kd.C_below HR0_3.out HB.out)
     have hcd12 := fun (nq_ : Nat) => Kd.C_string (P := Try.prog) (A := A0_3) (c := c0_3) Try.underlying24 Try.underlying5 Try.underlying9 (Kd.C_drewN (Kd.C_below HR0_3.out HB.out) nq_)
     have hcv13 := Kd.C_string (P := Try.prog) (A := A1_3) (c := c1_3) Try.underlying24 Try.underlying5 Try.underlying9 (Kd.C_below HR1_3.out HB.out)
     have hcd13 := fun (nq_ : Nat) => Kd.C_string (P := Try.prog) (A := A1_3) (c := c1_3) Try.underlying24 Try.underlying5 Try.underlying9 (Kd.C_drewN (Kd.C_below HR1_3.out HB.out) nq_)
     go_wp2
     go_meet
     case rel => exact ⟨_, (((l0_1.length : Int) != (l1_1.length : Int))), (by first | rfl | (simp; done) | (simp [*]; done)), H', ⟨by first | omega | exact Nat.le_refl _⟩, ⟨by (with_reducible repeat (first | refine blk_drewN ?_ _ | refine blk_drew ?_ | refine blk_alloc ?_ _)); exact BK171.out⟩, ⟨by (with_reducible repeat (first | refine blk_drewN ?_ _ | refine blk_drew ?_ | refine blk_alloc ?_ _)); exact BK172.out⟩, ⟨by repeat (first | (with_reducible first | exact HB.out | apply below_alloc | apply pw_below_drewN | apply below_drew1 | refine below_set ?_ GE171.out | refine below_set ?_ GE172.out) | exact HB.out)⟩⟩
    ·rw [if_neg c8] at H
     have c8b0 : ((strOfNums l0_3).toList == (strOfNums l1_3).toList) = false := beq_eq_false_iff_ne.mpr c8
     have c8b1 : ((strOfNums l0_3).toList != (strOfNums l1_3).toList) = true := bne_iff_ne.mpr c8
     have H' := Aside0.mk H
     clear H
     have hnb14 := NB171_172.out
     have hnc14 := NB172_171.out
     have hcz15_0 : w5.cell? ⟨gb171, 0, none⟩ = some (.int .i64 a0_0) := (blk_cell BK171.out 0).trans rfl
     have hcz15_1 : w5.cell? ⟨gb171, 1, none⟩ = some (.slice A0_1 l0_1.length c0_1) := (blk_cell BK171.out 1).trans rfl
     have hcz15_2 : w5.cell? ⟨gb171, 2, none⟩ = some (.int .i64 a0_2) := (blk_cell BK171.out 2).trans rfl
     have hcz15_3 : w5.cell? ⟨gb171, 3, none⟩ = some (.slice A0_3 l0_3.length c0_3) := (blk_cell BK171.out 3).trans rfl
     have hfz15_0 := blk_frozen BK171.out 0
     have hfz15_1 := blk_frozen BK171.out 1
     have hfz15_2 := blk_frozen BK171.out 2
     have hfz15_3 := blk_frozen BK171.out 3
     have hcz16_0 : w5.cell? ⟨gb172, 0, none⟩ = some (.int .i64 a1_0) := (blk_cell BK172.out 0).trans rfl
     have hcz16_1 : w5.cell? ⟨gb172, 1, none⟩ = some (.slice A1_1 l1_1.length c1_1) := (blk_cell BK172.out 1).trans rfl
     have hcz16_2 : w5.cell? ⟨gb172, 2, none⟩ = some (.int .i64 a1_2) := (blk_cell BK172.out 2).trans rfl
     have hcz16_3 : w5.cell? ⟨gb172, 3, none⟩ = some (.slice A1_3 l1_3.length c1_3) := (blk_cell BK172.out 3).trans rfl
     have hfz16_0 := blk_frozen BK172.out 0
     have hfz16_1 := blk_frozen BK172.out 1
     have hfz16_2 := blk_frozen BK172.out 2
     have hfz16_3 := blk_frozen BK172.out 3
     have hcv17 := Kd.C_string (P := Try.prog) (A := A0_3) (c := c0_3) Try.underlying24 Try.underlying5 Try.underlying9 (Kd.C_below HR0_3.out HB.out)
     have hcd17 := fun (nq_ : Nat) => Kd.C_string (P := Try.prog) (A := A0_3) (c := c0_3) Try.underlying24 Try.underlying5 Try.underlying9 (Kd.C_drewN (Kd.C_below HR0_3.out HB.out) nq_)
     have hcv18 := Kd.C_string (P := Try.prog) (A := A1_3) (c := c1_3) Try.underlying24 Try.underlying5 Try.underlying9 (Kd.C_below HR1_3.out HB.out)
     have hcd18 := fun (nq_ : Nat) => Kd.C_string (P := Try.prog) (A := A1_3) (c := c1_3) Try.underlying24 Try.underlying5 Try.underlying9 (Kd.C_drewN (Kd.C_below HR1_3.out HB.out) nq_)
     go_wp2
     go_meet
     case rel => exact ⟨_, (true), (by first | rfl | (simp; done) | (simp [*]; done)), H', ⟨by first | omega | exact Nat.le_refl _⟩, ⟨by (with_reducible repeat (first | refine blk_drewN ?_ _ | refine blk_drew ?_ | refine blk_alloc ?_ _)); exact BK171.out⟩, ⟨by (with_reducible repeat (first | refine blk_drewN ?_ _ | refine blk_drew ?_ | refine blk_alloc ?_ _)); exact BK172.out⟩, ⟨by repeat (first | (with_reducible first | exact HB.out | apply below_alloc | apply pw_below_drewN | apply below_drew1 | refine below_set ?_ GE171.out | refine below_set ?_ GE172.out) | exact HB.out)⟩⟩
   ·rw [if_neg c7] at H
    have c7b0 : (a0_2 == a1_2) = false := beq_eq_false_iff_ne.mpr c7
    have c7b1 : (a0_2 != a1_2) = true := bne_iff_ne.mpr c7
    have H' := Aside0.mk H
    clear H
    have hnb19 := NB171_172.out
    have hnc19 := NB172_171.out
    have hcz20_0 : w5.cell? ⟨gb171, 0, none⟩ = some (.int .i64 a0_0) := (blk_cell BK171.out 0).trans rfl
    have hcz20_1 : w5.cell? ⟨gb171, 1, none⟩ = some (.slice A0_1 l0_1.length c0_1) := (blk_cell BK171.out 1).trans rfl
    have hcz20_2 : w5.cell? ⟨gb171, 2, none⟩ = some (.int .i64 a0_2) := (blk_cell BK171.out 2).trans rfl
    have hcz20_3 : w5.cell? ⟨gb171, 3, none⟩ = some (.slice A0_3 l0_3.length c0_3) := (blk_cell BK171.out 3).trans rfl
    have hfz20_0 := blk_frozen BK171.out 0
    have hfz20_1 := blk_frozen BK171.out 1
    have hfz20_2 := blk_frozen BK171.out 2
    have hfz20_3 := blk_frozen BK171.out 3
    have hcz21_0 : w5.cell? ⟨gb172, 0, none⟩ = some (.int .i64 a1_0) := (blk_cell BK172.out 0).trans rfl
    have hcz21_1 : w5.cell? ⟨gb172, 1, none⟩ = some (.slice A1_1 l1_1.length c1_1) := (blk_cell BK172.out 1).trans rfl
    have hcz21_2 : w5.cell? ⟨gb172, 2, none⟩ = some (.int .i64 a1_2) := (blk_cell BK172.out 2).trans rfl
    have hcz21_3 : w5.cell? ⟨gb172, 3, none⟩ = some (.slice A1_3 l1_3.length c1_3) := (blk_cell BK172.out 3).trans rfl
    have hfz21_0 := blk_frozen BK172.out 0
    have hfz21_1 := blk_frozen BK172.out 1
    have hfz21_2 := blk_frozen BK172.out 2
    have hfz21_3 := blk_frozen BK172.out 3
    go_wp2
    go_meet
    case rel => exact ⟨_, (true), (by first | rfl | (simp; done) | (simp [*]; done)), H', ⟨by first | omega | exact Nat.le_refl _⟩, ⟨by (with_reducible repeat (first | refine blk_drewN ?_ _ | refine blk_drew ?_ | refine blk_alloc ?_ _)); exact BK171.out⟩, ⟨by (with_reducible repeat (first | refine blk_drewN ?_ _ | refine blk_drew ?_ | refine blk_alloc ?_ _)); exact BK172.out⟩, ⟨by repeat (first | (with_reducible first | exact HB.out | apply below_alloc | apply pw_below_drewN | apply below_drew1 | refine below_set ?_ GE171.out | refine below_set ?_ GE172.out) | exact HB.out)⟩⟩
  ·rw [if_neg c6] at H
   have c6b0 : (a0_0 == a1_0) = false := beq_eq_false_iff_ne.mpr c6
   have c6b1 : (a0_0 != a1_0) = true := bne_iff_ne.mpr c6
   (first | rw [c6b0] | (simp only [i64_w, i32_w]; rw [c6b0]) | skip)
   have H' := Aside0.mk H
   clear H
   have hnb22 := NB171_172.out
   have hnc22 := NB172_171.out
   have hcz23_0 : w5.cell? ⟨gb171, 0, none⟩ = some (.int .i64 a0_0) := (blk_cell BK171.out 0).trans rfl
   have hcz23_1 : w5.cell? ⟨gb171, 1, none⟩ = some (.slice A0_1 l0_1.length c0_1) := (blk_cell BK171.out 1).trans rfl
   have hcz23_2 : w5.cell? ⟨gb171, 2, none⟩ = some (.int .i64 a0_2) := (blk_cell BK171.out 2).trans rfl
   have hcz23_3 : w5.cell? ⟨gb171, 3, none⟩ = some (.slice A0_3 l0_3.length c0_3) := (blk_cell BK171.out 3).trans rfl
   have hfz23_0 := blk_frozen BK171.out 0
   have hfz23_1 := blk_frozen BK171.out 1
   have hfz23_2 := blk_frozen BK171.out 2
   have hfz23_3 := blk_frozen BK171.out 3
   have hcz24_0 : w5.cell? ⟨gb172, 0, none⟩ = some (.int .i64 a1_0) := (blk_cell BK172.out 0).trans rfl
   have hcz24_1 : w5.cell? ⟨gb172, 1, none⟩ = some (.slice A1_1 l1_1.length c1_1) := (blk_cell BK172.out 1).trans rfl
   have hcz24_2 : w5.cell? ⟨gb172, 2, none⟩ = some (.int .i64 a1_2) := (blk_cell BK172.out 2).trans rfl
   have hcz24_3 : w5.cell? ⟨gb172, 3, none⟩ = some (.slice A1_3 l1_3.length c1_3) := (blk_cell BK172.out 3).trans rfl
   have hfz24_0 := blk_frozen BK172.out 0
   have hfz24_1 := blk_frozen BK172.out 1
   have hfz24_2 := blk_frozen BK172.out 2
   have hfz24_3 := blk_frozen BK172.out 3
   go_wp2
   go_meet
   case rel => exact ⟨_, (true), (by first | rfl | (simp; done) | (simp [*]; done)), H', ⟨by first | omega | exact Nat.le_refl _⟩, ⟨by (with_reducible repeat (first | refine blk_drewN ?_ _ | refine blk_drew ?_ | refine blk_alloc ?_ _)); exact BK171.out⟩, ⟨by (with_reducible repeat (first | refine blk_drewN ?_ _ | refine blk_drew ?_ | refine blk_alloc ?_ _)); exact BK172.out⟩, ⟨by repeat (first | (with_reducible first | exact HB.out | apply below_alloc | apply pw_below_drewN | apply below_drew1 | refine below_set ?_ GE171.out | refine below_set ?_ GE172.out) | exact HB.out)⟩⟩
 case rest =>
  clear HC3
  (try clear c1); (try clear hcv1); (try clear c2); (try clear p2); (try clear c6); (try clear c6b0); (try clear c6b1); (try clear c7); (try clear c7b0); (try clear c7b1); (try clear c8); (try clear c8b0); (try clear c8b1); (try clear c9); (try clear hcv12); (try clear hcv13); (try clear c14); (try clear hcv17); (try clear hcv18); (try clear c19); (try clear c22); (try clear c24); (try clear hcz10_0); (try clear hcz10_1); (try clear hcz10_2); (try clear hcz10_3); (try clear hcz11_0); (try clear hcz11_1); (try clear hcz11_2); (try clear hcz11_3); (try clear hcz15_0); (try clear hcz15_1); (try clear hcz15_2); (try clear hcz15_3); (try clear hcz16_0); (try clear hcz16_1); (try clear hcz16_2); (try clear hcz16_3); (try clear hcz20_0); (try clear hcz20_1); (try clear hcz20_2); (try clear hcz20_3); (try clear hcz21_0); (try clear hcz21_1); (try clear hcz21_2); (try clear hcz21_3); (try clear hcz23_0); (try clear hcz23_1); (try clear hcz23_2); (try clear hcz23_3); (try clear hcz24_0); (try clear hcz24_1); (try clear hcz24_2); (try clear hcz24_3); (try clear hfz10_0); (try clear hfz10_1); (try clear hfz10_2); (try clear hfz10_3); (try clear hfz11_0); (try clear hfz11_1); (try clear hfz11_2); (try clear hfz11_3); (try clear hfz15_0); (try clear hfz15_1); (try clear hfz15_2); (try clear hfz15_3); (try clear hfz16_0); (try clear hfz16_1); (try clear hfz16_2); (try clear hfz16_3); (try clear hfz20_0); (try clear hfz20_1); (try clear hfz20_2); (try clear hfz20_3); (try clear hfz21_0); (try clear hfz21_1); (try clear hfz21_2); (try clear hfz21_3); (try clear hfz23_0); (try clear hfz23_1); (try clear hfz23_2); (try clear hfz23_3); (try clear hfz24_0); (try clear hfz24_1); (try clear hfz24_2); (try clear hfz24_3)
  obtain ⟨kq, x37_2, rfl, HA, HJ2, BK171, BK172, HB⟩ := hcut
  cases kq with
  | zero => exact absurd HA.out (by simp [marginaliaref20_Same.j0])
  | succ kj2 =>
   have H := HA.out
   clear HA
   simp only [marginaliaref20_Same.j0] at H
   by_cases c25 : x37_2 = true
   ·subst c25
    have H1 : (some false) = some r := by rw [if_pos rfl] at H; exact H
    clear H
    have H := H1
    clear H1
    obtain rfl := Option.some.inj H
    go_wp2
    go_ret
    exact ⟨by first | rfl | (simp [errW_none, errW_some] <;> rfl) | (simp [*, errW_none, errW_some] <;> rfl), by repeat (first | (with_reducible first | exact HB.out | apply below_alloc | apply pw_below_drewN | apply below_drew1 | refine below_set ?_ GE171.out | refine below_set ?_ GE172.out) | exact HB.out)⟩
   ·replace c25 := Bool.eq_false_iff.mpr c25
    subst c25
    have H1 : (marginaliaref20_Same.l0 kj2 0 a0_0 l0_1 a0_2 l0_3 a1_0 l1_1 a1_2 l1_3) = some r := by rw [if_neg (show ¬ (false = true) by decide)] at H; exact H
    clear H
    have H := H1
    clear H1
    have H' := Aside0.mk H
    clear H
    go_wp2
    go_loopg [5] kj2 (fun kq v5 w' => ∃ (x5_2 : Int), v5 = .int .i64 x5_2 ∧ Aside0 (marginaliaref20_Same.l0 kq x5_2 a0_0 l0_1 a0_2 l0_3 a1_0 l1_1 a1_2 l1_3 = some r) ∧ Aside0 (kq ≤ kj2) ∧ Aside0 (w'.heap[gb171]? = some (.cells #[.int .i64 a0_0, (.slice A0_1 l0_1.length c0_1), .int .i64 a0_2, (.slice A0_3 l0_3.length c0_3)] 26 (0, 0))) ∧ Aside0 (w'.heap[gb172]? = some (.cells #[.int .i64 a1_0, (.slice A1_1 l1_1.length c1_1), .int .i64 a1_2, (.slice A1_3 l1_3.length c1_3)] 26 (0, 0))) ∧ Aside0 (Below w.heap.size w w'))
    case atStart => exact ⟨(0), (by first | rfl | (simp; done) | (simp [*]; done)), H', ⟨Nat.le_refl _⟩, ⟨by (with_reducible repeat (first | refine blk_drewN ?_ _ | refine blk_drew ?_ | refine blk_alloc ?_ _)); exact BK171.out⟩, ⟨by (with_reducible repeat (first | refine blk_drewN ?_ _ | refine blk_drew ?_ | refine blk_alloc ?_ _)); exact BK172.out⟩, ⟨by repeat (first | (with_reducible first | exact HB.out | apply below_alloc | apply pw_below_drewN | apply below_drew1 | refine below_set ?_ GE171.out | refine below_set ?_ GE172.out) | exact HB.out)⟩⟩
    case round =>
     clear H'
     (try clear c1); (try clear hcv1); (try clear c2); (try clear p2); (try clear c6); (try clear c6b0); (try clear c6b1); (try clear c7); (try clear c7b0); (try clear c7b1); (try clear c8); (try clear c8b0); (try clear c8b1); (try clear c9); (try clear hcv12); (try clear hcv13); (try clear c14); (try clear hcv17); (try clear hcv18); (try clear c19); (try clear c22); (try clear c24); (try clear c25); (try clear hcz10_0); (try clear hcz10_1); (try clear hcz10_2); (try clear hcz10_3); (try clear hcz11_0); (try clear hcz11_1); (try clear hcz11_2); (try clear hcz11_3); (try clear hcz15_0); (try clear hcz15_1); (try clear hcz15_2); (try clear hcz15_3); (try clear hcz16_0); (try clear hcz16_1); (try clear hcz16_2); (try clear hcz16_3); (try clear hcz20_0); (try clear hcz20_1); (try clear hcz20_2); (try clear hcz20_3); (try clear hcz21_0); (try clear hcz21_1); (try clear hcz21_2); (try clear hcz21_3); (try clear hcz23_0); (try clear hcz23_1); (try clear hcz23_2); (try clear hcz23_3); (try clear hcz24_0); (try clear hcz24_1); (try clear hcz24_2); (try clear hcz24_3); (try clear hfz10_0); (try clear hfz10_1); (try clear hfz10_2); (try clear hfz10_3); (try clear hfz11_0); (try clear hfz11_1); (try clear hfz11_2); (try clear hfz11_3); (try clear hfz15_0); (try clear hfz15_1); (try clear hfz15_2); (try clear hfz15_3); (try clear hfz16_0); (try clear hfz16_1); (try clear hfz16_2); (try clear hfz16_3); (try clear hfz20_0); (try clear hfz20_1); (try clear hfz20_2); (try clear hfz20_3); (try clear hfz21_0); (try clear hfz21_1); (try clear hfz21_2); (try clear hfz21_3); (try clear hfz23_0); (try clear hfz23_1); (try clear hfz23_2); (try clear hfz23_3); (try clear hfz24_0); (try clear hfz24_1); (try clear hfz24_2); (try clear hfz24_3); (try clear p2)
     obtain ⟨x5_2, rfl, HA, HK2, BK171, BK172, HB⟩ := hrel
     cases gk with
     | zero => exact absurd HA.out (by simp [marginaliaref20_Same.l0])
     | succ k2 =>
      have H := HA.out
      clear HA
      simp only [marginaliaref20_Same.l0] at H
      by_cases c26 : x5_2 < (l0_1.length : Int)
      ·rw [if_pos c26] at H
       have c26b0 : decide (x5_2 < (l0_1.length : Int)) = true := decide_eq_true c26
       clear c26
       by_cases c27 : 0 ≤ x5_2
       ·rw [if_pos c27] at H
        have c27b0 : decide (0 ≤ x5_2) = true := decide_eq_true c27
        clear c27
        by_cases c28 : x5_2 < (l1_1.length : Int)
        ·rw [if_pos c28] at H
         have c28b0 : decide (x5_2 < (l1_1.length : Int)) = true := decide_eq_true c28
         clear c28
         have HC29 := Aside0.mk H
         clear H
         have hnb30 := NB171_172.out
         have hnc30 := NB172_171.out
         have hcz31_0 : wr.cell? ⟨gb171, 0, none⟩ = some (.int .i64 a0_0) := (blk_cell BK171.out 0).trans rfl
         have hcz31_1 : wr.cell? ⟨gb171, 1, none⟩ = some (.slice A0_1 l0_1.length c0_1) := (blk_cell BK171.out 1).trans rfl
         have hcz31_2 : wr.cell? ⟨gb171, 2, none⟩ = some (.int .i64 a0_2) := (blk_cell BK171.out 2).trans rfl
         have hcz31_3 : wr.cell? ⟨gb171, 3, none⟩ = some (.slice A0_3 l0_3.length c0_3) := (blk_cell BK171.out 3).trans rfl
         have hfz31_0 := blk_frozen BK171.out 0
         have hfz31_1 := blk_frozen BK171.out 1
         have hfz31_2 := blk_frozen BK171.out 2
         have hfz31_3 := blk_frozen BK171.out 3
         try go_wp2
         have n0_ := Aside0.mk (blk_drew BK171.out)
         have n1_ := Aside0.mk (blk_drew BK172.out)
         have n2_ := Aside0.mk (below_drew1 HB.out)
         clear BK171
         clear BK172
         clear HB
         have BK171 := n0_
         have BK172 := n1_
         have HB := n2_
         clear n0_ n1_ n2_
         have p173 : 0 ≤ (x5_2 : Int) := of_decide_eq_true (by first | (with_reducible assumption) | assumption)
         have q173 : x5_2 < (l0_1.length : Int) := of_decide_eq_true (by first | (with_reducible assumption) | assumption)
         obtain ⟨ad173, A173_2, c173_2, e173, hx173_0, hx173_1, hx173_2, hx173_3, hl173_2, hi173_2⟩ := at_T39 HR0_1.out x5_2 p173 q173
         have hw173_3 := hx173_3
         have hw173_2 := hx173_2
         have hw173_1 := hx173_1
         have hw173_0 := hx173_0
         cases e173
         replace hx173_0 := (HB.out.cell (World.block_lt_of_cell? w _ hx173_0)).trans hx173_0
         replace hx173_1 := (HB.out.cell (World.block_lt_of_cell? w _ hx173_1)).trans hx173_1
         replace hx173_2 := (HB.out.cell (World.block_lt_of_cell? w _ hx173_2)).trans hx173_2
         replace hx173_3 := (HB.out.cell (World.block_lt_of_cell? w _ hx173_3)).trans hx173_3
         have HR173_2 := Aside0.mk hi173_2
         have HC173_2 := Aside0.mk hl173_2
         clear hi173_2 hl173_2
         replace p173 := eq_true p173
         replace q173 := eq_true q173
         have p174 : 0 ≤ (x5_2 : Int) := of_decide_eq_true (by first | (with_reducible assumption) | assumption)
         have q174 : x5_2 < (l1_1.length : Int) := of_decide_eq_true (by first | (with_reducible assumption) | assumption)
         obtain ⟨ad174, A174_2, c174_2, e174, hx174_0, hx174_1, hx174_2, hx174_3, hl174_2, hi174_2⟩ := at_T39 HR1_1.out x5_2 p174 q174
         have hw174_3 := hx174_3
         have hw174_2 := hx174_2
         have hw174_1 := hx174_1
         have hw174_0 := hx174_0
         cases e174
         replace hx174_0 := (HB.out.cell (World.block_lt_of_cell? w _ hx174_0)).trans hx174_0
         replace hx174_1 := (HB.out.cell (World.block_lt_of_cell? w _ hx174_1)).trans hx174_1
         replace hx174_2 := (HB.out.cell (World.block_lt_of_cell? w _ hx174_2)).trans hx174_2
         replace hx174_3 := (HB.out.cell (World.block_lt_of_cell? w _ hx174_3)).trans hx174_3
         have HR174_2 := Aside0.mk hi174_2
         have HC174_2 := Aside0.mk hl174_2
         clear hi174_2 hl174_2
         replace p174 := eq_true p174
         replace q174 := eq_true q174
         refine start_ (n := 14) (S := fun w' => w'.cell? ⟨gb171, 0, none⟩ = some (.int .i64 a0_0) ∧ w'.cell? ⟨gb171, 1, none⟩ = some (.slice (some ad173) l0_1.length c0_1) ∧ w'.cell? ⟨gb171, 2, none⟩ = some (.int .i64 a0_2) ∧ w'.cell? ⟨gb171, 3, none⟩ = some (.slice A0_3 l0_3.length c0_3) ∧ w'.cell? ⟨gb172, 0, none⟩ = some (.int .i64 a1_0) ∧ w'.cell? ⟨gb172, 1, none⟩ = some (.slice (some ad174) l1_1.length c1_1) ∧ w'.cell? ⟨gb172, 2, none⟩ = some (.int .i64 a1_2) ∧ w'.cell? ⟨gb172, 3, none⟩ = some (.slice A1_3 l1_3.length c1_3) ∧ w'.cell? (ad173.add ((x5_2).toNat * 4)) = some (.int .u64 ((rd_T39 l0_1 x5_2).f0)) ∧ w'.cell? ⟨(ad173.add ((x5_2).toNat * 4)).block, (ad173.add ((x5_2).toNat * 4)).off + 1, none⟩ = some (.int .i64 ((rd_T39 l0_1 x5_2).f1)) ∧ w'.cell? ⟨(ad173.add ((x5_2).toNat * 4)).block, (ad173.add ((x5_2).toNat * 4)).off + 2, none⟩ = some (.slice A173_2 ((rd_T39 l0_1 x5_2).f2).length c173_2) ∧ w'.cell? ⟨(ad173.add ((x5_2).toNat * 4)).block, (ad173.add ((x5_2).toNat * 4)).off + 3, none⟩ = some (.int .i64 ((rd_T39 l0_1 x5_2).f3)) ∧ w'.cell? (ad174.add ((x5_2).toNat * 4)) = some (.int .u64 ((rd_T39 l1_1 x5_2).f0)) ∧ w'.cell? ⟨(ad174.add ((x5_2).toNat * 4)).block, (ad174.add ((x5_2).toNat * 4)).off + 1, none⟩ = some (.int .i64 ((rd_T39 l1_1 x5_2).f1)) ∧ w'.cell? ⟨(ad174.add ((x5_2).toNat * 4)).block, (ad174.add ((x5_2).toNat * 4)).off + 2, none⟩ = some (.slice A174_2 ((rd_T39 l1_1 x5_2).f2).length c174_2) ∧ w'.cell? ⟨(ad174.add ((x5_2).toNat * 4)).block, (ad174.add ((x5_2).toNat * 4)).off + 3, none⟩ = some (.int .i64 ((rd_T39 l1_1 x5_2).f3))) (ds := []) (bm 14 0) (by kernel_rfl) rfl rfl ⟨(blk_cell BK171.out 0).trans rfl, (blk_cell BK171.out 1).trans rfl, (blk_cell BK171.out 2).trans rfl, (blk_cell BK171.out 3).trans rfl, (blk_cell BK172.out 0).trans rfl, (blk_cell BK172.out 1).trans rfl, (blk_cell BK172.out 2).trans rfl, (blk_cell BK172.out 3).trans rfl, ((HB.out.cell (World.block_lt_of_cell? w _ hw173_0)).trans hw173_0), ((HB.out.cell (World.block_lt_of_cell? w _ hw173_1)).trans hw173_1), ((HB.out.cell (World.block_lt_of_cell? w _ hw173_2)).trans hw173_2), ((HB.out.cell (World.block_lt_of_cell? w _ hw173_3)).trans hw173_3), ((HB.out.cell (World.block_lt_of_cell? w _ hw174_0)).trans hw174_0), ((HB.out.cell (World.block_lt_of_cell? w _ hw174_1)).trans hw174_1), ((HB.out.cell (World.block_lt_of_cell? w _ hw174_2)).trans hw174_2), ((HB.out.cell (World.block_lt_of_cell? w _ hw174_3)).trans hw174_3)⟩ (fun hHeld => ?_); refine with_tabW marginaliaref20_Same.tab6 marginaliaref20_Same.bits6 (fun HT_ HW_ => ?_)
         generalize wr.drew = w32 at BK171 BK172 HB HR173_2 HR174_2 hx173_0 hx173_1 hx173_2 hx173_3 hx174_0 hx174_1 hx174_2 hx174_3 hHeld ⊢
         refine pure_ (i := 0) (N := some 45) (v := ?_) (a' := ?_) (bm 14 1) rfl rfl (any_of HT_.out (by kernel_rfl)) (fun _ _ _ h => h) (Or.inl ⟨by rfl, ?_⟩) ?_ ?_
         rotate_left
         ·intro w'
          go_simp
          with_reducible rfl
         rotate_left
         ·simp only [Act.put, List.setIfInBounds_toArray, List.set_cons_zero, List.set_cons_succ, i64_w, i32_w]
          rfl
         refine pure_ (i := 2) (N := some 47) (v := ?_) (a' := ?_) (bm 14 5) rfl rfl (any_of HT_.out (by kernel_rfl)) (fun _ _ _ h => h) (Or.inl ⟨by rfl, ?_⟩) ?_ ?_
         rotate_left
         ·intro w'
          go_simp
          with_reducible rfl
         rotate_left
         ·simp only [Act.put, List.setIfInBounds_toArray, List.set_cons_zero, List.set_cons_succ, i64_w, i32_w]
          rfl
         refine pure_ (i := 5) (N := some 50) (v := ?_) (a' := ?_) (bm 14 37) rfl rfl (any_of HT_.out (by kernel_rfl)) (fun _ _ _ h => h) (Or.inl ⟨by rfl, ?_⟩) ?_ ?_
         rotate_left
         ·intro w'
          go_simp
          with_reducible rfl
         rotate_left
         ·simp only [Act.put, List.setIfInBounds_toArray, List.set_cons_zero, List.set_cons_succ, i64_w, i32_w]
          rfl
         refine pure_ (i := 7) (N := some 52) (v := ?_) (a' := ?_) (bm 14 165) rfl rfl (any_of HT_.out (by kernel_rfl)) (fun _ _ _ h => h) (Or.inl ⟨by rfl, ?_⟩) ?_ ?_
         rotate_left
         ·intro w'
          go_simp
          with_reducible rfl
         rotate_left
         ·simp only [Act.put, List.setIfInBounds_toArray, List.set_cons_zero, List.set_cons_succ, i64_w, i32_w]
          rfl
         refine take_ (i := 1) (N := some 46) (v := ?_) (a' := ?_) (bm 14 167) rfl rfl (take_ofW HT_.out HW_.out (by kernel_rfl)) (fun _ _ _ h => h) (Or.inl ⟨by rfl, ?_⟩) hHeld ?_ ?_
         rotate_left
         ·rintro w' ⟨s0, s1, s2, s3, s4, s5, s6, s7, s8, s9, s10, s11, s12, s13, s14, s15⟩
          go_simp
          with_reducible rfl
         rotate_left
         ·simp only [Act.put, List.setIfInBounds_toArray, List.set_cons_zero, List.set_cons_succ, i64_w, i32_w]
          rfl
         refine pure_ (i := 3) (N := some 48) (v := ?_) (a' := ?_) (bm 14 175) rfl rfl (any_of HT_.out (by kernel_rfl)) (fun _ _ _ h => h) (Or.inl ⟨by rfl, ?_⟩) ?_ ?_
         rotate_left
         ·intro w'
          go_simp
          with_reducible rfl
         rotate_left
         ·simp only [Act.put, List.setIfInBounds_toArray, List.set_cons_zero, List.set_cons_succ, i64_w, i32_w]
          rfl
         refine take_ (i := 4) (N := some 49) (v := ?_) (a' := ?_) (bm 14 191) rfl rfl (take_ofW HT_.out HW_.out (by kernel_rfl)) (fun _ _ _ h => h) (Or.inl ⟨by rfl, ?_⟩) hHeld ?_ ?_
         rotate_left
         ·rintro w' ⟨s0, s1, s2, s3, s4, s5, s6, s7, s8, s9, s10, s11, s12, s13, s14, s15⟩
          go_simp
          with_reducible rfl
         rotate_left
         ·simp only [Act.put, List.setIfInBounds_toArray, List.set_cons_zero, List.set_cons_succ, i64_w, i32_w]
          rfl
         refine take_ (i := 6) (N := some 51) (v := ?_) (a' := ?_) (bm 14 255) rfl rfl (take_ofW HT_.out HW_.out (by kernel_rfl)) (fun _ _ _ h => h) (Or.inl ⟨by rfl, ?_⟩) hHeld ?_ ?_
         rotate_left
         ·rintro w' ⟨s0, s1, s2, s3, s4, s5, s6, s7, s8, s9, s10, s11, s12, s13, s14, s15⟩
          go_simp
          with_reducible rfl
         rotate_left
         ·simp only [Act.put, List.setIfInBounds_toArray, List.set_cons_zero, List.set_cons_succ, i64_w, i32_w]
          rfl
         refine pure_ (i := 8) (N := some 53) (v := ?_) (a' := ?_) (bm 14 511) rfl rfl (any_of HT_.out (by kernel_rfl)) (fun _ _ _ h => h) (Or.inl ⟨by rfl, ?_⟩) ?_ ?_
         rotate_left
         ·intro w'
          go_simp
          with_reducible rfl
         rotate_left
         ·simp only [Act.put, List.setIfInBounds_toArray, List.set_cons_zero, List.set_cons_succ, i64_w, i32_w]
          rfl
         refine take_ (i := 9) (N := some 54) (v := ?_) (a' := ?_) (bm 14 1023) rfl rfl (take_ofW HT_.out HW_.out (by kernel_rfl)) (fun _ _ _ h => h) (Or.inl ⟨by rfl, ?_⟩) hHeld ?_ ?_
         rotate_left
         ·rintro w' ⟨s0, s1, s2, s3, s4, s5, s6, s7, s8, s9, s10, s11, s12, s13, s14, s15⟩
          go_simp
          with_reducible rfl
         rotate_left
         ·simp only [Act.put, List.setIfInBounds_toArray, List.set_cons_zero, List.set_cons_succ, i64_w, i32_w]
          rfl
         refine join_ (σ := Nat × Nat) 2 (bm 14 4095) (fun s_ => [(6, .pointer (some ⟨s_.1, 0, none⟩)), (7, .pointer (some ⟨s_.2, 0, none⟩))]) (fun s_ w' => (w'.cell? ⟨gb171, 0, none⟩ = some (.int .i64 a0_0) ∧ w'.cell? ⟨gb171, 1, none⟩ = some (.slice (some ad173) l0_1.length c0_1) ∧ w'.cell? ⟨gb171, 2, none⟩ = some (.int .i64 a0_2) ∧ w'.cell? ⟨gb171, 3, none⟩ = some (.slice A0_3 l0_3.length c0_3) ∧ w'.cell? ⟨gb172, 0, none⟩ = some (.int .i64 a1_0) ∧ w'.cell? ⟨gb172, 1, none⟩ = some (.slice (some ad174) l1_1.length c1_1) ∧ w'.cell? ⟨gb172, 2, none⟩ = some (.int .i64 a1_2) ∧ w'.cell? ⟨gb172, 3, none⟩ = some (.slice A1_3 l1_3.length c1_3) ∧ w'.cell? (ad173.add ((x5_2).toNat * 4)) = some (.int .u64 ((rd_T39 l0_1 x5_2).f0)) ∧ w'.cell? ⟨(ad173.add ((x5_2).toNat * 4)).block, (ad173.add ((x5_2).toNat * 4)).off + 1, none⟩ = some (.int .i64 ((rd_T39 l0_1 x5_2).f1)) ∧ w'.cell? ⟨(ad173.add ((x5_2).toNat * 4)).block, (ad173.add ((x5_2).toNat * 4)).off + 2, none⟩ = some (.slice A173_2 ((rd_T39 l0_1 x5_2).f2).length c173_2) ∧ w'.cell? ⟨(ad173.add ((x5_2).toNat * 4)).block, (ad173.add ((x5_2).toNat * 4)).off + 3, none⟩ = some (.int .i64 ((rd_T39 l0_1 x5_2).f3)) ∧ w'.cell? (ad174.add ((x5_2).toNat * 4)) = some (.int .u64 ((rd_T39 l1_1 x5_2).f0)) ∧ w'.cell? ⟨(ad174.add ((x5_2).toNat * 4)).block, (ad174.add ((x5_2).toNat * 4)).off + 1, none⟩ = some (.int .i64 ((rd_T39 l1_1 x5_2).f1)) ∧ w'.cell? ⟨(ad174.add ((x5_2).toNat * 4)).block, (ad174.add ((x5_2).toNat * 4)).off + 2, none⟩ = some (.slice A174_2 ((rd_T39 l1_1 x5_2).f2).length c174_2) ∧ w'.cell? ⟨(ad174.add ((x5_2).toNat * 4)).block, (ad174.add ((x5_2).toNat * 4)).off + 3, none⟩ = some (.int .i64 ((rd_T39 l1_1 x5_2).f3))) ∧ (w'.heap[gb171]? = some (.cells #[.int .i64 a0_0, .slice (some ad173) l0_1.length c0_1, .int .i64 a0_2, .slice A0_3 l0_3.length c0_3] 26 (0, 0))) ∧ (w'.heap[gb172]? = some (.cells #[.int .i64 a1_0, .slice (some ad174) l1_1.length c1_1, .int .i64 a1_2, .slice A1_3 l1_3.length c1_3] 26 (0, 0))) ∧ (w'.heap[s_.1]? = some (.cells #[.int .u64 0, .int .i64 0, .slice none 0 0, .int .i64 0] 39 (0, 0))) ∧ (w'.heap[s_.2]? = some (.cells #[.int .u64 0, .int .i64 0, .slice none 0 0, .int .i64 0] 39 (0, 0))) ∧ (w.heap.size ≤ s_.1) ∧ (w.heap.size ≤ s_.1) ∧ (gb171 ≠ s_.1) ∧ (s_.1 ≠ gb171) ∧ (gb172 ≠ s_.1) ∧ (s_.1 ≠ gb172) ∧ (s_.2 ≠ s_.1) ∧ (s_.1 ≠ s_.2) ∧ (w.heap.size ≤ s_.2) ∧ (w.heap.size ≤ s_.2) ∧ (gb171 ≠ s_.2) ∧ (s_.2 ≠ gb171) ∧ (gb172 ≠ s_.2) ∧ (s_.2 ≠ gb172) ∧ (Below w.heap.size w w')) ?_ ?_
         rotate_left
         ·intro hCont
          refine two_ (i := 10) (j := 11) (Ni := some 6) (Nj := some 7) (bm 14 2047) (bm 14 3071) rfl rfl rfl rfl (two_of HT_.out (by kernel_rfl)) (by decide) (by decide) (fun K hK => ?_) (fun K hK => ?_)
          ·skip
           refine box_step ?hg (N := 6) ?hd (cs := #[.int .u64 0, .int .i64 0, .slice none 0 0, .int .i64 0]) (t := 39) ?hr ?_; (case hd => rfl); (case hg => rfl); (case hr => first | (go_simp; done) | (go_simp; rfl))
           intro gb175 hg w33 hbox hb
           have n0_ := Aside0.mk (blk_below (g := gb171) (o := .cells #[.int .i64 a0_0, .slice (some ad173) l0_1.length c0_1, .int .i64 a0_2, .slice A0_3 l0_3.length c0_3] 26 (0, 0)) (by (with_reducible repeat (first | refine blk_drewN ?_ _ | refine blk_drew ?_ | refine blk_alloc ?_ _)); exact BK171.out) hb)
           have n1_ := Aside0.mk (blk_below (g := gb172) (o := .cells #[.int .i64 a1_0, .slice (some ad174) l1_1.length c1_1, .int .i64 a1_2, .slice A1_3 l1_3.length c1_3] 26 (0, 0)) (by (with_reducible repeat (first | refine blk_drewN ?_ _ | refine blk_drew ?_ | refine blk_alloc ?_ _)); exact BK172.out) hb)
           have n2_ := Aside0.mk (below_step (by repeat (first | (with_reducible first | exact HB.out | apply below_alloc | apply pw_below_drewN | apply below_drew1 | refine below_set ?_ GE171.out | refine below_set ?_ GE172.out) | exact HB.out)) hb)
           have n3_ := Aside0.mk (hbox)
           have n4_ := Aside0.mk ((by rw [hg]; exact (below_size (by repeat (first | (with_reducible first | exact HB.out | apply below_alloc | apply pw_below_drewN | apply below_drew1 | refine below_set ?_ GE171.out | refine below_set ?_ GE172.out) | exact HB.out))) : w.heap.size ≤ gb175))
           have n5_ := Aside0.mk ((by rw [hg]; exact (below_size (by repeat (first | (with_reducible first | exact HB.out | apply below_alloc | apply pw_below_drewN | apply below_drew1 | refine below_set ?_ GE171.out | refine below_set ?_ GE172.out) | exact HB.out))) : w.heap.size ≤ gb175))
           have n6_ := Aside0.mk ((by rw [hg]; exact Nat.ne_of_lt (blk_lt (g := gb171) (o := .cells #[.int .i64 a0_0, .slice (some ad173) l0_1.length c0_1, .int .i64 a0_2, .slice A0_3 l0_3.length c0_3] 26 (0, 0)) (by (with_reducible repeat (first | refine blk_drewN ?_ _ | refine blk_drew ?_ | refine blk_alloc ?_ _)); exact BK171.out)) : gb171 ≠ gb175))
           have n7_ := Aside0.mk ((by rw [hg]; exact Nat.ne_of_gt (blk_lt (g := gb171) (o := .cells #[.int .i64 a0_0, .slice (some ad173) l0_1.length c0_1, .int .i64 a0_2, .slice A0_3 l0_3.length c0_3] 26 (0, 0)) (by (with_reducible repeat (first | refine blk_drewN ?_ _ | refine blk_drew ?_ | refine blk_alloc ?_ _)); exact BK171.out)) : gb175 ≠ gb171))
           have n8_ := Aside0.mk ((by rw [hg]; exact Nat.ne_of_lt (blk_lt (g := gb172) (o := .cells #[.int .i64 a1_0, .slice (some ad174) l1_1.length c1_1, .int .i64 a1_2, .slice A1_3 l1_3.length c1_3] 26 (0, 0)) (by (with_reducible repeat (first | refine blk_drewN ?_ _ | refine blk_drew ?_ | refine blk_alloc ?_ _)); exact BK172.out)) : gb172 ≠ gb175))
           have n9_ := Aside0.mk ((by rw [hg]; exact Nat.ne_of_gt (blk_lt (g := gb172) (o := .cells #[.int .i64 a1_0, .slice (some ad174) l1_1.length c1_1, .int .i64 a1_2, .slice A1_3 l1_3.length c1_3] 26 (0, 0)) (by (with_reducible repeat (first | refine blk_drewN ?_ _ | refine blk_drew ?_ | refine blk_alloc ?_ _)); exact BK172.out)) : gb175 ≠ gb172))
           clear BK171
           clear BK172
           clear HB
           have BK171 := n0_
           have BK172 := n1_
           have HB := n2_
           have BK175 := n3_
           have GW175 := n4_
           have GE175 := n5_
           have NB171_175 := n6_
           have NB175_171 := n7_
           have NB172_175 := n8_
           have NB175_172 := n9_
           clear n0_ n1_ n2_ n3_ n4_ n5_ n6_ n7_ n8_ n9_
           clear hb hbox hg
           refine hK.out _ _ ⟨(blk_cell BK171.out 0).trans rfl, (blk_cell BK171.out 1).trans rfl, (blk_cell BK171.out 2).trans rfl, (blk_cell BK171.out 3).trans rfl, (blk_cell BK172.out 0).trans rfl, (blk_cell BK172.out 1).trans rfl, (blk_cell BK172.out 2).trans rfl, (blk_cell BK172.out 3).trans rfl, ((HB.out.cell (World.block_lt_of_cell? w _ hw173_0)).trans hw173_0), ((HB.out.cell (World.block_lt_of_cell? w _ hw173_1)).trans hw173_1), ((HB.out.cell (World.block_lt_of_cell? w _ hw173_2)).trans hw173_2), ((HB.out.cell (World.block_lt_of_cell? w _ hw173_3)).trans hw173_3), ((HB.out.cell (World.block_lt_of_cell? w _ hw174_0)).trans hw174_0), ((HB.out.cell (World.block_lt_of_cell? w _ hw174_1)).trans hw174_1), ((HB.out.cell (World.block_lt_of_cell? w _ hw174_2)).trans hw174_2), ((HB.out.cell (World.block_lt_of_cell? w _ hw174_3)).trans hw174_3)⟩ (fun hHeld => ?_)
           clear hK K
           refine norm_ (a' := ?_) ?_ ?_
           rotate_left
           ·show Act.put _ (some 6) _ = _
            simp only [Act.put, List.setIfInBounds_toArray, List.set_cons_zero, List.set_cons_succ, i64_w, i32_w]
            rfl
           refine one_ (i := 11) (N := some 7) (bm 14 4095) rfl rfl (one_of HT_.out (by kernel_rfl)) (by decide) (fun K hK => ?_)
           refine box_step ?hg (N := 7) ?hd (cs := #[.int .u64 0, .int .i64 0, .slice none 0 0, .int .i64 0]) (t := 39) ?hr ?_; (case hd => rfl); (case hg => rfl); (case hr => first | (go_simp; done) | (go_simp; rfl))
           intro gb176 hg w34 hbox hb
           have n0_ := Aside0.mk (blk_below (g := gb171) (o := .cells #[.int .i64 a0_0, .slice (some ad173) l0_1.length c0_1, .int .i64 a0_2, .slice A0_3 l0_3.length c0_3] 26 (0, 0)) (by (with_reducible repeat (first | refine blk_drewN ?_ _ | refine blk_drew ?_ | refine blk_alloc ?_ _)); exact BK171.out) hb)
           have n1_ := Aside0.mk (blk_below (g := gb172) (o := .cells #[.int .i64 a1_0, .slice (some ad174) l1_1.length c1_1, .int .i64 a1_2, .slice A1_3 l1_3.length c1_3] 26 (0, 0)) (by (with_reducible repeat (first | refine blk_drewN ?_ _ | refine blk_drew ?_ | refine blk_alloc ?_ _)); exact BK172.out) hb)
           have n2_ := Aside0.mk (blk_below (g := gb175) (o := .cells #[.int .u64 0, .int .i64 0, .slice none 0 0, .int .i64 0] 39 (0, 0)) (by (with_reducible repeat (first | refine blk_drewN ?_ _ | refine blk_drew ?_ | refine blk_alloc ?_ _)); exact BK175.out) hb)
           have n3_ := Aside0.mk (below_step (by repeat (first | (with_reducible first | exact HB.out | apply below_alloc | apply pw_below_drewN | apply below_drew1 | refine below_set ?_ GE171.out | refine below_set ?_ GE172.out | refine below_set ?_ GE175.out) | exact HB.out)) hb)
           have n4_ := Aside0.mk (hbox)
           have n5_ := Aside0.mk ((by rw [hg]; exact (below_size (by repeat (first | (with_reducible first | exact HB.out | apply below_alloc | apply pw_below_drewN | apply below_drew1 | refine below_set ?_ GE171.out | refine below_set ?_ GE172.out | refine below_set ?_ GE175.out) | exact HB.out))) : w.heap.size ≤ gb176))
           have n6_ := Aside0.mk ((by rw [hg]; exact (below_size (by repeat (first | (with_reducible first | exact HB.out | apply below_alloc | apply pw_below_drewN | apply below_drew1 | refine below_set ?_ GE171.out | refine below_set ?_ GE172.out | refine below_set ?_ GE175.out) | exact HB.out))) : w.heap.size ≤ gb176))
           have n7_ := Aside0.mk ((by rw [hg]; exact Nat.ne_of_lt (blk_lt (g := gb171) (o := .cells #[.int .i64 a0_0, .slice (some ad173) l0_1.length c0_1, .int .i64 a0_2, .slice A0_3 l0_3.length c0_3] 26 (0, 0)) (by (with_reducible repeat (first | refine blk_drewN ?_ _ | refine blk_drew ?_ | refine blk_alloc ?_ _)); exact BK171.out)) : gb171 ≠ gb176))
           have n8_ := Aside0.mk ((by rw [hg]; exact Nat.ne_of_gt (blk_lt (g := gb171) (o := .cells #[.int .i64 a0_0, .slice (some ad173) l0_1.length c0_1, .int .i64 a0_2, .slice A0_3 l0_3.length c0_3] 26 (0, 0)) (by (with_reducible repeat (first | refine blk_drewN ?_ _ | refine blk_drew ?_ | refine blk_alloc ?_ _)); exact BK171.out)) : gb176 ≠ gb171))
           have n9_ := Aside0.mk ((by rw [hg]; exact Nat.ne_of_lt (blk_lt (g := gb172) (o := .cells #[.int .i64 a1_0, .slice (some ad174) l1_1.length c1_1, .int .i64 a1_2, .slice A1_3 l1_3.length c1_3] 26 (0, 0)) (by (with_reducible repeat (first | refine blk_drewN ?_ _ | refine blk_drew ?_ | refine blk_alloc ?_ _)); exact BK172.out)) : gb172 ≠ gb176))
           have n10_ := Aside0.mk ((by rw [hg]; exact Nat.ne_of_gt (blk_lt (g := gb172) (o := .cells #[.int .i64 a1_0, .slice (some ad174) l1_1.length c1_1, .int .i64 a1_2, .slice A1_3 l1_3.length c1_3] 26 (0, 0)) (by (with_reducible repeat (first | refine blk_drewN ?_ _ | refine blk_drew ?_ | refine blk_alloc ?_ _)); exact BK172.out)) : gb176 ≠ gb172))
           have n11_ := Aside0.mk ((by rw [hg]; exact Nat.ne_of_lt (blk_lt (g := gb175) (o := .cells #[.int .u64 0, .int .i64 0, .slice none 0 0, .int .i64 0] 39 (0, 0)) (by (with_reducible repeat (first | refine blk_drewN ?_ _ | refine blk_drew ?_ | refine blk_alloc ?_ _)); exact BK175.out)) : gb175 ≠ gb176))
           have n12_ := Aside0.mk ((by rw [hg]; exact Nat.ne_of_gt (blk_lt (g := gb175) (o := .cells #[.int .u64 0, .int .i64 0, .slice none 0 0, .int .i64 0] 39 (0, 0)) (by (with_reducible repeat (first | refine blk_drewN ?_ _ | refine blk_drew ?_ | refine blk_alloc ?_ _)); exact BK175.out)) : gb176 ≠ gb175))
           clear BK171
           clear BK172
           clear BK175
           clear HB
           have BK171 := n0_
           have BK172 := n1_
           have BK175 := n2_
           have HB := n3_
           have BK176 := n4_
           have GW176 := n5_
           have GE176 := n6_
           have NB171_176 := n7_
           have NB176_171 := n8_
           have NB172_176 := n9_
           have NB176_172 := n10_
           have NB175_176 := n11_
           have NB176_175 := n12_
           clear n0_ n1_ n2_ n3_ n4_ n5_ n6_ n7_ n8_ n9_ n10_ n11_ n12_
           clear hb hbox hg
           refine hK.out _ _ ⟨(blk_cell BK171.out 0).trans rfl, (blk_cell BK171.out 1).trans rfl, (blk_cell BK171.out 2).trans rfl, (blk_cell BK171.out 3).trans rfl, (blk_cell BK172.out 0).trans rfl, (blk_cell BK172.out 1).trans rfl, (blk_cell BK172.out 2).trans rfl, (blk_cell BK172.out 3).trans rfl, ((HB.out.cell (World.block_lt_of_cell? w _ hw173_0)).trans hw173_0), ((HB.out.cell (World.block_lt_of_cell? w _ hw173_1)).trans hw173_1), ((HB.out.cell (World.block_lt_of_cell? w _ hw173_2)).trans hw173_2), ((HB.out.cell (World.block_lt_of_cell? w _ hw173_3)).trans hw173_3), ((HB.out.cell (World.block_lt_of_cell? w _ hw174_0)).trans hw174_0), ((HB.out.cell (World.block_lt_of_cell? w _ hw174_1)).trans hw174_1), ((HB.out.cell (World.block_lt_of_cell? w _ hw174_2)).trans hw174_2), ((HB.out.cell (World.block_lt_of_cell? w _ hw174_3)).trans hw174_3)⟩ (fun hHeld => ?_)
           clear hK K
           refine norm_ (a' := ?_) ?_ ?_
           rotate_left
           ·show Act.put _ (some 7) _ = _
            simp only [Act.put, List.setIfInBounds_toArray, List.set_cons_zero, List.set_cons_succ, i64_w, i32_w]
            rfl
           exact norm_ (by simp only [putAll, Act.put, List.setIfInBounds_toArray, List.set_cons_zero, List.set_cons_succ]) (hCont (gb175, gb176) _ ⟨hHeld, (by (with_reducible repeat (first | refine blk_drewN ?_ _ | refine blk_drew ?_ | refine blk_alloc ?_ _)); exact BK171.out), (by (with_reducible repeat (first | refine blk_drewN ?_ _ | refine blk_drew ?_ | refine blk_alloc ?_ _)); exact BK172.out), (by (with_reducible repeat (first | refine blk_drewN ?_ _ | refine blk_drew ?_ | refine blk_alloc ?_ _)); exact BK175.out), (by (with_reducible repeat (first | refine blk_drewN ?_ _ | refine blk_drew ?_ | refine blk_alloc ?_ _)); exact BK176.out), GW175.out, GE175.out, NB171_175.out, NB175_171.out, NB172_175.out, NB175_172.out, NB176_175.out, NB175_176.out, GW176.out, GE176.out, NB171_176.out, NB176_171.out, NB172_176.out, NB176_172.out, (by repeat (first | (with_reducible first | exact HB.out | apply below_alloc | apply pw_below_drewN | apply below_drew1 | refine below_set ?_ GE171.out | refine below_set ?_ GE172.out | refine below_set ?_ GE175.out | refine below_set ?_ GE176.out) | exact HB.out))⟩)
          ·skip
           refine box_step ?hg (N := 7) ?hd (cs := #[.int .u64 0, .int .i64 0, .slice none 0 0, .int .i64 0]) (t := 39) ?hr ?_; (case hd => rfl); (case hg => rfl); (case hr => first | (go_simp; done) | (go_simp; rfl))
           intro gb176 hg w33 hbox hb
           have n0_ := Aside0.mk (blk_below (g := gb171) (o := .cells #[.int .i64 a0_0, .slice (some ad173) l0_1.length c0_1, .int .i64 a0_2, .slice A0_3 l0_3.length c0_3] 26 (0, 0)) (by (with_reducible repeat (first | refine blk_drewN ?_ _ | refine blk_drew ?_ | refine blk_alloc ?_ _)); exact BK171.out) hb)
           have n1_ := Aside0.mk (blk_below (g := gb172) (o := .cells #[.int .i64 a1_0, .slice (some ad174) l1_1.length c1_1, .int .i64 a1_2, .slice A1_3 l1_3.length c1_3] 26 (0, 0)) (by (with_reducible repeat (first | refine blk_drewN ?_ _ | refine blk_drew ?_ | refine blk_alloc ?_ _)); exact BK172.out) hb)
           have n2_ := Aside0.mk (below_step (by repeat (first | (with_reducible first | exact HB.out | apply below_alloc | apply pw_below_drewN | apply below_drew1 | refine below_set ?_ GE171.out | refine below_set ?_ GE172.out) | exact HB.out)) hb)
           have n3_ := Aside0.mk (hbox)
           have n4_ := Aside0.mk ((by rw [hg]; exact (below_size (by repeat (first | (with_reducible first | exact HB.out | apply below_alloc | apply pw_below_drewN | apply below_drew1 | refine below_set ?_ GE171.out | refine below_set ?_ GE172.out) | exact HB.out))) : w.heap.size ≤ gb176))
           have n5_ := Aside0.mk ((by rw [hg]; exact (below_size (by repeat (first | (with_reducible first | exact HB.out | apply below_alloc | apply pw_below_drewN | apply below_drew1 | refine below_set ?_ GE171.out | refine below_set ?_ GE172.out) | exact HB.out))) : w.heap.size ≤ gb176))
           have n6_ := Aside0.mk ((by rw [hg]; exact Nat.ne_of_lt (blk_lt (g := gb171) (o := .cells #[.int .i64 a0_0, .slice (some ad173) l0_1.length c0_1, .int .i64 a0_2, .slice A0_3 l0_3.length c0_3] 26 (0, 0)) (by (with_reducible repeat (first | refine blk_drewN ?_ _ | refine blk_drew ?_ | refine blk_alloc ?_ _)); exact BK171.out)) : gb171 ≠ gb176))
           have n7_ := Aside0.mk ((by rw [hg]; exact Nat.ne_of_gt (blk_lt (g := gb171) (o := .cells #[.int .i64 a0_0, .slice (some ad173) l0_1.length c0_1, .int .i64 a0_2, .slice A0_3 l0_3.length c0_3] 26 (0, 0)) (by (with_reducible repeat (first | refine blk_drewN ?_ _ | refine blk_drew ?_ | refine blk_alloc ?_ _)); exact BK171.out)) : gb176 ≠ gb171))
           have n8_ := Aside0.mk ((by rw [hg]; exact Nat.ne_of_lt (blk_lt (g := gb172) (o := .cells #[.int .i64 a1_0, .slice (some ad174) l1_1.length c1_1, .int .i64 a1_2, .slice A1_3 l1_3.length c1_3] 26 (0, 0)) (by (with_reducible repeat (first | refine blk_drewN ?_ _ | refine blk_drew ?_ | refine blk_alloc ?_ _)); exact BK172.out)) : gb172 ≠ gb176))
           have n9_ := Aside0.mk ((by rw [hg]; exact Nat.ne_of_gt (blk_lt (g := gb172) (o := .cells #[.int .i64 a1_0, .slice (some ad174) l1_1.length c1_1, .int .i64 a1_2, .slice A1_3 l1_3.length c1_3] 26 (0, 0)) (by (with_reducible repeat (first | refine blk_drewN ?_ _ | refine blk_drew ?_ | refine blk_alloc ?_ _)); exact BK172.out)) : gb176 ≠ gb172))
           clear BK171
           clear BK172
           clear HB
           have BK171 := n0_
           have BK172 := n1_
           have HB := n2_
           have BK176 := n3_
           have GW176 := n4_
           have GE176 := n5_
           have NB171_176 := n6_
           have NB176_171 := n7_
           have NB172_176 := n8_
           have NB176_172 := n9_
           clear n0_ n1_ n2_ n3_ n4_ n5_ n6_ n7_ n8_ n9_
           clear hb hbox hg
           refine hK.out _ _ ⟨(blk_cell BK171.out 0).trans rfl, (blk_cell BK171.out 1).trans rfl, (blk_cell BK171.out 2).trans rfl, (blk_cell BK171.out 3).trans rfl, (blk_cell BK172.out 0).trans rfl, (blk_cell BK172.out 1).trans rfl, (blk_cell BK172.out 2).trans rfl, (blk_cell BK172.out 3).trans rfl, ((HB.out.cell (World.block_lt_of_cell? w _ hw173_0)).trans hw173_0), ((HB.out.cell (World.block_lt_of_cell? w _ hw173_1)).trans hw173_1), ((HB.out.cell (World.block_lt_of_cell? w _ hw173_2)).trans hw173_2), ((HB.out.cell (World.block_lt_of_cell? w _ hw173_3)).trans hw173_3), ((HB.out.cell (World.block_lt_of_cell? w _ hw174_0)).trans hw174_0), ((HB.out.cell (World.block_lt_of_cell? w _ hw174_1)).trans hw174_1), ((HB.out.cell (World.block_lt_of_cell? w _ hw174_2)).trans hw174_2), ((HB.out.cell (World.block_lt_of_cell? w _ hw174_3)).trans hw174_3)⟩ (fun hHeld => ?_)
           clear hK K
           refine norm_ (a' := ?_) ?_ ?_
           rotate_left
           ·show Act.put _ (some 7) _ = _
            simp only [Act.put, List.setIfInBounds_toArray, List.set_cons_zero, List.set_cons_succ, i64_w, i32_w]
            rfl
           refine one_ (i := 10) (N := some 6) (bm 14 4095) rfl rfl (one_of HT_.out (by kernel_rfl)) (by decide) (fun K hK => ?_)
           refine box_step ?hg (N := 6) ?hd (cs := #[.int .u64 0, .int .i64 0, .slice none 0 0, .int .i64 0]) (t := 39) ?hr ?_; (case hd => rfl); (case hg => rfl); (case hr => first | (go_simp; done) | (go_simp; rfl))
           intro gb175 hg w34 hbox hb
           have n0_ := Aside0.mk (blk_below (g := gb171) (o := .cells #[.int .i64 a0_0, .slice (some ad173) l0_1.length c0_1, .int .i64 a0_2, .slice A0_3 l0_3.length c0_3] 26 (0, 0)) (by (with_reducible repeat (first | refine blk_drewN ?_ _ | refine blk_drew ?_ | refine blk_alloc ?_ _)); exact BK171.out) hb)
           have n1_ := Aside0.mk (blk_below (g := gb172) (o := .cells #[.int .i64 a1_0, .slice (some ad174) l1_1.length c1_1, .int .i64 a1_2, .slice A1_3 l1_3.length c1_3] 26 (0, 0)) (by (with_reducible repeat (first | refine blk_drewN ?_ _ | refine blk_drew ?_ | refine blk_alloc ?_ _)); exact BK172.out) hb)
           have n2_ := Aside0.mk (blk_below (g := gb176) (o := .cells #[.int .u64 0, .int .i64 0, .slice none 0 0, .int .i64 0] 39 (0, 0)) (by (with_reducible repeat (first | refine blk_drewN ?_ _ | refine blk_drew ?_ | refine blk_alloc ?_ _)); exact BK176.out) hb)
           have n3_ := Aside0.mk (below_step (by repeat (first | (with_reducible first | exact HB.out | apply below_alloc | apply pw_below_drewN | apply below_drew1 | refine below_set ?_ GE171.out | refine below_set ?_ GE172.out | refine below_set ?_ GE176.out) | exact HB.out)) hb)
           have n4_ := Aside0.mk (hbox)
           have n5_ := Aside0.mk ((by rw [hg]; exact (below_size (by repeat (first | (with_reducible first | exact HB.out | apply below_alloc | apply pw_below_drewN | apply below_drew1 | refine below_set ?_ GE171.out | refine below_set ?_ GE172.out | refine below_set ?_ GE176.out) | exact HB.out))) : w.heap.size ≤ gb175))
           have n6_ := Aside0.mk ((by rw [hg]; exact (below_size (by repeat (first | (with_reducible first | exact HB.out | apply below_alloc | apply pw_below_drewN | apply below_drew1 | refine below_set ?_ GE171.out | refine below_set ?_ GE172.out | refine below_set ?_ GE176.out) | exact HB.out))) : w.heap.size ≤ gb175))
           have n7_ := Aside0.mk ((by rw [hg]; exact Nat.ne_of_lt (blk_lt (g := gb171) (o := .cells #[.int .i64 a0_0, .slice (some ad173) l0_1.length c0_1, .int .i64 a0_2, .slice A0_3 l0_3.length c0_3] 26 (0, 0)) (by (with_reducible repeat (first | refine blk_drewN ?_ _ | refine blk_drew ?_ | refine blk_alloc ?_ _)); exact BK171.out)) : gb171 ≠ gb175))
           have n8_ := Aside0.mk ((by rw [hg]; exact Nat.ne_of_gt (blk_lt (g := gb171) (o := .cells #[.int .i64 a0_0, .slice (some ad173) l0_1.length c0_1, .int .i64 a0_2, .slice A0_3 l0_3.length c0_3] 26 (0, 0)) (by (with_reducible repeat (first | refine blk_drewN ?_ _ | refine blk_drew ?_ | refine blk_alloc ?_ _)); exact BK171.out)) : gb175 ≠ gb171))
           have n9_ := Aside0.mk ((by rw [hg]; exact Nat.ne_of_lt (blk_lt (g := gb172) (o := .cells #[.int .i64 a1_0, .slice (some ad174) l1_1.length c1_1, .int .i64 a1_2, .slice A1_3 l1_3.length c1_3] 26 (0, 0)) (by (with_reducible repeat (first | refine blk_drewN ?_ _ | refine blk_drew ?_ | refine blk_alloc ?_ _)); exact BK172.out)) : gb172 ≠ gb175))
           have n10_ := Aside0.mk ((by rw [hg]; exact Nat.ne_of_gt (blk_lt (g := gb172) (o := .cells #[.int .i64 a1_0, .slice (some ad174) l1_1.length c1_1, .int .i64 a1_2, .slice A1_3 l1_3.length c1_3] 26 (0, 0)) (by (with_reducible repeat (first | refine blk_drewN ?_ _ | refine blk_drew ?_ | refine blk_alloc ?_ _)); exact BK172.out)) : gb175 ≠ gb172))
           have n11_ := Aside0.mk ((by rw [hg]; exact Nat.ne_of_lt (blk_lt (g := gb176) (o := .cells #[.int .u64 0, .int .i64 0, .slice none 0 0, .int .i64 0] 39 (0, 0)) (by (with_reducible repeat (first | refine blk_drewN ?_ _ | refine blk_drew ?_ | refine blk_alloc ?_ _)); exact BK176.out)) : gb176 ≠ gb175))
           have n12_ := Aside0.mk ((by rw [hg]; exact Nat.ne_of_gt (blk_lt (g := gb176) (o := .cells #[.int .u64 0, .int .i64 0, .slice none 0 0, .int .i64 0] 39 (0, 0)) (by (with_reducible repeat (first | refine blk_drewN ?_ _ | refine blk_drew ?_ | refine blk_alloc ?_ _)); exact BK176.out)) : gb175 ≠ gb176))
           clear BK171
           clear BK172
           clear BK176
           clear HB
           have BK171 := n0_
           have BK172 := n1_
           have BK176 := n2_
           have HB := n3_
           have BK175 := n4_
           have GW175 := n5_
           have GE175 := n6_
           have NB171_175 := n7_
           have NB175_171 := n8_
           have NB172_175 := n9_
           have NB175_172 := n10_
           have NB176_175 := n11_
           have NB175_176 := n12_
           clear n0_ n1_ n2_ n3_ n4_ n5_ n6_ n7_ n8_ n9_ n10_ n11_ n12_
           clear hb hbox hg
           refine hK.out _ _ ⟨(blk_cell BK171.out 0).trans rfl, (blk_cell BK171.out 1).trans rfl, (blk_cell BK171.out 2).trans rfl, (blk_cell BK171.out 3).trans rfl, (blk_cell BK172.out 0).trans rfl, (blk_cell BK172.out 1).trans rfl, (blk_cell BK172.out 2).trans rfl, (blk_cell BK172.out 3).trans rfl, ((HB.out.cell (World.block_lt_of_cell? w _ hw173_0)).trans hw173_0), ((HB.out.cell (World.block_lt_of_cell? w _ hw173_1)).trans hw173_1), ((HB.out.cell (World.block_lt_of_cell? w _ hw173_2)).trans hw173_2), ((HB.out.cell (World.block_lt_of_cell? w _ hw173_3)).trans hw173_3), ((HB.out.cell (World.block_lt_of_cell? w _ hw174_0)).trans hw174_0), ((HB.out.cell (World.block_lt_of_cell? w _ hw174_1)).trans hw174_1), ((HB.out.cell (World.block_lt_of_cell? w _ hw174_2)).trans hw174_2), ((HB.out.cell (World.block_lt_of_cell? w _ hw174_3)).trans hw174_3)⟩ (fun hHeld => ?_)
           clear hK K
           refine norm_ (a' := ?_) ?_ ?_
           rotate_left
           ·show Act.put _ (some 6) _ = _
            simp only [Act.put, List.setIfInBounds_toArray, List.set_cons_zero, List.set_cons_succ, i64_w, i32_w]
            rfl
           exact norm_ (by simp only [putAll, Act.put, List.setIfInBounds_toArray, List.set_cons_zero, List.set_cons_succ]) (hCont (gb175, gb176) _ ⟨hHeld, (by (with_reducible repeat (first | refine blk_drewN ?_ _ | refine blk_drew ?_ | refine blk_alloc ?_ _)); exact BK171.out), (by (with_reducible repeat (first | refine blk_drewN ?_ _ | refine blk_drew ?_ | refine blk_alloc ?_ _)); exact BK172.out), (by (with_reducible repeat (first | refine blk_drewN ?_ _ | refine blk_drew ?_ | refine blk_alloc ?_ _)); exact BK175.out), (by (with_reducible repeat (first | refine blk_drewN ?_ _ | refine blk_drew ?_ | refine blk_alloc ?_ _)); exact BK176.out), GW175.out, GE175.out, NB171_175.out, NB175_171.out, NB172_175.out, NB175_172.out, NB176_175.out, NB175_176.out, GW176.out, GE176.out, NB171_176.out, NB176_171.out, NB172_176.out, NB176_172.out, (by repeat (first | (with_reducible first | exact HB.out | apply below_alloc | apply pw_below_drewN | apply below_drew1 | refine below_set ?_ GE171.out | refine below_set ?_ GE172.out | refine below_set ?_ GE176.out | refine below_set ?_ GE175.out) | exact HB.out))⟩)
         rintro ⟨gb175, gb176⟩ w35 ⟨hS_, h0_, h1_, h2_, h3_, h4_, h5_, h6_, h7_, h8_, h9_, h10_, h11_, h12_, h13_, h14_, h15_, h16_, h17_, h18_⟩
         have n0_ : Aside0 (w35.heap[gb171]? = some (.cells #[.int .i64 a0_0, .slice (some ad173) l0_1.length c0_1, .int .i64 a0_2, .slice A0_3 l0_3.length c0_3] 26 (0, 0))) := ⟨h0_⟩
         have n1_ : Aside0 (w35.heap[gb172]? = some (.cells #[.int .i64 a1_0, .slice (some ad174) l1_1.length c1_1, .int .i64 a1_2, .slice A1_3 l1_3.length c1_3] 26 (0, 0))) := ⟨h1_⟩
         have n2_ : Aside0 (w35.heap[gb175]? = some (.cells #[.int .u64 0, .int .i64 0, .slice none 0 0, .int .i64 0] 39 (0, 0))) := ⟨h2_⟩
         have n3_ : Aside0 (w35.heap[gb176]? = some (.cells #[.int .u64 0, .int .i64 0, .slice none 0 0, .int .i64 0] 39 (0, 0))) := ⟨h3_⟩
         have n4_ : Aside0 (w.heap.size ≤ gb175) := ⟨h4_⟩
         have n5_ : Aside0 (w.heap.size ≤ gb175) := ⟨h5_⟩
         have n6_ : Aside0 (gb171 ≠ gb175) := ⟨h6_⟩
         have n7_ : Aside0 (gb175 ≠ gb171) := ⟨h7_⟩
         have n8_ : Aside0 (gb172 ≠ gb175) := ⟨h8_⟩
         have n9_ : Aside0 (gb175 ≠ gb172) := ⟨h9_⟩
         have n10_ : Aside0 (gb176 ≠ gb175) := ⟨h10_⟩
         have n11_ : Aside0 (gb175 ≠ gb176) := ⟨h11_⟩
         have n12_ : Aside0 (w.heap.size ≤ gb176) := ⟨h12_⟩
         have n13_ : Aside0 (w.heap.size ≤ gb176) := ⟨h13_⟩
         have n14_ : Aside0 (gb171 ≠ gb176) := ⟨h14_⟩
         have n15_ : Aside0 (gb176 ≠ gb171) := ⟨h15_⟩
         have n16_ : Aside0 (gb172 ≠ gb176) := ⟨h16_⟩
         have n17_ : Aside0 (gb176 ≠ gb172) := ⟨h17_⟩
         have n18_ : Aside0 (Below w.heap.size w w35) := ⟨h18_⟩
         clear BK171
         clear BK172
         clear HB
         clear h0_ h1_ h2_ h3_ h4_ h5_ h6_ h7_ h8_ h9_ h10_ h11_ h12_ h13_ h14_ h15_ h16_ h17_ h18_
         have BK171 := n0_
         have BK172 := n1_
         have BK175 := n2_
         have BK176 := n3_
         have GW175 := n4_
         have GE175 := n5_
         have NB171_175 := n6_
         have NB175_171 := n7_
         have NB172_175 := n8_
         have NB175_172 := n9_
         have NB176_175 := n10_
         have NB175_176 := n11_
         have GW176 := n12_
         have GE176 := n13_
         have NB171_176 := n14_
         have NB176_171 := n15_
         have NB172_176 := n16_
         have NB176_172 := n17_
         have HB := n18_
         clear n0_ n1_ n2_ n3_ n4_ n5_ n6_ n7_ n8_ n9_ n10_ n11_ n12_ n13_ n14_ n15_ n16_ n17_ n18_
         have hHeld : w35.cell? ⟨gb171, 0, none⟩ = some (.int .i64 a0_0) ∧ w35.cell? ⟨gb171, 1, none⟩ = some (.slice (some ad173) l0_1.length c0_1) ∧ w35.cell? ⟨gb171, 2, none⟩ = some (.int .i64 a0_2) ∧ w35.cell? ⟨gb171, 3, none⟩ = some (.slice A0_3 l0_3.length c0_3) ∧ w35.cell? ⟨gb172, 0, none⟩ = some (.int .i64 a1_0) ∧ w35.cell? ⟨gb172, 1, none⟩ = some (.slice (some ad174) l1_1.length c1_1) ∧ w35.cell? ⟨gb172, 2, none⟩ = some (.int .i64 a1_2) ∧ w35.cell? ⟨gb172, 3, none⟩ = some (.slice A1_3 l1_3.length c1_3) ∧ w35.cell? (ad173.add ((x5_2).toNat * 4)) = some (.int .u64 ((rd_T39 l0_1 x5_2).f0)) ∧ w35.cell? ⟨(ad173.add ((x5_2).toNat * 4)).block, (ad173.add ((x5_2).toNat * 4)).off + 1, none⟩ = some (.int .i64 ((rd_T39 l0_1 x5_2).f1)) ∧ w35.cell? ⟨(ad173.add ((x5_2).toNat * 4)).block, (ad173.add ((x5_2).toNat * 4)).off + 2, none⟩ = some (.slice A173_2 ((rd_T39 l0_1 x5_2).f2).length c173_2) ∧ w35.cell? ⟨(ad173.add ((x5_2).toNat * 4)).block, (ad173.add ((x5_2).toNat * 4)).off + 3, none⟩ = some (.int .i64 ((rd_T39 l0_1 x5_2).f3)) ∧ w35.cell? (ad174.add ((x5_2).toNat * 4)) = some (.int .u64 ((rd_T39 l1_1 x5_2).f0)) ∧ w35.cell? ⟨(ad174.add ((x5_2).toNat * 4)).block, (ad174.add ((x5_2).toNat * 4)).off + 1, none⟩ = some (.int .i64 ((rd_T39 l1_1 x5_2).f1)) ∧ w35.cell? ⟨(ad174.add ((x5_2).toNat * 4)).block, (ad174.add ((x5_2).toNat * 4)).off + 2, none⟩ = some (.slice A174_2 ((rd_T39 l1_1 x5_2).f2).length c174_2) ∧ w35.cell? ⟨(ad174.add ((x5_2).toNat * 4)).block, (ad174.add ((x5_2).toNat * 4)).off + 3, none⟩ = some (.int .i64 ((rd_T39 l1_1 x5_2).f3)) := hS_
         refine norm_ (a' := ?_) ?_ ?_
         rotate_left
         ·simp only [putAll, Act.put, List.setIfInBounds_toArray, List.set_cons_zero, List.set_cons_succ]
          rfl
         refine one_ (i := 12) (N := none) (bm 14 8191) rfl rfl (one_of HT_.out (by kernel_rfl)) (by decide) (fun K hK => ?_)
         have hs36 : w35.cell? ⟨gb175, 0, none⟩ = some (.int .u64 0) := (blk_cell BK175.out 0).trans rfl
         have hfs36 := blk_frozen BK175.out 0
         have hns36_0 := NB171_175.out
         have hns36_1 := NB172_175.out
         have hns36_3 := NB176_175.out
         have hms36_0 := NB175_171.out
         have hms36_1 := NB175_172.out
         have hms36_3 := NB175_176.out
         have hs37 : w35.cell? ⟨gb175, 1, none⟩ = some (.int .i64 0) := (blk_cell BK175.out 1).trans rfl
         have hfs37 := blk_frozen BK175.out 1
         have hns37_0 := NB171_175.out
         have hns37_1 := NB172_175.out
         have hns37_3 := NB176_175.out
         have hms37_0 := NB175_171.out
         have hms37_1 := NB175_172.out
         have hms37_3 := NB175_176.out
         have hs38 : w35.cell? ⟨gb175, 2, none⟩ = some (.slice none 0 0) := (blk_cell BK175.out 2).trans rfl
         have hfs38 := blk_frozen BK175.out 2
         have hns38_0 := NB171_175.out
         have hns38_1 := NB172_175.out
         have hns38_3 := NB176_175.out
         have hms38_0 := NB175_171.out
         have hms38_1 := NB175_172.out
         have hms38_3 := NB175_176.out
         have hs39 : w35.cell? ⟨gb175, 3, none⟩ = some (.int .i64 0) := (blk_cell BK175.out 3).trans rfl
         have hfs39 := blk_frozen BK175.out 3
         have hns39_0 := NB171_175.out
         have hns39_1 := NB172_175.out
         have hns39_3 := NB176_175.out
         have hms39_0 := NB175_171.out
         have hms39_1 := NB175_172.out
         have hms39_3 := NB175_176.out
         refine skip_ (w1 := ?_) (by rfl) rfl ?_ ?_
         rotate_left
         ·go_simp
          rfl
         refine hK.out _ _ ⟨(far4 NB171_175.out hHeld.1), (far4 NB171_175.out hHeld.2.1), (far4 NB171_175.out hHeld.2.2.1), (far4 NB171_175.out hHeld.2.2.2.1), (far4 NB172_175.out hHeld.2.2.2.2.1), (far4 NB172_175.out hHeld.2.2.2.2.2.1), (far4 NB172_175.out hHeld.2.2.2.2.2.2.1), (far4 NB172_175.out hHeld.2.2.2.2.2.2.2.1), (far4 (by first | exact Nat.ne_of_lt (Nat.lt_of_lt_of_le (by have := World.block_lt_of_cell? _ _ hw173_0; first | rwa [add_block] at this | exact this) GW175.out) | (rw [add_block]; exact Nat.ne_of_lt (Nat.lt_of_lt_of_le (by have := World.block_lt_of_cell? _ _ hw173_0; first | rwa [add_block] at this | exact this) GW175.out)) | (show (Addr.add _ _).block ≠ _; rw [add_block]; exact Nat.ne_of_lt (Nat.lt_of_lt_of_le (by have := World.block_lt_of_cell? _ _ hw173_0; first | rwa [add_block] at this | exact this) GW175.out)) | (dsimp only; exact Nat.ne_of_lt (Nat.lt_of_lt_of_le (by have := World.block_lt_of_cell? _ _ hw173_0; first | rwa [add_block] at this | exact this) GW175.out))) hHeld.2.2.2.2.2.2.2.2.1), (far4 (by first | exact Nat.ne_of_lt (Nat.lt_of_lt_of_le (by have := World.block_lt_of_cell? _ _ hw173_1; first | rwa [add_block] at this | exact this) GW175.out) | (rw [add_block]; exact Nat.ne_of_lt (Nat.lt_of_lt_of_le (by have := World.block_lt_of_cell? _ _ hw173_1; first | rwa [add_block] at this | exact this) GW175.out)) | (show (Addr.add _ _).block ≠ _; rw [add_block]; exact Nat.ne_of_lt (Nat.lt_of_lt_of_le (by have := World.block_lt_of_cell? _ _ hw173_1; first | rwa [add_block] at this | exact this) GW175.out)) | (dsimp only; exact Nat.ne_of_lt (Nat.lt_of_lt_of_le (by have := World.block_lt_of_cell? _ _ hw173_1; first | rwa [add_block] at this | exact this) GW175.out))) hHeld.2.2.2.2.2.2.2.2.2.1), (far4 (by first | exact Nat.ne_of_lt (Nat.lt_of_lt_of_le (by have := World.block_lt_of_cell? _ _ hw173_2; first | rwa [add_block] at this | exact this) GW175.out) | (rw [add_block]; exact Nat.ne_of_lt (Nat.lt_of_lt_of_le (by have := World.block_lt_of_cell? _ _ hw173_2; first | rwa [add_block] at this | exact this) GW175.out)) | (show (Addr.add _ _).block ≠ _; rw [add_block]; exact Nat.ne_of_lt (Nat.lt_of_lt_of_le (by have := World.block_lt_of_cell? _ _ hw173_2; first | rwa [add_block] at this | exact this) GW175.out)) | (dsimp only; exact Nat.ne_of_lt (Nat.lt_of_lt_of_le (by have := World.block_lt_of_cell? _ _ hw173_2; first | rwa [add_block] at this | exact this) GW175.out))) hHeld.2.2.2.2.2.2.2.2.2.2.1), (far4 (by first | exact Nat.ne_of_lt (Nat.lt_of_lt_of_le (by have := World.block_lt_of_cell? _ _ hw173_3; first | rwa [add_block] at this | exact this) GW175.out) | (rw [add_block]; exact Nat.ne_of_lt (Nat.lt_of_lt_of_le (by have := World.block_lt_of_cell? _ _ hw173_3; first | rwa [add_block] at this | exact this) GW175.out)) | (show (Addr.add _ _).block ≠ _; rw [add_block]; exact Nat.ne_of_lt (Nat.lt_of_lt_of_le (by have := World.block_lt_of_cell? _ _ hw173_3; first | rwa [add_block] at this | exact this) GW175.out)) | (dsimp only; exact Nat.ne_of_lt (Nat.lt_of_lt_of_le (by have := World.block_lt_of_cell? _ _ hw173_3; first | rwa [add_block] at this | exact this) GW175.out))) hHeld.2.2.2.2.2.2.2.2.2.2.2.1), (far4 (by first | exact Nat.ne_of_lt (Nat.lt_of_lt_of_le (by have := World.block_lt_of_cell? _ _ hw174_0; first | rwa [add_block] at this | exact this) GW175.out) | (rw [add_block]; exact Nat.ne_of_lt (Nat.lt_of_lt_of_le (by have := World.block_lt_of_cell? _ _ hw174_0; first | rwa [add_block] at this | exact this) GW175.out)) | (show (Addr.add _ _).block ≠ _; rw [add_block]; exact Nat.ne_of_lt (Nat.lt_of_lt_of_le (by have := World.block_lt_of_cell? _ _ hw174_0; first | rwa [add_block] at this | exact this) GW175.out)) | (dsimp only; exact Nat.ne_of_lt (Nat.lt_of_lt_of_le (by have := World.block_lt_of_cell? _ _ hw174_0; first | rwa [add_block] at this | exact this) GW175.out))) hHeld.2.2.2.2.2.2.2.2.2.2.2.2.1), (far4 (by first | exact Nat.ne_of_lt (Nat.lt_of_lt_of_le (by have := World.block_lt_of_cell? _ _ hw174_1; first | rwa [add_block] at this | exact this) GW175.out) | (rw [add_block]; exact Nat.ne_of_lt (Nat.lt_of_lt_of_le (by have := World.block_lt_of_cell? _ _ hw174_1; first | rwa [add_block] at this | exact this) GW175.out)) | (show (Addr.add _ _).block ≠ _; rw [add_block]; exact Nat.ne_of_lt (Nat.lt_of_lt_of_le (by have := World.block_lt_of_cell? _ _ hw174_1; first | rwa [add_block] at this | exact this) GW175.out)) | (dsimp only; exact Nat.ne_of_lt (Nat.lt_of_lt_of_le (by have := World.block_lt_of_cell? _ _ hw174_1; first | rwa [add_block] at this | exact this) GW175.out))) hHeld.2.2.2.2.2.2.2.2.2.2.2.2.2.1), (far4 (by first | exact Nat.ne_of_lt (Nat.lt_of_lt_of_le (by have := World.block_lt_of_cell? _ _ hw174_2; first | rwa [add_block] at this | exact this) GW175.out) | (rw [add_block]; exact Nat.ne_of_lt (Nat.lt_of_lt_of_le (by have := World.block_lt_of_cell? _ _ hw174_2; first | rwa [add_block] at this | exact this) GW175.out)) | (show (Addr.add _ _).block ≠ _; rw [add_block]; exact Nat.ne_of_lt (Nat.lt_of_lt_of_le (by have := World.block_lt_of_cell? _ _ hw174_2; first | rwa [add_block] at this | exact this) GW175.out)) | (dsimp only; exact Nat.ne_of_lt (Nat.lt_of_lt_of_le (by have := World.block_lt_of_cell? _ _ hw174_2; first | rwa [add_block] at this | exact this) GW175.out))) hHeld.2.2.2.2.2.2.2.2.2.2.2.2.2.2.1), (far4 (by first | exact Nat.ne_of_lt (Nat.lt_of_lt_of_le (by have := World.block_lt_of_cell? _ _ hw174_3; first | rwa [add_block] at this | exact this) GW175.out) | (rw [add_block]; exact Nat.ne_of_lt (Nat.lt_of_lt_of_le (by have := World.block_lt_of_cell? _ _ hw174_3; first | rwa [add_block] at this | exact this) GW175.out)) | (show (Addr.add _ _).block ≠ _; rw [add_block]; exact Nat.ne_of_lt (Nat.lt_of_lt_of_le (by have := World.block_lt_of_cell? _ _ hw174_3; first | rwa [add_block] at this | exact this) GW175.out)) | (dsimp only; exact Nat.ne_of_lt (Nat.lt_of_lt_of_le (by have := World.block_lt_of_cell? _ _ hw174_3; first | rwa [add_block] at this | exact this) GW175.out))) hHeld.2.2.2.2.2.2.2.2.2.2.2.2.2.2.2)⟩ (fun hHeld => ?_)
         clear hK K
         refine one_ (i := 13) (N := none) (bm 14 16383) rfl rfl (one_of HT_.out (by kernel_rfl)) (by decide) (fun K hK => ?_)
         have hs40 : w35.cell? ⟨gb176, 0, none⟩ = some (.int .u64 0) := (blk_cell BK176.out 0).trans rfl
         have hfs40 := blk_frozen BK176.out 0
         have hns40_0 := NB171_176.out
         have hns40_1 := NB172_176.out
         have hns40_2 := NB175_176.out
         have hms40_0 := NB176_171.out
         have hms40_1 := NB176_172.out
         have hms40_2 := NB176_175.out
         have hs41 : w35.cell? ⟨gb176, 1, none⟩ = some (.int .i64 0) := (blk_cell BK176.out 1).trans rfl
         have hfs41 := blk_frozen BK176.out 1
         have hns41_0 := NB171_176.out
         have hns41_1 := NB172_176.out
         have hns41_2 := NB175_176.out
         have hms41_0 := NB176_171.out
         have hms41_1 := NB176_172.out
         have hms41_2 := NB176_175.out
         have hs42 : w35.cell? ⟨gb176, 2, none⟩ = some (.slice none 0 0) := (blk_cell BK176.out 2).trans rfl
         have hfs42 := blk_frozen BK176.out 2
         have hns42_0 := NB171_176.out
         have hns42_1 := NB172_176.out
         have hns42_2 := NB175_176.out
         have hms42_0 := NB176_171.out
         have hms42_1 := NB176_172.out
         have hms42_2 := NB176_175.out
         have hs43 : w35.cell? ⟨gb176, 3, none⟩ = some (.int .i64 0) := (blk_cell BK176.out 3).trans rfl
         have hfs43 := blk_frozen BK176.out 3
         have hns43_0 := NB171_176.out
         have hns43_1 := NB172_176.out
         have hns43_2 := NB175_176.out
         have hms43_0 := NB176_171.out
         have hms43_1 := NB176_172.out
         have hms43_2 := NB176_175.out
         refine skip_ (w1 := ?_) (by rfl) rfl ?_ ?_
         rotate_left
         ·go_simp
          rfl
         refine hK.out _ _ ⟨(far4 NB171_176.out hHeld.1), (far4 NB171_176.out hHeld.2.1), (far4 NB171_176.out hHeld.2.2.1), (far4 NB171_176.out hHeld.2.2.2.1), (far4 NB172_176.out hHeld.2.2.2.2.1), (far4 NB172_176.out hHeld.2.2.2.2.2.1), (far4 NB172_176.out hHeld.2.2.2.2.2.2.1), (far4 NB172_176.out hHeld.2.2.2.2.2.2.2.1), (far4 (by first | exact Nat.ne_of_lt (Nat.lt_of_lt_of_le (by have := World.block_lt_of_cell? _ _ hw173_0; first | rwa [add_block] at this | exact this) GW176.out) | (rw [add_block]; exact Nat.ne_of_lt (Nat.lt_of_lt_of_le (by have := World.block_lt_of_cell? _ _ hw173_0; first | rwa [add_block] at this | exact this) GW176.out)) | (show (Addr.add _ _).block ≠ _; rw [add_block]; exact Nat.ne_of_lt (Nat.lt_of_lt_of_le (by have := World.block_lt_of_cell? _ _ hw173_0; first | rwa [add_block] at this | exact this) GW176.out)) | (dsimp only; exact Nat.ne_of_lt (Nat.lt_of_lt_of_le (by have := World.block_lt_of_cell? _ _ hw173_0; first | rwa [add_block] at this | exact this) GW176.out))) hHeld.2.2.2.2.2.2.2.2.1), (far4 (by first | exact Nat.ne_of_lt (Nat.lt_of_lt_of_le (by have := World.block_lt_of_cell? _ _ hw173_1; first | rwa [add_block] at this | exact this) GW176.out) | (rw [add_block]; exact Nat.ne_of_lt (Nat.lt_of_lt_of_le (by have := World.block_lt_of_cell? _ _ hw173_1; first | rwa [add_block] at this | exact this) GW176.out)) | (show (Addr.add _ _).block ≠ _; rw [add_block]; exact Nat.ne_of_lt (Nat.lt_of_lt_of_le (by have := World.block_lt_of_cell? _ _ hw173_1; first | rwa [add_block] at this | exact this) GW176.out)) | (dsimp only; exact Nat.ne_of_lt (Nat.lt_of_lt_of_le (by have := World.block_lt_of_cell? _ _ hw173_1; first | rwa [add_block] at this | exact this) GW176.out))) hHeld.2.2.2.2.2.2.2.2.2.1), (far4 (by first | exact Nat.ne_of_lt (Nat.lt_of_lt_of_le (by have := World.block_lt_of_cell? _ _ hw173_2; first | rwa [add_block] at this | exact this) GW176.out) | (rw [add_block]; exact Nat.ne_of_lt (Nat.lt_of_lt_of_le (by have := World.block_lt_of_cell? _ _ hw173_2; first | rwa [add_block] at this | exact this) GW176.out)) | (show (Addr.add _ _).block ≠ _; rw [add_block]; exact Nat.ne_of_lt (Nat.lt_of_lt_of_le (by have := World.block_lt_of_cell? _ _ hw173_2; first | rwa [add_block] at this | exact this) GW176.out)) | (dsimp only; exact Nat.ne_of_lt (Nat.lt_of_lt_of_le (by have := World.block_lt_of_cell? _ _ hw173_2; first | rwa [add_block] at this | exact this) GW176.out))) hHeld.2.2.2.2.2.2.2.2.2.2.1), (far4 (by first | exact Nat.ne_of_lt (Nat.lt_of_lt_of_le (by have := World.block_lt_of_cell? _ _ hw173_3; first | rwa [add_block] at this | exact this) GW176.out) | (rw [add_block]; exact Nat.ne_of_lt (Nat.lt_of_lt_of_le (by have := World.block_lt_of_cell? _ _ hw173_3; first | rwa [add_block] at this | exact this) GW176.out)) | (show (Addr.add _ _).block ≠ _; rw [add_block]; exact Nat.ne_of_lt (Nat.lt_of_lt_of_le (by have := World.block_lt_of_cell? _ _ hw173_3; first | rwa [add_block] at this | exact this) GW176.out)) | (dsimp only; exact Nat.ne_of_lt (Nat.lt_of_lt_of_le (by have := World.block_lt_of_cell? _ _ hw173_3; first | rwa [add_block] at this | exact this) GW176.out))) hHeld.2.2.2.2.2.2.2.2.2.2.2.1), (far4 (by first | exact Nat.ne_of_lt (Nat.lt_of_lt_of_le (by have := World.block_lt_of_cell? _ _ hw174_0; first | rwa [add_block] at this | exact this) GW176.out) | (rw [add_block]; exact Nat.ne_of_lt (Nat.lt_of_lt_of_le (by have := World.block_lt_of_cell? _ _ hw174_0; first | rwa [add_block] at this | exact this) GW176.out)) | (show (Addr.add _ _).block ≠ _; rw [add_block]; exact Nat.ne_of_lt (Nat.lt_of_lt_of_le (by have := World.block_lt_of_cell? _ _ hw174_0; first | rwa [add_block] at this | exact this) GW176.out)) | (dsimp only; exact Nat.ne_of_lt (Nat.lt_of_lt_of_le (by have := World.block_lt_of_cell? _ _ hw174_0; first | rwa [add_block] at this | exact this) GW176.out))) hHeld.2.2.2.2.2.2.2.2.2.2.2.2.1), (far4 (by first | exact Nat.ne_of_lt (Nat.lt_of_lt_of_le (by have := World.block_lt_of_cell? _ _ hw174_1; first | rwa [add_block] at this | exact this) GW176.out) | (rw [add_block]; exact Nat.ne_of_lt (Nat.lt_of_lt_of_le (by have := World.block_lt_of_cell? _ _ hw174_1; first | rwa [add_block] at this | exact this) GW176.out)) | (show (Addr.add _ _).block ≠ _; rw [add_block]; exact Nat.ne_of_lt (Nat.lt_of_lt_of_le (by have := World.block_lt_of_cell? _ _ hw174_1; first | rwa [add_block] at this | exact this) GW176.out)) | (dsimp only; exact Nat.ne_of_lt (Nat.lt_of_lt_of_le (by have := World.block_lt_of_cell? _ _ hw174_1; first | rwa [add_block] at this | exact this) GW176.out))) hHeld.2.2.2.2.2.2.2.2.2.2.2.2.2.1), (far4 (by first | exact Nat.ne_of_lt (Nat.lt_of_lt_of_le (by have := World.block_lt_of_cell? _ _ hw174_2; first | rwa [add_block] at this | exact this) GW176.out) | (rw [add_block]; exact Nat.ne_of_lt (Nat.lt_of_lt_of_le (by have := World.block_lt_of_cell? _ _ hw174_2; first | rwa [add_block] at this | exact this) GW176.out)) | (show (Addr.add _ _).block ≠ _; rw [add_block]; exact Nat.ne_of_lt (Nat.lt_of_lt_of_le (by have := World.block_lt_of_cell? _ _ hw174_2; first | rwa [add_block] at this | exact this) GW176.out)) | (dsimp only; exact Nat.ne_of_lt (Nat.lt_of_lt_of_le (by have := World.block_lt_of_cell? _ _ hw174_2; first | rwa [add_block] at this | exact this) GW176.out))) hHeld.2.2.2.2.2.2.2.2.2.2.2.2.2.2.1), (far4 (by first | exact Nat.ne_of_lt (Nat.lt_of_lt_of_le (by have := World.block_lt_of_cell? _ _ hw174_3; first | rwa [add_block] at this | exact this) GW176.out) | (rw [add_block]; exact Nat.ne_of_lt (Nat.lt_of_lt_of_le (by have := World.block_lt_of_cell? _ _ hw174_3; first | rwa [add_block] at this | exact this) GW176.out)) | (show (Addr.add _ _).block ≠ _; rw [add_block]; exact Nat.ne_of_lt (Nat.lt_of_lt_of_le (by have := World.block_lt_of_cell? _ _ hw174_3; first | rwa [add_block] at this | exact this) GW176.out)) | (dsimp only; exact Nat.ne_of_lt (Nat.lt_of_lt_of_le (by have := World.block_lt_of_cell? _ _ hw174_3; first | rwa [add_block] at this | exact this) GW176.out))) hHeld.2.2.2.2.2.2.2.2.2.2.2.2.2.2.2)⟩ (fun hHeld => ?_)
         clear hK K
         refine done_ (done_of HT_.out (by kernel_rfl)) ?_
         go_upto_region 7 with (fail)
         go_cut [82] (fun v82 wc => ∃ (kq : Nat) (x82_28 : Bool), v82 = .bool x82_28 ∧ Aside0 (marginaliaref20_Same.j2 kq x5_2 x82_28 a0_0 l0_1 a0_2 l0_3 a1_0 l1_1 a1_2 l1_3 = some r) ∧ Aside0 (kq ≤ k2) ∧ Aside0 (wc.heap[gb171]? = some (.cells #[.int .i64 a0_0, (.slice (some ad173) l0_1.length c0_1), .int .i64 a0_2, (.slice A0_3 l0_3.length c0_3)] 26 (0, 0))) ∧ Aside0 (wc.heap[gb172]? = some (.cells #[.int .i64 a1_0, (.slice (some ad174) l1_1.length c1_1), .int .i64 a1_2, (.slice A1_3 l1_3.length c1_3)] 26 (0, 0))) ∧ Aside0 (wc.heap[gb175]? = some (.cells #[.int .u64 ((rd_T39 l0_1 x5_2).f0), .int .i64 ((rd_T39 l0_1 x5_2).f1), (.slice A173_2 ((rd_T39 l0_1 x5_2).f2).length c173_2), .int .i64 ((rd_T39 l0_1 x5_2).f3)] 39 (0, 0))) ∧ Aside0 (wc.heap[gb176]? = some (.cells #[.int .u64 ((rd_T39 l1_1 x5_2).f0), .int .i64 ((rd_T39 l1_1 x5_2).f1), (.slice A174_2 ((rd_T39 l1_1 x5_2).f2).length c174_2), .int .i64 ((rd_T39 l1_1 x5_2).f3)] 39 (0, 0))) ∧ Aside0 (Below w.heap.size w wc))
         case first =>
          have H := HC29.out
          clear HC29
          by_cases c44 : ((rd_T39 l0_1 x5_2).f0) = ((rd_T39 l1_1 x5_2).f0)
          ·rw [if_pos c44] at H
           have c44b0 : (((rd_T39 l0_1 x5_2).f0) == ((rd_T39 l1_1 x5_2).f0)) = true := beq_iff_eq.mpr c44
           have c44b1 : (((rd_T39 l0_1 x5_2).f0) != ((rd_T39 l1_1 x5_2).f0)) = false := bne_eq_false_iff_eq.mpr c44
           clear c44
           (first | rw [c44b0] | (simp only [i64_w, i32_w]; rw [c44b0]) | skip)
           by_cases c45 : ((rd_T39 l0_1 x5_2).f1) = ((rd_T39 l1_1 x5_2).f1)
           ·rw [if_pos c45] at H
            have c45b0 : (((rd_T39 l0_1 x5_2).f1) == ((rd_T39 l1_1 x5_2).f1)) = true := beq_iff_eq.mpr c45
            have c45b1 : (((rd_T39 l0_1 x5_2).f1) != ((rd_T39 l1_1 x5_2).f1)) = false := bne_eq_false_iff_eq.mpr c45
            clear c45
            by_cases c46 : (strOfNums ((rd_T39 l0_1 x5_2).f2)).toList = (strOfNums ((rd_T39 l1_1 x5_2).f2)).toList
            ·rw [if_pos c46] at H
             have c46b0 : ((strOfNums ((rd_T39 l0_1 x5_2).f2)).toList == (strOfNums ((rd_T39 l1_1 x5_2).f2)).toList) = true := beq_iff_eq.mpr c46
             have c46b1 : ((strOfNums ((rd_T39 l0_1 x5_2).f2)).toList != (strOfNums ((rd_T39 l1_1 x5_2).f2)).toList) = false := bne_eq_false_iff_eq.mpr c46
             clear c46
             have H' := Aside0.mk H
             clear H
             have hnb47 := NB175_171.out
             have hnc47 := NB171_175.out
             have hnb48 := NB175_172.out
             have hnc48 := NB172_175.out
             have hnb49 := NB175_176.out
             have hnc49 := NB176_175.out
             have hcz50_0 : w35.cell? ⟨gb175, 0, none⟩ = some (.int .u64 0) := (blk_cell BK175.out 0).trans rfl
             have hcz50_1 : w35.cell? ⟨gb175, 1, none⟩ = some (.int .i64 0) := (blk_cell BK175.out 1).trans rfl
             have hcz50_2 : w35.cell? ⟨gb175, 2, none⟩ = some (.slice none 0 0) := (blk_cell BK175.out 2).trans rfl
             have hcz50_3 : w35.cell? ⟨gb175, 3, none⟩ = some (.int .i64 0) := (blk_cell BK175.out 3).trans rfl
             have hfz50_0 := blk_frozen BK175.out 0
             have hfz50_1 := blk_frozen BK175.out 1
             have hfz50_2 := blk_frozen BK175.out 2
             have hfz50_3 := blk_frozen BK175.out 3
             have hnb51 := NB176_171.out
             have hnc51 := NB171_176.out
             have hnb52 := NB176_172.out
             have hnc52 := NB172_176.out
             have hcz53_0 : w35.cell? ⟨gb176, 0, none⟩ = some (.int .u64 0) := (blk_cell BK176.out 0).trans rfl
             have hcz53_1 : w35.cell? ⟨gb176, 1, none⟩ = some (.int .i64 0) := (blk_cell BK176.out 1).trans rfl
             have hcz53_2 : w35.cell? ⟨gb176, 2, none⟩ = some (.slice none 0 0) := (blk_cell BK176.out 2).trans rfl
             have hcz53_3 : w35.cell? ⟨gb176, 3, none⟩ = some (.int .i64 0) := (blk_cell BK176.out 3).trans rfl
             have hfz53_0 := blk_frozen BK176.out 0
             have hfz53_1 := blk_frozen BK176.out 1
             have hfz53_2 := blk_frozen BK176.out 2
             have hfz53_3 := blk_frozen BK176.out 3
             have hcv54 := fun (u0_ u1_ u2_ u3_ u4_ u5_ u6_ u7_ : Value) => Kd.C_string (P := Try.prog) (A := A173_2) (c := c173_2) Try.underlying24 Try.underlying5 Try.underlying9 (Kd.C_below HR173_2.out (show Below w.heap.size w (((((((((w35).setCell ⟨gb175, 0, none⟩ u0_).setCell ⟨gb175, 1, none⟩ u1_).setCell ⟨gb175, 2, none⟩ u2_).setCell ⟨gb175, 3, none⟩ u3_).setCell ⟨gb176, 0, none⟩ u4_).setCell ⟨gb176, 1, none⟩ u5_).setCell ⟨gb176, 2, none⟩ u6_).setCell ⟨gb176, 3, none⟩ u7_) from (below_set (below_set (below_set (below_set (below_set (below_set (below_set (below_set HB.out GE175.out) GE175.out) GE175.out) GE175.out) GE176.out) GE176.out) GE176.out) GE176.out)))
             have hcd54 := fun (nq_ : Nat) => Kd.C_string (P := Try.prog) (A := A173_2) (c := c173_2) Try.underlying24 Try.underlying5 Try.underlying9 (Kd.C_drewN (Kd.C_below HR173_2.out HB.out) nq_)
             have hcv55 := fun (u0_ u1_ u2_ u3_ u4_ u5_ u6_ u7_ : Value) => Kd.C_string (P := Try.prog) (A := A174_2) (c := c174_2) Try.underlying24 Try.underlying5 Try.underlying9 (Kd.C_below HR174_2.out (show Below w.heap.size w (((((((((w35).setCell ⟨gb175, 0, none⟩ u0_).setCell ⟨gb175, 1, none⟩ u1_).setCell ⟨gb175, 2, none⟩ u2_).setCell ⟨gb175, 3, none⟩ u3_).setCell ⟨gb176, 0, none⟩ u4_).setCell ⟨gb176, 1, none⟩ u5_).setCell ⟨gb176, 2, none⟩ u6_).setCell ⟨gb176, 3, none⟩ u7_) from (below_set (below_set (below_set (below_set (below_set (below_set (below_set (below_set HB.out GE175.out) GE175.out) GE175.out) GE175.out) GE176.out) GE176.out) GE176.out) GE176.out)))
             have hcd55 := fun (nq_ : Nat) => Kd.C_string (P := Try.prog) (A := A174_2) (c := c174_2) Try.underlying24 Try.underlying5 Try.underlying9 (Kd.C_drewN (Kd.C_below HR174_2.out HB.out) nq_)
             go_wp2
             go_meet
             case rel => exact ⟨_, ((((rd_T39 l0_1 x5_2).f3) != ((rd_T39 l1_1 x5_2).f3))), (by first | rfl | (simp; done) | (simp [*]; done)), H', ⟨by have := HJ2.out; have := HK2.out; first | omega | exact Nat.le_refl _⟩, ⟨by (with_reducible repeat (first | refine blk_drewN ?_ _ | refine blk_drew ?_ | refine blk_alloc ?_ _)); refine bfar4 NB171_176.out ?_; (with_reducible repeat (first | refine blk_drewN ?_ _ | refine blk_drew ?_ | refine blk_alloc ?_ _)); refine bfar4 NB171_175.out ?_; (with_reducible repeat (first | refine blk_drewN ?_ _ | refine blk_drew ?_ | refine blk_alloc ?_ _)); exact BK171.out⟩, ⟨by (with_reducible repeat (first | refine blk_drewN ?_ _ | refine blk_drew ?_ | refine blk_alloc ?_ _)); refine bfar4 NB172_176.out ?_; (with_reducible repeat (first | refine blk_drewN ?_ _ | refine blk_drew ?_ | refine blk_alloc ?_ _)); refine bfar4 NB172_175.out ?_; (with_reducible repeat (first | refine blk_drewN ?_ _ | refine blk_drew ?_ | refine blk_alloc ?_ _)); exact BK172.out⟩, ⟨by (with_reducible repeat (first | refine blk_drewN ?_ _ | refine blk_drew ?_ | refine blk_alloc ?_ _)); refine bfar4 NB175_176.out ?_; (with_reducible repeat (first | refine blk_drewN ?_ _ | refine blk_drew ?_ | refine blk_alloc ?_ _)); refine blk_put (cs := #[.int .u64 ((rd_T39 l0_1 x5_2).f0), .int .i64 ((rd_T39 l0_1 x5_2).f1), .slice A173_2 ((rd_T39 l0_1 x5_2).f2).length c173_2, .int .i64 0]) ?_ 3 _ rfl; (with_reducible repeat (first | refine blk_drewN ?_ _ | refine blk_drew ?_ | refine blk_alloc ?_ _)); refine blk_put (cs := #[.int .u64 ((rd_T39 l0_1 x5_2).f0), .int .i64 ((rd_T39 l0_1 x5_2).f1), .slice none 0 0, .int .i64 0]) ?_ 2 _ rfl; (with_reducible repeat (first | refine blk_drewN ?_ _ | refine blk_drew ?_ | refine blk_alloc ?_ _)); refine blk_put (cs := #[.int .u64 ((rd_T39 l0_1 x5_2).f0), .int .i64 0, .slice none 0 0, .int .i64 0]) ?_ 1 _ rfl; (with_reducible repeat (first | refine blk_drewN ?_ _ | refine blk_drew ?_ | refine blk_alloc ?_ _)); refine blk_put (cs := #[.int .u64 0, .int .i64 0, .slice none 0 0, .int .i64 0]) ?_ 0 _ rfl; (with_reducible repeat (first | refine blk_drewN ?_ _ | refine blk_drew ?_ | refine blk_alloc ?_ _)); exact BK175.out⟩, ⟨by (with_reducible repeat (first | refine blk_drewN ?_ _ | refine blk_drew ?_ | refine blk_alloc ?_ _)); refine blk_put (cs := #[.int .u64 ((rd_T39 l1_1 x5_2).f0), .int .i64 ((rd_T39 l1_1 x5_2).f1), .slice A174_2 ((rd_T39 l1_1 x5_2).f2).length c174_2, .int .i64 0]) ?_ 3 _ rfl; (with_reducible repeat (first | refine blk_drewN ?_ _ | refine blk_drew ?_ | refine blk_alloc ?_ _)); refine blk_put (cs := #[.int .u64 ((rd_T39 l1_1 x5_2).f0), .int .i64 ((rd_T39 l1_1 x5_2).f1), .slice none 0 0, .int .i64 0]) ?_ 2 _ rfl; (with_reducible repeat (first | refine blk_drewN ?_ _ | refine blk_drew ?_ | refine blk_alloc ?_ _)); refine blk_put (cs := #[.int .u64 ((rd_T39 l1_1 x5_2).f0), .int .i64 0, .slice none 0 0, .int .i64 0]) ?_ 1 _ rfl; (with_reducible repeat (first | refine blk_drewN ?_ _ | refine blk_drew ?_ | refine blk_alloc ?_ _)); refine blk_put (cs := #[.int .u64 0, .int .i64 0, .slice none 0 0, .int .i64 0]) ?_ 0 _ rfl; (with_reducible repeat (first | refine blk_drewN ?_ _ | refine blk_drew ?_ | refine blk_alloc ?_ _)); refine bfar4 NB176_175.out ?_; (with_reducible repeat (first | refine blk_drewN ?_ _ | refine blk_drew ?_ | refine blk_alloc ?_ _)); exact BK176.out⟩, ⟨by repeat (first | (with_reducible first | exact HB.out | apply below_alloc | apply pw_below_drewN | apply below_drew1 | refine below_set ?_ GE171.out | refine below_set ?_ GE172.out | refine below_set ?_ GE175.out | refine below_set ?_ GE176.out) | exact HB.out)⟩⟩
            ·rw [if_neg c46] at H
             have c46b0 : ((strOfNums ((rd_T39 l0_1 x5_2).f2)).toList == (strOfNums ((rd_T39 l1_1 x5_2).f2)).toList) = false := beq_eq_false_iff_ne.mpr c46
             have c46b1 : ((strOfNums ((rd_T39 l0_1 x5_2).f2)).toList != (strOfNums ((rd_T39 l1_1 x5_2).f2)).toList) = true := bne_iff_ne.mpr c46
             have H' := Aside0.mk H
             clear H
             have hnb56 := NB175_171.out
             have hnc56 := NB171_175.out
             have hnb57 := NB175_172.out
             have hnc57 := NB172_175.out
             have hnb58 := NB175_176.out
             have hnc58 := NB176_175.out
             have hcz59_0 : w35.cell? ⟨gb175, 0, none⟩ = some (.int .u64 0) := (blk_cell BK175.out 0).trans rfl
             have hcz59_1 : w35.cell? ⟨gb175, 1, none⟩ = some (.int .i64 0) := (blk_cell BK175.out 1).trans rfl
             have hcz59_2 : w35.cell? ⟨gb175, 2, none⟩ = some (.slice none 0 0) := (blk_cell BK175.out 2).trans rfl
             have hcz59_3 : w35.cell? ⟨gb175, 3, none⟩ = some (.int .i64 0) := (blk_cell BK175.out 3).trans rfl
             have hfz59_0 := blk_frozen BK175.out 0
             have hfz59_1 := blk_frozen BK175.out 1
             have hfz59_2 := blk_frozen BK175.out 2
             have hfz59_3 := blk_frozen BK175.out 3
             have hnb60 := NB176_171.out
             have hnc60 := NB171_176.out
             have hnb61 := NB176_172.out
             have hnc61 := NB172_176.out
             have hcz62_0 : w35.cell? ⟨gb176, 0, none⟩ = some (.int .u64 0) := (blk_cell BK176.out 0).trans rfl
             have hcz62_1 : w35.cell? ⟨gb176, 1, none⟩ = some (.int .i64 0) := (blk_cell BK176.out 1).trans rfl
             have hcz62_2 : w35.cell? ⟨gb176, 2, none⟩ = some (.slice none 0 0) := (blk_cell BK176.out 2).trans rfl
             have hcz62_3 : w35.cell? ⟨gb176, 3, none⟩ = some (.int .i64 0) := (blk_cell BK176.out 3).trans rfl
             have hfz62_0 := blk_frozen BK176.out 0
             have hfz62_1 := blk_frozen BK176.out 1
             have hfz62_2 := blk_frozen BK176.out 2
             have hfz62_3 := blk_frozen BK176.out 3
             have hcv63 := fun (u0_ u1_ u2_ u3_ u4_ u5_ u6_ u7_ : Value) => Kd.C_string (P := Try.prog) (A := A173_2) (c := c173_2) Try.underlying24 Try.underlying5 Try.underlying9 (Kd.C_below HR173_2.out (show Below w.heap.size w (((((((((w35).setCell ⟨gb175, 0, none⟩ u0_).setCell ⟨gb175, 1, none⟩ u1_).setCell ⟨gb175, 2, none⟩ u2_).setCell ⟨gb175, 3, none⟩ u3_).setCell ⟨gb176, 0, none⟩ u4_).setCell ⟨gb176, 1, none⟩ u5_).setCell ⟨gb176, 2, none⟩ u6_).setCell ⟨gb176, 3, none⟩ u7_) from (below_set (below_set (below_set (below_set (below_set (below_set (below_set (below_set HB.out GE175.out) GE175.out) GE175.out) GE175.out) GE176.out) GE176.out) GE176.out) GE176.out)))
             have hcd63 := fun (nq_ : Nat) => Kd.C_string (P := Try.prog) (A := A173_2) (c := c173_2) Try.underlying24 Try.underlying5 Try.underlying9 (Kd.C_drewN (Kd.C_below HR173_2.out HB.out) nq_)
             have hcv64 := fun (u0_ u1_ u2_ u3_ u4_ u5_ u6_ u7_ : Value) => Kd.C_string (P := Try.prog) (A := A174_2) (c := c174_2) Try.underlying24 Try.underlying5 Try.underlying9 (Kd.C_below HR174_2.out (show Below w.heap.size w (((((((((w35).setCell ⟨gb175, 0, none⟩ u0_).setCell ⟨gb175, 1, none⟩ u1_).setCell ⟨gb175, 2, none⟩ u2_).setCell ⟨gb175, 3, none⟩ u3_).setCell ⟨gb176, 0, none⟩ u4_).setCell ⟨gb176, 1, none⟩ u5_).setCell ⟨gb176, 2, none⟩ u6_).setCell ⟨gb176, 3, none⟩ u7_) from (below_set (below_set (below_set (below_set (below_set (below_set (below_set (below_set HB.out GE175.out) GE175.out) GE175.out) GE175.out) GE176.out) GE176.out) GE176.out) GE176.out)))
             have hcd64 := fun (nq_ : Nat) => Kd.C_string (P := Try.prog) (A := A174_2) (c := c174_2) Try.underlying24 Try.underlying5 Try.underlying9 (Kd.C_drewN (Kd.C_below HR174_2.out HB.out) nq_)
             go_wp2
             go_meet
             case rel => exact ⟨_, (true), (by first | rfl | (simp; done) | (simp [*]; done)), H', ⟨by have := HJ2.out; have := HK2.out; first | omega | exact Nat.le_refl _⟩, ⟨by (with_reducible repeat (first | refine blk_drewN ?_ _ | refine blk_drew ?_ | refine blk_alloc ?_ _)); refine bfar4 NB171_176.out ?_; (with_reducible repeat (first | refine blk_drewN ?_ _ | refine blk_drew ?_ | refine blk_alloc ?_ _)); refine bfar4 NB171_175.out ?_; (with_reducible repeat (first | refine blk_drewN ?_ _ | refine blk_drew ?_ | refine blk_alloc ?_ _)); exact BK171.out⟩, ⟨by (with_reducible repeat (first | refine blk_drewN ?_ _ | refine blk_drew ?_ | refine blk_alloc ?_ _)); refine bfar4 NB172_176.out ?_; (with_reducible repeat (first | refine blk_drewN ?_ _ | refine blk_drew ?_ | refine blk_alloc ?_ _)); refine bfar4 NB172_175.out ?_; (with_reducible repeat (first | refine blk_drewN ?_ _ | refine blk_drew ?_ | refine blk_alloc ?_ _)); exact BK172.out⟩, ⟨by (with_reducible repeat (first | refine blk_drewN ?_ _ | refine blk_drew ?_ | refine blk_alloc ?_ _)); refine bfar4 NB175_176.out ?_; (with_reducible repeat (first | refine blk_drewN ?_ _ | refine blk_drew ?_ | refine blk_alloc ?_ _)); refine blk_put (cs := #[.int .u64 ((rd_T39 l0_1 x5_2).f0), .int .i64 ((rd_T39 l0_1 x5_2).f1), .slice A173_2 ((rd_T39 l0_1 x5_2).f2).length c173_2, .int .i64 0]) ?_ 3 _ rfl; (with_reducible repeat (first | refine blk_drewN ?_ _ | refine blk_drew ?_ | refine blk_alloc ?_ _)); refine blk_put (cs := #[.int .u64 ((rd_T39 l0_1 x5_2).f0), .int .i64 ((rd_T39 l0_1 x5_2).f1), .slice none 0 0, .int .i64 0]) ?_ 2 _ rfl; (with_reducible repeat (first | refine blk_drewN ?_ _ | refine blk_drew ?_ | refine blk_alloc ?_ _)); refine blk_put (cs := #[.int .u64 ((rd_T39 l0_1 x5_2).f0), .int .i64 0, .slice none 0 0, .int .i64 0]) ?_ 1 _ rfl; (with_reducible repeat (first | refine blk_drewN ?_ _ | refine blk_drew ?_ | refine blk_alloc ?_ _)); refine blk_put (cs := #[.int .u64 0, .int .i64 0, .slice none 0 0, .int .i64 0]) ?_ 0 _ rfl; (with_reducible repeat (first | refine blk_drewN ?_ _ | refine blk_drew ?_ | refine blk_alloc ?_ _)); exact BK175.out⟩, ⟨by (with_reducible repeat (first | refine blk_drewN ?_ _ | refine blk_drew ?_ | refine blk_alloc ?_ _)); refine blk_put (cs := #[.int .u64 ((rd_T39 l1_1 x5_2).f0), .int .i64 ((rd_T39 l1_1 x5_2).f1), .slice A174_2 ((rd_T39 l1_1 x5_2).f2).length c174_2, .int .i64 0]) ?_ 3 _ rfl; (with_reducible repeat (first | refine blk_drewN ?_ _ | refine blk_drew ?_ | refine blk_alloc ?_ _)); refine blk_put (cs := #[.int .u64 ((rd_T39 l1_1 x5_2).f0), .int .i64 ((rd_T39 l1_1 x5_2).f1), .slice none 0 0, .int .i64 0]) ?_ 2 _ rfl; (with_reducible repeat (first | refine blk_drewN ?_ _ | refine blk_drew ?_ | refine blk_alloc ?_ _)); refine blk_put (cs := #[.int .u64 ((rd_T39 l1_1 x5_2).f0), .int .i64 0, .slice none 0 0, .int .i64 0]) ?_ 1 _ rfl; (with_reducible repeat (first | refine blk_drewN ?_ _ | refine blk_drew ?_ | refine blk_alloc ?_ _)); refine blk_put (cs := #[.int .u64 0, .int .i64 0, .slice none 0 0, .int .i64 0]) ?_ 0 _ rfl; (with_reducible repeat (first | refine blk_drewN ?_ _ | refine blk_drew ?_ | refine blk_alloc ?_ _)); refine bfar4 NB176_175.out ?_; (with_reducible repeat (first | refine blk_drewN ?_ _ | refine blk_drew ?_ | refine blk_alloc ?_ _)); exact BK176.out⟩, ⟨by repeat (first | (with_reducible first | exact HB.out | apply below_alloc | apply pw_below_drewN | apply below_drew1 | refine below_set ?_ GE171.out | refine below_set ?_ GE172.out | refine below_set ?_ GE175.out | refine below_set ?_ GE176.out) | exact HB.out)⟩⟩
           ·rw [if_neg c45] at H
            have c45b0 : (((rd_T39 l0_1 x5_2).f1) == ((rd_T39 l1_1 x5_2).f1)) = false := beq_eq_false_iff_ne.mpr c45
            have c45b1 : (((rd_T39 l0_1 x5_2).f1) != ((rd_T39 l1_1 x5_2).f1)) = true := bne_iff_ne.mpr c45
            have H' := Aside0.mk H
            clear H
            have hnb65 := NB175_171.out
            have hnc65 := NB171_175.out
            have hnb66 := NB175_172.out
            have hnc66 := NB172_175.out
            have hnb67 := NB175_176.out
            have hnc67 := NB176_175.out
            have hcz68_0 : w35.cell? ⟨gb175, 0, none⟩ = some (.int .u64 0) := (blk_cell BK175.out 0).trans rfl
            have hcz68_1 : w35.cell? ⟨gb175, 1, none⟩ = some (.int .i64 0) := (blk_cell BK175.out 1).trans rfl
            have hcz68_2 : w35.cell? ⟨gb175, 2, none⟩ = some (.slice none 0 0) := (blk_cell BK175.out 2).trans rfl
            have hcz68_3 : w35.cell? ⟨gb175, 3, none⟩ = some (.int .i64 0) := (blk_cell BK175.out 3).trans rfl
            have hfz68_0 := blk_frozen BK175.out 0
            have hfz68_1 := blk_frozen BK175.out 1
            have hfz68_2 := blk_frozen BK175.out 2
            have hfz68_3 := blk_frozen BK175.out 3
            have hnb69 := NB176_171.out
            have hnc69 := NB171_176.out
            have hnb70 := NB176_172.out
            have hnc70 := NB172_176.out
            have hcz71_0 : w35.cell? ⟨gb176, 0, none⟩ = some (.int .u64 0) := (blk_cell BK176.out 0).trans rfl
            have hcz71_1 : w35.cell? ⟨gb176, 1, none⟩ = some (.int .i64 0) := (blk_cell BK176.out 1).trans rfl
            have hcz71_2 : w35.cell? ⟨gb176, 2, none⟩ = some (.slice none 0 0) := (blk_cell BK176.out 2).trans rfl
            have hcz71_3 : w35.cell? ⟨gb176, 3, none⟩ = some (.int .i64 0) := (blk_cell BK176.out 3).trans rfl
            have hfz71_0 := blk_frozen BK176.out 0
            have hfz71_1 := blk_frozen BK176.out 1
            have hfz71_2 := blk_frozen BK176.out 2
            have hfz71_3 := blk_frozen BK176.out 3
            go_wp2
            go_meet
            case rel => exact ⟨_, (true), (by first | rfl | (simp; done) | (simp [*]; done)), H', ⟨by have := HJ2.out; have := HK2.out; first | omega | exact Nat.le_refl _⟩, ⟨by (with_reducible repeat (first | refine blk_drewN ?_ _ | refine blk_drew ?_ | refine blk_alloc ?_ _)); refine bfar4 NB171_176.out ?_; (with_reducible repeat (first | refine blk_drewN ?_ _ | refine blk_drew ?_ | refine blk_alloc ?_ _)); refine bfar4 NB171_175.out ?_; (with_reducible repeat (first | refine blk_drewN ?_ _ | refine blk_drew ?_ | refine blk_alloc ?_ _)); exact BK171.out⟩, ⟨by (with_reducible repeat (first | refine blk_drewN ?_ _ | refine blk_drew ?_ | refine blk_alloc ?_ _)); refine bfar4 NB172_176.out ?_; (with_reducible repeat (first | refine blk_drewN ?_ _ | refine blk_drew ?_ | refine blk_alloc ?_ _)); refine bfar4 NB172_175.out ?_; (with_reducible repeat (first | refine blk_drewN ?_ _ | refine blk_drew ?_ | refine blk_alloc ?_ _)); exact BK172.out⟩, ⟨by (with_reducible repeat (first | refine blk_drewN ?_ _ | refine blk_drew ?_ | refine blk_alloc ?_ _)); refine bfar4 NB175_176.out ?_; (with_reducible repeat (first | refine blk_drewN ?_ _ | refine blk_drew ?_ | refine blk_alloc ?_ _)); refine blk_put (cs := #[.int .u64 ((rd_T39 l0_1 x5_2).f0), .int .i64 ((rd_T39 l0_1 x5_2).f1), .slice A173_2 ((rd_T39 l0_1 x5_2).f2).length c173_2, .int .i64 0]) ?_ 3 _ rfl; (with_reducible repeat (first | refine blk_drewN ?_ _ | refine blk_drew ?_ | refine blk_alloc ?_ _)); refine blk_put (cs := #[.int .u64 ((rd_T39 l0_1 x5_2).f0), .int .i64 ((rd_T39 l0_1 x5_2).f1), .slice none 0 0, .int .i64 0]) ?_ 2 _ rfl; (with_reducible repeat (first | refine blk_drewN ?_ _ | refine blk_drew ?_ | refine blk_alloc ?_ _)); refine blk_put (cs := #[.int .u64 ((rd_T39 l0_1 x5_2).f0), .int .i64 0, .slice none 0 0, .int .i64 0]) ?_ 1 _ rfl; (with_reducible repeat (first | refine blk_drewN ?_ _ | refine blk_drew ?_ | refine blk_alloc ?_ _)); refine blk_put (cs := #[.int .u64 0, .int .i64 0, .slice none 0 0, .int .i64 0]) ?_ 0 _ rfl; (with_reducible repeat (first | refine blk_drewN ?_ _ | refine blk_drew ?_ | refine blk_alloc ?_ _)); exact BK175.out⟩, ⟨by (with_reducible repeat (first | refine blk_drewN ?_ _ | refine blk_drew ?_ | refine blk_alloc ?_ _)); refine blk_put (cs := #[.int .u64 ((rd_T39 l1_1 x5_2).f0), .int .i64 ((rd_T39 l1_1 x5_2).f1), .slice A174_2 ((rd_T39 l1_1 x5_2).f2).length c174_2, .int .i64 0]) ?_ 3 _ rfl; (with_reducible repeat (first | refine blk_drewN ?_ _ | refine blk_drew ?_ | refine blk_alloc ?_ _)); refine blk_put (cs := #[.int .u64 ((rd_T39 l1_1 x5_2).f0), .int .i64 ((rd_T39 l1_1 x5_2).f1), .slice none 0 0, .int .i64 0]) ?_ 2 _ rfl; (with_reducible repeat (first | refine blk_drewN ?_ _ | refine blk_drew ?_ | refine blk_alloc ?_ _)); refine blk_put (cs := #[.int .u64 ((rd_T39 l1_1 x5_2).f0), .int .i64 0, .slice none 0 0, .int .i64 0]) ?_ 1 _ rfl; (with_reducible repeat (first | refine blk_drewN ?_ _ | refine blk_drew ?_ | refine blk_alloc ?_ _)); refine blk_put (cs := #[.int .u64 0, .int .i64 0, .slice none 0 0, .int .i64 0]) ?_ 0 _ rfl; (with_reducible repeat (first | refine blk_drewN ?_ _ | refine blk_drew ?_ | refine blk_alloc ?_ _)); refine bfar4 NB176_175.out ?_; (with_reducible repeat (first | refine blk_drewN ?_ _ | refine blk_drew ?_ | refine blk_alloc ?_ _)); exact BK176.out⟩, ⟨by repeat (first | (with_reducible first | exact HB.out | apply below_alloc | apply pw_below_drewN | apply below_drew1 | refine below_set ?_ GE171.out | refine below_set ?_ GE172.out | refine below_set ?_ GE175.out | refine below_set ?_ GE176.out) | exact HB.out)⟩⟩
          ·rw [if_neg c44] at H
           have c44b0 : (((rd_T39 l0_1 x5_2).f0) == ((rd_T39 l1_1 x5_2).f0)) = false := beq_eq_false_iff_ne.mpr c44
           have c44b1 : (((rd_T39 l0_1 x5_2).f0) != ((rd_T39 l1_1 x5_2).f0)) = true := bne_iff_ne.mpr c44
           (first | rw [c44b0] | (simp only [i64_w, i32_w]; rw [c44b0]) | skip)
           have H' := Aside0.mk H
           clear H
           have hnb72 := NB175_171.out
           have hnc72 := NB171_175.out
           have hnb73 := NB175_172.out
           have hnc73 := NB172_175.out
           have hnb74 := NB175_176.out
           have hnc74 := NB176_175.out
           have hcz75_0 : w35.cell? ⟨gb175, 0, none⟩ = some (.int .u64 0) := (blk_cell BK175.out 0).trans rfl
           have hcz75_1 : w35.cell? ⟨gb175, 1, none⟩ = some (.int .i64 0) := (blk_cell BK175.out 1).trans rfl
           have hcz75_2 : w35.cell? ⟨gb175, 2, none⟩ = some (.slice none 0 0) := (blk_cell BK175.out 2).trans rfl
           have hcz75_3 : w35.cell? ⟨gb175, 3, none⟩ = some (.int .i64 0) := (blk_cell BK175.out 3).trans rfl
           have hfz75_0 := blk_frozen BK175.out 0
           have hfz75_1 := blk_frozen BK175.out 1
           have hfz75_2 := blk_frozen BK175.out 2
           have hfz75_3 := blk_frozen BK175.out 3
           have hnb76 := NB176_171.out
           have hnc76 := NB171_176.out
           have hnb77 := NB176_172.out
           have hnc77 := NB172_176.out
           have hcz78_0 : w35.cell? ⟨gb176, 0, none⟩ = some (.int .u64 0) := (blk_cell BK176.out 0).trans rfl
           have hcz78_1 : w35.cell? ⟨gb176, 1, none⟩ = some (.int .i64 0) := (blk_cell BK176.out 1).trans rfl
           have hcz78_2 : w35.cell? ⟨gb176, 2, none⟩ = some (.slice none 0 0) := (blk_cell BK176.out 2).trans rfl
           have hcz78_3 : w35.cell? ⟨gb176, 3, none⟩ = some (.int .i64 0) := (blk_cell BK176.out 3).trans rfl
           have hfz78_0 := blk_frozen BK176.out 0
           have hfz78_1 := blk_frozen BK176.out 1
           have hfz78_2 := blk_frozen BK176.out 2
           have hfz78_3 := blk_frozen BK176.out 3
           go_wp2
           go_meet
           case rel => exact ⟨_, (true), (by first | rfl | (simp; done) | (simp [*]; done)), H', ⟨by have := HJ2.out; have := HK2.out; first | omega | exact Nat.le_refl _⟩, ⟨by (with_reducible repeat (first | refine blk_drewN ?_ _ | refine blk_drew ?_ | refine blk_alloc ?_ _)); refine bfar4 NB171_176.out ?_; (with_reducible repeat (first | refine blk_drewN ?_ _ | refine blk_drew ?_ | refine blk_alloc ?_ _)); refine bfar4 NB171_175.out ?_; (with_reducible repeat (first | refine blk_drewN ?_ _ | refine blk_drew ?_ | refine blk_alloc ?_ _)); exact BK171.out⟩, ⟨by (with_reducible repeat (first | refine blk_drewN ?_ _ | refine blk_drew ?_ | refine blk_alloc ?_ _)); refine bfar4 NB172_176.out ?_; (with_reducible repeat (first | refine blk_drewN ?_ _ | refine blk_drew ?_ | refine blk_alloc ?_ _)); refine bfar4 NB172_175.out ?_; (with_reducible repeat (first | refine blk_drewN ?_ _ | refine blk_drew ?_ | refine blk_alloc ?_ _)); exact BK172.out⟩, ⟨by (with_reducible repeat (first | refine blk_drewN ?_ _ | refine blk_drew ?_ | refine blk_alloc ?_ _)); refine bfar4 NB175_176.out ?_; (with_reducible repeat (first | refine blk_drewN ?_ _ | refine blk_drew ?_ | refine blk_alloc ?_ _)); refine blk_put (cs := #[.int .u64 ((rd_T39 l0_1 x5_2).f0), .int .i64 ((rd_T39 l0_1 x5_2).f1), .slice A173_2 ((rd_T39 l0_1 x5_2).f2).length c173_2, .int .i64 0]) ?_ 3 _ rfl; (with_reducible repeat (first | refine blk_drewN ?_ _ | refine blk_drew ?_ | refine blk_alloc ?_ _)); refine blk_put (cs := #[.int .u64 ((rd_T39 l0_1 x5_2).f0), .int .i64 ((rd_T39 l0_1 x5_2).f1), .slice none 0 0, .int .i64 0]) ?_ 2 _ rfl; (with_reducible repeat (first | refine blk_drewN ?_ _ | refine blk_drew ?_ | refine blk_alloc ?_ _)); refine blk_put (cs := #[.int .u64 ((rd_T39 l0_1 x5_2).f0), .int .i64 0, .slice none 0 0, .int .i64 0]) ?_ 1 _ rfl; (with_reducible repeat (first | refine blk_drewN ?_ _ | refine blk_drew ?_ | refine blk_alloc ?_ _)); refine blk_put (cs := #[.int .u64 0, .int .i64 0, .slice none 0 0, .int .i64 0]) ?_ 0 _ rfl; (with_reducible repeat (first | refine blk_drewN ?_ _ | refine blk_drew ?_ | refine blk_alloc ?_ _)); exact BK175.out⟩, ⟨by (with_reducible repeat (first | refine blk_drewN ?_ _ | refine blk_drew ?_ | refine blk_alloc ?_ _)); refine blk_put (cs := #[.int .u64 ((rd_T39 l1_1 x5_2).f0), .int .i64 ((rd_T39 l1_1 x5_2).f1), .slice A174_2 ((rd_T39 l1_1 x5_2).f2).length c174_2, .int .i64 0]) ?_ 3 _ rfl; (with_reducible repeat (first | refine blk_drewN ?_ _ | refine blk_drew ?_ | refine blk_alloc ?_ _)); refine blk_put (cs := #[.int .u64 ((rd_T39 l1_1 x5_2).f0), .int .i64 ((rd_T39 l1_1 x5_2).f1), .slice none 0 0, .int .i64 0]) ?_ 2 _ rfl; (with_reducible repeat (first | refine blk_drewN ?_ _ | refine blk_drew ?_ | refine blk_alloc ?_ _)); refine blk_put (cs := #[.int .u64 ((rd_T39 l1_1 x5_2).f0), .int .i64 0, .slice none 0 0, .int .i64 0]) ?_ 1 _ rfl; (with_reducible repeat (first | refine blk_drewN ?_ _ | refine blk_drew ?_ | refine blk_alloc ?_ _)); refine blk_put (cs := #[.int .u64 0, .int .i64 0, .slice none 0 0, .int .i64 0]) ?_ 0 _ rfl; (with_reducible repeat (first | refine blk_drewN ?_ _ | refine blk_drew ?_ | refine blk_alloc ?_ _)); refine bfar4 NB176_175.out ?_; (with_reducible repeat (first | refine blk_drewN ?_ _ | refine blk_drew ?_ | refine blk_alloc ?_ _)); exact BK176.out⟩, ⟨by repeat (first | (with_reducible first | exact HB.out | apply below_alloc | apply pw_below_drewN | apply below_drew1 | refine below_set ?_ GE171.out | refine below_set ?_ GE172.out | refine below_set ?_ GE175.out | refine below_set ?_ GE176.out) | exact HB.out)⟩⟩
         case rest =>
          clear HC29
          (try clear c1); (try clear p1); (try clear q1); (try clear hx1); (try clear c2); (try clear p2); (try clear c3); (try clear c4); (try clear c5); (try clear hcv5); (try clear c6); (try clear hcv6); (try clear c7); (try clear c17); (try clear p17); (try clear q17); (try clear hx17); (try clear c27); (try clear c27b0); (try clear c28); (try clear c28b0); (try clear c30); (try clear c44); (try clear c44b0); (try clear c44b1); (try clear c45); (try clear c45b0); (try clear c45b1); (try clear c46); (try clear c46b0); (try clear c46b1); (try clear c47); (try clear c48); (try clear c49); (try clear c51); (try clear c52); (try clear hcv54); (try clear hcv55); (try clear c56); (try clear c57); (try clear c58); (try clear c60); (try clear c61); (try clear hcv63); (try clear hcv64); (try clear c65); (try clear c66); (try clear c67); (try clear c69); (try clear c70); (try clear c72); (try clear c73); (try clear c74); (try clear c76); (try clear c77); (try clear hcz31_0); (try clear hcz31_1); (try clear hcz31_2); (try clear hcz31_3); (try clear hcz50_0); (try clear hcz50_1); (try clear hcz50_2); (try clear hcz50_3); (try clear hcz53_0); (try clear hcz53_1); (try clear hcz53_2); (try clear hcz53_3); (try clear hcz59_0); (try clear hcz59_1); (try clear hcz59_2); (try clear hcz59_3); (try clear hcz62_0); (try clear hcz62_1); (try clear hcz62_2); (try clear hcz62_3); (try clear hcz68_0); (try clear hcz68_1); (try clear hcz68_2); (try clear hcz68_3); (try clear hcz71_0); (try clear hcz71_1); (try clear hcz71_2); (try clear hcz71_3); (try clear hcz75_0); (try clear hcz75_1); (try clear hcz75_2); (try clear hcz75_3); (try clear hcz78_0); (try clear hcz78_1); (try clear hcz78_2); (try clear hcz78_3); (try clear hfz31_0); (try clear hfz31_1); (try clear hfz31_2); (try clear hfz31_3); (try clear hfz50_0); (try clear hfz50_1); (try clear hfz50_2); (try clear hfz50_3); (try clear hfz53_0); (try clear hfz53_1); (try clear hfz53_2); (try clear hfz53_3); (try clear hfz59_0); (try clear hfz59_1); (try clear hfz59_2); (try clear hfz59_3); (try clear hfz62_0); (try clear hfz62_1); (try clear hfz62_2); (try clear hfz62_3); (try clear hfz68_0); (try clear hfz68_1); (try clear hfz68_2); (try clear hfz68_3); (try clear hfz71_0); (try clear hfz71_1); (try clear hfz71_2); (try clear hfz71_3); (try clear hfz75_0); (try clear hfz75_1); (try clear hfz75_2); (try clear hfz75_3); (try clear hfz78_0); (try clear hfz78_1); (try clear hfz78_2); (try clear hfz78_3); (try clear hx173_0); (try clear hx173_1); (try clear hx173_2); (try clear hx173_3); (try clear hx174_0); (try clear hx174_1); (try clear hx174_2); (try clear hx174_3); (try clear p173); (try clear p174); (try clear q173); (try clear q174)
          obtain ⟨kq, x82_28, rfl, HA, HJ28, BK171, BK172, BK175, BK176, HB⟩ := hcut
          cases kq with
          | zero => exact absurd HA.out (by simp [marginaliaref20_Same.j2])
          | succ kj28 =>
           have H := HA.out
           clear HA
           simp only [marginaliaref20_Same.j2] at H
           by_cases c79 : x82_28 = true
           ·subst c79
            have H1 : (some false) = some r := by rw [if_pos rfl] at H; exact H
            clear H
            have H := H1
            clear H1
            obtain rfl := Option.some.inj H
            go_wp2
            go_ret
            exact ⟨by first | rfl | (simp [errW_none, errW_some] <;> rfl) | (simp [*, errW_none, errW_some] <;> rfl), by repeat (first | (with_reducible first | exact HB.out | apply below_alloc | apply pw_below_drewN | apply below_drew1 | refine below_set ?_ GE171.out | refine below_set ?_ GE172.out | refine below_set ?_ GE175.out | refine below_set ?_ GE176.out) | exact HB.out)⟩
           ·replace c79 := Bool.eq_false_iff.mpr c79
            subst c79
            have H1 : (marginaliaref20_Same.l0 kj28 (wrap64 (x5_2 + 1)) a0_0 l0_1 a0_2 l0_3 a1_0 l1_1 a1_2 l1_3) = some r := by rw [if_neg (show ¬ (false = true) by decide)] at H; exact H
            clear H
            have H := H1
            clear H1
            have H' := Aside0.mk H
            clear H
            go_wp2
            go_roundg kj28
            case measure => have := HJ2.out; have := HK2.out; have := HJ28.out; omega
            case rel => exact ⟨(wrap64 (x5_2 + 1)), (by first | rfl | (simp; done) | (simp [*]; done)), H', ⟨by have := HJ2.out; have := HK2.out; have := HJ28.out; omega⟩, ⟨by (with_reducible repeat (first | refine blk_drewN ?_ _ | refine blk_drew ?_ | refine blk_alloc ?_ _)); exact BK171.out⟩, ⟨by (with_reducible repeat (first | refine blk_drewN ?_ _ | refine blk_drew ?_ | refine blk_alloc ?_ _)); exact BK172.out⟩, ⟨by repeat (first | (with_reducible first | exact HB.out | apply below_alloc | apply pw_below_drewN | apply below_drew1 | refine below_set ?_ GE171.out | refine below_set ?_ GE172.out | refine below_set ?_ GE175.out | refine below_set ?_ GE176.out) | exact HB.out)⟩⟩
        ·rw [if_neg c28] at H
         exact absurd H (by simp)
       ·rw [if_neg c27] at H
        exact absurd H (by simp)
      ·rw [if_neg c26] at H
       have c26b0 : decide (x5_2 < (l0_1.length : Int)) = false := decide_eq_false c26
       clear c26
       obtain rfl := Option.some.inj H
       have hnb80 := NB171_172.out
       have hnc80 := NB172_171.out
       have hcz81_0 : wr.cell? ⟨gb171, 0, none⟩ = some (.int .i64 a0_0) := (blk_cell BK171.out 0).trans rfl
       have hcz81_1 : wr.cell? ⟨gb171, 1, none⟩ = some (.slice A0_1 l0_1.length c0_1) := (blk_cell BK171.out 1).trans rfl
       have hcz81_2 : wr.cell? ⟨gb171, 2, none⟩ = some (.int .i64 a0_2) := (blk_cell BK171.out 2).trans rfl
       have hcz81_3 : wr.cell? ⟨gb171, 3, none⟩ = some (.slice A0_3 l0_3.length c0_3) := (blk_cell BK171.out 3).trans rfl
       have hfz81_0 := blk_frozen BK171.out 0
       have hfz81_1 := blk_frozen BK171.out 1
       have hfz81_2 := blk_frozen BK171.out 2
       have hfz81_3 := blk_frozen BK171.out 3
       go_wp2
       go_ret
       exact ⟨by first | rfl | (simp [errW_none, errW_some] <;> rfl) | (simp [*, errW_none, errW_some] <;> rfl), by repeat (first | (with_reducible first | exact HB.out | apply below_alloc | apply pw_below_drewN | apply below_drew1 | refine below_set ?_ GE171.out | refine below_set ?_ GE172.out) | exact HB.out)⟩

end Go.Proofs.Ytnkaidaflegnlaa.G
