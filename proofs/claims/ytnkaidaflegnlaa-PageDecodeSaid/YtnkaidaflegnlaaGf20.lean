/- The functions of the program that these laws reach, each as a plain Lean function, and the proof that the machine's call comes to it; no condition beyond those that each theorem names. Made by wip/xprint.py. -/
-- squeezed
import Derived.Test.YtnkaidaflegnlaaGx0
import Derived.Test.YtnkaidaflegnlaaGf16
import Derived.Test.YtnkaidaflegnlaaGf52
import Derived.Test.YtnkaidaflegnlaaGf53
import Derived.Test.YtnkaidaflegnlaaGh
namespace Go.Proofs.Ytnkaidaflegnlaa.G
open Go.RowKit Go.Proofs.YtnkaidaflegnlaaW.PrintWords Go.Proofs.YtnkaidaflegnlaaW.PrintLast Go.Proofs.YtnkaidaflegnlaaW.PrintMore
attribute [local go_sem] max2_int min2_int max_two min_two max_three min_three max_four min_four   -- for this text's walks alone
set_option linter.unusedVariables false
set_option linter.unusedSimpArgs false

/-! ### page_Encode: function 20 -/
mutual
def page_Encode.j0 : Nat → List Int → Int → List (S39) → Int → List Int → Option (List Int × Int)
 | 0, _, _, _, _, _ => none
 | k + 1, x5, x128000, x128001, x128002, x128003 => page_Encode.l0 k x5 x128001 (x128001.length : Int) 0 x128000 x128001 x128002 x128003
def page_Encode.l0 : Nat → List Int → List (S39) → Int → Int → Int → List (S39) → Int → List Int → Option (List Int × Int)
 | 0, _, _, _, _, _, _, _, _ => none
 | k + 1, x5, x43, x44, x45, x128000, x128001, x128002, x128003 => if x45 < x44 then (if 0 ≤ x45 then (if x45 < (x43.length : Int) then ((page_put.f k x5 ((rd_T39 x43 x45).f0) 8).bind fun t149 => (if x128000 = 1 then ((page_put.f k t149 (IntKind.u64.wrap ((rd_T39 x43 x45).f1)) 4).bind fun t152 => (page_Encode.j2 k t152 x43 x44 x45 x128000 x128001 x128002 x128003 ((rd_T39 x43 x45).f0) ((rd_T39 x43 x45).f1) ((rd_T39 x43 x45).f2) ((rd_T39 x43 x45).f3))) else (page_Encode.j2 k t149 x43 x44 x45 x128000 x128001 x128002 x128003 ((rd_T39 x43 x45).f0) ((rd_T39 x43 x45).f1) ((rd_T39 x43 x45).f2) ((rd_T39 x43 x45).f3)))) else (none)) else (none)) else (if 0 ≤ (wrap64 (256 - (x5.length : Int))) then (if x5.length + (wrap64 (256 - (x5.length : Int)) : Int).toNat < 140737488355328 then (some ((x5 ++ List.replicate (wrap64 (256 - (x5.length : Int)) : Int).toNat 0), 0)) else (none)) else (none))
def page_Encode.j2 : Nat → List Int → List (S39) → Int → Int → Int → List (S39) → Int → List Int → Int → Int → List Int → Int → Option (List Int × Int)
 | 0, _, _, _, _, _, _, _, _, _, _, _, _ => none
 | k + 1, x5, x43, x44, x45, x128000, x128001, x128002, x128003, x149000, x149001, x149002, x149003 => if x128000 = 1 then ((page_inline.f x149000 x149001 x149002 x149003).bind fun t155 => (if t155 = true then (if x5.length + x149002.length < 140737488355328 then (page_Encode.l0 k (x5 ++ x149002) x43 x44 (wrap64 (x45 + 1)) x128000 x128001 x128002 x128003) else (none)) else ((page_put.f k x5 (IntKind.u64.wrap (x149003)) 4).bind fun t159 => (page_Encode.l0 k t159 x43 x44 (wrap64 (x45 + 1)) x128000 x128001 x128002 x128003)))) else ((page_put.f k x5 (IntKind.u64.wrap (x149003)) 4).bind fun t162 => (page_Encode.l0 k t162 x43 x44 (wrap64 (x45 + 1)) x128000 x128001 x128002 x128003))
end
def page_Encode.f (k : Nat) (a0_0 : Int) (l0_1 : List (S39)) (a0_2 : Int) (l0_3 : List Int) : Option (List Int × Int) := (page_Check.f k a0_0 l0_1 a0_2 l0_3).bind fun t128 => (if t128 = 0 then ((some (([(a0_0) % 256] : List Int) : List Int)).bind fun y129 => (if a0_0 = 3 then ((page_put.f k y129 (IntKind.u64.wrap (wrap64 (a0_2 + 1))) 4).bind fun t132 => ((page_put.f k t132 (IntKind.u64.wrap ((l0_3.length : Int))) 2).bind fun t135 => (if t135.length + l0_3.length < 140737488355328 then (page_Encode.j0 k (t135 ++ l0_3) a0_0 l0_1 a0_2 l0_3) else (none)))) else ((page_put.f k y129 (IntKind.u64.wrap ((l0_1.length : Int))) 2).bind fun t141 => (page_Encode.j0 k t141 a0_0 l0_1 a0_2 l0_3)))) else (some (([] : List Int), t128)))
theorem page_Encode.mono_l : ∀ k, (∀ y0 y1 y2 y3 y4, LeO (page_Encode.j0 k y0 y1 y2 y3 y4) (page_Encode.j0 (k + 1) y0 y1 y2 y3 y4)) ∧ (∀ y0 y1 y2 y3 y4 y5 y6 y7, LeO (page_Encode.l0 k y0 y1 y2 y3 y4 y5 y6 y7) (page_Encode.l0 (k + 1) y0 y1 y2 y3 y4 y5 y6 y7)) ∧ (∀ y0 y1 y2 y3 y4 y5 y6 y7 y8 y9 y10 y11, LeO (page_Encode.j2 k y0 y1 y2 y3 y4 y5 y6 y7 y8 y9 y10 y11) (page_Encode.j2 (k + 1) y0 y1 y2 y3 y4 y5 y6 y7 y8 y9 y10 y11))
 | 0 => ⟨fun _ _ _ _ _ r h => by simp [page_Encode.j0] at h, fun _ _ _ _ _ _ _ _ r h => by simp [page_Encode.l0] at h, fun _ _ _ _ _ _ _ _ _ _ _ _ r h => by simp [page_Encode.j2] at h⟩
 | k + 1 => by
  obtain ⟨ih0, ih1, ih2⟩ := page_Encode.mono_l k
  refine ⟨?_, ?_, ?_⟩
  ·intro y0 y1 y2 y3 y4
   unfold page_Encode.j0
   repeat' first
   | (with_reducible exact ih0 _ _ _ _ _)
   | (with_reducible exact ih1 _ _ _ _ _ _ _ _)
   | (with_reducible exact ih2 _ _ _ _ _ _ _ _ _ _ _ _)
   | (with_reducible exact page_Check.mono _ _ _ _ _)
   | (with_reducible exact page_put.mono _ _ _ _)
   | (with_reducible exact LeO.refl _)
   | (with_reducible exact LeO.none _)
   | (with_reducible refine LeO.ite ?_ ?_)
   | (with_reducible refine LeO.bind ?_ (fun _ => ?_))
   | exact ih0 _ _ _ _ _
   | exact ih1 _ _ _ _ _ _ _ _
   | exact ih2 _ _ _ _ _ _ _ _ _ _ _ _
   | exact page_Check.mono _ _ _ _ _
   | exact page_put.mono _ _ _ _
   | exact LeO.none _
   | refine LeO.ite ?_ ?_
   | refine LeO.bind ?_ (fun _ => ?_)
  ·intro y0 y1 y2 y3 y4 y5 y6 y7
   unfold page_Encode.l0
   repeat' first
   | (with_reducible exact ih0 _ _ _ _ _)
   | (with_reducible exact ih1 _ _ _ _ _ _ _ _)
   | (with_reducible exact ih2 _ _ _ _ _ _ _ _ _ _ _ _)
   | (with_reducible exact page_Check.mono _ _ _ _ _)
   | (with_reducible exact page_put.mono _ _ _ _)
   | (with_reducible exact LeO.refl _)
   | (with_reducible exact LeO.none _)
   | (with_reducible refine LeO.ite ?_ ?_)
   | (with_reducible refine LeO.bind ?_ (fun _ => ?_))
   | exact ih0 _ _ _ _ _
   | exact ih1 _ _ _ _ _ _ _ _
   | exact ih2 _ _ _ _ _ _ _ _ _ _ _ _
   | exact page_Check.mono _ _ _ _ _
   | exact page_put.mono _ _ _ _
   | exact LeO.none _
   | refine LeO.ite ?_ ?_
   | refine LeO.bind ?_ (fun _ => ?_)
  ·intro y0 y1 y2 y3 y4 y5 y6 y7 y8 y9 y10 y11
   unfold page_Encode.j2
   repeat' first
   | (with_reducible exact ih0 _ _ _ _ _)
   | (with_reducible exact ih1 _ _ _ _ _ _ _ _)
   | (with_reducible exact ih2 _ _ _ _ _ _ _ _ _ _ _ _)
   | (with_reducible exact page_Check.mono _ _ _ _ _)
   | (with_reducible exact page_put.mono _ _ _ _)
   | (with_reducible exact LeO.refl _)
   | (with_reducible exact LeO.none _)
   | (with_reducible refine LeO.ite ?_ ?_)
   | (with_reducible refine LeO.bind ?_ (fun _ => ?_))
   | exact ih0 _ _ _ _ _
   | exact ih1 _ _ _ _ _ _ _ _
   | exact ih2 _ _ _ _ _ _ _ _ _ _ _ _
   | exact page_Check.mono _ _ _ _ _
   | exact page_put.mono _ _ _ _
   | exact LeO.none _
   | refine LeO.ite ?_ ?_
   | refine LeO.bind ?_ (fun _ => ?_)
theorem page_Encode.mono : ∀ a0 a1 a2 a3 k, LeO (page_Encode.f k a0 a1 a2 a3) (page_Encode.f (k + 1) a0 a1 a2 a3) := by
 intro a0 a1 a2 a3 k
 obtain ⟨ih0, ih1, ih2⟩ := page_Encode.mono_l k
 unfold page_Encode.f
 repeat' first
   | (with_reducible exact ih0 _ _ _ _ _)
   | (with_reducible exact ih1 _ _ _ _ _ _ _ _)
   | (with_reducible exact ih2 _ _ _ _ _ _ _ _ _ _ _ _)
   | (with_reducible exact page_Check.mono _ _ _ _ _)
   | (with_reducible exact page_put.mono _ _ _ _)
   | (with_reducible exact LeO.refl _)
   | (with_reducible exact LeO.none _)
   | (with_reducible refine LeO.ite ?_ ?_)
   | (with_reducible refine LeO.bind ?_ (fun _ => ?_))
   | exact ih0 _ _ _ _ _
   | exact ih1 _ _ _ _ _ _ _ _
   | exact ih2 _ _ _ _ _ _ _ _ _ _ _ _
   | exact page_Check.mono _ _ _ _ _
   | exact page_put.mono _ _ _ _
   | exact LeO.none _
   | refine LeO.ite ?_ ?_
   | refine LeO.bind ?_ (fun _ => ?_)
set_option maxHeartbeats 8000000 in
set_option maxRecDepth 100000 in
theorem page_Encode.calls (k : Nat) (a0_0 : Int) (A0_1 : Option Addr) (c0_1 : Nat) (l0_1 : List (S39)) (a0_2 : Int) (A0_3 : Option Addr) (c0_3 : Nat) (l0_3 : List Int) (r1 : List Int) (r2 : Int) (w : World) (hr0_1 : Kd.C k39 w A0_1 l0_1.length l0_1) (hc0_1 : l0_1.length ≤ c0_1) (hr0_3 : Kd.C (Kd.int .u8) w A0_3 l0_3.length l0_3) (hc0_3 : l0_3.length ≤ c0_3) (h : page_Encode.f k a0_0 l0_1 a0_2 l0_3 = some (r1, r2)) :
  Calls Try.prog 20 #[.agg #[.int .i64 a0_0, .slice A0_1 l0_1.length c0_1, .int .i64 a0_2, .slice A0_3 l0_3.length c0_3]] w fun e w' => ∃ v0_ : Value, e = .returned (.tuple #[v0_, .int .i64 r2]) ∧ Kd.R (Kd.int .u8) 5 w' w.heap.size (fun _ => True) v0_ r1 ∧ Below w.heap.size w w' := by
 have hu26 := Try.underlying26
 have hu39 := Try.underlying39
 have HR0_1 := Aside0.mk hr0_1
 have HC0_1 := Aside0.mk hc0_1
 clear hr0_1 hc0_1
 have HR0_3 := Aside0.mk hr0_3
 have HC0_3 := Aside0.mk hc0_3
 clear hr0_3 hc0_3
 have HB := Aside0.mk (Below.refl w.heap.size w)
 have H : ((page_Check.f k a0_0 l0_1 a0_2 l0_3).bind fun t128 => (if t128 = 0 then ((some (([(a0_0) % 256] : List Int) : List Int)).bind fun y129 => (if a0_0 = 3 then ((page_put.f k y129 (IntKind.u64.wrap (wrap64 (a0_2 + 1))) 4).bind fun t132 => ((page_put.f k t132 (IntKind.u64.wrap ((l0_3.length : Int))) 2).bind fun t135 => (if t135.length + l0_3.length < 140737488355328 then (page_Encode.j0 k (t135 ++ l0_3) a0_0 l0_1 a0_2 l0_3) else (none)))) else ((page_put.f k y129 (IntKind.u64.wrap ((l0_1.length : Int))) 2).bind fun t141 => (page_Encode.j0 k t141 a0_0 l0_1 a0_2 l0_3)))) else (some (([] : List Int), t128)))) = some (r1, r2) := h
 clear h
 replace H := Option.bind_eq_some_iff.mp H
 obtain ⟨t128, A20, H⟩ := H
 replace H : (if t128 = 0 then ((some (([(a0_0) % 256] : List Int) : List Int)).bind fun y129 => (if a0_0 = 3 then ((page_put.f k y129 (IntKind.u64.wrap (wrap64 (a0_2 + 1))) 4).bind fun t132 => ((page_put.f k t132 (IntKind.u64.wrap ((l0_3.length : Int))) 2).bind fun t135 => (if t135.length + l0_3.length < 140737488355328 then (page_Encode.j0 k (t135 ++ l0_3) a0_0 l0_1 a0_2 l0_3) else (none)))) else ((page_put.f k y129 (IntKind.u64.wrap ((l0_1.length : Int))) 2).bind fun t141 => (page_Encode.j0 k t141 a0_0 l0_1 a0_2 l0_3)))) else (some (([] : List Int), t128))) = some (r1, r2) := H
 have A2 := Aside0.mk A20
 clear A20
 by_cases c3 : t128 = 0
 ·rw [if_pos c3] at H
  have c3b0 : (t128 == 0) = true := beq_iff_eq.mpr c3
  have c3b1 : (t128 != 0) = false := bne_eq_false_iff_eq.mpr c3
  clear c3
  obtain ⟨y129, hy129⟩ : ∃ y_ : List Int, y_ = (([(a0_0) % 256] : List Int)) := ⟨_, rfl⟩
  replace H : (if a0_0 = 3 then ((page_put.f k y129 (IntKind.u64.wrap (wrap64 (a0_2 + 1))) 4).bind fun t132 => ((page_put.f k t132 (IntKind.u64.wrap ((l0_3.length : Int))) 2).bind fun t135 => (if t135.length + l0_3.length < 140737488355328 then (page_Encode.j0 k (t135 ++ l0_3) a0_0 l0_1 a0_2 l0_3) else (none)))) else ((page_put.f k y129 (IntKind.u64.wrap ((l0_1.length : Int))) 2).bind fun t141 => (page_Encode.j0 k t141 a0_0 l0_1 a0_2 l0_3))) = some (r1, r2) := by first | (rw [hy129]; with_reducible exact H) | (have H2_ := (Option.bind_some _ _).symm.trans H; rw [hy129]; with_reducible exact H2_) | (have H2_ := (Option.bind_some _ _).symm.trans H; with_reducible exact H2_) | with_reducible exact H | (rw [hy129]; exact H) | exact H
  have Ny129 := Aside0.mk hy129
  clear hy129
  have HC4 := Aside0.mk H
  clear H
  go_enter Try.func20, Try.ntmps20
  go_upto_if 19 with (first | ((with_reducible refine gate_dst (N := 1) rfl ?_); refine box_event ?hg (N := 1) ?hd (cs := #[.int .i64 a0_0, .slice A0_1 l0_1.length c0_1, .int .i64 a0_2, .slice A0_3 l0_3.length c0_3]) (t := 26) ?hr ?_; (case hd => rfl); (case hg => rfl); (case hr => first | (go_simp; done) | (go_simp; rfl)); intro gb127 hg w5 hbox hb; have n0_ := Aside0.mk (below_step (by repeat (first | (with_reducible first | exact HB.out | apply below_alloc | apply pw_below_drewN | apply below_drew1) | exact HB.out)) hb); have n1_ := Aside0.mk (hbox); have n2_ := Aside0.mk ((by rw [hg]; exact (below_size (by repeat (first | (with_reducible first | exact HB.out | apply below_alloc | apply pw_below_drewN | apply below_drew1) | exact HB.out))) : w.heap.size ≤ gb127)); have n3_ := Aside0.mk ((by rw [hg]; exact (below_size (by repeat (first | (with_reducible first | exact HB.out | apply below_alloc | apply pw_below_drewN | apply below_drew1) | exact HB.out))) : w.heap.size ≤ gb127)); clear HB; have HB := n0_; have BK127 := n1_; have GW127 := n2_; have GE127 := n3_; clear n0_ n1_ n2_ n3_; clear hb hbox hg; have hcz6_0 : w5.cell? ⟨gb127, 0, none⟩ = some (.int .i64 a0_0) := (blk_cell BK127.out 0).trans rfl; have hcz6_1 : w5.cell? ⟨gb127, 1, none⟩ = some (.slice A0_1 l0_1.length c0_1) := (blk_cell BK127.out 1).trans rfl; have hcz6_2 : w5.cell? ⟨gb127, 2, none⟩ = some (.int .i64 a0_2) := (blk_cell BK127.out 2).trans rfl; have hcz6_3 : w5.cell? ⟨gb127, 3, none⟩ = some (.slice A0_3 l0_3.length c0_3) := (blk_cell BK127.out 3).trans rfl; have hfz6_0 := blk_frozen BK127.out 0; have hfz6_1 := blk_frozen BK127.out 1; have hfz6_2 := blk_frozen BK127.out 2; have hfz6_3 := blk_frozen BK127.out 3) | ((with_reducible refine gate_callee (f := 16) rfl ?_); refine goesL_ (some 9) rfl rfl Try.func16 (by kernel_rfl) rfl #[.agg #[.int .i64 a0_0, .slice A0_1 l0_1.length c0_1, .int .i64 a0_2, .slice A0_3 l0_3.length c0_3]] rfl (by (try simp only [List.map_toArray, List.map_cons, List.map_nil]); first | done | rfl | (simp only [List.length_drop, List.length_take]; rfl)) ?_; (with_reducible refine (page_Check.calls k a0_0 _ _ l0_1 a0_2 _ _ l0_3 t128 _ ?side1 ?side2 ?side3 ?side4 A2.out).mono ?_); (case side1 => repeat (first | exact (Kd.C_below HR0_1.out HB.out) | (with_reducible refine Kd.C_alloc ?_ _) | (with_reducible refine Kd.C_drewN ?_ _) | (with_reducible refine Kd.C_drew ?_))); (case side2 => exact HC0_1.out); (case side3 => repeat (first | exact (Kd.C_below HR0_3.out HB.out) | (with_reducible refine Kd.C_alloc ?_ _) | (with_reducible refine Kd.C_drewN ?_ _) | (with_reducible refine Kd.C_drew ?_))); (case side4 => exact HC0_3.out); rintro e w7 ⟨rfl, hb⟩; refine ⟨_, rfl, ?_⟩; have n0_ := Aside0.mk (blk_below (g := gb127) (o := .cells #[.int .i64 a0_0, .slice A0_1 l0_1.length c0_1, .int .i64 a0_2, .slice A0_3 l0_3.length c0_3] 26 (0, 0)) (by (with_reducible repeat (first | refine blk_drewN ?_ _ | refine blk_drew ?_ | refine blk_alloc ?_ _)); exact BK127.out) hb); have n1_ := Aside0.mk (below_step (by repeat (first | (with_reducible first | exact HB.out | apply below_alloc | apply pw_below_drewN | apply below_drew1 | refine below_set ?_ GE127.out) | exact HB.out)) hb); clear BK127; clear HB; have BK127 := n0_; have HB := n1_; clear n0_ n1_; (try clear hb); (try clear hb2); (try clear hk); (try clear hi); have hcz8_0 : w7.cell? ⟨gb127, 0, none⟩ = some (.int .i64 a0_0) := (blk_cell BK127.out 0).trans rfl; have hcz8_1 : w7.cell? ⟨gb127, 1, none⟩ = some (.slice A0_1 l0_1.length c0_1) := (blk_cell BK127.out 1).trans rfl; have hcz8_2 : w7.cell? ⟨gb127, 2, none⟩ = some (.int .i64 a0_2) := (blk_cell BK127.out 2).trans rfl; have hcz8_3 : w7.cell? ⟨gb127, 3, none⟩ = some (.slice A0_3 l0_3.length c0_3) := (blk_cell BK127.out 3).trans rfl; have hfz8_0 := blk_frozen BK127.out 0; have hfz8_1 := blk_frozen BK127.out 1; have hfz8_2 := blk_frozen BK127.out 2; have hfz8_3 := blk_frozen BK127.out 3) | ((with_reducible refine gate_dst (N := 16) rfl ?_); refine Kd.R_lit (Kd.int .u8) _ 5 ?hg (N := 16) ?hd (xs := ([(a0_0) % 256] : List Int)) (inner := [.int .u8 ((a0_0) % 256)]) (ok := fun _ => True) (okp := fun _ => True) ?hr ?hp (fun _ hk => hk) trivial (Below.refl _ _) (Nat.le_refl _) (by simp) ?_; (case hd => rfl); (case hg => rfl); (case hr => first | (go_simp; done) | (go_simp; rfl)); (case hp => exact (Reps.one (show Kd.M (Kd.int .u8) _ _ _ ((a0_0) % 256) [.int .u8 ((a0_0) % 256)] from rfl) (Reps.none _ _))); intro v130 w9 ho10 hb hg_ hnew_; clear hg_ hnew_; (first | rw [← Ny129.out] at ho10 | (simp only [Int.reduceToNat] at ho10; rw [← Ny129.out] at ho10)); have n0_ := Aside0.mk (Kd.R_lower ho10 (below_size (by repeat (first | (with_reducible first | exact HB.out | apply below_alloc | apply pw_below_drewN | apply below_drew1 | refine below_set ?_ GE127.out) | exact HB.out)))); have n1_ := Aside0.mk (blk_below (g := gb127) (o := .cells #[.int .i64 a0_0, .slice A0_1 l0_1.length c0_1, .int .i64 a0_2, .slice A0_3 l0_3.length c0_3] 26 (0, 0)) (by (with_reducible repeat (first | refine blk_drewN ?_ _ | refine blk_drew ?_ | refine blk_alloc ?_ _)); exact BK127.out) hb); have n2_ := Aside0.mk (below_step (by repeat (first | (with_reducible first | exact HB.out | apply below_alloc | apply pw_below_drewN | apply below_drew1 | refine below_set ?_ GE127.out) | exact HB.out)) hb); clear BK127; clear HB; have HO131 := n0_; have BK127 := n1_; have HB := n2_; clear n0_ n1_ n2_; clear hb ho10; have hcz11_0 : w9.cell? ⟨gb127, 0, none⟩ = some (.int .i64 a0_0) := (blk_cell BK127.out 0).trans rfl; have hcz11_1 : w9.cell? ⟨gb127, 1, none⟩ = some (.slice A0_1 l0_1.length c0_1) := (blk_cell BK127.out 1).trans rfl; have hcz11_2 : w9.cell? ⟨gb127, 2, none⟩ = some (.int .i64 a0_2) := (blk_cell BK127.out 2).trans rfl; have hcz11_3 : w9.cell? ⟨gb127, 3, none⟩ = some (.slice A0_3 l0_3.length c0_3) := (blk_cell BK127.out 3).trans rfl; have hfz11_0 := blk_frozen BK127.out 0; have hfz11_1 := blk_frozen BK127.out 1; have hfz11_2 := blk_frozen BK127.out 2; have hfz11_3 := blk_frozen BK127.out 3))
  (try simp only [Act.put, List.setIfInBounds_toArray, List.set_cons_zero, List.set_cons_succ])
  go_cut [5] (fun v5 wc => ∃ (kq : Nat) (x5_3 : List Int), Aside0 (page_Encode.j0 kq x5_3 a0_0 l0_1 a0_2 l0_3 = some (r1, r2)) ∧ Aside0 (kq ≤ k) ∧ Aside0 (Kd.R (Kd.int .u8) 5 wc w.heap.size (fun _ => True) v5 x5_3) ∧ Aside0 (wc.heap[gb127]? = some (.cells #[.int .i64 a0_0, (.slice A0_1 l0_1.length c0_1), .int .i64 a0_2, (.slice A0_3 l0_3.length c0_3)] 26 (0, 0))) ∧ Aside0 (Below w.heap.size w wc))
  case first =>
   have H := HC4.out
   clear HC4
   by_cases c12 : a0_0 = 3
   ·rw [if_pos c12] at H
    have c12b0 : (a0_0 == 3) = true := beq_iff_eq.mpr c12
    have c12b1 : (a0_0 != 3) = false := bne_eq_false_iff_eq.mpr c12
    clear c12
    (first | rw [c12b0] | (simp only [i64_w, i32_w]; rw [c12b0]) | skip)
    replace H := Option.bind_eq_some_iff.mp H
    obtain ⟨t132, A130, H⟩ := H
    replace H : ((page_put.f k t132 (IntKind.u64.wrap ((l0_3.length : Int))) 2).bind fun t135 => (if t135.length + l0_3.length < 140737488355328 then (page_Encode.j0 k (t135 ++ l0_3) a0_0 l0_1 a0_2 l0_3) else (none))) = some (r1, r2) := H
    have A13 := Aside0.mk A130
    clear A130
    replace H := Option.bind_eq_some_iff.mp H
    obtain ⟨t135, A140, H⟩ := H
    replace H : (if t135.length + l0_3.length < 140737488355328 then (page_Encode.j0 k (t135 ++ l0_3) a0_0 l0_1 a0_2 l0_3) else (none)) = some (r1, r2) := H
    have A14 := Aside0.mk A140
    clear A140
    by_cases c15 : t135.length + l0_3.length < 140737488355328
    ·rw [if_pos c15] at H
     have LMc15 := Aside0.mk c15
     clear c15
     obtain ⟨y138, hy138⟩ : ∃ y_ : List Int, y_ = (t135 ++ l0_3) := ⟨_, rfl⟩
     replace H : (page_Encode.j0 k y138 a0_0 l0_1 a0_2 l0_3) = some (r1, r2) := by first | (rw [hy138]; with_reducible exact H) | (have H2_ := (Option.bind_some _ _).symm.trans H; rw [hy138]; with_reducible exact H2_) | (have H2_ := (Option.bind_some _ _).symm.trans H; with_reducible exact H2_) | with_reducible exact H | (rw [hy138]; exact H) | exact H
     have Ny138 := Aside0.mk hy138
     clear hy138
     have H' := Aside0.mk H
     clear H
     have hcz16_0 : w9.cell? ⟨gb127, 0, none⟩ = some (.int .i64 a0_0) := (blk_cell BK127.out 0).trans rfl
     have hcz16_1 : w9.cell? ⟨gb127, 1, none⟩ = some (.slice A0_1 l0_1.length c0_1) := (blk_cell BK127.out 1).trans rfl
     have hcz16_2 : w9.cell? ⟨gb127, 2, none⟩ = some (.int .i64 a0_2) := (blk_cell BK127.out 2).trans rfl
     have hcz16_3 : w9.cell? ⟨gb127, 3, none⟩ = some (.slice A0_3 l0_3.length c0_3) := (blk_cell BK127.out 3).trans rfl
     have hfz16_0 := blk_frozen BK127.out 0
     have hfz16_1 := blk_frozen BK127.out 1
     have hfz16_2 := blk_frozen BK127.out 2
     have hfz16_3 := blk_frozen BK127.out 3
     obtain ⟨Ao17, co17, eo17⟩ := Kd.R_slice HO131.out
     subst eo17
     go_wp2_with (first | ((with_reducible refine gate_callee (f := 52) rfl ?_); refine goesL_ (some 25) rfl rfl Try.func52 (by kernel_rfl) rfl #[.slice Ao17 y129.length co17, .int .u64 (IntKind.u64.wrap (wrap64 (a0_2 + 1))), .int .i64 4] rfl (by (try simp only [List.map_toArray, List.map_cons, List.map_nil]); first | done | rfl | (simp only [List.length_drop, List.length_take]; rfl)) ?_; (with_reducible refine (page_put.calls k (fun k_ => some k_ = (.slice Ao17 y129.length co17 : Value).ownBlock) (.slice Ao17 y129.length co17) y129 (IntKind.u64.wrap (wrap64 (a0_2 + 1))) 4 t132 w _ ?side1 ?side2 A13.out).mono ?_); (case side1 => repeat (first | (with_reducible first | exact HB.out | apply below_alloc | apply pw_below_drewN | apply below_drew1 | refine below_set ?_ GE127.out) | exact HB.out)); (case side2 => exact Kd.R_tight rfl HO131.out); rintro e w18 ⟨v133, rfl, ho0, hb, hkp⟩; refine ⟨_, rfl, ?_⟩; have n0_ := Aside0.mk (blk_kept (by (with_reducible repeat (first | refine blk_drewN ?_ _ | refine blk_drew ?_ | refine blk_alloc ?_ _)); exact BK127.out) hkp (fun hs_ => (fun e_ => (Kd.R_ne HO131.out BK127.out (by decide)) e_) hs_)); have n1_ := Aside0.mk (Kd.R_mono (ok' := fun k_ => True) ho0 (fun k_ hk_ => trivial)); have n2_ := Aside0.mk (hb); clear BK127; clear HB; clear HO131; have BK127 := n0_; have HO134 := n1_; have HB := n2_; clear n0_ n1_ n2_; (try clear hb); (try clear hkp); (try clear ho0); have hcz19_0 : w18.cell? ⟨gb127, 0, none⟩ = some (.int .i64 a0_0) := (blk_cell BK127.out 0).trans rfl; have hcz19_1 : w18.cell? ⟨gb127, 1, none⟩ = some (.slice A0_1 l0_1.length c0_1) := (blk_cell BK127.out 1).trans rfl; have hcz19_2 : w18.cell? ⟨gb127, 2, none⟩ = some (.int .i64 a0_2) := (blk_cell BK127.out 2).trans rfl; have hcz19_3 : w18.cell? ⟨gb127, 3, none⟩ = some (.slice A0_3 l0_3.length c0_3) := (blk_cell BK127.out 3).trans rfl; have hfz19_0 := blk_frozen BK127.out 0; have hfz19_1 := blk_frozen BK127.out 1; have hfz19_2 := blk_frozen BK127.out 2; have hfz19_3 := blk_frozen BK127.out 3; obtain ⟨Ao20, co20, eo20⟩ := Kd.R_slice HO134.out; subst eo20) | ((with_reducible refine gate_callee (f := 52) rfl ?_); refine goesL_ (some 31) rfl rfl Try.func52 (by kernel_rfl) rfl #[.slice Ao20 t132.length co20, .int .u64 (IntKind.u64.wrap ((l0_3.length : Int))), .int .i64 2] rfl (by (try simp only [List.map_toArray, List.map_cons, List.map_nil]); first | done | rfl | (simp only [List.length_drop, List.length_take]; rfl)) ?_; (with_reducible refine (page_put.calls k (fun k_ => some k_ = (.slice Ao20 t132.length co20 : Value).ownBlock) (.slice Ao20 t132.length co20) t132 (IntKind.u64.wrap ((l0_3.length : Int))) 2 t135 w _ ?side1 ?side2 A14.out).mono ?_); (case side1 => repeat (first | (with_reducible first | exact HB.out | apply below_alloc | apply pw_below_drewN | apply below_drew1 | refine below_set ?_ GE127.out) | exact HB.out)); (case side2 => exact Kd.R_tight rfl HO134.out); rintro e w21 ⟨v136, rfl, ho0, hb, hkp⟩; refine ⟨_, rfl, ?_⟩; have n0_ := Aside0.mk (blk_kept (by (with_reducible repeat (first | refine blk_drewN ?_ _ | refine blk_drew ?_ | refine blk_alloc ?_ _)); exact BK127.out) hkp (fun hs_ => (fun e_ => (Kd.R_ne HO134.out BK127.out (by decide)) e_) hs_)); have n1_ := Aside0.mk (Kd.R_mono (ok' := fun k_ => True) ho0 (fun k_ hk_ => trivial)); have n2_ := Aside0.mk (hb); clear BK127; clear HB; clear HO134; have BK127 := n0_; have HO137 := n1_; have HB := n2_; clear n0_ n1_ n2_; (try clear hb); (try clear hkp); (try clear ho0); have hcz22_0 : w21.cell? ⟨gb127, 0, none⟩ = some (.int .i64 a0_0) := (blk_cell BK127.out 0).trans rfl; have hcz22_1 : w21.cell? ⟨gb127, 1, none⟩ = some (.slice A0_1 l0_1.length c0_1) := (blk_cell BK127.out 1).trans rfl; have hcz22_2 : w21.cell? ⟨gb127, 2, none⟩ = some (.int .i64 a0_2) := (blk_cell BK127.out 2).trans rfl; have hcz22_3 : w21.cell? ⟨gb127, 3, none⟩ = some (.slice A0_3 l0_3.length c0_3) := (blk_cell BK127.out 3).trans rfl; have hfz22_0 := blk_frozen BK127.out 0; have hfz22_1 := blk_frozen BK127.out 1; have hfz22_2 := blk_frozen BK127.out 2; have hfz22_3 := blk_frozen BK127.out 3) | ((with_reducible refine gate_builtin (b := .append) (xs := #[.tmp 32, .tmp 34]) rfl ?_); at_builtin; refine Kd.R_append_rows (Kd.int .u8) (w0 := w) w.heap.size rfl (.tmp 32) (.tmp 34) 24 5 (.int .u8 0) 1 rfl Try.underlying24 info5 rfl (by decide) (by omega) v136 t135 l0_3 _ _ _ (fun _ => True) (fun _ => False) rfl rfl ?aO ?aR (fun _ _ h => h) (fun _ h => h.elim) ?aF ?aB ?aS ?aL ?_; (case aR => repeat (first | exact (Kd.C_below HR0_3.out HB.out) | (with_reducible refine Kd.C_alloc ?_ _) | (with_reducible refine Kd.C_drewN ?_ _) | (with_reducible refine Kd.C_drew ?_))); (case aB => exact (by repeat (first | (with_reducible first | exact HB.out | apply below_alloc | apply pw_below_drewN | apply below_drew1 | refine below_set ?_ GE127.out) | exact HB.out))); (case aF => exact (fun _ _ => trivial)); (case aO => exact (by (with_reducible repeat (first | apply Kd.R_alloc | apply Kd.R_drewN | apply Kd.R_drew)); exact HO137.out)); (case aS => exact (below_size (by repeat (first | (with_reducible first | exact HB.out | apply below_alloc | apply pw_below_drewN | apply below_drew1 | refine below_set ?_ GE127.out) | exact HB.out)))); (case aL => have := LMc15.out; omega); intro v139 w23 ho hb hg hat; rw [← Ny138.out] at ho; have n0_ := Aside0.mk (blk_grown (g := gb127) (o := .cells #[.int .i64 a0_0, .slice A0_1 l0_1.length c0_1, .int .i64 a0_2, .slice A0_3 l0_3.length c0_3] 26 (0, 0)) (by (with_reducible repeat (first | refine blk_drewN ?_ _ | refine blk_drew ?_ | refine blk_alloc ?_ _)); exact BK127.out) hg (Kd.R_ne HO137.out BK127.out (by decide))); have n1_ := Aside0.mk (hb); have n2_ := Aside0.mk (ho); clear BK127; clear HB; clear HO137; have BK127 := n0_; have HB := n1_; have HO140 := n2_; clear n0_ n1_ n2_; clear ho hb hg hat))
     go_meet
     case rel => exact ⟨_, (y138), H', ⟨by first | omega | exact Nat.le_refl _⟩, ⟨by (with_reducible repeat (first | apply Kd.R_alloc | apply Kd.R_drewN | apply Kd.R_drew)); exact HO140.out⟩, ⟨by (with_reducible repeat (first | refine blk_drewN ?_ _ | refine blk_drew ?_ | refine blk_alloc ?_ _)); exact BK127.out⟩, ⟨by repeat (first | (with_reducible first | exact HB.out | apply below_alloc | apply pw_below_drewN | apply below_drew1 | refine below_set ?_ GE127.out) | exact HB.out)⟩⟩
    ·rw [if_neg c15] at H
     exact absurd H (by simp)
   ·rw [if_neg c12] at H
    have c12b0 : (a0_0 == 3) = false := beq_eq_false_iff_ne.mpr c12
    have c12b1 : (a0_0 != 3) = true := bne_iff_ne.mpr c12
    (first | rw [c12b0] | (simp only [i64_w, i32_w]; rw [c12b0]) | skip)
    replace H := Option.bind_eq_some_iff.mp H
    obtain ⟨t141, A240, H⟩ := H
    replace H : (page_Encode.j0 k t141 a0_0 l0_1 a0_2 l0_3) = some (r1, r2) := H
    have A24 := Aside0.mk A240
    clear A240
    have H' := Aside0.mk H
    clear H
    have hcz25_0 : w9.cell? ⟨gb127, 0, none⟩ = some (.int .i64 a0_0) := (blk_cell BK127.out 0).trans rfl
    have hcz25_1 : w9.cell? ⟨gb127, 1, none⟩ = some (.slice A0_1 l0_1.length c0_1) := (blk_cell BK127.out 1).trans rfl
    have hcz25_2 : w9.cell? ⟨gb127, 2, none⟩ = some (.int .i64 a0_2) := (blk_cell BK127.out 2).trans rfl
    have hcz25_3 : w9.cell? ⟨gb127, 3, none⟩ = some (.slice A0_3 l0_3.length c0_3) := (blk_cell BK127.out 3).trans rfl
    have hfz25_0 := blk_frozen BK127.out 0
    have hfz25_1 := blk_frozen BK127.out 1
    have hfz25_2 := blk_frozen BK127.out 2
    have hfz25_3 := blk_frozen BK127.out 3
    obtain ⟨Ao26, co26, eo26⟩ := Kd.R_slice HO131.out
    subst eo26
    go_wp2_with (first | ((with_reducible refine gate_callee (f := 52) rfl ?_); refine goesL_ (some 41) rfl rfl Try.func52 (by kernel_rfl) rfl #[.slice Ao26 y129.length co26, .int .u64 (IntKind.u64.wrap ((l0_1.length : Int))), .int .i64 2] rfl (by (try simp only [List.map_toArray, List.map_cons, List.map_nil]); first | done | rfl | (simp only [List.length_drop, List.length_take]; rfl)) ?_; (with_reducible refine (page_put.calls k (fun k_ => some k_ = (.slice Ao26 y129.length co26 : Value).ownBlock) (.slice Ao26 y129.length co26) y129 (IntKind.u64.wrap ((l0_1.length : Int))) 2 t141 w _ ?side1 ?side2 A24.out).mono ?_); (case side1 => repeat (first | (with_reducible first | exact HB.out | apply below_alloc | apply pw_below_drewN | apply below_drew1 | refine below_set ?_ GE127.out) | exact HB.out)); (case side2 => exact Kd.R_tight rfl HO131.out); rintro e w27 ⟨v142, rfl, ho0, hb, hkp⟩; refine ⟨_, rfl, ?_⟩; have n0_ := Aside0.mk (blk_kept (by (with_reducible repeat (first | refine blk_drewN ?_ _ | refine blk_drew ?_ | refine blk_alloc ?_ _)); exact BK127.out) hkp (fun hs_ => (fun e_ => (Kd.R_ne HO131.out BK127.out (by decide)) e_) hs_)); have n1_ := Aside0.mk (Kd.R_mono (ok' := fun k_ => True) ho0 (fun k_ hk_ => trivial)); have n2_ := Aside0.mk (hb); clear BK127; clear HB; clear HO131; have BK127 := n0_; have HO143 := n1_; have HB := n2_; clear n0_ n1_ n2_; (try clear hb); (try clear hkp); (try clear ho0)))
    go_meet
    case rel => exact ⟨_, (t141), H', ⟨by first | omega | exact Nat.le_refl _⟩, ⟨by (with_reducible repeat (first | apply Kd.R_alloc | apply Kd.R_drewN | apply Kd.R_drew)); exact HO143.out⟩, ⟨by (with_reducible repeat (first | refine blk_drewN ?_ _ | refine blk_drew ?_ | refine blk_alloc ?_ _)); exact BK127.out⟩, ⟨by repeat (first | (with_reducible first | exact HB.out | apply below_alloc | apply pw_below_drewN | apply below_drew1 | refine below_set ?_ GE127.out) | exact HB.out)⟩⟩
  case rest =>
   clear HC4
   (try clear c1); (try clear c2); (try clear p2); (try clear c3); (try clear c3b0); (try clear c3b1); (try clear c5); (try clear p6); (try clear c12); (try clear c12b0); (try clear c12b1); (try clear c15); (try clear c16); (try clear c20); (try clear hcz11_0); (try clear hcz11_1); (try clear hcz11_2); (try clear hcz11_3); (try clear hcz16_0); (try clear hcz16_1); (try clear hcz16_2); (try clear hcz16_3); (try clear hcz19_0); (try clear hcz19_1); (try clear hcz19_2); (try clear hcz19_3); (try clear hcz22_0); (try clear hcz22_1); (try clear hcz22_2); (try clear hcz22_3); (try clear hcz25_0); (try clear hcz25_1); (try clear hcz25_2); (try clear hcz25_3); (try clear hcz6_0); (try clear hcz6_1); (try clear hcz6_2); (try clear hcz6_3); (try clear hcz8_0); (try clear hcz8_1); (try clear hcz8_2); (try clear hcz8_3); (try clear hfz11_0); (try clear hfz11_1); (try clear hfz11_2); (try clear hfz11_3); (try clear hfz16_0); (try clear hfz16_1); (try clear hfz16_2); (try clear hfz16_3); (try clear hfz19_0); (try clear hfz19_1); (try clear hfz19_2); (try clear hfz19_3); (try clear hfz22_0); (try clear hfz22_1); (try clear hfz22_2); (try clear hfz22_3); (try clear hfz25_0); (try clear hfz25_1); (try clear hfz25_2); (try clear hfz25_3); (try clear hfz6_0); (try clear hfz6_1); (try clear hfz6_2); (try clear hfz6_3); (try clear hfz8_0); (try clear hfz8_1); (try clear hfz8_2); (try clear hfz8_3)
   obtain ⟨kq, x5_3, HA, HJ3, HO_5, BK127, HB⟩ := hcut
   cases kq with
   | zero => exact absurd HA.out (by simp [page_Encode.j0])
   | succ kj3 =>
    have H := HA.out
    clear HA
    simp only [page_Encode.j0] at H
    have H' := Aside0.mk H
    clear H
    have hcz28_0 : wc.cell? ⟨gb127, 0, none⟩ = some (.int .i64 a0_0) := (blk_cell BK127.out 0).trans rfl
    have hcz28_1 : wc.cell? ⟨gb127, 1, none⟩ = some (.slice A0_1 l0_1.length c0_1) := (blk_cell BK127.out 1).trans rfl
    have hcz28_2 : wc.cell? ⟨gb127, 2, none⟩ = some (.int .i64 a0_2) := (blk_cell BK127.out 2).trans rfl
    have hcz28_3 : wc.cell? ⟨gb127, 3, none⟩ = some (.slice A0_3 l0_3.length c0_3) := (blk_cell BK127.out 3).trans rfl
    have hfz28_0 := blk_frozen BK127.out 0
    have hfz28_1 := blk_frozen BK127.out 1
    have hfz28_2 := blk_frozen BK127.out 2
    have hfz28_3 := blk_frozen BK127.out 3
    go_wp2
    go_loopg [5, 45] kj3 (fun kq v5 v45 w' => ∃ (x5_2 : List Int) (x45_2 : Int), v45 = .int .i64 x45_2 ∧ Aside0 (page_Encode.l0 kq x5_2 l0_1 (l0_1.length : Int) x45_2 a0_0 l0_1 a0_2 l0_3 = some (r1, r2)) ∧ Aside0 (kq ≤ kj3) ∧ Aside0 (Kd.R (Kd.int .u8) 5 w' w.heap.size (fun _ => True) v5 x5_2) ∧ Aside0 (w'.heap[gb127]? = some (.cells #[.int .i64 a0_0, (.slice A0_1 l0_1.length c0_1), .int .i64 a0_2, (.slice A0_3 l0_3.length c0_3)] 26 (0, 0))) ∧ Aside0 (Below w.heap.size w w'))
    case atStart => exact ⟨(x5_3), (0), (by first | rfl | (simp; done) | (simp [*]; done)), H', ⟨Nat.le_refl _⟩, ⟨by (with_reducible repeat (first | apply Kd.R_alloc | apply Kd.R_drewN | apply Kd.R_drew)); exact HO_5.out⟩, ⟨by (with_reducible repeat (first | refine blk_drewN ?_ _ | refine blk_drew ?_ | refine blk_alloc ?_ _)); exact BK127.out⟩, ⟨by repeat (first | (with_reducible first | exact HB.out | apply below_alloc | apply pw_below_drewN | apply below_drew1 | refine below_set ?_ GE127.out) | exact HB.out)⟩⟩
    case round =>
     clear H'
     (try clear c1); (try clear c2); (try clear p2); (try clear c3); (try clear c3b0); (try clear c3b1); (try clear c5); (try clear p6); (try clear c12); (try clear c12b0); (try clear c12b1); (try clear c15); (try clear c16); (try clear c20); (try clear hcz11_0); (try clear hcz11_1); (try clear hcz11_2); (try clear hcz11_3); (try clear hcz16_0); (try clear hcz16_1); (try clear hcz16_2); (try clear hcz16_3); (try clear hcz19_0); (try clear hcz19_1); (try clear hcz19_2); (try clear hcz19_3); (try clear hcz22_0); (try clear hcz22_1); (try clear hcz22_2); (try clear hcz22_3); (try clear hcz25_0); (try clear hcz25_1); (try clear hcz25_2); (try clear hcz25_3); (try clear hcz28_0); (try clear hcz28_1); (try clear hcz28_2); (try clear hcz28_3); (try clear hcz6_0); (try clear hcz6_1); (try clear hcz6_2); (try clear hcz6_3); (try clear hcz8_0); (try clear hcz8_1); (try clear hcz8_2); (try clear hcz8_3); (try clear hfz11_0); (try clear hfz11_1); (try clear hfz11_2); (try clear hfz11_3); (try clear hfz16_0); (try clear hfz16_1); (try clear hfz16_2); (try clear hfz16_3); (try clear hfz19_0); (try clear hfz19_1); (try clear hfz19_2); (try clear hfz19_3); (try clear hfz22_0); (try clear hfz22_1); (try clear hfz22_2); (try clear hfz22_3); (try clear hfz25_0); (try clear hfz25_1); (try clear hfz25_2); (try clear hfz25_3); (try clear hfz28_0); (try clear hfz28_1); (try clear hfz28_2); (try clear hfz28_3); (try clear hfz6_0); (try clear hfz6_1); (try clear hfz6_2); (try clear hfz6_3); (try clear hfz8_0); (try clear hfz8_1); (try clear hfz8_2); (try clear hfz8_3); (try clear p2); (try clear p6)
     obtain ⟨x5_2, x45_2, rfl, HA, HK2, HO_5, BK127, HB⟩ := hrel
     cases gk with
     | zero => exact absurd HA.out (by simp [page_Encode.l0])
     | succ k2 =>
      have H := HA.out
      clear HA
      simp only [page_Encode.l0] at H
      by_cases c29 : x45_2 < (l0_1.length : Int)
      ·rw [if_pos c29] at H
       have c29b0 : decide (x45_2 < (l0_1.length : Int)) = true := decide_eq_true c29
       clear c29
       by_cases c30 : 0 ≤ x45_2
       ·rw [if_pos c30] at H
        have c30b0 : decide (0 ≤ x45_2) = true := decide_eq_true c30
        clear c30
        by_cases c31 : x45_2 < (l0_1.length : Int)
        ·rw [if_pos c31] at H
         have c31b0 : decide (x45_2 < (l0_1.length : Int)) = true := decide_eq_true c31
         clear c31
         replace H := Option.bind_eq_some_iff.mp H
         obtain ⟨t149, A320, H⟩ := H
         replace H : (if a0_0 = 1 then ((page_put.f k2 t149 (IntKind.u64.wrap ((rd_T39 l0_1 x45_2).f1)) 4).bind fun t152 => (page_Encode.j2 k2 t152 l0_1 (l0_1.length : Int) x45_2 a0_0 l0_1 a0_2 l0_3 ((rd_T39 l0_1 x45_2).f0) ((rd_T39 l0_1 x45_2).f1) ((rd_T39 l0_1 x45_2).f2) ((rd_T39 l0_1 x45_2).f3))) else (page_Encode.j2 k2 t149 l0_1 (l0_1.length : Int) x45_2 a0_0 l0_1 a0_2 l0_3 ((rd_T39 l0_1 x45_2).f0) ((rd_T39 l0_1 x45_2).f1) ((rd_T39 l0_1 x45_2).f2) ((rd_T39 l0_1 x45_2).f3))) = some (r1, r2) := H
         have A32 := Aside0.mk A320
         clear A320
         have HC33 := Aside0.mk H
         clear H
         have p147 : 0 ≤ (x45_2 : Int) := of_decide_eq_true (by first | (with_reducible assumption) | assumption)
         have q147 : x45_2 < (l0_1.length : Int) := of_decide_eq_true (by first | (with_reducible assumption) | assumption)
         obtain ⟨ad147, A147_2, c147_2, e147, hx147_0, hx147_1, hx147_2, hx147_3, hl147_2, hi147_2⟩ := at_T39 HR0_1.out x45_2 p147 q147
         cases e147
         replace hx147_0 := (HB.out.cell (World.block_lt_of_cell? w _ hx147_0)).trans hx147_0
         replace hx147_1 := (HB.out.cell (World.block_lt_of_cell? w _ hx147_1)).trans hx147_1
         replace hx147_2 := (HB.out.cell (World.block_lt_of_cell? w _ hx147_2)).trans hx147_2
         replace hx147_3 := (HB.out.cell (World.block_lt_of_cell? w _ hx147_3)).trans hx147_3
         have HR147_2 := Aside0.mk hi147_2
         have HC147_2 := Aside0.mk hl147_2
         clear hi147_2 hl147_2
         replace p147 := eq_true p147
         replace q147 := eq_true q147
         go_upto_if 55 with (first | ((with_reducible refine gate_dst (N := 7) rfl ?_); refine box_event ?hg (N := 7) ?hd (cs := #[.int .u64 0, .int .i64 0, .slice none 0 0, .int .i64 0]) (t := 39) ?hr ?_; (case hd => rfl); (case hg => rfl); (case hr => first | (go_simp; done) | (go_simp; rfl)); intro gb148 hg w34 hbox hb; have n0_ := Aside0.mk (Kd.R_below (by (with_reducible repeat (first | apply Kd.R_alloc | apply Kd.R_drewN | apply Kd.R_drew)); exact HO_5.out) hb); have n1_ := Aside0.mk (blk_below (g := gb127) (o := .cells #[.int .i64 a0_0, .slice (some ad147) l0_1.length c0_1, .int .i64 a0_2, .slice A0_3 l0_3.length c0_3] 26 (0, 0)) (by (with_reducible repeat (first | refine blk_drewN ?_ _ | refine blk_drew ?_ | refine blk_alloc ?_ _)); exact BK127.out) hb); have n2_ := Aside0.mk (below_step (by repeat (first | (with_reducible first | exact HB.out | apply below_alloc | apply pw_below_drewN | apply below_drew1 | refine below_set ?_ GE127.out) | exact HB.out)) hb); have n3_ := Aside0.mk (hbox); have n4_ := Aside0.mk ((by rw [hg]; exact (below_size (by repeat (first | (with_reducible first | exact HB.out | apply below_alloc | apply pw_below_drewN | apply below_drew1 | refine below_set ?_ GE127.out) | exact HB.out))) : w.heap.size ≤ gb148)); have n5_ := Aside0.mk ((by rw [hg]; exact (below_size (by repeat (first | (with_reducible first | exact HB.out | apply below_alloc | apply pw_below_drewN | apply below_drew1 | refine below_set ?_ GE127.out) | exact HB.out))) : w.heap.size ≤ gb148)); have n6_ := Aside0.mk ((by rw [hg]; exact Nat.ne_of_lt (blk_lt (g := gb127) (o := .cells #[.int .i64 a0_0, .slice (some ad147) l0_1.length c0_1, .int .i64 a0_2, .slice A0_3 l0_3.length c0_3] 26 (0, 0)) (by (with_reducible repeat (first | refine blk_drewN ?_ _ | refine blk_drew ?_ | refine blk_alloc ?_ _)); exact BK127.out)) : gb127 ≠ gb148)); have n7_ := Aside0.mk ((by rw [hg]; exact Nat.ne_of_gt (blk_lt (g := gb127) (o := .cells #[.int .i64 a0_0, .slice (some ad147) l0_1.length c0_1, .int .i64 a0_2, .slice A0_3 l0_3.length c0_3] 26 (0, 0)) (by (with_reducible repeat (first | refine blk_drewN ?_ _ | refine blk_drew ?_ | refine blk_alloc ?_ _)); exact BK127.out)) : gb148 ≠ gb127)); clear HO_5; clear BK127; clear HB; have HO_5 := n0_; have BK127 := n1_; have HB := n2_; have BK148 := n3_; have GW148 := n4_; have GE148 := n5_; have NB127_148 := n6_; have NB148_127 := n7_; clear n0_ n1_ n2_ n3_ n4_ n5_ n6_ n7_; clear hb hbox hg; have hnb35 := NB148_127.out; have hnc35 := NB127_148.out; have hcz36_0 : w34.cell? ⟨gb148, 0, none⟩ = some (.int .u64 0) := (blk_cell BK148.out 0).trans rfl; have hcz36_1 : w34.cell? ⟨gb148, 1, none⟩ = some (.int .i64 0) := (blk_cell BK148.out 1).trans rfl; have hcz36_2 : w34.cell? ⟨gb148, 2, none⟩ = some (.slice none 0 0) := (blk_cell BK148.out 2).trans rfl; have hcz36_3 : w34.cell? ⟨gb148, 3, none⟩ = some (.int .i64 0) := (blk_cell BK148.out 3).trans rfl; have hfz36_0 := blk_frozen BK148.out 0; have hfz36_1 := blk_frozen BK148.out 1; have hfz36_2 := blk_frozen BK148.out 2; have hfz36_3 := blk_frozen BK148.out 3) | ((with_reducible refine gate_store (t := 39) (p := 7) rfl ?_); refine store_event (t := 39) (p := 7) (v := ?vo_w37) (w1 := ((((w34.setCell ⟨gb148, 0, none⟩ (.int .u64 ((rd_T39 l0_1 x45_2).f0))).setCell ⟨gb148, 1, none⟩ (.int .i64 ((rd_T39 l0_1 x45_2).f1))).setCell ⟨gb148, 2, none⟩ (.slice A147_2 ((rd_T39 l0_1 x45_2).f2).length c147_2)).setCell ⟨gb148, 3, none⟩ (.int .i64 ((rd_T39 l0_1 x45_2).f3)))) ?hg ?ho ?hn ?hr ?_; (case ho => rfl); (case hg => rfl); (case hn => rfl); (case hr => first | (go_simp; done) | (go_simp; rfl)); intro w37 hw; have n0_ : Aside0 (Kd.R (Kd.int .u8) 5 w37 w.heap.size (fun _ => True) u5 x5_2) := ⟨(by rw [hw]; exact (by (with_reducible repeat (first | apply Kd.R_alloc | apply Kd.R_drewN | apply Kd.R_drew)); exact Kd.R_mono (Kd.R_far (p := ⟨gb148, 3, none⟩) (Kd.R_far (p := ⟨gb148, 2, none⟩) (Kd.R_far (p := ⟨gb148, 1, none⟩) (Kd.R_far (p := ⟨gb148, 0, none⟩) (Kd.R_types HO_5.out BK148.out (by decide)) (fun _ hk => hk.2) (.int .u64 ((rd_T39 l0_1 x45_2).f0))) (fun _ hk => hk.2) (.int .i64 ((rd_T39 l0_1 x45_2).f1))) (fun _ hk => hk.2) (.slice A147_2 ((rd_T39 l0_1 x45_2).f2).length c147_2)) (fun _ hk => hk.2) (.int .i64 ((rd_T39 l0_1 x45_2).f3))) (fun _ hk => trivial)))⟩; have n1_ : Aside0 (w37.heap[gb127]? = some (.cells #[.int .i64 a0_0, .slice (some ad147) l0_1.length c0_1, .int .i64 a0_2, .slice A0_3 l0_3.length c0_3] 26 (0, 0))) := ⟨(by rw [hw]; exact (by (with_reducible repeat (first | refine blk_drewN ?_ _ | refine blk_drew ?_ | refine blk_alloc ?_ _)); refine bfar4 NB127_148.out ?_; (with_reducible repeat (first | refine blk_drewN ?_ _ | refine blk_drew ?_ | refine blk_alloc ?_ _)); exact BK127.out))⟩; have n2_ : Aside0 (w37.heap[gb148]? = some (.cells #[.int .u64 ((rd_T39 l0_1 x45_2).f0), .int .i64 ((rd_T39 l0_1 x45_2).f1), .slice A147_2 ((rd_T39 l0_1 x45_2).f2).length c147_2, .int .i64 ((rd_T39 l0_1 x45_2).f3)] 39 (0, 0))) := ⟨(by rw [hw]; exact (by (with_reducible repeat (first | refine blk_drewN ?_ _ | refine blk_drew ?_ | refine blk_alloc ?_ _)); refine blk_put (cs := #[.int .u64 ((rd_T39 l0_1 x45_2).f0), .int .i64 ((rd_T39 l0_1 x45_2).f1), .slice A147_2 ((rd_T39 l0_1 x45_2).f2).length c147_2, .int .i64 0]) ?_ 3 _ rfl; (with_reducible repeat (first | refine blk_drewN ?_ _ | refine blk_drew ?_ | refine blk_alloc ?_ _)); refine blk_put (cs := #[.int .u64 ((rd_T39 l0_1 x45_2).f0), .int .i64 ((rd_T39 l0_1 x45_2).f1), .slice none 0 0, .int .i64 0]) ?_ 2 _ rfl; (with_reducible repeat (first | refine blk_drewN ?_ _ | refine blk_drew ?_ | refine blk_alloc ?_ _)); refine blk_put (cs := #[.int .u64 ((rd_T39 l0_1 x45_2).f0), .int .i64 0, .slice none 0 0, .int .i64 0]) ?_ 1 _ rfl; (with_reducible repeat (first | refine blk_drewN ?_ _ | refine blk_drew ?_ | refine blk_alloc ?_ _)); refine blk_put (cs := #[.int .u64 0, .int .i64 0, .slice none 0 0, .int .i64 0]) ?_ 0 _ rfl; (with_reducible repeat (first | refine blk_drewN ?_ _ | refine blk_drew ?_ | refine blk_alloc ?_ _)); exact BK148.out))⟩; have n3_ : Aside0 (Below w.heap.size w w37) := ⟨(by rw [hw]; exact (by repeat (first | (with_reducible first | exact HB.out | apply below_alloc | apply pw_below_drewN | apply below_drew1 | refine below_set ?_ GE127.out | refine below_set ?_ GE148.out) | exact HB.out)))⟩; clear hw; clear HO_5; clear BK127; clear BK148; clear HB; have HO_5 := n0_; have BK127 := n1_; have BK148 := n2_; have HB := n3_; clear n0_ n1_ n2_ n3_; have hcz38_0 : w37.cell? ⟨gb148, 0, none⟩ = some (.int .u64 ((rd_T39 l0_1 x45_2).f0)) := (blk_cell BK148.out 0).trans rfl; have hcz38_1 : w37.cell? ⟨gb148, 1, none⟩ = some (.int .i64 ((rd_T39 l0_1 x45_2).f1)) := (blk_cell BK148.out 1).trans rfl; have hcz38_2 : w37.cell? ⟨gb148, 2, none⟩ = some (.slice A147_2 ((rd_T39 l0_1 x45_2).f2).length c147_2) := (blk_cell BK148.out 2).trans rfl; have hcz38_3 : w37.cell? ⟨gb148, 3, none⟩ = some (.int .i64 ((rd_T39 l0_1 x45_2).f3)) := (blk_cell BK148.out 3).trans rfl; have hfz38_0 := blk_frozen BK148.out 0; have hfz38_1 := blk_frozen BK148.out 1; have hfz38_2 := blk_frozen BK148.out 2; have hfz38_3 := blk_frozen BK148.out 3; obtain ⟨Ao39, co39, eo39⟩ := Kd.R_slice HO_5.out; subst eo39) | ((with_reducible refine gate_callee (f := 52) rfl ?_); refine goesL_ (some 52) rfl rfl Try.func52 (by kernel_rfl) rfl #[.slice Ao39 x5_2.length co39, .int .u64 ((rd_T39 l0_1 x45_2).f0), .int .i64 8] rfl (by (try simp only [List.map_toArray, List.map_cons, List.map_nil]); first | done | rfl | (simp only [List.length_drop, List.length_take]; rfl)) ?_; (with_reducible refine (page_put.calls k2 (fun k_ => some k_ = (.slice Ao39 x5_2.length co39 : Value).ownBlock) (.slice Ao39 x5_2.length co39) x5_2 ((rd_T39 l0_1 x45_2).f0) 8 t149 w _ ?side1 ?side2 A32.out).mono ?_); (case side1 => repeat (first | (with_reducible first | exact HB.out | apply below_alloc | apply pw_below_drewN | apply below_drew1 | refine below_set ?_ GE127.out | refine below_set ?_ GE148.out) | exact HB.out)); (case side2 => exact Kd.R_tight rfl HO_5.out); rintro e w40 ⟨v150, rfl, ho0, hb, hkp⟩; refine ⟨_, rfl, ?_⟩; have n0_ := Aside0.mk (blk_kept (by (with_reducible repeat (first | refine blk_drewN ?_ _ | refine blk_drew ?_ | refine blk_alloc ?_ _)); exact BK127.out) hkp (fun hs_ => (fun e_ => (Kd.R_ne HO_5.out BK127.out (by decide)) e_) hs_)); have n1_ := Aside0.mk (blk_kept (by (with_reducible repeat (first | refine blk_drewN ?_ _ | refine blk_drew ?_ | refine blk_alloc ?_ _)); exact BK148.out) hkp (fun hs_ => (fun e_ => (Kd.R_ne HO_5.out BK148.out (by decide)) e_) hs_)); have n2_ := Aside0.mk (Kd.R_mono (ok' := fun k_ => True) ho0 (fun k_ hk_ => trivial)); have n3_ := Aside0.mk (hb); clear BK127; clear BK148; clear HB; clear HO_5; have BK127 := n0_; have BK148 := n1_; have HO151 := n2_; have HB := n3_; clear n0_ n1_ n2_ n3_; (try clear hb); (try clear hkp); (try clear ho0); have hcz41_0 : w40.cell? ⟨gb127, 0, none⟩ = some (.int .i64 a0_0) := (blk_cell BK127.out 0).trans rfl; have hcz41_1 : w40.cell? ⟨gb127, 1, none⟩ = some (.slice (some ad147) l0_1.length c0_1) := (blk_cell BK127.out 1).trans rfl; have hcz41_2 : w40.cell? ⟨gb127, 2, none⟩ = some (.int .i64 a0_2) := (blk_cell BK127.out 2).trans rfl; have hcz41_3 : w40.cell? ⟨gb127, 3, none⟩ = some (.slice A0_3 l0_3.length c0_3) := (blk_cell BK127.out 3).trans rfl; have hfz41_0 := blk_frozen BK127.out 0; have hfz41_1 := blk_frozen BK127.out 1; have hfz41_2 := blk_frozen BK127.out 2; have hfz41_3 := blk_frozen BK127.out 3))
         (try simp only [Act.put, List.setIfInBounds_toArray, List.set_cons_zero, List.set_cons_succ])
         go_cut [5] (fun v5 wc => ∃ (kq : Nat) (x5_32 : List Int), Aside0 (page_Encode.j2 kq x5_32 l0_1 (l0_1.length : Int) x45_2 a0_0 l0_1 a0_2 l0_3 ((rd_T39 l0_1 x45_2).f0) ((rd_T39 l0_1 x45_2).f1) ((rd_T39 l0_1 x45_2).f2) ((rd_T39 l0_1 x45_2).f3) = some (r1, r2)) ∧ Aside0 (kq ≤ k2) ∧ Aside0 (Kd.R (Kd.int .u8) 5 wc w.heap.size (fun _ => True) v5 x5_32) ∧ Aside0 (wc.heap[gb127]? = some (.cells #[.int .i64 a0_0, (.slice (some ad147) l0_1.length c0_1), .int .i64 a0_2, (.slice A0_3 l0_3.length c0_3)] 26 (0, 0))) ∧ Aside0 (wc.heap[gb148]? = some (.cells #[.int .u64 ((rd_T39 l0_1 x45_2).f0), .int .i64 ((rd_T39 l0_1 x45_2).f1), (.slice A147_2 ((rd_T39 l0_1 x45_2).f2).length c147_2), .int .i64 ((rd_T39 l0_1 x45_2).f3)] 39 (0, 0))) ∧ Aside0 (Below w.heap.size w wc))
         case first =>
          have H := HC33.out
          clear HC33
          by_cases c42 : a0_0 = 1
          ·rw [if_pos c42] at H
           have c42b0 : (a0_0 == 1) = true := beq_iff_eq.mpr c42
           have c42b1 : (a0_0 != 1) = false := bne_eq_false_iff_eq.mpr c42
           clear c42
           (first | rw [c42b0] | (simp only [i64_w, i32_w]; rw [c42b0]) | skip)
           replace H := Option.bind_eq_some_iff.mp H
           obtain ⟨t152, A430, H⟩ := H
           replace H : (page_Encode.j2 k2 t152 l0_1 (l0_1.length : Int) x45_2 a0_0 l0_1 a0_2 l0_3 ((rd_T39 l0_1 x45_2).f0) ((rd_T39 l0_1 x45_2).f1) ((rd_T39 l0_1 x45_2).f2) ((rd_T39 l0_1 x45_2).f3)) = some (r1, r2) := H
           have A43 := Aside0.mk A430
           clear A430
           have H' := Aside0.mk H
           clear H
           have hnb44 := NB148_127.out
           have hnc44 := NB127_148.out
           have hcz45_0 : w40.cell? ⟨gb148, 0, none⟩ = some (.int .u64 ((rd_T39 l0_1 x45_2).f0)) := (blk_cell BK148.out 0).trans rfl
           have hcz45_1 : w40.cell? ⟨gb148, 1, none⟩ = some (.int .i64 ((rd_T39 l0_1 x45_2).f1)) := (blk_cell BK148.out 1).trans rfl
           have hcz45_2 : w40.cell? ⟨gb148, 2, none⟩ = some (.slice A147_2 ((rd_T39 l0_1 x45_2).f2).length c147_2) := (blk_cell BK148.out 2).trans rfl
           have hcz45_3 : w40.cell? ⟨gb148, 3, none⟩ = some (.int .i64 ((rd_T39 l0_1 x45_2).f3)) := (blk_cell BK148.out 3).trans rfl
           have hfz45_0 := blk_frozen BK148.out 0
           have hfz45_1 := blk_frozen BK148.out 1
           have hfz45_2 := blk_frozen BK148.out 2
           have hfz45_3 := blk_frozen BK148.out 3
           obtain ⟨Ao46, co46, eo46⟩ := Kd.R_slice HO151.out
           subst eo46
           go_wp2_with (first | ((with_reducible refine gate_callee (f := 52) rfl ?_); refine goesL_ (some 60) rfl rfl Try.func52 (by kernel_rfl) rfl #[.slice Ao46 t149.length co46, .int .u64 (IntKind.u64.wrap ((rd_T39 l0_1 x45_2).f1)), .int .i64 4] rfl (by (try simp only [List.map_toArray, List.map_cons, List.map_nil]); first | done | rfl | (simp only [List.length_drop, List.length_take]; rfl)) ?_; (with_reducible refine (page_put.calls k2 (fun k_ => some k_ = (.slice Ao46 t149.length co46 : Value).ownBlock) (.slice Ao46 t149.length co46) t149 (IntKind.u64.wrap ((rd_T39 l0_1 x45_2).f1)) 4 t152 w _ ?side1 ?side2 A43.out).mono ?_); (case side1 => repeat (first | (with_reducible first | exact HB.out | apply below_alloc | apply pw_below_drewN | apply below_drew1 | refine below_set ?_ GE127.out | refine below_set ?_ GE148.out) | exact HB.out)); (case side2 => exact Kd.R_tight rfl HO151.out); rintro e w47 ⟨v153, rfl, ho0, hb, hkp⟩; refine ⟨_, rfl, ?_⟩; have n0_ := Aside0.mk (blk_kept (by (with_reducible repeat (first | refine blk_drewN ?_ _ | refine blk_drew ?_ | refine blk_alloc ?_ _)); exact BK127.out) hkp (fun hs_ => (fun e_ => (Kd.R_ne HO151.out BK127.out (by decide)) e_) hs_)); have n1_ := Aside0.mk (blk_kept (by (with_reducible repeat (first | refine blk_drewN ?_ _ | refine blk_drew ?_ | refine blk_alloc ?_ _)); exact BK148.out) hkp (fun hs_ => (fun e_ => (Kd.R_ne HO151.out BK148.out (by decide)) e_) hs_)); have n2_ := Aside0.mk (Kd.R_mono (ok' := fun k_ => True) ho0 (fun k_ hk_ => trivial)); have n3_ := Aside0.mk (hb); clear BK127; clear BK148; clear HB; clear HO151; have BK127 := n0_; have BK148 := n1_; have HO154 := n2_; have HB := n3_; clear n0_ n1_ n2_ n3_; (try clear hb); (try clear hkp); (try clear ho0)))
           go_meet
           case rel => exact ⟨_, (t152), H', ⟨by have := HJ3.out; have := HK2.out; first | omega | exact Nat.le_refl _⟩, ⟨by (with_reducible repeat (first | apply Kd.R_alloc | apply Kd.R_drewN | apply Kd.R_drew)); exact HO154.out⟩, ⟨by (with_reducible repeat (first | refine blk_drewN ?_ _ | refine blk_drew ?_ | refine blk_alloc ?_ _)); exact BK127.out⟩, ⟨by (with_reducible repeat (first | refine blk_drewN ?_ _ | refine blk_drew ?_ | refine blk_alloc ?_ _)); exact BK148.out⟩, ⟨by repeat (first | (with_reducible first | exact HB.out | apply below_alloc | apply pw_below_drewN | apply below_drew1 | refine below_set ?_ GE127.out | refine below_set ?_ GE148.out) | exact HB.out)⟩⟩
          ·rw [if_neg c42] at H
           have c42b0 : (a0_0 == 1) = false := beq_eq_false_iff_ne.mpr c42
           have c42b1 : (a0_0 != 1) = true := bne_iff_ne.mpr c42
           (first | rw [c42b0] | (simp only [i64_w, i32_w]; rw [c42b0]) | skip)
           have H' := Aside0.mk H
           clear H
           go_wp2
           go_meet
           case rel => exact ⟨_, (t149), H', ⟨by have := HJ3.out; have := HK2.out; first | omega | exact Nat.le_refl _⟩, ⟨by (with_reducible repeat (first | apply Kd.R_alloc | apply Kd.R_drewN | apply Kd.R_drew)); exact HO151.out⟩, ⟨by (with_reducible repeat (first | refine blk_drewN ?_ _ | refine blk_drew ?_ | refine blk_alloc ?_ _)); exact BK127.out⟩, ⟨by (with_reducible repeat (first | refine blk_drewN ?_ _ | refine blk_drew ?_ | refine blk_alloc ?_ _)); exact BK148.out⟩, ⟨by repeat (first | (with_reducible first | exact HB.out | apply below_alloc | apply pw_below_drewN | apply below_drew1 | refine below_set ?_ GE127.out | refine below_set ?_ GE148.out) | exact HB.out)⟩⟩
         case rest =>
          clear HC33
          (try clear c1); (try clear p1); (try clear q1); (try clear hx1); (try clear c2); (try clear p2); (try clear c3); (try clear c3b0); (try clear c3b1); (try clear c4); (try clear c5); (try clear p6); (try clear c12); (try clear c12b0); (try clear c12b1); (try clear c14); (try clear p14); (try clear q14); (try clear hx14); (try clear c15); (try clear c16); (try clear c20); (try clear c29); (try clear c29b0); (try clear c30); (try clear c30b0); (try clear c31); (try clear c31b0); (try clear c35); (try clear c42); (try clear c42b0); (try clear c42b1); (try clear c44); (try clear hcz11_0); (try clear hcz11_1); (try clear hcz11_2); (try clear hcz11_3); (try clear hcz16_0); (try clear hcz16_1); (try clear hcz16_2); (try clear hcz16_3); (try clear hcz19_0); (try clear hcz19_1); (try clear hcz19_2); (try clear hcz19_3); (try clear hcz22_0); (try clear hcz22_1); (try clear hcz22_2); (try clear hcz22_3); (try clear hcz25_0); (try clear hcz25_1); (try clear hcz25_2); (try clear hcz25_3); (try clear hcz28_0); (try clear hcz28_1); (try clear hcz28_2); (try clear hcz28_3); (try clear hcz36_0); (try clear hcz36_1); (try clear hcz36_2); (try clear hcz36_3); (try clear hcz38_0); (try clear hcz38_1); (try clear hcz38_2); (try clear hcz38_3); (try clear hcz41_0); (try clear hcz41_1); (try clear hcz41_2); (try clear hcz41_3); (try clear hcz45_0); (try clear hcz45_1); (try clear hcz45_2); (try clear hcz45_3); (try clear hcz6_0); (try clear hcz6_1); (try clear hcz6_2); (try clear hcz6_3); (try clear hcz8_0); (try clear hcz8_1); (try clear hcz8_2); (try clear hcz8_3); (try clear hfz11_0); (try clear hfz11_1); (try clear hfz11_2); (try clear hfz11_3); (try clear hfz16_0); (try clear hfz16_1); (try clear hfz16_2); (try clear hfz16_3); (try clear hfz19_0); (try clear hfz19_1); (try clear hfz19_2); (try clear hfz19_3); (try clear hfz22_0); (try clear hfz22_1); (try clear hfz22_2); (try clear hfz22_3); (try clear hfz25_0); (try clear hfz25_1); (try clear hfz25_2); (try clear hfz25_3); (try clear hfz28_0); (try clear hfz28_1); (try clear hfz28_2); (try clear hfz28_3); (try clear hfz36_0); (try clear hfz36_1); (try clear hfz36_2); (try clear hfz36_3); (try clear hfz38_0); (try clear hfz38_1); (try clear hfz38_2); (try clear hfz38_3); (try clear hfz41_0); (try clear hfz41_1); (try clear hfz41_2); (try clear hfz41_3); (try clear hfz45_0); (try clear hfz45_1); (try clear hfz45_2); (try clear hfz45_3); (try clear hfz6_0); (try clear hfz6_1); (try clear hfz6_2); (try clear hfz6_3); (try clear hfz8_0); (try clear hfz8_1); (try clear hfz8_2); (try clear hfz8_3); (try clear hx147_0); (try clear hx147_1); (try clear hx147_2); (try clear hx147_3); (try clear p147); (try clear p2); (try clear p6); (try clear q147)
          obtain ⟨kq, x5_32, HA, HJ32, HO_5, BK127, BK148, HB⟩ := hcut
          cases kq with
          | zero => exact absurd HA.out (by simp [page_Encode.j2])
          | succ kj32 =>
           have H := HA.out
           clear HA
           simp only [page_Encode.j2] at H
           by_cases c48 : a0_0 = 1
           ·rw [if_pos c48] at H
            have c48b0 : (a0_0 == 1) = true := beq_iff_eq.mpr c48
            have c48b1 : (a0_0 != 1) = false := bne_eq_false_iff_eq.mpr c48
            clear c48
            replace H := Option.bind_eq_some_iff.mp H
            obtain ⟨t155, A490, H⟩ := H
            replace H : (if t155 = true then (if x5_32.length + ((rd_T39 l0_1 x45_2).f2).length < 140737488355328 then (page_Encode.l0 kj32 (x5_32 ++ ((rd_T39 l0_1 x45_2).f2)) l0_1 (l0_1.length : Int) (wrap64 (x45_2 + 1)) a0_0 l0_1 a0_2 l0_3) else (none)) else ((page_put.f kj32 x5_32 (IntKind.u64.wrap (((rd_T39 l0_1 x45_2).f3))) 4).bind fun t159 => (page_Encode.l0 kj32 t159 l0_1 (l0_1.length : Int) (wrap64 (x45_2 + 1)) a0_0 l0_1 a0_2 l0_3))) = some (r1, r2) := H
            have A49 := Aside0.mk A490
            clear A490
            by_cases c50 : t155 = true
            ·subst c50
             have H1 : (if x5_32.length + ((rd_T39 l0_1 x45_2).f2).length < 140737488355328 then (page_Encode.l0 kj32 (x5_32 ++ ((rd_T39 l0_1 x45_2).f2)) l0_1 (l0_1.length : Int) (wrap64 (x45_2 + 1)) a0_0 l0_1 a0_2 l0_3) else (none)) = some (r1, r2) := by rw [if_pos rfl] at H; exact H
             clear H
             have H := H1
             clear H1
             by_cases c51 : x5_32.length + ((rd_T39 l0_1 x45_2).f2).length < 140737488355328
             ·rw [if_pos c51] at H
              have LMc51 := Aside0.mk c51
              clear c51
              obtain ⟨y156, hy156⟩ : ∃ y_ : List Int, y_ = (x5_32 ++ ((rd_T39 l0_1 x45_2).f2)) := ⟨_, rfl⟩
              replace H : (page_Encode.l0 kj32 y156 l0_1 (l0_1.length : Int) (wrap64 (x45_2 + 1)) a0_0 l0_1 a0_2 l0_3) = some (r1, r2) := by first | (rw [hy156]; with_reducible exact H) | (have H2_ := (Option.bind_some _ _).symm.trans H; rw [hy156]; with_reducible exact H2_) | (have H2_ := (Option.bind_some _ _).symm.trans H; with_reducible exact H2_) | with_reducible exact H | (rw [hy156]; exact H) | exact H
              have Ny156 := Aside0.mk hy156
              clear hy156
              have H' := Aside0.mk H
              clear H
              have hnb52 := NB127_148.out
              have hnc52 := NB148_127.out
              have hcz53_0 : wc.cell? ⟨gb127, 0, none⟩ = some (.int .i64 a0_0) := (blk_cell BK127.out 0).trans rfl
              have hcz53_1 : wc.cell? ⟨gb127, 1, none⟩ = some (.slice (some ad147) l0_1.length c0_1) := (blk_cell BK127.out 1).trans rfl
              have hcz53_2 : wc.cell? ⟨gb127, 2, none⟩ = some (.int .i64 a0_2) := (blk_cell BK127.out 2).trans rfl
              have hcz53_3 : wc.cell? ⟨gb127, 3, none⟩ = some (.slice A0_3 l0_3.length c0_3) := (blk_cell BK127.out 3).trans rfl
              have hfz53_0 := blk_frozen BK127.out 0
              have hfz53_1 := blk_frozen BK127.out 1
              have hfz53_2 := blk_frozen BK127.out 2
              have hfz53_3 := blk_frozen BK127.out 3
              have hcz54_0 : wc.cell? ⟨gb148, 0, none⟩ = some (.int .u64 ((rd_T39 l0_1 x45_2).f0)) := (blk_cell BK148.out 0).trans rfl
              have hcz54_1 : wc.cell? ⟨gb148, 1, none⟩ = some (.int .i64 ((rd_T39 l0_1 x45_2).f1)) := (blk_cell BK148.out 1).trans rfl
              have hcz54_2 : wc.cell? ⟨gb148, 2, none⟩ = some (.slice A147_2 ((rd_T39 l0_1 x45_2).f2).length c147_2) := (blk_cell BK148.out 2).trans rfl
              have hcz54_3 : wc.cell? ⟨gb148, 3, none⟩ = some (.int .i64 ((rd_T39 l0_1 x45_2).f3)) := (blk_cell BK148.out 3).trans rfl
              have hfz54_0 := blk_frozen BK148.out 0
              have hfz54_1 := blk_frozen BK148.out 1
              have hfz54_2 := blk_frozen BK148.out 2
              have hfz54_3 := blk_frozen BK148.out 3
              go_wp2_with (first | (go_at_call 53; (with_reducible refine (page_inline.calls ((rd_T39 l0_1 x45_2).f0) ((rd_T39 l0_1 x45_2).f1) _ _ ((rd_T39 l0_1 x45_2).f2) ((rd_T39 l0_1 x45_2).f3) true _ ?side1 ?side2 A49.out).mono ?_); (case side1 => repeat (first | exact (Kd.C_below HR147_2.out HB.out) | (with_reducible refine Kd.C_alloc ?_ _) | (with_reducible refine Kd.C_drewN ?_ _) | (with_reducible refine Kd.C_drew ?_))); (case side2 => exact HC147_2.out); rintro e w55 ⟨rfl, hb⟩; have n0_ := Aside0.mk (Kd.R_below (by (with_reducible repeat (first | apply Kd.R_alloc | apply Kd.R_drewN | apply Kd.R_drew)); exact HO_5.out) hb); have n1_ := Aside0.mk (blk_below (g := gb127) (o := .cells #[.int .i64 a0_0, .slice (some ad147) l0_1.length c0_1, .int .i64 a0_2, .slice A0_3 l0_3.length c0_3] 26 (0, 0)) (by (with_reducible repeat (first | refine blk_drewN ?_ _ | refine blk_drew ?_ | refine blk_alloc ?_ _)); exact BK127.out) hb); have n2_ := Aside0.mk (blk_below (g := gb148) (o := .cells #[.int .u64 ((rd_T39 l0_1 x45_2).f0), .int .i64 ((rd_T39 l0_1 x45_2).f1), .slice A147_2 ((rd_T39 l0_1 x45_2).f2).length c147_2, .int .i64 ((rd_T39 l0_1 x45_2).f3)] 39 (0, 0)) (by (with_reducible repeat (first | refine blk_drewN ?_ _ | refine blk_drew ?_ | refine blk_alloc ?_ _)); exact BK148.out) hb); have n3_ := Aside0.mk (below_step (by repeat (first | (with_reducible first | exact HB.out | apply below_alloc | apply pw_below_drewN | apply below_drew1 | refine below_set ?_ GE127.out | refine below_set ?_ GE148.out) | exact HB.out)) hb); clear HO_5; clear BK127; clear BK148; clear HB; have HO_5 := n0_; have BK127 := n1_; have BK148 := n2_; have HB := n3_; clear n0_ n1_ n2_ n3_; (try clear hb); (try clear hb2); (try clear hk); (try clear hi); have hcz56_0 : w55.cell? ⟨gb148, 0, none⟩ = some (.int .u64 ((rd_T39 l0_1 x45_2).f0)) := (blk_cell BK148.out 0).trans rfl; have hcz56_1 : w55.cell? ⟨gb148, 1, none⟩ = some (.int .i64 ((rd_T39 l0_1 x45_2).f1)) := (blk_cell BK148.out 1).trans rfl; have hcz56_2 : w55.cell? ⟨gb148, 2, none⟩ = some (.slice A147_2 ((rd_T39 l0_1 x45_2).f2).length c147_2) := (blk_cell BK148.out 2).trans rfl; have hcz56_3 : w55.cell? ⟨gb148, 3, none⟩ = some (.int .i64 ((rd_T39 l0_1 x45_2).f3)) := (blk_cell BK148.out 3).trans rfl; have hfz56_0 := blk_frozen BK148.out 0; have hfz56_1 := blk_frozen BK148.out 1; have hfz56_2 := blk_frozen BK148.out 2; have hfz56_3 := blk_frozen BK148.out 3) | ((with_reducible refine gate_builtin (b := .append) (xs := #[.tmp 68, .tmp 70]) rfl ?_); at_builtin; refine Kd.R_append_rows (Kd.int .u8) (w0 := w) w.heap.size rfl (.tmp 68) (.tmp 70) 24 5 (.int .u8 0) 1 rfl Try.underlying24 info5 rfl (by decide) (by omega) u5 x5_32 ((rd_T39 l0_1 x45_2).f2) _ _ _ (fun _ => True) (fun _ => False) rfl rfl ?aO ?aR (fun _ _ h => h) (fun _ h => h.elim) ?aF ?aB ?aS ?aL ?_; (case aR => repeat (first | exact (Kd.C_below HR147_2.out HB.out) | (with_reducible refine Kd.C_alloc ?_ _) | (with_reducible refine Kd.C_drewN ?_ _) | (with_reducible refine Kd.C_drew ?_))); (case aB => exact (by repeat (first | (with_reducible first | exact HB.out | apply below_alloc | apply pw_below_drewN | apply below_drew1 | refine below_set ?_ GE127.out | refine below_set ?_ GE148.out) | exact HB.out))); (case aF => exact (fun _ _ => trivial)); (case aO => exact (by (with_reducible repeat (first | apply Kd.R_alloc | apply Kd.R_drewN | apply Kd.R_drew)); exact HO_5.out)); (case aS => exact (below_size (by repeat (first | (with_reducible first | exact HB.out | apply below_alloc | apply pw_below_drewN | apply below_drew1 | refine below_set ?_ GE127.out | refine below_set ?_ GE148.out) | exact HB.out)))); (case aL => have := LMc51.out; omega); intro v157 w57 ho hb hg hat; rw [← Ny156.out] at ho; have n0_ := Aside0.mk (blk_grown (g := gb127) (o := .cells #[.int .i64 a0_0, .slice (some ad147) l0_1.length c0_1, .int .i64 a0_2, .slice A0_3 l0_3.length c0_3] 26 (0, 0)) (by (with_reducible repeat (first | refine blk_drewN ?_ _ | refine blk_drew ?_ | refine blk_alloc ?_ _)); exact BK127.out) hg (Kd.R_ne HO_5.out BK127.out (by decide))); have n1_ := Aside0.mk (blk_grown (g := gb148) (o := .cells #[.int .u64 ((rd_T39 l0_1 x45_2).f0), .int .i64 ((rd_T39 l0_1 x45_2).f1), .slice A147_2 ((rd_T39 l0_1 x45_2).f2).length c147_2, .int .i64 ((rd_T39 l0_1 x45_2).f3)] 39 (0, 0)) (by (with_reducible repeat (first | refine blk_drewN ?_ _ | refine blk_drew ?_ | refine blk_alloc ?_ _)); exact BK148.out) hg (Kd.R_ne HO_5.out BK148.out (by decide))); have n2_ := Aside0.mk (hb); have n3_ := Aside0.mk (ho); clear BK127; clear BK148; clear HB; clear HO_5; have BK127 := n0_; have BK148 := n1_; have HB := n2_; have HO158 := n3_; clear n0_ n1_ n2_ n3_; clear ho hb hg hat))
              go_roundg kj32
              case measure => have := HJ3.out; have := HK2.out; have := HJ32.out; omega
              case rel => exact ⟨(y156), (wrap64 (x45_2 + 1)), (by first | rfl | (simp; done) | (simp [*]; done)), H', ⟨by have := HJ3.out; have := HK2.out; have := HJ32.out; omega⟩, ⟨by (with_reducible repeat (first | apply Kd.R_alloc | apply Kd.R_drewN | apply Kd.R_drew)); exact HO158.out⟩, ⟨by (with_reducible repeat (first | refine blk_drewN ?_ _ | refine blk_drew ?_ | refine blk_alloc ?_ _)); exact BK127.out⟩, ⟨by repeat (first | (with_reducible first | exact HB.out | apply below_alloc | apply pw_below_drewN | apply below_drew1 | refine below_set ?_ GE127.out | refine below_set ?_ GE148.out) | exact HB.out)⟩⟩
             ·rw [if_neg c51] at H
              exact absurd H (by simp)
            ·replace c50 := Bool.eq_false_iff.mpr c50
             subst c50
             have H1 : ((page_put.f kj32 x5_32 (IntKind.u64.wrap (((rd_T39 l0_1 x45_2).f3))) 4).bind fun t159 => (page_Encode.l0 kj32 t159 l0_1 (l0_1.length : Int) (wrap64 (x45_2 + 1)) a0_0 l0_1 a0_2 l0_3)) = some (r1, r2) := by rw [if_neg (show ¬ (false = true) by decide)] at H; exact H
             clear H
             have H := H1
             clear H1
             replace H := Option.bind_eq_some_iff.mp H
             obtain ⟨t159, A580, H⟩ := H
             replace H : (page_Encode.l0 kj32 t159 l0_1 (l0_1.length : Int) (wrap64 (x45_2 + 1)) a0_0 l0_1 a0_2 l0_3) = some (r1, r2) := H
             have A58 := Aside0.mk A580
             clear A580
             have H' := Aside0.mk H
             clear H
             have hnb59 := NB127_148.out
             have hnc59 := NB148_127.out
             have hcz60_0 : wc.cell? ⟨gb127, 0, none⟩ = some (.int .i64 a0_0) := (blk_cell BK127.out 0).trans rfl
             have hcz60_1 : wc.cell? ⟨gb127, 1, none⟩ = some (.slice (some ad147) l0_1.length c0_1) := (blk_cell BK127.out 1).trans rfl
             have hcz60_2 : wc.cell? ⟨gb127, 2, none⟩ = some (.int .i64 a0_2) := (blk_cell BK127.out 2).trans rfl
             have hcz60_3 : wc.cell? ⟨gb127, 3, none⟩ = some (.slice A0_3 l0_3.length c0_3) := (blk_cell BK127.out 3).trans rfl
             have hfz60_0 := blk_frozen BK127.out 0
             have hfz60_1 := blk_frozen BK127.out 1
             have hfz60_2 := blk_frozen BK127.out 2
             have hfz60_3 := blk_frozen BK127.out 3
             have hcz61_0 : wc.cell? ⟨gb148, 0, none⟩ = some (.int .u64 ((rd_T39 l0_1 x45_2).f0)) := (blk_cell BK148.out 0).trans rfl
             have hcz61_1 : wc.cell? ⟨gb148, 1, none⟩ = some (.int .i64 ((rd_T39 l0_1 x45_2).f1)) := (blk_cell BK148.out 1).trans rfl
             have hcz61_2 : wc.cell? ⟨gb148, 2, none⟩ = some (.slice A147_2 ((rd_T39 l0_1 x45_2).f2).length c147_2) := (blk_cell BK148.out 2).trans rfl
             have hcz61_3 : wc.cell? ⟨gb148, 3, none⟩ = some (.int .i64 ((rd_T39 l0_1 x45_2).f3)) := (blk_cell BK148.out 3).trans rfl
             have hfz61_0 := blk_frozen BK148.out 0
             have hfz61_1 := blk_frozen BK148.out 1
             have hfz61_2 := blk_frozen BK148.out 2
             have hfz61_3 := blk_frozen BK148.out 3
             go_wp2_with (first | (go_at_call 53; (with_reducible refine (page_inline.calls ((rd_T39 l0_1 x45_2).f0) ((rd_T39 l0_1 x45_2).f1) _ _ ((rd_T39 l0_1 x45_2).f2) ((rd_T39 l0_1 x45_2).f3) false _ ?side1 ?side2 A49.out).mono ?_); (case side1 => repeat (first | exact (Kd.C_below HR147_2.out HB.out) | (with_reducible refine Kd.C_alloc ?_ _) | (with_reducible refine Kd.C_drewN ?_ _) | (with_reducible refine Kd.C_drew ?_))); (case side2 => exact HC147_2.out); rintro e w62 ⟨rfl, hb⟩; have n0_ := Aside0.mk (Kd.R_below (by (with_reducible repeat (first | apply Kd.R_alloc | apply Kd.R_drewN | apply Kd.R_drew)); exact HO_5.out) hb); have n1_ := Aside0.mk (blk_below (g := gb127) (o := .cells #[.int .i64 a0_0, .slice (some ad147) l0_1.length c0_1, .int .i64 a0_2, .slice A0_3 l0_3.length c0_3] 26 (0, 0)) (by (with_reducible repeat (first | refine blk_drewN ?_ _ | refine blk_drew ?_ | refine blk_alloc ?_ _)); exact BK127.out) hb); have n2_ := Aside0.mk (blk_below (g := gb148) (o := .cells #[.int .u64 ((rd_T39 l0_1 x45_2).f0), .int .i64 ((rd_T39 l0_1 x45_2).f1), .slice A147_2 ((rd_T39 l0_1 x45_2).f2).length c147_2, .int .i64 ((rd_T39 l0_1 x45_2).f3)] 39 (0, 0)) (by (with_reducible repeat (first | refine blk_drewN ?_ _ | refine blk_drew ?_ | refine blk_alloc ?_ _)); exact BK148.out) hb); have n3_ := Aside0.mk (below_step (by repeat (first | (with_reducible first | exact HB.out | apply below_alloc | apply pw_below_drewN | apply below_drew1 | refine below_set ?_ GE127.out | refine below_set ?_ GE148.out) | exact HB.out)) hb); clear HO_5; clear BK127; clear BK148; clear HB; have HO_5 := n0_; have BK127 := n1_; have BK148 := n2_; have HB := n3_; clear n0_ n1_ n2_ n3_; (try clear hb); (try clear hb2); (try clear hk); (try clear hi); have hcz63_0 : w62.cell? ⟨gb148, 0, none⟩ = some (.int .u64 ((rd_T39 l0_1 x45_2).f0)) := (blk_cell BK148.out 0).trans rfl; have hcz63_1 : w62.cell? ⟨gb148, 1, none⟩ = some (.int .i64 ((rd_T39 l0_1 x45_2).f1)) := (blk_cell BK148.out 1).trans rfl; have hcz63_2 : w62.cell? ⟨gb148, 2, none⟩ = some (.slice A147_2 ((rd_T39 l0_1 x45_2).f2).length c147_2) := (blk_cell BK148.out 2).trans rfl; have hcz63_3 : w62.cell? ⟨gb148, 3, none⟩ = some (.int .i64 ((rd_T39 l0_1 x45_2).f3)) := (blk_cell BK148.out 3).trans rfl; have hfz63_0 := blk_frozen BK148.out 0; have hfz63_1 := blk_frozen BK148.out 1; have hfz63_2 := blk_frozen BK148.out 2; have hfz63_3 := blk_frozen BK148.out 3; obtain ⟨Ao64, co64, eo64⟩ := Kd.R_slice HO_5.out; subst eo64) | ((with_reducible refine gate_callee (f := 52) rfl ?_); refine goesL_ (some 76) rfl rfl Try.func52 (by kernel_rfl) rfl #[.slice Ao64 x5_32.length co64, .int .u64 (IntKind.u64.wrap (((rd_T39 l0_1 x45_2).f3))), .int .i64 4] rfl (by (try simp only [List.map_toArray, List.map_cons, List.map_nil]); first | done | rfl | (simp only [List.length_drop, List.length_take]; rfl)) ?_; (with_reducible refine (page_put.calls kj32 (fun k_ => some k_ = (.slice Ao64 x5_32.length co64 : Value).ownBlock) (.slice Ao64 x5_32.length co64) x5_32 (IntKind.u64.wrap (((rd_T39 l0_1 x45_2).f3))) 4 t159 w _ ?side1 ?side2 A58.out).mono ?_); (case side1 => repeat (first | (with_reducible first | exact HB.out | apply below_alloc | apply pw_below_drewN | apply below_drew1 | refine below_set ?_ GE127.out | refine below_set ?_ GE148.out) | exact HB.out)); (case side2 => exact Kd.R_tight rfl HO_5.out); rintro e w65 ⟨v160, rfl, ho0, hb, hkp⟩; refine ⟨_, rfl, ?_⟩; have n0_ := Aside0.mk (blk_kept (by (with_reducible repeat (first | refine blk_drewN ?_ _ | refine blk_drew ?_ | refine blk_alloc ?_ _)); exact BK127.out) hkp (fun hs_ => (fun e_ => (Kd.R_ne HO_5.out BK127.out (by decide)) e_) hs_)); have n1_ := Aside0.mk (blk_kept (by (with_reducible repeat (first | refine blk_drewN ?_ _ | refine blk_drew ?_ | refine blk_alloc ?_ _)); exact BK148.out) hkp (fun hs_ => (fun e_ => (Kd.R_ne HO_5.out BK148.out (by decide)) e_) hs_)); have n2_ := Aside0.mk (Kd.R_mono (ok' := fun k_ => True) ho0 (fun k_ hk_ => trivial)); have n3_ := Aside0.mk (hb); clear BK127; clear BK148; clear HB; clear HO_5; have BK127 := n0_; have BK148 := n1_; have HO161 := n2_; have HB := n3_; clear n0_ n1_ n2_ n3_; (try clear hb); (try clear hkp); (try clear ho0)))
             go_roundg kj32
             case measure => have := HJ3.out; have := HK2.out; have := HJ32.out; omega
             case rel => exact ⟨(t159), (wrap64 (x45_2 + 1)), (by first | rfl | (simp; done) | (simp [*]; done)), H', ⟨by have := HJ3.out; have := HK2.out; have := HJ32.out; omega⟩, ⟨by (with_reducible repeat (first | apply Kd.R_alloc | apply Kd.R_drewN | apply Kd.R_drew)); exact HO161.out⟩, ⟨by (with_reducible repeat (first | refine blk_drewN ?_ _ | refine blk_drew ?_ | refine blk_alloc ?_ _)); exact BK127.out⟩, ⟨by repeat (first | (with_reducible first | exact HB.out | apply below_alloc | apply pw_below_drewN | apply below_drew1 | refine below_set ?_ GE127.out | refine below_set ?_ GE148.out) | exact HB.out)⟩⟩
           ·rw [if_neg c48] at H
            have c48b0 : (a0_0 == 1) = false := beq_eq_false_iff_ne.mpr c48
            have c48b1 : (a0_0 != 1) = true := bne_iff_ne.mpr c48
            replace H := Option.bind_eq_some_iff.mp H
            obtain ⟨t162, A660, H⟩ := H
            replace H : (page_Encode.l0 kj32 t162 l0_1 (l0_1.length : Int) (wrap64 (x45_2 + 1)) a0_0 l0_1 a0_2 l0_3) = some (r1, r2) := H
            have A66 := Aside0.mk A660
            clear A660
            have H' := Aside0.mk H
            clear H
            have hnb67 := NB127_148.out
            have hnc67 := NB148_127.out
            have hcz68_0 : wc.cell? ⟨gb127, 0, none⟩ = some (.int .i64 a0_0) := (blk_cell BK127.out 0).trans rfl
            have hcz68_1 : wc.cell? ⟨gb127, 1, none⟩ = some (.slice (some ad147) l0_1.length c0_1) := (blk_cell BK127.out 1).trans rfl
            have hcz68_2 : wc.cell? ⟨gb127, 2, none⟩ = some (.int .i64 a0_2) := (blk_cell BK127.out 2).trans rfl
            have hcz68_3 : wc.cell? ⟨gb127, 3, none⟩ = some (.slice A0_3 l0_3.length c0_3) := (blk_cell BK127.out 3).trans rfl
            have hfz68_0 := blk_frozen BK127.out 0
            have hfz68_1 := blk_frozen BK127.out 1
            have hfz68_2 := blk_frozen BK127.out 2
            have hfz68_3 := blk_frozen BK127.out 3
            have hcz69_0 : wc.cell? ⟨gb148, 0, none⟩ = some (.int .u64 ((rd_T39 l0_1 x45_2).f0)) := (blk_cell BK148.out 0).trans rfl
            have hcz69_1 : wc.cell? ⟨gb148, 1, none⟩ = some (.int .i64 ((rd_T39 l0_1 x45_2).f1)) := (blk_cell BK148.out 1).trans rfl
            have hcz69_2 : wc.cell? ⟨gb148, 2, none⟩ = some (.slice A147_2 ((rd_T39 l0_1 x45_2).f2).length c147_2) := (blk_cell BK148.out 2).trans rfl
            have hcz69_3 : wc.cell? ⟨gb148, 3, none⟩ = some (.int .i64 ((rd_T39 l0_1 x45_2).f3)) := (blk_cell BK148.out 3).trans rfl
            have hfz69_0 := blk_frozen BK148.out 0
            have hfz69_1 := blk_frozen BK148.out 1
            have hfz69_2 := blk_frozen BK148.out 2
            have hfz69_3 := blk_frozen BK148.out 3
            obtain ⟨Ao70, co70, eo70⟩ := Kd.R_slice HO_5.out
            subst eo70
            go_wp2_with (first | ((with_reducible refine gate_callee (f := 52) rfl ?_); refine goesL_ (some 76) rfl rfl Try.func52 (by kernel_rfl) rfl #[.slice Ao70 x5_32.length co70, .int .u64 (IntKind.u64.wrap (((rd_T39 l0_1 x45_2).f3))), .int .i64 4] rfl (by (try simp only [List.map_toArray, List.map_cons, List.map_nil]); first | done | rfl | (simp only [List.length_drop, List.length_take]; rfl)) ?_; (with_reducible refine (page_put.calls kj32 (fun k_ => some k_ = (.slice Ao70 x5_32.length co70 : Value).ownBlock) (.slice Ao70 x5_32.length co70) x5_32 (IntKind.u64.wrap (((rd_T39 l0_1 x45_2).f3))) 4 t162 w _ ?side1 ?side2 A66.out).mono ?_); (case side1 => repeat (first | (with_reducible first | exact HB.out | apply below_alloc | apply pw_below_drewN | apply below_drew1 | refine below_set ?_ GE127.out | refine below_set ?_ GE148.out) | exact HB.out)); (case side2 => exact Kd.R_tight rfl HO_5.out); rintro e w71 ⟨v163, rfl, ho0, hb, hkp⟩; refine ⟨_, rfl, ?_⟩; have n0_ := Aside0.mk (blk_kept (by (with_reducible repeat (first | refine blk_drewN ?_ _ | refine blk_drew ?_ | refine blk_alloc ?_ _)); exact BK127.out) hkp (fun hs_ => (fun e_ => (Kd.R_ne HO_5.out BK127.out (by decide)) e_) hs_)); have n1_ := Aside0.mk (blk_kept (by (with_reducible repeat (first | refine blk_drewN ?_ _ | refine blk_drew ?_ | refine blk_alloc ?_ _)); exact BK148.out) hkp (fun hs_ => (fun e_ => (Kd.R_ne HO_5.out BK148.out (by decide)) e_) hs_)); have n2_ := Aside0.mk (Kd.R_mono (ok' := fun k_ => True) ho0 (fun k_ hk_ => trivial)); have n3_ := Aside0.mk (hb); clear BK127; clear BK148; clear HB; clear HO_5; have BK127 := n0_; have BK148 := n1_; have HO164 := n2_; have HB := n3_; clear n0_ n1_ n2_ n3_; (try clear hb); (try clear hkp); (try clear ho0)))
            go_roundg kj32
            case measure => have := HJ3.out; have := HK2.out; have := HJ32.out; omega
            case rel => exact ⟨(t162), (wrap64 (x45_2 + 1)), (by first | rfl | (simp; done) | (simp [*]; done)), H', ⟨by have := HJ3.out; have := HK2.out; have := HJ32.out; omega⟩, ⟨by (with_reducible repeat (first | apply Kd.R_alloc | apply Kd.R_drewN | apply Kd.R_drew)); exact HO164.out⟩, ⟨by (with_reducible repeat (first | refine blk_drewN ?_ _ | refine blk_drew ?_ | refine blk_alloc ?_ _)); exact BK127.out⟩, ⟨by repeat (first | (with_reducible first | exact HB.out | apply below_alloc | apply pw_below_drewN | apply below_drew1 | refine below_set ?_ GE127.out | refine below_set ?_ GE148.out) | exact HB.out)⟩⟩
        ·rw [if_neg c31] at H
         exact absurd H (by simp)
       ·rw [if_neg c30] at H
        exact absurd H (by simp)
      ·rw [if_neg c29] at H
       have c29b0 : decide (x45_2 < (l0_1.length : Int)) = false := decide_eq_false c29
       clear c29
       obtain ⟨ji72, hji72⟩ : ∃ j_ : Int, (wrap64 (256 - (x5_2.length : Int))) = j_ := ⟨_, rfl⟩
       replace H : (if 0 ≤ (ji72) then (if x5_2.length + (ji72 : Int).toNat < 140737488355328 then (some ((x5_2 ++ List.replicate (ji72 : Int).toNat 0), 0)) else (none)) else (none)) = some (r1, r2) := by first | (rw [hji72] at H; exact H) | (simp only [hji72] at H ⊢; exact H)
       have hji72w : (IntKind.i64.wrap (256 - (x5_2.length : Int))) = ji72 := (i64_w _).trans hji72
       by_cases c73 : 0 ≤ (ji72)
       ·rw [if_pos c73] at H
        have c73b0 := eq_true c73
        have c73b1 : decide (0 ≤ (ji72)) = true := decide_eq_true c73
        clear c73
        by_cases c74 : x5_2.length + (ji72 : Int).toNat < 140737488355328
        ·rw [if_pos c74] at H
         have LMc74 := Aside0.mk c74
         clear c74
         obtain ⟨y144, hy144⟩ : ∃ y_ : List Int, y_ = (x5_2 ++ List.replicate (ji72 : Int).toNat 0) := ⟨_, rfl⟩
         replace H : (some (y144, 0)) = some (r1, r2) := by first | (rw [hy144]; with_reducible exact H) | (have H2_ := (Option.bind_some _ _).symm.trans H; rw [hy144]; with_reducible exact H2_) | (have H2_ := (Option.bind_some _ _).symm.trans H; with_reducible exact H2_) | with_reducible exact H | (rw [hy144]; exact H) | exact H
         have Ny144 := Aside0.mk hy144
         clear hy144
         simp only [Option.some.injEq, Prod.mk.injEq] at H
         obtain ⟨rfl, rfl⟩ := H
         obtain ⟨Ao75, co75, eo75⟩ := Kd.R_slice HO_5.out
         subst eo75
         go_wp2_with (first | (at_builtin; refine Kd.R_append_zeros (Kd.int .u8) (w0 := w) w.heap.size rfl (.tmp 78) (.tmp 81) 24 3 5 (.int .u8 0) 1 rfl Try.underlying24 Try.underlying3 info5 rfl (by decide) (by omega) (.slice Ao75 x5_2.length co75) x5_2 0 (ji72 : Int) (fun _ => True) rfl rfl rfl ?aF ?aO (of_decide_eq_true (by first | (with_reducible assumption) | assumption)) ?aB ?aS ?aL ?_; (case aB => exact (by repeat (first | (with_reducible first | exact HB.out | apply below_alloc | apply pw_below_drewN | apply below_drew1 | refine below_set ?_ GE127.out) | exact HB.out))); (case aF => exact (fun _ _ => trivial)); (case aO => exact (by (with_reducible repeat (first | apply Kd.R_alloc | apply Kd.R_drewN | apply Kd.R_drew)); exact HO_5.out)); (case aS => exact (below_size (by repeat (first | (with_reducible first | exact HB.out | apply below_alloc | apply pw_below_drewN | apply below_drew1 | refine below_set ?_ GE127.out) | exact HB.out)))); (case aL => have := LMc74.out; omega); intro v145 w76 ho hb hg hat; rw [← Ny144.out] at ho; have n0_ := Aside0.mk (blk_grown (g := gb127) (o := .cells #[.int .i64 a0_0, .slice A0_1 l0_1.length c0_1, .int .i64 a0_2, .slice A0_3 l0_3.length c0_3] 26 (0, 0)) (by (with_reducible repeat (first | refine blk_drewN ?_ _ | refine blk_drew ?_ | refine blk_alloc ?_ _)); exact BK127.out) hg (Kd.R_ne HO_5.out BK127.out (by decide))); have n1_ := Aside0.mk (hb); have n2_ := Aside0.mk (ho); clear BK127; clear HB; clear HO_5; have BK127 := n0_; have HB := n1_; have HO146 := n2_; clear n0_ n1_ n2_; clear ho hb hg hat))
         go_ret2
         exact ⟨_, by first | rfl | (simp [errW_none, errW_some] <;> rfl) | (simp only [← hji72]; first | rfl | (simp [errW_none, errW_some] <;> rfl)) | (simp [*, errW_none, errW_some] <;> rfl), by (with_reducible repeat (first | apply Kd.R_alloc | apply Kd.R_drewN | apply Kd.R_drew)); exact HO146.out, by repeat (first | (with_reducible first | exact HB.out | apply below_alloc | apply pw_below_drewN | apply below_drew1 | refine below_set ?_ GE127.out) | exact HB.out)⟩
        ·rw [if_neg c74] at H
         exact absurd H (by simp)
       ·rw [if_neg c73] at H
        exact absurd H (by simp)
 ·rw [if_neg c3] at H
  have c3b0 : (t128 == 0) = false := beq_eq_false_iff_ne.mpr c3
  have c3b1 : (t128 != 0) = true := bne_iff_ne.mpr c3
  simp only [Option.some.injEq, Prod.mk.injEq] at H
  obtain ⟨rfl, rfl⟩ := H
  go_enter Try.func20, Try.ntmps20
  go_wp2_with (first | ((with_reducible refine gate_dst (N := 1) rfl ?_); refine box_event ?hg (N := 1) ?hd (cs := #[.int .i64 a0_0, .slice A0_1 l0_1.length c0_1, .int .i64 a0_2, .slice A0_3 l0_3.length c0_3]) (t := 26) ?hr ?_; (case hd => rfl); (case hg => rfl); (case hr => first | (go_simp; done) | (go_simp; rfl)); intro gb127 hg w77 hbox hb; have n0_ := Aside0.mk (below_step (by repeat (first | (with_reducible first | exact HB.out | apply below_alloc | apply pw_below_drewN | apply below_drew1) | exact HB.out)) hb); have n1_ := Aside0.mk (hbox); have n2_ := Aside0.mk ((by rw [hg]; exact (below_size (by repeat (first | (with_reducible first | exact HB.out | apply below_alloc | apply pw_below_drewN | apply below_drew1) | exact HB.out))) : w.heap.size ≤ gb127)); have n3_ := Aside0.mk ((by rw [hg]; exact (below_size (by repeat (first | (with_reducible first | exact HB.out | apply below_alloc | apply pw_below_drewN | apply below_drew1) | exact HB.out))) : w.heap.size ≤ gb127)); clear HB; have HB := n0_; have BK127 := n1_; have GW127 := n2_; have GE127 := n3_; clear n0_ n1_ n2_ n3_; clear hb hbox hg; have hcz78_0 : w77.cell? ⟨gb127, 0, none⟩ = some (.int .i64 a0_0) := (blk_cell BK127.out 0).trans rfl; have hcz78_1 : w77.cell? ⟨gb127, 1, none⟩ = some (.slice A0_1 l0_1.length c0_1) := (blk_cell BK127.out 1).trans rfl; have hcz78_2 : w77.cell? ⟨gb127, 2, none⟩ = some (.int .i64 a0_2) := (blk_cell BK127.out 2).trans rfl; have hcz78_3 : w77.cell? ⟨gb127, 3, none⟩ = some (.slice A0_3 l0_3.length c0_3) := (blk_cell BK127.out 3).trans rfl; have hfz78_0 := blk_frozen BK127.out 0; have hfz78_1 := blk_frozen BK127.out 1; have hfz78_2 := blk_frozen BK127.out 2; have hfz78_3 := blk_frozen BK127.out 3) | ((with_reducible refine gate_callee (f := 16) rfl ?_); refine goesL_ (some 9) rfl rfl Try.func16 (by kernel_rfl) rfl #[.agg #[.int .i64 a0_0, .slice A0_1 l0_1.length c0_1, .int .i64 a0_2, .slice A0_3 l0_3.length c0_3]] rfl (by (try simp only [List.map_toArray, List.map_cons, List.map_nil]); first | done | rfl | (simp only [List.length_drop, List.length_take]; rfl)) ?_; (with_reducible refine (page_Check.calls k a0_0 _ _ l0_1 a0_2 _ _ l0_3 t128 _ ?side1 ?side2 ?side3 ?side4 A2.out).mono ?_); (case side1 => repeat (first | exact (Kd.C_below HR0_1.out HB.out) | (with_reducible refine Kd.C_alloc ?_ _) | (with_reducible refine Kd.C_drewN ?_ _) | (with_reducible refine Kd.C_drew ?_))); (case side2 => exact HC0_1.out); (case side3 => repeat (first | exact (Kd.C_below HR0_3.out HB.out) | (with_reducible refine Kd.C_alloc ?_ _) | (with_reducible refine Kd.C_drewN ?_ _) | (with_reducible refine Kd.C_drew ?_))); (case side4 => exact HC0_3.out); rintro e w79 ⟨rfl, hb⟩; refine ⟨_, rfl, ?_⟩; have n0_ := Aside0.mk (blk_below (g := gb127) (o := .cells #[.int .i64 a0_0, .slice A0_1 l0_1.length c0_1, .int .i64 a0_2, .slice A0_3 l0_3.length c0_3] 26 (0, 0)) (by (with_reducible repeat (first | refine blk_drewN ?_ _ | refine blk_drew ?_ | refine blk_alloc ?_ _)); exact BK127.out) hb); have n1_ := Aside0.mk (below_step (by repeat (first | (with_reducible first | exact HB.out | apply below_alloc | apply pw_below_drewN | apply below_drew1 | refine below_set ?_ GE127.out) | exact HB.out)) hb); clear BK127; clear HB; have BK127 := n0_; have HB := n1_; clear n0_ n1_; (try clear hb); (try clear hb2); (try clear hk); (try clear hi)))
  go_ret2
  exact ⟨_, by first | rfl | (simp [errW_none, errW_some] <;> rfl) | (simp [*, errW_none, errW_some] <;> rfl), by first | exact Kd.R_nil _ _ _ _ _ | exact Kd.N_nil _ _ _ _ _ | exact Kd.V_nil _ _ _ _ _ | exact Kd.Q_nil _ _ _ _ _ | exact Kd.S_nil _ _ _ _ _, by repeat (first | (with_reducible first | exact HB.out | apply below_alloc | apply pw_below_drewN | apply below_drew1 | refine below_set ?_ GE127.out) | exact HB.out)⟩

end Go.Proofs.Ytnkaidaflegnlaa.G
