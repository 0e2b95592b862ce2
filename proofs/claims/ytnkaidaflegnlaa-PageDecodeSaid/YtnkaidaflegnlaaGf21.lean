/- The functions of the program that these laws reach, each as a plain Lean function, and the proof that the machine's call comes to it; no condition beyond those that each theorem names. Made by wip/xprint.py. -/
-- squeezed
import Derived.Test.YtnkaidaflegnlaaGx0
import Derived.Test.YtnkaidaflegnlaaGf17
import Derived.Test.YtnkaidaflegnlaaGf54
import Derived.Test.YtnkaidaflegnlaaGh
namespace Go.Proofs.Ytnkaidaflegnlaa.G
open Go.RowKit Go.Proofs.YtnkaidaflegnlaaW.PrintWords Go.Proofs.YtnkaidaflegnlaaW.PrintLast Go.Proofs.YtnkaidaflegnlaaW.PrintMore
attribute [local go_sem] max2_int min2_int max_two min_two max_three min_three max_four min_four   -- for this text's walks alone
set_option linter.unusedVariables false
set_option linter.unusedSimpArgs false

/-! ### marginaliaref20_Encode: function 21 -/
mutual
def marginaliaref20_Encode.j0 : Nat → List Int → Int → List (S39) → Int → List Int → Option (List Int × Int)
 | 0, _, _, _, _, _ => none
 | k + 1, x5, x204000, x204001, x204002, x204003 => marginaliaref20_Encode.l0 k x5 0 x204000 x204001 x204002 x204003
def marginaliaref20_Encode.l0 : Nat → List Int → Int → Int → List (S39) → Int → List Int → Option (List Int × Int)
 | 0, _, _, _, _, _, _ => none
 | k + 1, x5, x6, x204000, x204001, x204002, x204003 => if x6 < (x204001.length : Int) then (if 0 ≤ x6 then ((marginaliaref16_Put.f k x5 ((rd_T39 x204001 x6).f0) 8).bind fun t225 => (if x204000 = 1 then ((marginaliaref16_Put.f k t225 (IntKind.u64.wrap ((rd_T39 x204001 x6).f1)) 4).bind fun t228 => (marginaliaref20_Encode.j2 k t228 x6 x204000 x204001 x204002 x204003 ((rd_T39 x204001 x6).f0) ((rd_T39 x204001 x6).f1) ((rd_T39 x204001 x6).f2) ((rd_T39 x204001 x6).f3))) else (marginaliaref20_Encode.j2 k t225 x6 x204000 x204001 x204002 x204003 ((rd_T39 x204001 x6).f0) ((rd_T39 x204001 x6).f1) ((rd_T39 x204001 x6).f2) ((rd_T39 x204001 x6).f3)))) else (none)) else (if 0 ≤ (wrap64 (256 - (x5.length : Int))) then (if x5.length + (wrap64 (256 - (x5.length : Int)) : Int).toNat < 140737488355328 then (some ((x5 ++ List.replicate (wrap64 (256 - (x5.length : Int)) : Int).toNat 0), 0)) else (none)) else (none))
def marginaliaref20_Encode.j2 : Nat → List Int → Int → Int → List (S39) → Int → List Int → Int → Int → List Int → Int → Option (List Int × Int)
 | 0, _, _, _, _, _, _, _, _, _, _ => none
 | k + 1, x5, x6, x204000, x204001, x204002, x204003, x225000, x225001, x225002, x225003 => if x204000 = 1 then (if x225001 ≤ 40 then (if x5.length + x225002.length < 140737488355328 then (marginaliaref20_Encode.l0 k (x5 ++ x225002) (wrap64 (x6 + 1)) x204000 x204001 x204002 x204003) else (none)) else ((marginaliaref16_Put.f k x5 (IntKind.u64.wrap (x225003)) 4).bind fun t234 => (marginaliaref20_Encode.l0 k t234 (wrap64 (x6 + 1)) x204000 x204001 x204002 x204003))) else ((marginaliaref16_Put.f k x5 (IntKind.u64.wrap (x225003)) 4).bind fun t237 => (marginaliaref20_Encode.l0 k t237 (wrap64 (x6 + 1)) x204000 x204001 x204002 x204003))
end
def marginaliaref20_Encode.f (k : Nat) (a0_0 : Int) (l0_1 : List (S39)) (a0_2 : Int) (l0_3 : List Int) : Option (List Int × Int) := (marginaliaref20_Check.f k a0_0 l0_1 a0_2 l0_3).bind fun t204 => (if t204 = 0 then ((marginaliaref16_Put.f k ([] : List Int) (IntKind.u64.wrap (a0_0)) 1).bind fun t205 => (if a0_0 = 3 then ((marginaliaref16_Put.f k t205 (IntKind.u64.wrap (wrap64 (a0_2 + 1))) 4).bind fun t208 => ((marginaliaref16_Put.f k t208 (IntKind.u64.wrap ((l0_3.length : Int))) 2).bind fun t211 => (if t211.length + l0_3.length < 140737488355328 then (marginaliaref20_Encode.j0 k (t211 ++ l0_3) a0_0 l0_1 a0_2 l0_3) else (none)))) else ((marginaliaref16_Put.f k t205 (IntKind.u64.wrap ((l0_1.length : Int))) 2).bind fun t217 => (marginaliaref20_Encode.j0 k t217 a0_0 l0_1 a0_2 l0_3)))) else (some (([] : List Int), t204)))
theorem marginaliaref20_Encode.mono_l : ∀ k, (∀ y0 y1 y2 y3 y4, LeO (marginaliaref20_Encode.j0 k y0 y1 y2 y3 y4) (marginaliaref20_Encode.j0 (k + 1) y0 y1 y2 y3 y4)) ∧ (∀ y0 y1 y2 y3 y4 y5, LeO (marginaliaref20_Encode.l0 k y0 y1 y2 y3 y4 y5) (marginaliaref20_Encode.l0 (k + 1) y0 y1 y2 y3 y4 y5)) ∧ (∀ y0 y1 y2 y3 y4 y5 y6 y7 y8 y9, LeO (marginaliaref20_Encode.j2 k y0 y1 y2 y3 y4 y5 y6 y7 y8 y9) (marginaliaref20_Encode.j2 (k + 1) y0 y1 y2 y3 y4 y5 y6 y7 y8 y9))
 | 0 => ⟨fun _ _ _ _ _ r h => by simp [marginaliaref20_Encode.j0] at h, fun _ _ _ _ _ _ r h => by simp [marginaliaref20_Encode.l0] at h, fun _ _ _ _ _ _ _ _ _ _ r h => by simp [marginaliaref20_Encode.j2] at h⟩
 | k + 1 => by
  obtain ⟨ih0, ih1, ih2⟩ := marginaliaref20_Encode.mono_l k
  refine ⟨?_, ?_, ?_⟩
  ·intro y0 y1 y2 y3 y4
   unfold marginaliaref20_Encode.j0
   repeat' first
   | (with_reducible exact ih0 _ _ _ _ _)
   | (with_reducible exact ih1 _ _ _ _ _ _)
   | (with_reducible exact ih2 _ _ _ _ _ _ _ _ _ _)
   | (with_reducible exact marginaliaref16_Put.mono _ _ _ _)
   | (with_reducible exact marginaliaref20_Check.mono _ _ _ _ _)
   | (with_reducible exact LeO.refl _)
   | (with_reducible exact LeO.none _)
   | (with_reducible refine LeO.ite ?_ ?_)
   | (with_reducible refine LeO.bind ?_ (fun _ => ?_))
   | exact ih0 _ _ _ _ _
   | exact ih1 _ _ _ _ _ _
   | exact ih2 _ _ _ _ _ _ _ _ _ _
   | exact marginaliaref16_Put.mono _ _ _ _
   | exact marginaliaref20_Check.mono _ _ _ _ _
   | exact LeO.none _
   | refine LeO.ite ?_ ?_
   | refine LeO.bind ?_ (fun _ => ?_)
  ·intro y0 y1 y2 y3 y4 y5
   unfold marginaliaref20_Encode.l0
   repeat' first
   | (with_reducible exact ih0 _ _ _ _ _)
   | (with_reducible exact ih1 _ _ _ _ _ _)
   | (with_reducible exact ih2 _ _ _ _ _ _ _ _ _ _)
   | (with_reducible exact marginaliaref16_Put.mono _ _ _ _)
   | (with_reducible exact marginaliaref20_Check.mono _ _ _ _ _)
   | (with_reducible exact LeO.refl _)
   | (with_reducible exact LeO.none _)
   | (with_reducible refine LeO.ite ?_ ?_)
   | (with_reducible refine LeO.bind ?_ (fun _ => ?_))
   | exact ih0 _ _ _ _ _
   | exact ih1 _ _ _ _ _ _
   | exact ih2 _ _ _ _ _ _ _ _ _ _
   | exact marginaliaref16_Put.mono _ _ _ _
   | exact marginaliaref20_Check.mono _ _ _ _ _
   | exact LeO.none _
   | refine LeO.ite ?_ ?_
   | refine LeO.bind ?_ (fun _ => ?_)
  ·intro y0 y1 y2 y3 y4 y5 y6 y7 y8 y9
   unfold marginaliaref20_Encode.j2
   repeat' first
   | (with_reducible exact ih0 _ _ _ _ _)
   | (with_reducible exact ih1 _ _ _ _ _ _)
   | (with_reducible exact ih2 _ _ _ _ _ _ _ _ _ _)
   | (with_reducible exact marginaliaref16_Put.mono _ _ _ _)
   | (with_reducible exact marginaliaref20_Check.mono _ _ _ _ _)
   | (with_reducible exact LeO.refl _)
   | (with_reducible exact LeO.none _)
   | (with_reducible refine LeO.ite ?_ ?_)
   | (with_reducible refine LeO.bind ?_ (fun _ => ?_))
   | exact ih0 _ _ _ _ _
   | exact ih1 _ _ _ _ _ _
   | exact ih2 _ _ _ _ _ _ _ _ _ _
   | exact marginaliaref16_Put.mono _ _ _ _
   | exact marginaliaref20_Check.mono _ _ _ _ _
   | exact LeO.none _
   | refine LeO.ite ?_ ?_
   | refine LeO.bind ?_ (fun _ => ?_)
theorem marginaliaref20_Encode.mono : ∀ a0 a1 a2 a3 k, LeO (marginaliaref20_Encode.f k a0 a1 a2 a3) (marginaliaref20_Encode.f (k + 1) a0 a1 a2 a3) := by
 intro a0 a1 a2 a3 k
 obtain ⟨ih0, ih1, ih2⟩ := marginaliaref20_Encode.mono_l k
 unfold marginaliaref20_Encode.f
 repeat' first
   | (with_reducible exact ih0 _ _ _ _ _)
   | (with_reducible exact ih1 _ _ _ _ _ _)
   | (with_reducible exact ih2 _ _ _ _ _ _ _ _ _ _)
   | (with_reducible exact marginaliaref16_Put.mono _ _ _ _)
   | (with_reducible exact marginaliaref20_Check.mono _ _ _ _ _)
   | (with_reducible exact LeO.refl _)
   | (with_reducible exact LeO.none _)
   | (with_reducible refine LeO.ite ?_ ?_)
   | (with_reducible refine LeO.bind ?_ (fun _ => ?_))
   | exact ih0 _ _ _ _ _
   | exact ih1 _ _ _ _ _ _
   | exact ih2 _ _ _ _ _ _ _ _ _ _
   | exact marginaliaref16_Put.mono _ _ _ _
   | exact marginaliaref20_Check.mono _ _ _ _ _
   | exact LeO.none _
   | refine LeO.ite ?_ ?_
   | refine LeO.bind ?_ (fun _ => ?_)
set_option maxHeartbeats 8000000 in
set_option maxRecDepth 100000 in
theorem marginaliaref20_Encode.calls (k : Nat) (a0_0 : Int) (A0_1 : Option Addr) (c0_1 : Nat) (l0_1 : List (S39)) (a0_2 : Int) (A0_3 : Option Addr) (c0_3 : Nat) (l0_3 : List Int) (r1 : List Int) (r2 : Int) (w : World) (hr0_1 : Kd.C k39 w A0_1 l0_1.length l0_1) (hc0_1 : l0_1.length ≤ c0_1) (hr0_3 : Kd.C (Kd.int .u8) w A0_3 l0_3.length l0_3) (hc0_3 : l0_3.length ≤ c0_3) (h : marginaliaref20_Encode.f k a0_0 l0_1 a0_2 l0_3 = some (r1, r2)) :
  Calls Try.prog 21 #[.agg #[.int .i64 a0_0, .slice A0_1 l0_1.length c0_1, .int .i64 a0_2, .slice A0_3 l0_3.length c0_3]] w fun e w' => ∃ v0_ : Value, e = .returned (.tuple #[v0_, .int .i64 r2]) ∧ Kd.R (Kd.int .u8) 5 w' w.heap.size (fun _ => True) v0_ r1 ∧ Below w.heap.size w w' := by
 have hu26 := Try.underlying26
 have hu39 := Try.underlying39
 have HR0_1 := Aside0.mk hr0_1
 have HC0_1 := Aside0.mk hc0_1
 clear hr0_1 hc0_1
 have HR0_3 := Aside0.mk hr0_3
 have HC0_3 := Aside0.mk hc0_3
 clear hr0_3 hc0_3
 have HB := Aside0.mk (Below.refl w.heap.size w)
 have H : ((marginaliaref20_Check.f k a0_0 l0_1 a0_2 l0_3).bind fun t204 => (if t204 = 0 then ((marginaliaref16_Put.f k ([] : List Int) (IntKind.u64.wrap (a0_0)) 1).bind fun t205 => (if a0_0 = 3 then ((marginaliaref16_Put.f k t205 (IntKind.u64.wrap (wrap64 (a0_2 + 1))) 4).bind fun t208 => ((marginaliaref16_Put.f k t208 (IntKind.u64.wrap ((l0_3.length : Int))) 2).bind fun t211 => (if t211.length + l0_3.length < 140737488355328 then (marginaliaref20_Encode.j0 k (t211 ++ l0_3) a0_0 l0_1 a0_2 l0_3) else (none)))) else ((marginaliaref16_Put.f k t205 (IntKind.u64.wrap ((l0_1.length : Int))) 2).bind fun t217 => (marginaliaref20_Encode.j0 k t217 a0_0 l0_1 a0_2 l0_3)))) else (some (([] : List Int), t204)))) = some (r1, r2) := h
 clear h
 replace H := Option.bind_eq_some_iff.mp H
 obtain ⟨t204, A20, H⟩ := H
 replace H : (if t204 = 0 then ((marginaliaref16_Put.f k ([] : List Int) (IntKind.u64.wrap (a0_0)) 1).bind fun t205 => (if a0_0 = 3 then ((marginaliaref16_Put.f k t205 (IntKind.u64.wrap (wrap64 (a0_2 + 1))) 4).bind fun t208 => ((marginaliaref16_Put.f k t208 (IntKind.u64.wrap ((l0_3.length : Int))) 2).bind fun t211 => (if t211.length + l0_3.length < 140737488355328 then (marginaliaref20_Encode.j0 k (t211 ++ l0_3) a0_0 l0_1 a0_2 l0_3) else (none)))) else ((marginaliaref16_Put.f k t205 (IntKind.u64.wrap ((l0_1.length : Int))) 2).bind fun t217 => (marginaliaref20_Encode.j0 k t217 a0_0 l0_1 a0_2 l0_3)))) else (some (([] : List Int), t204))) = some (r1, r2) := H
 have A2 := Aside0.mk A20
 clear A20
 by_cases c3 : t204 = 0
 ·rw [if_pos c3] at H
  have c3b0 : (t204 == 0) = true := beq_iff_eq.mpr c3
  have c3b1 : (t204 != 0) = false := bne_eq_false_iff_eq.mpr c3
  clear c3
  replace H := Option.bind_eq_some_iff.mp H
  obtain ⟨t205, A40, H⟩ := H
  replace H : (if a0_0 = 3 then ((marginaliaref16_Put.f k t205 (IntKind.u64.wrap (wrap64 (a0_2 + 1))) 4).bind fun t208 => ((marginaliaref16_Put.f k t208 (IntKind.u64.wrap ((l0_3.length : Int))) 2).bind fun t211 => (if t211.length + l0_3.length < 140737488355328 then (marginaliaref20_Encode.j0 k (t211 ++ l0_3) a0_0 l0_1 a0_2 l0_3) else (none)))) else ((marginaliaref16_Put.f k t205 (IntKind.u64.wrap ((l0_1.length : Int))) 2).bind fun t217 => (marginaliaref20_Encode.j0 k t217 a0_0 l0_1 a0_2 l0_3))) = some (r1, r2) := H
  have A4 := Aside0.mk A40
  clear A40
  have HC5 := Aside0.mk H
  clear H
  go_enter Try.func21, Try.ntmps21
  go_upto_if 19 with (first | ((with_reducible refine gate_dst (N := 1) rfl ?_); refine box_event ?hg (N := 1) ?hd (cs := #[.int .i64 a0_0, .slice A0_1 l0_1.length c0_1, .int .i64 a0_2, .slice A0_3 l0_3.length c0_3]) (t := 26) ?hr ?_; (case hd => rfl); (case hg => rfl); (case hr => first | (go_simp; done) | (go_simp; rfl)); intro gb203 hg w6 hbox hb; have n0_ := Aside0.mk (below_step (by repeat (first | (with_reducible first | exact HB.out | apply below_alloc | apply pw_below_drewN | apply below_drew1) | exact HB.out)) hb); have n1_ := Aside0.mk (hbox); have n2_ := Aside0.mk ((by rw [hg]; exact (below_size (by repeat (first | (with_reducible first | exact HB.out | apply below_alloc | apply pw_below_drewN | apply below_drew1) | exact HB.out))) : w.heap.size ≤ gb203)); have n3_ := Aside0.mk ((by rw [hg]; exact (below_size (by repeat (first | (with_reducible first | exact HB.out | apply below_alloc | apply pw_below_drewN | apply below_drew1) | exact HB.out))) : w.heap.size ≤ gb203)); clear HB; have HB := n0_; have BK203 := n1_; have GW203 := n2_; have GE203 := n3_; clear n0_ n1_ n2_ n3_; clear hb hbox hg; have hcz7_0 : w6.cell? ⟨gb203, 0, none⟩ = some (.int .i64 a0_0) := (blk_cell BK203.out 0).trans rfl; have hcz7_1 : w6.cell? ⟨gb203, 1, none⟩ = some (.slice A0_1 l0_1.length c0_1) := (blk_cell BK203.out 1).trans rfl; have hcz7_2 : w6.cell? ⟨gb203, 2, none⟩ = some (.int .i64 a0_2) := (blk_cell BK203.out 2).trans rfl; have hcz7_3 : w6.cell? ⟨gb203, 3, none⟩ = some (.slice A0_3 l0_3.length c0_3) := (blk_cell BK203.out 3).trans rfl; have hfz7_0 := blk_frozen BK203.out 0; have hfz7_1 := blk_frozen BK203.out 1; have hfz7_2 := blk_frozen BK203.out 2; have hfz7_3 := blk_frozen BK203.out 3) | ((with_reducible refine gate_callee (f := 17) rfl ?_); refine goesL_ (some 9) rfl rfl Try.func17 (by kernel_rfl) rfl #[.agg #[.int .i64 a0_0, .slice A0_1 l0_1.length c0_1, .int .i64 a0_2, .slice A0_3 l0_3.length c0_3]] rfl (by (try simp only [List.map_toArray, List.map_cons, List.map_nil]); first | done | rfl | (simp only [List.length_drop, List.length_take]; rfl)) ?_; (with_reducible refine (marginaliaref20_Check.calls k a0_0 _ _ l0_1 a0_2 _ _ l0_3 t204 _ ?side1 ?side2 ?side3 ?side4 A2.out).mono ?_); (case side1 => repeat (first | exact (Kd.C_below HR0_1.out HB.out) | (with_reducible refine Kd.C_alloc ?_ _) | (with_reducible refine Kd.C_drewN ?_ _) | (with_reducible refine Kd.C_drew ?_))); (case side2 => exact HC0_1.out); (case side3 => repeat (first | exact (Kd.C_below HR0_3.out HB.out) | (with_reducible refine Kd.C_alloc ?_ _) | (with_reducible refine Kd.C_drewN ?_ _) | (with_reducible refine Kd.C_drew ?_))); (case side4 => exact HC0_3.out); rintro e w8 ⟨rfl, hb⟩; refine ⟨_, rfl, ?_⟩; have n0_ := Aside0.mk (blk_below (g := gb203) (o := .cells #[.int .i64 a0_0, .slice A0_1 l0_1.length c0_1, .int .i64 a0_2, .slice A0_3 l0_3.length c0_3] 26 (0, 0)) (by (with_reducible repeat (first | refine blk_drewN ?_ _ | refine blk_drew ?_ | refine blk_alloc ?_ _)); exact BK203.out) hb); have n1_ := Aside0.mk (below_step (by repeat (first | (with_reducible first | exact HB.out | apply below_alloc | apply pw_below_drewN | apply below_drew1 | refine below_set ?_ GE203.out) | exact HB.out)) hb); clear BK203; clear HB; have BK203 := n0_; have HB := n1_; clear n0_ n1_; (try clear hb); (try clear hb2); (try clear hk); (try clear hi); have hcz9_0 : w8.cell? ⟨gb203, 0, none⟩ = some (.int .i64 a0_0) := (blk_cell BK203.out 0).trans rfl; have hcz9_1 : w8.cell? ⟨gb203, 1, none⟩ = some (.slice A0_1 l0_1.length c0_1) := (blk_cell BK203.out 1).trans rfl; have hcz9_2 : w8.cell? ⟨gb203, 2, none⟩ = some (.int .i64 a0_2) := (blk_cell BK203.out 2).trans rfl; have hcz9_3 : w8.cell? ⟨gb203, 3, none⟩ = some (.slice A0_3 l0_3.length c0_3) := (blk_cell BK203.out 3).trans rfl; have hfz9_0 := blk_frozen BK203.out 0; have hfz9_1 := blk_frozen BK203.out 1; have hfz9_2 := blk_frozen BK203.out 2; have hfz9_3 := blk_frozen BK203.out 3) | ((with_reducible refine gate_callee (f := 54) rfl ?_); refine goesL_ (some 16) rfl rfl Try.func54 (by kernel_rfl) rfl #[.slice none 0 0, .int .u64 (IntKind.u64.wrap (a0_0)), .int .i64 1] rfl (by (try simp only [List.map_toArray, List.map_cons, List.map_nil]); first | done | rfl | (simp only [List.length_drop, List.length_take]; rfl)) ?_; (refine (marginaliaref16_Put.calls k (fun k_ => some k_ = (.slice none 0 0 : Value).ownBlock) (.slice none 0 0) ([] : List Int) (IntKind.u64.wrap (a0_0)) 1 t205 w _ ?side1 ?side2 A4.out).mono ?_); (case side1 => repeat (first | (with_reducible first | exact HB.out | apply below_alloc | apply pw_below_drewN | apply below_drew1 | refine below_set ?_ GE203.out) | exact HB.out)); (case side2 => exact Kd.R_nil _ _ _ _ _); rintro e w10 ⟨v206, rfl, ho0, hb, hkp⟩; refine ⟨_, rfl, ?_⟩; have n0_ := Aside0.mk (blk_kept (by (with_reducible repeat (first | refine blk_drewN ?_ _ | refine blk_drew ?_ | refine blk_alloc ?_ _)); exact BK203.out) hkp (fun hs_ => (fun e_ => by simp [Value.ownBlock] at e_) hs_)); have n1_ := Aside0.mk (Kd.R_mono (ok' := fun k_ => True) ho0 (fun k_ hk_ => trivial)); have n2_ := Aside0.mk (hb); clear BK203; clear HB; have BK203 := n0_; have HO207 := n1_; have HB := n2_; clear n0_ n1_ n2_; (try clear hb); (try clear hkp); (try clear ho0); have hcz11_0 : w10.cell? ⟨gb203, 0, none⟩ = some (.int .i64 a0_0) := (blk_cell BK203.out 0).trans rfl; have hcz11_1 : w10.cell? ⟨gb203, 1, none⟩ = some (.slice A0_1 l0_1.length c0_1) := (blk_cell BK203.out 1).trans rfl; have hcz11_2 : w10.cell? ⟨gb203, 2, none⟩ = some (.int .i64 a0_2) := (blk_cell BK203.out 2).trans rfl; have hcz11_3 : w10.cell? ⟨gb203, 3, none⟩ = some (.slice A0_3 l0_3.length c0_3) := (blk_cell BK203.out 3).trans rfl; have hfz11_0 := blk_frozen BK203.out 0; have hfz11_1 := blk_frozen BK203.out 1; have hfz11_2 := blk_frozen BK203.out 2; have hfz11_3 := blk_frozen BK203.out 3))
  (try simp only [Act.put, List.setIfInBounds_toArray, List.set_cons_zero, List.set_cons_succ])
  go_cut [5] (fun v5 wc => ∃ (kq : Nat) (x5_4 : List Int), Aside0 (marginaliaref20_Encode.j0 kq x5_4 a0_0 l0_1 a0_2 l0_3 = some (r1, r2)) ∧ Aside0 (kq ≤ k) ∧ Aside0 (Kd.R (Kd.int .u8) 5 wc w.heap.size (fun _ => True) v5 x5_4) ∧ Aside0 (wc.heap[gb203]? = some (.cells #[.int .i64 a0_0, (.slice A0_1 l0_1.length c0_1), .int .i64 a0_2, (.slice A0_3 l0_3.length c0_3)] 26 (0, 0))) ∧ Aside0 (Below w.heap.size w wc))
  case first =>
   have H := HC5.out
   clear HC5
   by_cases c12 : a0_0 = 3
   ·rw [if_pos c12] at H
    have c12b0 : (a0_0 == 3) = true := beq_iff_eq.mpr c12
    have c12b1 : (a0_0 != 3) = false := bne_eq_false_iff_eq.mpr c12
    clear c12
    (first | rw [c12b0] | (simp only [i64_w, i32_w]; rw [c12b0]) | skip)
    replace H := Option.bind_eq_some_iff.mp H
    obtain ⟨t208, A130, H⟩ := H
    replace H : ((marginaliaref16_Put.f k t208 (IntKind.u64.wrap ((l0_3.length : Int))) 2).bind fun t211 => (if t211.length + l0_3.length < 140737488355328 then (marginaliaref20_Encode.j0 k (t211 ++ l0_3) a0_0 l0_1 a0_2 l0_3) else (none))) = some (r1, r2) := H
    have A13 := Aside0.mk A130
    clear A130
    replace H := Option.bind_eq_some_iff.mp H
    obtain ⟨t211, A140, H⟩ := H
    replace H : (if t211.length + l0_3.length < 140737488355328 then (marginaliaref20_Encode.j0 k (t211 ++ l0_3) a0_0 l0_1 a0_2 l0_3) else (none)) = some (r1, r2) := H
    have A14 := Aside0.mk A140
    clear A140
    by_cases c15 : t211.length + l0_3.length < 140737488355328
    ·rw [if_pos c15] at H
     have LMc15 := Aside0.mk c15
     clear c15
     obtain ⟨y214, hy214⟩ : ∃ y_ : List Int, y_ = (t211 ++ l0_3) := ⟨_, rfl⟩
     replace H : (marginaliaref20_Encode.j0 k y214 a0_0 l0_1 a0_2 l0_3) = some (r1, r2) := by first | (rw [hy214]; with_reducible exact H) | (have H2_ := (Option.bind_some _ _).symm.trans H; rw [hy214]; with_reducible exact H2_) | (have H2_ := (Option.bind_some _ _).symm.trans H; with_reducible exact H2_) | with_reducible exact H | (rw [hy214]; exact H) | exact H
     have Ny214 := Aside0.mk hy214
     clear hy214
     have H' := Aside0.mk H
     clear H
     have hcz16_0 : w10.cell? ⟨gb203, 0, none⟩ = some (.int .i64 a0_0) := (blk_cell BK203.out 0).trans rfl
     have hcz16_1 : w10.cell? ⟨gb203, 1, none⟩ = some (.slice A0_1 l0_1.length c0_1) := (blk_cell BK203.out 1).trans rfl
     have hcz16_2 : w10.cell? ⟨gb203, 2, none⟩ = some (.int .i64 a0_2) := (blk_cell BK203.out 2).trans rfl
     have hcz16_3 : w10.cell? ⟨gb203, 3, none⟩ = some (.slice A0_3 l0_3.length c0_3) := (blk_cell BK203.out 3).trans rfl
     have hfz16_0 := blk_frozen BK203.out 0
     have hfz16_1 := blk_frozen BK203.out 1
     have hfz16_2 := blk_frozen BK203.out 2
     have hfz16_3 := blk_frozen BK203.out 3
     obtain ⟨Ao17, co17, eo17⟩ := Kd.R_slice HO207.out
     subst eo17
     go_wp2_with (first | ((with_reducible refine gate_callee (f := 54) rfl ?_); refine goesL_ (some 25) rfl rfl Try.func54 (by kernel_rfl) rfl #[.slice Ao17 t205.length co17, .int .u64 (IntKind.u64.wrap (wrap64 (a0_2 + 1))), .int .i64 4] rfl (by (try simp only [List.map_toArray, List.map_cons, List.map_nil]); first | done | rfl | (simp only [List.length_drop, List.length_take]; rfl)) ?_; (with_reducible refine (marginaliaref16_Put.calls k (fun k_ => some k_ = (.slice Ao17 t205.length co17 : Value).ownBlock) (.slice Ao17 t205.length co17) t205 (IntKind.u64.wrap (wrap64 (a0_2 + 1))) 4 t208 w _ ?side1 ?side2 A13.out).mono ?_); (case side1 => repeat (first | (with_reducible first | exact HB.out | apply below_alloc | apply pw_below_drewN | apply below_drew1 | refine below_set ?_ GE203.out) | exact HB.out)); (case side2 => exact Kd.R_tight rfl HO207.out); rintro e w18 ⟨v209, rfl, ho0, hb, hkp⟩; refine ⟨_, rfl, ?_⟩; have n0_ := Aside0.mk (blk_kept (by (with_reducible repeat (first | refine blk_drewN ?_ _ | refine blk_drew ?_ | refine blk_alloc ?_ _)); exact BK203.out) hkp (fun hs_ => (fun e_ => (Kd.R_ne HO207.out BK203.out (by decide)) e_) hs_)); have n1_ := Aside0.mk (Kd.R_mono (ok' := fun k_ => True) ho0 (fun k_ hk_ => trivial)); have n2_ := Aside0.mk (hb); clear BK203; clear HB; clear HO207; have BK203 := n0_; have HO210 := n1_; have HB := n2_; clear n0_ n1_ n2_; (try clear hb); (try clear hkp); (try clear ho0); have hcz19_0 : w18.cell? ⟨gb203, 0, none⟩ = some (.int .i64 a0_0) := (blk_cell BK203.out 0).trans rfl; have hcz19_1 : w18.cell? ⟨gb203, 1, none⟩ = some (.slice A0_1 l0_1.length c0_1) := (blk_cell BK203.out 1).trans rfl; have hcz19_2 : w18.cell? ⟨gb203, 2, none⟩ = some (.int .i64 a0_2) := (blk_cell BK203.out 2).trans rfl; have hcz19_3 : w18.cell? ⟨gb203, 3, none⟩ = some (.slice A0_3 l0_3.length c0_3) := (blk_cell BK203.out 3).trans rfl; have hfz19_0 := blk_frozen BK203.out 0; have hfz19_1 := blk_frozen BK203.out 1; have hfz19_2 := blk_frozen BK203.out 2; have hfz19_3 := blk_frozen BK203.out 3; obtain ⟨Ao20, co20, eo20⟩ := Kd.R_slice HO210.out; subst eo20) | ((with_reducible refine gate_callee (f := 54) rfl ?_); refine goesL_ (some 31) rfl rfl Try.func54 (by kernel_rfl) rfl #[.slice Ao20 t208.length co20, .int .u64 (IntKind.u64.wrap ((l0_3.length : Int))), .int .i64 2] rfl (by (try simp only [List.map_toArray, List.map_cons, List.map_nil]); first | done | rfl | (simp only [List.length_drop, List.length_take]; rfl)) ?_; (with_reducible refine (marginaliaref16_Put.calls k (fun k_ => some k_ = (.slice Ao20 t208.length co20 : Value).ownBlock) (.slice Ao20 t208.length co20) t208 (IntKind.u64.wrap ((l0_3.length : Int))) 2 t211 w _ ?side1 ?side2 A14.out).mono ?_); (case side1 => repeat (first | (with_reducible first | exact HB.out | apply below_alloc | apply pw_below_drewN | apply below_drew1 | refine below_set ?_ GE203.out) | exact HB.out)); (case side2 => exact Kd.R_tight rfl HO210.out); rintro e w21 ⟨v212, rfl, ho0, hb, hkp⟩; refine ⟨_, rfl, ?_⟩; have n0_ := Aside0.mk (blk_kept (by (with_reducible repeat (first | refine blk_drewN ?_ _ | refine blk_drew ?_ | refine blk_alloc ?_ _)); exact BK203.out) hkp (fun hs_ => (fun e_ => (Kd.R_ne HO210.out BK203.out (by decide)) e_) hs_)); have n1_ := Aside0.mk (Kd.R_mono (ok' := fun k_ => True) ho0 (fun k_ hk_ => trivial)); have n2_ := Aside0.mk (hb); clear BK203; clear HB; clear HO210; have BK203 := n0_; have HO213 := n1_; have HB := n2_; clear n0_ n1_ n2_; (try clear hb); (try clear hkp); (try clear ho0); have hcz22_0 : w21.cell? ⟨gb203, 0, none⟩ = some (.int .i64 a0_0) := (blk_cell BK203.out 0).trans rfl; have hcz22_1 : w21.cell? ⟨gb203, 1, none⟩ = some (.slice A0_1 l0_1.length c0_1) := (blk_cell BK203.out 1).trans rfl; have hcz22_2 : w21.cell? ⟨gb203, 2, none⟩ = some (.int .i64 a0_2) := (blk_cell BK203.out 2).trans rfl; have hcz22_3 : w21.cell? ⟨gb203, 3, none⟩ = some (.slice A0_3 l0_3.length c0_3) := (blk_cell BK203.out 3).trans rfl; have hfz22_0 := blk_frozen BK203.out 0; have hfz22_1 := blk_frozen BK203.out 1; have hfz22_2 := blk_frozen BK203.out 2; have hfz22_3 := blk_frozen BK203.out 3) | ((with_reducible refine gate_builtin (b := .append) (xs := #[.tmp 32, .tmp 34]) rfl ?_); at_builtin; refine Kd.R_append_rows (Kd.int .u8) (w0 := w) w.heap.size rfl (.tmp 32) (.tmp 34) 24 5 (.int .u8 0) 1 rfl Try.underlying24 info5 rfl (by decide) (by omega) v212 t211 l0_3 _ _ _ (fun _ => True) (fun _ => False) rfl rfl ?aO ?aR (fun _ _ h => h) (fun _ h => h.elim) ?aF ?aB ?aS ?aL ?_; (case aR => repeat (first | exact (Kd.C_below HR0_3.out HB.out) | (with_reducible refine Kd.C_alloc ?_ _) | (with_reducible refine Kd.C_drewN ?_ _) | (with_reducible refine Kd.C_drew ?_))); (case aB => exact (by repeat (first | (with_reducible first | exact HB.out | apply below_alloc | apply pw_below_drewN | apply below_drew1 | refine below_set ?_ GE203.out) | exact HB.out))); (case aF => exact (fun _ _ => trivial)); (case aO => exact (by (with_reducible repeat (first | apply Kd.R_alloc | apply Kd.R_drewN | apply Kd.R_drew)); exact HO213.out)); (case aS => exact (below_size (by repeat (first | (with_reducible first | exact HB.out | apply below_alloc | apply pw_below_drewN | apply below_drew1 | refine below_set ?_ GE203.out) | exact HB.out)))); (case aL => have := LMc15.out; omega); intro v215 w23 ho hb hg hat; rw [← Ny214.out] at ho; have n0_ := Aside0.mk (blk_grown (g := gb203) (o := .cells #[.int .i64 a0_0, .slice A0_1 l0_1.length c0_1, .int .i64 a0_2, .slice A0_3 l0_3.length c0_3] 26 (0, 0)) (by (with_reducible repeat (first | refine blk_drewN ?_ _ | refine blk_drew ?_ | refine blk_alloc ?_ _)); exact BK203.out) hg (Kd.R_ne HO213.out BK203.out (by decide))); have n1_ := Aside0.mk (hb); have n2_ := Aside0.mk (ho); clear BK203; clear HB; clear HO213; have BK203 := n0_; have HB := n1_; have HO216 := n2_; clear n0_ n1_ n2_; clear ho hb hg hat))
     go_meet
     case rel => exact ⟨_, (y214), H', ⟨by first | omega | exact Nat.le_refl _⟩, ⟨by (with_reducible repeat (first | apply Kd.R_alloc | apply Kd.R_drewN | apply Kd.R_drew)); exact HO216.out⟩, ⟨by (with_reducible repeat (first | refine blk_drewN ?_ _ | refine blk_drew ?_ | refine blk_alloc ?_ _)); exact BK203.out⟩, ⟨by repeat (first | (with_reducible first | exact HB.out | apply below_alloc | apply pw_below_drewN | apply below_drew1 | refine below_set ?_ GE203.out) | exact HB.out)⟩⟩
    ·rw [if_neg c15] at H
     exact absurd H (by simp)
   ·rw [if_neg c12] at H
    have c12b0 : (a0_0 == 3) = false := beq_eq_false_iff_ne.mpr c12
    have c12b1 : (a0_0 != 3) = true := bne_iff_ne.mpr c12
    (first | rw [c12b0] | (simp only [i64_w, i32_w]; rw [c12b0]) | skip)
    replace H := Option.bind_eq_some_iff.mp H
    obtain ⟨t217, A240, H⟩ := H
    replace H : (marginaliaref20_Encode.j0 k t217 a0_0 l0_1 a0_2 l0_3) = some (r1, r2) := H
    have A24 := Aside0.mk A240
    clear A240
    have H' := Aside0.mk H
    clear H
    have hcz25_0 : w10.cell? ⟨gb203, 0, none⟩ = some (.int .i64 a0_0) := (blk_cell BK203.out 0).trans rfl
    have hcz25_1 : w10.cell? ⟨gb203, 1, none⟩ = some (.slice A0_1 l0_1.length c0_1) := (blk_cell BK203.out 1).trans rfl
    have hcz25_2 : w10.cell? ⟨gb203, 2, none⟩ = some (.int .i64 a0_2) := (blk_cell BK203.out 2).trans rfl
    have hcz25_3 : w10.cell? ⟨gb203, 3, none⟩ = some (.slice A0_3 l0_3.length c0_3) := (blk_cell BK203.out 3).trans rfl
    have hfz25_0 := blk_frozen BK203.out 0
    have hfz25_1 := blk_frozen BK203.out 1
    have hfz25_2 := blk_frozen BK203.out 2
    have hfz25_3 := blk_frozen BK203.out 3
    obtain ⟨Ao26, co26, eo26⟩ := Kd.R_slice HO207.out
    subst eo26
    go_wp2_with (first | ((with_reducible refine gate_callee (f := 54) rfl ?_); refine goesL_ (some 41) rfl rfl Try.func54 (by kernel_rfl) rfl #[.slice Ao26 t205.length co26, .int .u64 (IntKind.u64.wrap ((l0_1.length : Int))), .int .i64 2] rfl (by (try simp only [List.map_toArray, List.map_cons, List.map_nil]); first | done | rfl | (simp only [List.length_drop, List.length_take]; rfl)) ?_; (with_reducible refine (marginaliaref16_Put.calls k (fun k_ => some k_ = (.slice Ao26 t205.length co26 : Value).ownBlock) (.slice Ao26 t205.length co26) t205 (IntKind.u64.wrap ((l0_1.length : Int))) 2 t217 w _ ?side1 ?side2 A24.out).mono ?_); (case side1 => repeat (first | (with_reducible first | exact HB.out | apply below_alloc | apply pw_below_drewN | apply below_drew1 | refine below_set ?_ GE203.out) | exact HB.out)); (case side2 => exact Kd.R_tight rfl HO207.out); rintro e w27 ⟨v218, rfl, ho0, hb, hkp⟩; refine ⟨_, rfl, ?_⟩; have n0_ := Aside0.mk (blk_kept (by (with_reducible repeat (first | refine blk_drewN ?_ _ | refine blk_drew ?_ | refine blk_alloc ?_ _)); exact BK203.out) hkp (fun hs_ => (fun e_ => (Kd.R_ne HO207.out BK203.out (by decide)) e_) hs_)); have n1_ := Aside0.mk (Kd.R_mono (ok' := fun k_ => True) ho0 (fun k_ hk_ => trivial)); have n2_ := Aside0.mk (hb); clear BK203; clear HB; clear HO207; have BK203 := n0_; have HO219 := n1_; have HB := n2_; clear n0_ n1_ n2_; (try clear hb); (try clear hkp); (try clear ho0)))
    go_meet
    case rel => exact ⟨_, (t217), H', ⟨by first | omega | exact Nat.le_refl _⟩, ⟨by (with_reducible repeat (first | apply Kd.R_alloc | apply Kd.R_drewN | apply Kd.R_drew)); exact HO219.out⟩, ⟨by (with_reducible repeat (first | refine blk_drewN ?_ _ | refine blk_drew ?_ | refine blk_alloc ?_ _)); exact BK203.out⟩, ⟨by repeat (first | (with_reducible first | exact HB.out | apply below_alloc | apply pw_below_drewN | apply below_drew1 | refine below_set ?_ GE203.out) | exact HB.out)⟩⟩
  case rest =>
   clear HC5
   (try clear c1); (try clear c2); (try clear p2); (try clear c3); (try clear c3b0); (try clear c3b1); (try clear c5); (try clear p6); (try clear c12); (try clear c12b0); (try clear c12b1); (try clear c15); (try clear c17); (try clear c21); (try clear hcz11_0); (try clear hcz11_1); (try clear hcz11_2); (try clear hcz11_3); (try clear hcz16_0); (try clear hcz16_1); (try clear hcz16_2); (try clear hcz16_3); (try clear hcz19_0); (try clear hcz19_1); (try clear hcz19_2); (try clear hcz19_3); (try clear hcz22_0); (try clear hcz22_1); (try clear hcz22_2); (try clear hcz22_3); (try clear hcz25_0); (try clear hcz25_1); (try clear hcz25_2); (try clear hcz25_3); (try clear hcz7_0); (try clear hcz7_1); (try clear hcz7_2); (try clear hcz7_3); (try clear hcz9_0); (try clear hcz9_1); (try clear hcz9_2); (try clear hcz9_3); (try clear hfz11_0); (try clear hfz11_1); (try clear hfz11_2); (try clear hfz11_3); (try clear hfz16_0); (try clear hfz16_1); (try clear hfz16_2); (try clear hfz16_3); (try clear hfz19_0); (try clear hfz19_1); (try clear hfz19_2); (try clear hfz19_3); (try clear hfz22_0); (try clear hfz22_1); (try clear hfz22_2); (try clear hfz22_3); (try clear hfz25_0); (try clear hfz25_1); (try clear hfz25_2); (try clear hfz25_3); (try clear hfz7_0); (try clear hfz7_1); (try clear hfz7_2); (try clear hfz7_3); (try clear hfz9_0); (try clear hfz9_1); (try clear hfz9_2); (try clear hfz9_3)
   obtain ⟨kq, x5_4, HA, HJ4, HO_5, BK203, HB⟩ := hcut
   cases kq with
   | zero => exact absurd HA.out (by simp [marginaliaref20_Encode.j0])
   | succ kj4 =>
    have H := HA.out
    clear HA
    simp only [marginaliaref20_Encode.j0] at H
    have H' := Aside0.mk H
    clear H
    go_wp2
    go_loopg [5, 6] kj4 (fun kq v5 v6 w' => ∃ (x5_2 : List Int) (x6_2 : Int), v6 = .int .i64 x6_2 ∧ Aside0 (marginaliaref20_Encode.l0 kq x5_2 x6_2 a0_0 l0_1 a0_2 l0_3 = some (r1, r2)) ∧ Aside0 (kq ≤ kj4) ∧ Aside0 (Kd.R (Kd.int .u8) 5 w' w.heap.size (fun _ => True) v5 x5_2) ∧ Aside0 (w'.heap[gb203]? = some (.cells #[.int .i64 a0_0, (.slice A0_1 l0_1.length c0_1), .int .i64 a0_2, (.slice A0_3 l0_3.length c0_3)] 26 (0, 0))) ∧ Aside0 (Below w.heap.size w w'))
    case atStart => exact ⟨(x5_4), (0), (by first | rfl | (simp; done) | (simp [*]; done)), H', ⟨Nat.le_refl _⟩, ⟨by (with_reducible repeat (first | apply Kd.R_alloc | apply Kd.R_drewN | apply Kd.R_drew)); exact HO_5.out⟩, ⟨by (with_reducible repeat (first | refine blk_drewN ?_ _ | refine blk_drew ?_ | refine blk_alloc ?_ _)); exact BK203.out⟩, ⟨by repeat (first | (with_reducible first | exact HB.out | apply below_alloc | apply pw_below_drewN | apply below_drew1 | refine below_set ?_ GE203.out) | exact HB.out)⟩⟩
    case round =>
     clear H'
     (try clear c1); (try clear c2); (try clear p2); (try clear c3); (try clear c3b0); (try clear c3b1); (try clear c5); (try clear p6); (try clear c12); (try clear c12b0); (try clear c12b1); (try clear c15); (try clear c17); (try clear c21); (try clear hcz11_0); (try clear hcz11_1); (try clear hcz11_2); (try clear hcz11_3); (try clear hcz16_0); (try clear hcz16_1); (try clear hcz16_2); (try clear hcz16_3); (try clear hcz19_0); (try clear hcz19_1); (try clear hcz19_2); (try clear hcz19_3); (try clear hcz22_0); (try clear hcz22_1); (try clear hcz22_2); (try clear hcz22_3); (try clear hcz25_0); (try clear hcz25_1); (try clear hcz25_2); (try clear hcz25_3); (try clear hcz7_0); (try clear hcz7_1); (try clear hcz7_2); (try clear hcz7_3); (try clear hcz9_0); (try clear hcz9_1); (try clear hcz9_2); (try clear hcz9_3); (try clear hfz11_0); (try clear hfz11_1); (try clear hfz11_2); (try clear hfz11_3); (try clear hfz16_0); (try clear hfz16_1); (try clear hfz16_2); (try clear hfz16_3); (try clear hfz19_0); (try clear hfz19_1); (try clear hfz19_2); (try clear hfz19_3); (try clear hfz22_0); (try clear hfz22_1); (try clear hfz22_2); (try clear hfz22_3); (try clear hfz25_0); (try clear hfz25_1); (try clear hfz25_2); (try clear hfz25_3); (try clear hfz7_0); (try clear hfz7_1); (try clear hfz7_2); (try clear hfz7_3); (try clear hfz9_0); (try clear hfz9_1); (try clear hfz9_2); (try clear hfz9_3); (try clear p2); (try clear p6)
     obtain ⟨x5_2, x6_2, rfl, HA, HK2, HO_5, BK203, HB⟩ := hrel
     cases gk with
     | zero => exact absurd HA.out (by simp [marginaliaref20_Encode.l0])
     | succ k2 =>
      have H := HA.out
      clear HA
      simp only [marginaliaref20_Encode.l0] at H
      by_cases c28 : x6_2 < (l0_1.length : Int)
      ·rw [if_pos c28] at H
       have c28b0 : decide (x6_2 < (l0_1.length : Int)) = true := decide_eq_true c28
       clear c28
       by_cases c29 : 0 ≤ x6_2
       ·rw [if_pos c29] at H
        have c29b0 : decide (0 ≤ x6_2) = true := decide_eq_true c29
        clear c29
        replace H := Option.bind_eq_some_iff.mp H
        obtain ⟨t225, A300, H⟩ := H
        replace H : (if a0_0 = 1 then ((marginaliaref16_Put.f k2 t225 (IntKind.u64.wrap ((rd_T39 l0_1 x6_2).f1)) 4).bind fun t228 => (marginaliaref20_Encode.j2 k2 t228 x6_2 a0_0 l0_1 a0_2 l0_3 ((rd_T39 l0_1 x6_2).f0) ((rd_T39 l0_1 x6_2).f1) ((rd_T39 l0_1 x6_2).f2) ((rd_T39 l0_1 x6_2).f3))) else (marginaliaref20_Encode.j2 k2 t225 x6_2 a0_0 l0_1 a0_2 l0_3 ((rd_T39 l0_1 x6_2).f0) ((rd_T39 l0_1 x6_2).f1) ((rd_T39 l0_1 x6_2).f2) ((rd_T39 l0_1 x6_2).f3))) = some (r1, r2) := H
        have A30 := Aside0.mk A300
        clear A300
        have HC31 := Aside0.mk H
        clear H
        have hcz32_0 : wr.cell? ⟨gb203, 0, none⟩ = some (.int .i64 a0_0) := (blk_cell BK203.out 0).trans rfl
        have hcz32_1 : wr.cell? ⟨gb203, 1, none⟩ = some (.slice A0_1 l0_1.length c0_1) := (blk_cell BK203.out 1).trans rfl
        have hcz32_2 : wr.cell? ⟨gb203, 2, none⟩ = some (.int .i64 a0_2) := (blk_cell BK203.out 2).trans rfl
        have hcz32_3 : wr.cell? ⟨gb203, 3, none⟩ = some (.slice A0_3 l0_3.length c0_3) := (blk_cell BK203.out 3).trans rfl
        have hfz32_0 := blk_frozen BK203.out 0
        have hfz32_1 := blk_frozen BK203.out 1
        have hfz32_2 := blk_frozen BK203.out 2
        have hfz32_3 := blk_frozen BK203.out 3
        have p223 : 0 ≤ (x6_2 : Int) := of_decide_eq_true (by first | (with_reducible assumption) | assumption)
        have q223 : x6_2 < (l0_1.length : Int) := of_decide_eq_true (by first | (with_reducible assumption) | assumption)
        obtain ⟨ad223, A223_2, c223_2, e223, hx223_0, hx223_1, hx223_2, hx223_3, hl223_2, hi223_2⟩ := at_T39 HR0_1.out x6_2 p223 q223
        cases e223
        replace hx223_0 := (HB.out.cell (World.block_lt_of_cell? w _ hx223_0)).trans hx223_0
        replace hx223_1 := (HB.out.cell (World.block_lt_of_cell? w _ hx223_1)).trans hx223_1
        replace hx223_2 := (HB.out.cell (World.block_lt_of_cell? w _ hx223_2)).trans hx223_2
        replace hx223_3 := (HB.out.cell (World.block_lt_of_cell? w _ hx223_3)).trans hx223_3
        have HR223_2 := Aside0.mk hi223_2
        have HC223_2 := Aside0.mk hl223_2
        clear hi223_2 hl223_2
        replace p223 := eq_true p223
        replace q223 := eq_true q223
        go_upto_if 60 with (first | ((with_reducible refine gate_dst (N := 7) rfl ?_); refine box_event ?hg (N := 7) ?hd (cs := #[.int .u64 0, .int .i64 0, .slice none 0 0, .int .i64 0]) (t := 39) ?hr ?_; (case hd => rfl); (case hg => rfl); (case hr => first | (go_simp; done) | (go_simp; rfl)); intro gb224 hg w33 hbox hb; have n0_ := Aside0.mk (Kd.R_below (by (with_reducible repeat (first | apply Kd.R_alloc | apply Kd.R_drewN | apply Kd.R_drew)); exact HO_5.out) hb); have n1_ := Aside0.mk (blk_below (g := gb203) (o := .cells #[.int .i64 a0_0, .slice (some ad223) l0_1.length c0_1, .int .i64 a0_2, .slice A0_3 l0_3.length c0_3] 26 (0, 0)) (by (with_reducible repeat (first | refine blk_drewN ?_ _ | refine blk_drew ?_ | refine blk_alloc ?_ _)); exact BK203.out) hb); have n2_ := Aside0.mk (below_step (by repeat (first | (with_reducible first | exact HB.out | apply below_alloc | apply pw_below_drewN | apply below_drew1 | refine below_set ?_ GE203.out) | exact HB.out)) hb); have n3_ := Aside0.mk (hbox); have n4_ := Aside0.mk ((by rw [hg]; exact (below_size (by repeat (first | (with_reducible first | exact HB.out | apply below_alloc | apply pw_below_drewN | apply below_drew1 | refine below_set ?_ GE203.out) | exact HB.out))) : w.heap.size ≤ gb224)); have n5_ := Aside0.mk ((by rw [hg]; exact (below_size (by repeat (first | (with_reducible first | exact HB.out | apply below_alloc | apply pw_below_drewN | apply below_drew1 | refine below_set ?_ GE203.out) | exact HB.out))) : w.heap.size ≤ gb224)); have n6_ := Aside0.mk ((by rw [hg]; exact Nat.ne_of_lt (blk_lt (g := gb203) (o := .cells #[.int .i64 a0_0, .slice (some ad223) l0_1.length c0_1, .int .i64 a0_2, .slice A0_3 l0_3.length c0_3] 26 (0, 0)) (by (with_reducible repeat (first | refine blk_drewN ?_ _ | refine blk_drew ?_ | refine blk_alloc ?_ _)); exact BK203.out)) : gb203 ≠ gb224)); have n7_ := Aside0.mk ((by rw [hg]; exact Nat.ne_of_gt (blk_lt (g := gb203) (o := .cells #[.int .i64 a0_0, .slice (some ad223) l0_1.length c0_1, .int .i64 a0_2, .slice A0_3 l0_3.length c0_3] 26 (0, 0)) (by (with_reducible repeat (first | refine blk_drewN ?_ _ | refine blk_drew ?_ | refine blk_alloc ?_ _)); exact BK203.out)) : gb224 ≠ gb203)); clear HO_5; clear BK203; clear HB; have HO_5 := n0_; have BK203 := n1_; have HB := n2_; have BK224 := n3_; have GW224 := n4_; have GE224 := n5_; have NB203_224 := n6_; have NB224_203 := n7_; clear n0_ n1_ n2_ n3_ n4_ n5_ n6_ n7_; clear hb hbox hg; have hnb34 := NB224_203.out; have hnc34 := NB203_224.out; have hcz35_0 : w33.cell? ⟨gb224, 0, none⟩ = some (.int .u64 0) := (blk_cell BK224.out 0).trans rfl; have hcz35_1 : w33.cell? ⟨gb224, 1, none⟩ = some (.int .i64 0) := (blk_cell BK224.out 1).trans rfl; have hcz35_2 : w33.cell? ⟨gb224, 2, none⟩ = some (.slice none 0 0) := (blk_cell BK224.out 2).trans rfl; have hcz35_3 : w33.cell? ⟨gb224, 3, none⟩ = some (.int .i64 0) := (blk_cell BK224.out 3).trans rfl; have hfz35_0 := blk_frozen BK224.out 0; have hfz35_1 := blk_frozen BK224.out 1; have hfz35_2 := blk_frozen BK224.out 2; have hfz35_3 := blk_frozen BK224.out 3) | ((with_reducible refine gate_store (t := 39) (p := 7) rfl ?_); refine store_event (t := 39) (p := 7) (v := ?vo_w36) (w1 := ((((w33.setCell ⟨gb224, 0, none⟩ (.int .u64 ((rd_T39 l0_1 x6_2).f0))).setCell ⟨gb224, 1, none⟩ (.int .i64 ((rd_T39 l0_1 x6_2).f1))).setCell ⟨gb224, 2, none⟩ (.slice A223_2 ((rd_T39 l0_1 x6_2).f2).length c223_2)).setCell ⟨gb224, 3, none⟩ (.int .i64 ((rd_T39 l0_1 x6_2).f3)))) ?hg ?ho ?hn ?hr ?_; (case ho => rfl); (case hg => rfl); (case hn => rfl); (case hr => first | (go_simp; done) | (go_simp; rfl)); intro w36 hw; have n0_ : Aside0 (Kd.R (Kd.int .u8) 5 w36 w.heap.size (fun _ => True) u5 x5_2) := ⟨(by rw [hw]; exact (by (with_reducible repeat (first | apply Kd.R_alloc | apply Kd.R_drewN | apply Kd.R_drew)); exact Kd.R_mono (Kd.R_far (p := ⟨gb224, 3, none⟩) (Kd.R_far (p := ⟨gb224, 2, none⟩) (Kd.R_far (p := ⟨gb224, 1, none⟩) (Kd.R_far (p := ⟨gb224, 0, none⟩) (Kd.R_types HO_5.out BK224.out (by decide)) (fun _ hk => hk.2) (.int .u64 ((rd_T39 l0_1 x6_2).f0))) (fun _ hk => hk.2) (.int .i64 ((rd_T39 l0_1 x6_2).f1))) (fun _ hk => hk.2) (.slice A223_2 ((rd_T39 l0_1 x6_2).f2).length c223_2)) (fun _ hk => hk.2) (.int .i64 ((rd_T39 l0_1 x6_2).f3))) (fun _ hk => trivial)))⟩; have n1_ : Aside0 (w36.heap[gb203]? = some (.cells #[.int .i64 a0_0, .slice (some ad223) l0_1.length c0_1, .int .i64 a0_2, .slice A0_3 l0_3.length c0_3] 26 (0, 0))) := ⟨(by rw [hw]; exact (by (with_reducible repeat (first | refine blk_drewN ?_ _ | refine blk_drew ?_ | refine blk_alloc ?_ _)); refine bfar4 NB203_224.out ?_; (with_reducible repeat (first | refine blk_drewN ?_ _ | refine blk_drew ?_ | refine blk_alloc ?_ _)); exact BK203.out))⟩; have n2_ : Aside0 (w36.heap[gb224]? = some (.cells #[.int .u64 ((rd_T39 l0_1 x6_2).f0), .int .i64 ((rd_T39 l0_1 x6_2).f1), .slice A223_2 ((rd_T39 l0_1 x6_2).f2).length c223_2, .int .i64 ((rd_T39 l0_1 x6_2).f3)] 39 (0, 0))) := ⟨(by rw [hw]; exact (by (with_reducible repeat (first | refine blk_drewN ?_ _ | refine blk_drew ?_ | refine blk_alloc ?_ _)); refine blk_put (cs := #[.int .u64 ((rd_T39 l0_1 x6_2).f0), .int .i64 ((rd_T39 l0_1 x6_2).f1), .slice A223_2 ((rd_T39 l0_1 x6_2).f2).length c223_2, .int .i64 0]) ?_ 3 _ rfl; (with_reducible repeat (first | refine blk_drewN ?_ _ | refine blk_drew ?_ | refine blk_alloc ?_ _)); refine blk_put (cs := #[.int .u64 ((rd_T39 l0_1 x6_2).f0), .int .i64 ((rd_T39 l0_1 x6_2).f1), .slice none 0 0, .int .i64 0]) ?_ 2 _ rfl; (with_reducible repeat (first | refine blk_drewN ?_ _ | refine blk_drew ?_ | refine blk_alloc ?_ _)); refine blk_put (cs := #[.int .u64 ((rd_T39 l0_1 x6_2).f0), .int .i64 0, .slice none 0 0, .int .i64 0]) ?_ 1 _ rfl; (with_reducible repeat (first | refine blk_drewN ?_ _ | refine blk_drew ?_ | refine blk_alloc ?_ _)); refine blk_put (cs := #[.int .u64 0, .int .i64 0, .slice none 0 0, .int .i64 0]) ?_ 0 _ rfl; (with_reducible repeat (first | refine blk_drewN ?_ _ | refine blk_drew ?_ | refine blk_alloc ?_ _)); exact BK224.out))⟩; have n3_ : Aside0 (Below w.heap.size w w36) := ⟨(by rw [hw]; exact (by repeat (first | (with_reducible first | exact HB.out | apply below_alloc | apply pw_below_drewN | apply below_drew1 | refine below_set ?_ GE203.out | refine below_set ?_ GE224.out) | exact HB.out)))⟩; clear hw; clear HO_5; clear BK203; clear BK224; clear HB; have HO_5 := n0_; have BK203 := n1_; have BK224 := n2_; have HB := n3_; clear n0_ n1_ n2_ n3_; have hcz37_0 : w36.cell? ⟨gb224, 0, none⟩ = some (.int .u64 ((rd_T39 l0_1 x6_2).f0)) := (blk_cell BK224.out 0).trans rfl; have hcz37_1 : w36.cell? ⟨gb224, 1, none⟩ = some (.int .i64 ((rd_T39 l0_1 x6_2).f1)) := (blk_cell BK224.out 1).trans rfl; have hcz37_2 : w36.cell? ⟨gb224, 2, none⟩ = some (.slice A223_2 ((rd_T39 l0_1 x6_2).f2).length c223_2) := (blk_cell BK224.out 2).trans rfl; have hcz37_3 : w36.cell? ⟨gb224, 3, none⟩ = some (.int .i64 ((rd_T39 l0_1 x6_2).f3)) := (blk_cell BK224.out 3).trans rfl; have hfz37_0 := blk_frozen BK224.out 0; have hfz37_1 := blk_frozen BK224.out 1; have hfz37_2 := blk_frozen BK224.out 2; have hfz37_3 := blk_frozen BK224.out 3; obtain ⟨Ao38, co38, eo38⟩ := Kd.R_slice HO_5.out; subst eo38) | ((with_reducible refine gate_callee (f := 54) rfl ?_); refine goesL_ (some 57) rfl rfl Try.func54 (by kernel_rfl) rfl #[.slice Ao38 x5_2.length co38, .int .u64 ((rd_T39 l0_1 x6_2).f0), .int .i64 8] rfl (by (try simp only [List.map_toArray, List.map_cons, List.map_nil]); first | done | rfl | (simp only [List.length_drop, List.length_take]; rfl)) ?_; (with_reducible refine (marginaliaref16_Put.calls k2 (fun k_ => some k_ = (.slice Ao38 x5_2.length co38 : Value).ownBlock) (.slice Ao38 x5_2.length co38) x5_2 ((rd_T39 l0_1 x6_2).f0) 8 t225 w _ ?side1 ?side2 A30.out).mono ?_); (case side1 => repeat (first | (with_reducible first | exact HB.out | apply below_alloc | apply pw_below_drewN | apply below_drew1 | refine below_set ?_ GE203.out | refine below_set ?_ GE224.out) | exact HB.out)); (case side2 => exact Kd.R_tight rfl HO_5.out); rintro e w39 ⟨v226, rfl, ho0, hb, hkp⟩; refine ⟨_, rfl, ?_⟩; have n0_ := Aside0.mk (blk_kept (by (with_reducible repeat (first | refine blk_drewN ?_ _ | refine blk_drew ?_ | refine blk_alloc ?_ _)); exact BK203.out) hkp (fun hs_ => (fun e_ => (Kd.R_ne HO_5.out BK203.out (by decide)) e_) hs_)); have n1_ := Aside0.mk (blk_kept (by (with_reducible repeat (first | refine blk_drewN ?_ _ | refine blk_drew ?_ | refine blk_alloc ?_ _)); exact BK224.out) hkp (fun hs_ => (fun e_ => (Kd.R_ne HO_5.out BK224.out (by decide)) e_) hs_)); have n2_ := Aside0.mk (Kd.R_mono (ok' := fun k_ => True) ho0 (fun k_ hk_ => trivial)); have n3_ := Aside0.mk (hb); clear BK203; clear BK224; clear HB; clear HO_5; have BK203 := n0_; have BK224 := n1_; have HO227 := n2_; have HB := n3_; clear n0_ n1_ n2_ n3_; (try clear hb); (try clear hkp); (try clear ho0); have hcz40_0 : w39.cell? ⟨gb203, 0, none⟩ = some (.int .i64 a0_0) := (blk_cell BK203.out 0).trans rfl; have hcz40_1 : w39.cell? ⟨gb203, 1, none⟩ = some (.slice (some ad223) l0_1.length c0_1) := (blk_cell BK203.out 1).trans rfl; have hcz40_2 : w39.cell? ⟨gb203, 2, none⟩ = some (.int .i64 a0_2) := (blk_cell BK203.out 2).trans rfl; have hcz40_3 : w39.cell? ⟨gb203, 3, none⟩ = some (.slice A0_3 l0_3.length c0_3) := (blk_cell BK203.out 3).trans rfl; have hfz40_0 := blk_frozen BK203.out 0; have hfz40_1 := blk_frozen BK203.out 1; have hfz40_2 := blk_frozen BK203.out 2; have hfz40_3 := blk_frozen BK203.out 3))
        (try simp only [Act.put, List.setIfInBounds_toArray, List.set_cons_zero, List.set_cons_succ])
        go_cut [5] (fun v5 wc => ∃ (kq : Nat) (x5_30 : List Int), Aside0 (marginaliaref20_Encode.j2 kq x5_30 x6_2 a0_0 l0_1 a0_2 l0_3 ((rd_T39 l0_1 x6_2).f0) ((rd_T39 l0_1 x6_2).f1) ((rd_T39 l0_1 x6_2).f2) ((rd_T39 l0_1 x6_2).f3) = some (r1, r2)) ∧ Aside0 (kq ≤ k2) ∧ Aside0 (Kd.R (Kd.int .u8) 5 wc w.heap.size (fun _ => True) v5 x5_30) ∧ Aside0 (wc.heap[gb203]? = some (.cells #[.int .i64 a0_0, (.slice (some ad223) l0_1.length c0_1), .int .i64 a0_2, (.slice A0_3 l0_3.length c0_3)] 26 (0, 0))) ∧ Aside0 (wc.heap[gb224]? = some (.cells #[.int .u64 ((rd_T39 l0_1 x6_2).f0), .int .i64 ((rd_T39 l0_1 x6_2).f1), (.slice A223_2 ((rd_T39 l0_1 x6_2).f2).length c223_2), .int .i64 ((rd_T39 l0_1 x6_2).f3)] 39 (0, 0))) ∧ Aside0 (Below w.heap.size w wc))
        case first =>
         have H := HC31.out
         clear HC31
         by_cases c41 : a0_0 = 1
         ·rw [if_pos c41] at H
          have c41b0 : (a0_0 == 1) = true := beq_iff_eq.mpr c41
          have c41b1 : (a0_0 != 1) = false := bne_eq_false_iff_eq.mpr c41
          clear c41
          (first | rw [c41b0] | (simp only [i64_w, i32_w]; rw [c41b0]) | skip)
          replace H := Option.bind_eq_some_iff.mp H
          obtain ⟨t228, A420, H⟩ := H
          replace H : (marginaliaref20_Encode.j2 k2 t228 x6_2 a0_0 l0_1 a0_2 l0_3 ((rd_T39 l0_1 x6_2).f0) ((rd_T39 l0_1 x6_2).f1) ((rd_T39 l0_1 x6_2).f2) ((rd_T39 l0_1 x6_2).f3)) = some (r1, r2) := H
          have A42 := Aside0.mk A420
          clear A420
          have H' := Aside0.mk H
          clear H
          have hnb43 := NB224_203.out
          have hnc43 := NB203_224.out
          have hcz44_0 : w39.cell? ⟨gb224, 0, none⟩ = some (.int .u64 ((rd_T39 l0_1 x6_2).f0)) := (blk_cell BK224.out 0).trans rfl
          have hcz44_1 : w39.cell? ⟨gb224, 1, none⟩ = some (.int .i64 ((rd_T39 l0_1 x6_2).f1)) := (blk_cell BK224.out 1).trans rfl
          have hcz44_2 : w39.cell? ⟨gb224, 2, none⟩ = some (.slice A223_2 ((rd_T39 l0_1 x6_2).f2).length c223_2) := (blk_cell BK224.out 2).trans rfl
          have hcz44_3 : w39.cell? ⟨gb224, 3, none⟩ = some (.int .i64 ((rd_T39 l0_1 x6_2).f3)) := (blk_cell BK224.out 3).trans rfl
          have hfz44_0 := blk_frozen BK224.out 0
          have hfz44_1 := blk_frozen BK224.out 1
          have hfz44_2 := blk_frozen BK224.out 2
          have hfz44_3 := blk_frozen BK224.out 3
          obtain ⟨Ao45, co45, eo45⟩ := Kd.R_slice HO227.out
          subst eo45
          go_wp2_with (first | ((with_reducible refine gate_callee (f := 54) rfl ?_); refine goesL_ (some 65) rfl rfl Try.func54 (by kernel_rfl) rfl #[.slice Ao45 t225.length co45, .int .u64 (IntKind.u64.wrap ((rd_T39 l0_1 x6_2).f1)), .int .i64 4] rfl (by (try simp only [List.map_toArray, List.map_cons, List.map_nil]); first | done | rfl | (simp only [List.length_drop, List.length_take]; rfl)) ?_; (with_reducible refine (marginaliaref16_Put.calls k2 (fun k_ => some k_ = (.slice Ao45 t225.length co45 : Value).ownBlock) (.slice Ao45 t225.length co45) t225 (IntKind.u64.wrap ((rd_T39 l0_1 x6_2).f1)) 4 t228 w _ ?side1 ?side2 A42.out).mono ?_); (case side1 => repeat (first | (with_reducible first | exact HB.out | apply below_alloc | apply pw_below_drewN | apply below_drew1 | refine below_set ?_ GE203.out | refine below_set ?_ GE224.out) | exact HB.out)); (case side2 => exact Kd.R_tight rfl HO227.out); rintro e w46 ⟨v229, rfl, ho0, hb, hkp⟩; refine ⟨_, rfl, ?_⟩; have n0_ := Aside0.mk (blk_kept (by (with_reducible repeat (first | refine blk_drewN ?_ _ | refine blk_drew ?_ | refine blk_alloc ?_ _)); exact BK203.out) hkp (fun hs_ => (fun e_ => (Kd.R_ne HO227.out BK203.out (by decide)) e_) hs_)); have n1_ := Aside0.mk (blk_kept (by (with_reducible repeat (first | refine blk_drewN ?_ _ | refine blk_drew ?_ | refine blk_alloc ?_ _)); exact BK224.out) hkp (fun hs_ => (fun e_ => (Kd.R_ne HO227.out BK224.out (by decide)) e_) hs_)); have n2_ := Aside0.mk (Kd.R_mono (ok' := fun k_ => True) ho0 (fun k_ hk_ => trivial)); have n3_ := Aside0.mk (hb); clear BK203; clear BK224; clear HB; clear HO227; have BK203 := n0_; have BK224 := n1_; have HO230 := n2_; have HB := n3_; clear n0_ n1_ n2_ n3_; (try clear hb); (try clear hkp); (try clear ho0)))
          go_meet
          case rel => exact ⟨_, (t228), H', ⟨by have := HJ4.out; have := HK2.out; first | omega | exact Nat.le_refl _⟩, ⟨by (with_reducible repeat (first | apply Kd.R_alloc | apply Kd.R_drewN | apply Kd.R_drew)); exact HO230.out⟩, ⟨by (with_reducible repeat (first | refine blk_drewN ?_ _ | refine blk_drew ?_ | refine blk_alloc ?_ _)); exact BK203.out⟩, ⟨by (with_reducible repeat (first | refine blk_drewN ?_ _ | refine blk_drew ?_ | refine blk_alloc ?_ _)); exact BK224.out⟩, ⟨by repeat (first | (with_reducible first | exact HB.out | apply below_alloc | apply pw_below_drewN | apply below_drew1 | refine below_set ?_ GE203.out | refine below_set ?_ GE224.out) | exact HB.out)⟩⟩
         ·rw [if_neg c41] at H
          have c41b0 : (a0_0 == 1) = false := beq_eq_false_iff_ne.mpr c41
          have c41b1 : (a0_0 != 1) = true := bne_iff_ne.mpr c41
          (first | rw [c41b0] | (simp only [i64_w, i32_w]; rw [c41b0]) | skip)
          have H' := Aside0.mk H
          clear H
          go_wp2
          go_meet
          case rel => exact ⟨_, (t225), H', ⟨by have := HJ4.out; have := HK2.out; first | omega | exact Nat.le_refl _⟩, ⟨by (with_reducible repeat (first | apply Kd.R_alloc | apply Kd.R_drewN | apply Kd.R_drew)); exact HO227.out⟩, ⟨by (with_reducible repeat (first | refine blk_drewN ?_ _ | refine blk_drew ?_ | refine blk_alloc ?_ _)); exact BK203.out⟩, ⟨by (with_reducible repeat (first | refine blk_drewN ?_ _ | refine blk_drew ?_ | refine blk_alloc ?_ _)); exact BK224.out⟩, ⟨by repeat (first | (with_reducible first | exact HB.out | apply below_alloc | apply pw_below_drewN | apply below_drew1 | refine below_set ?_ GE203.out | refine below_set ?_ GE224.out) | exact HB.out)⟩⟩
        case rest =>
         clear HC31
         (try clear c1); (try clear c2); (try clear p2); (try clear q2); (try clear hx2); (try clear c3); (try clear c3b0); (try clear c3b1); (try clear c4); (try clear c5); (try clear p6); (try clear c12); (try clear c12b0); (try clear c12b1); (try clear c15); (try clear c17); (try clear c21); (try clear c22); (try clear p22); (try clear q22); (try clear hx22); (try clear c28); (try clear c28b0); (try clear c29); (try clear c29b0); (try clear c34); (try clear c41); (try clear c41b0); (try clear c41b1); (try clear c43); (try clear hcz11_0); (try clear hcz11_1); (try clear hcz11_2); (try clear hcz11_3); (try clear hcz16_0); (try clear hcz16_1); (try clear hcz16_2); (try clear hcz16_3); (try clear hcz19_0); (try clear hcz19_1); (try clear hcz19_2); (try clear hcz19_3); (try clear hcz22_0); (try clear hcz22_1); (try clear hcz22_2); (try clear hcz22_3); (try clear hcz25_0); (try clear hcz25_1); (try clear hcz25_2); (try clear hcz25_3); (try clear hcz32_0); (try clear hcz32_1); (try clear hcz32_2); (try clear hcz32_3); (try clear hcz35_0); (try clear hcz35_1); (try clear hcz35_2); (try clear hcz35_3); (try clear hcz37_0); (try clear hcz37_1); (try clear hcz37_2); (try clear hcz37_3); (try clear hcz40_0); (try clear hcz40_1); (try clear hcz40_2); (try clear hcz40_3); (try clear hcz44_0); (try clear hcz44_1); (try clear hcz44_2); (try clear hcz44_3); (try clear hcz7_0); (try clear hcz7_1); (try clear hcz7_2); (try clear hcz7_3); (try clear hcz9_0); (try clear hcz9_1); (try clear hcz9_2); (try clear hcz9_3); (try clear hfz11_0); (try clear hfz11_1); (try clear hfz11_2); (try clear hfz11_3); (try clear hfz16_0); (try clear hfz16_1); (try clear hfz16_2); (try clear hfz16_3); (try clear hfz19_0); (try clear hfz19_1); (try clear hfz19_2); (try clear hfz19_3); (try clear hfz22_0); (try clear hfz22_1); (try clear hfz22_2); (try clear hfz22_3); (try clear hfz25_0); (try clear hfz25_1); (try clear hfz25_2); (try clear hfz25_3); (try clear hfz32_0); (try clear hfz32_1); (try clear hfz32_2); (try clear hfz32_3); (try clear hfz35_0); (try clear hfz35_1); (try clear hfz35_2); (try clear hfz35_3); (try clear hfz37_0); (try clear hfz37_1); (try clear hfz37_2); (try clear hfz37_3); (try clear hfz40_0); (try clear hfz40_1); (try clear hfz40_2); (try clear hfz40_3); (try clear hfz44_0); (try clear hfz44_1); (try clear hfz44_2); (try clear hfz44_3); (try clear hfz7_0); (try clear hfz7_1); (try clear hfz7_2); (try clear hfz7_3); (try clear hfz9_0); (try clear hfz9_1); (try clear hfz9_2); (try clear hfz9_3); (try clear hx223_0); (try clear hx223_1); (try clear hx223_2); (try clear hx223_3); (try clear p2); (try clear p223); (try clear p6); (try clear q223)
         obtain ⟨kq, x5_30, HA, HJ30, HO_5, BK203, BK224, HB⟩ := hcut
         cases kq with
         | zero => exact absurd HA.out (by simp [marginaliaref20_Encode.j2])
         | succ kj30 =>
          have H := HA.out
          clear HA
          simp only [marginaliaref20_Encode.j2] at H
          by_cases c47 : a0_0 = 1
          ·rw [if_pos c47] at H
           have c47b0 : (a0_0 == 1) = true := beq_iff_eq.mpr c47
           have c47b1 : (a0_0 != 1) = false := bne_eq_false_iff_eq.mpr c47
           clear c47
           by_cases c48 : ((rd_T39 l0_1 x6_2).f1) ≤ 40
           ·rw [if_pos c48] at H
            have c48b0 : decide (((rd_T39 l0_1 x6_2).f1) ≤ 40) = true := decide_eq_true c48
            clear c48
            by_cases c49 : x5_30.length + ((rd_T39 l0_1 x6_2).f2).length < 140737488355328
            ·rw [if_pos c49] at H
             have LMc49 := Aside0.mk c49
             clear c49
             obtain ⟨y231, hy231⟩ : ∃ y_ : List Int, y_ = (x5_30 ++ ((rd_T39 l0_1 x6_2).f2)) := ⟨_, rfl⟩
             replace H : (marginaliaref20_Encode.l0 kj30 y231 (wrap64 (x6_2 + 1)) a0_0 l0_1 a0_2 l0_3) = some (r1, r2) := by first | (rw [hy231]; with_reducible exact H) | (have H2_ := (Option.bind_some _ _).symm.trans H; rw [hy231]; with_reducible exact H2_) | (have H2_ := (Option.bind_some _ _).symm.trans H; with_reducible exact H2_) | with_reducible exact H | (rw [hy231]; exact H) | exact H
             have Ny231 := Aside0.mk hy231
             clear hy231
             have H' := Aside0.mk H
             clear H
             have hnb50 := NB203_224.out
             have hnc50 := NB224_203.out
             have hcz51_0 : wc.cell? ⟨gb203, 0, none⟩ = some (.int .i64 a0_0) := (blk_cell BK203.out 0).trans rfl
             have hcz51_1 : wc.cell? ⟨gb203, 1, none⟩ = some (.slice (some ad223) l0_1.length c0_1) := (blk_cell BK203.out 1).trans rfl
             have hcz51_2 : wc.cell? ⟨gb203, 2, none⟩ = some (.int .i64 a0_2) := (blk_cell BK203.out 2).trans rfl
             have hcz51_3 : wc.cell? ⟨gb203, 3, none⟩ = some (.slice A0_3 l0_3.length c0_3) := (blk_cell BK203.out 3).trans rfl
             have hfz51_0 := blk_frozen BK203.out 0
             have hfz51_1 := blk_frozen BK203.out 1
             have hfz51_2 := blk_frozen BK203.out 2
             have hfz51_3 := blk_frozen BK203.out 3
             have hcz52_0 : wc.cell? ⟨gb224, 0, none⟩ = some (.int .u64 ((rd_T39 l0_1 x6_2).f0)) := (blk_cell BK224.out 0).trans rfl
             have hcz52_1 : wc.cell? ⟨gb224, 1, none⟩ = some (.int .i64 ((rd_T39 l0_1 x6_2).f1)) := (blk_cell BK224.out 1).trans rfl
             have hcz52_2 : wc.cell? ⟨gb224, 2, none⟩ = some (.slice A223_2 ((rd_T39 l0_1 x6_2).f2).length c223_2) := (blk_cell BK224.out 2).trans rfl
             have hcz52_3 : wc.cell? ⟨gb224, 3, none⟩ = some (.int .i64 ((rd_T39 l0_1 x6_2).f3)) := (blk_cell BK224.out 3).trans rfl
             have hfz52_0 := blk_frozen BK224.out 0
             have hfz52_1 := blk_frozen BK224.out 1
             have hfz52_2 := blk_frozen BK224.out 2
             have hfz52_3 := blk_frozen BK224.out 3
             go_wp2_with (first | ((with_reducible refine gate_builtin (b := .append) (xs := #[.tmp 74, .tmp 76]) rfl ?_); at_builtin; refine Kd.R_append_rows (Kd.int .u8) (w0 := w) w.heap.size rfl (.tmp 74) (.tmp 76) 24 5 (.int .u8 0) 1 rfl Try.underlying24 info5 rfl (by decide) (by omega) u5 x5_30 ((rd_T39 l0_1 x6_2).f2) _ _ _ (fun _ => True) (fun _ => False) rfl rfl ?aO ?aR (fun _ _ h => h) (fun _ h => h.elim) ?aF ?aB ?aS ?aL ?_; (case aR => repeat (first | exact (Kd.C_below HR223_2.out HB.out) | (with_reducible refine Kd.C_alloc ?_ _) | (with_reducible refine Kd.C_drewN ?_ _) | (with_reducible refine Kd.C_drew ?_))); (case aB => exact (by repeat (first | (with_reducible first | exact HB.out | apply below_alloc | apply pw_below_drewN | apply below_drew1 | refine below_set ?_ GE203.out | refine below_set ?_ GE224.out) | exact HB.out))); (case aF => exact (fun _ _ => trivial)); (case aO => exact (by (with_reducible repeat (first | apply Kd.R_alloc | apply Kd.R_drewN | apply Kd.R_drew)); exact HO_5.out)); (case aS => exact (below_size (by repeat (first | (with_reducible first | exact HB.out | apply below_alloc | apply pw_below_drewN | apply below_drew1 | refine below_set ?_ GE203.out | refine below_set ?_ GE224.out) | exact HB.out)))); (case aL => have := LMc49.out; omega); intro v232 w53 ho hb hg hat; rw [← Ny231.out] at ho; have n0_ := Aside0.mk (blk_grown (g := gb203) (o := .cells #[.int .i64 a0_0, .slice (some ad223) l0_1.length c0_1, .int .i64 a0_2, .slice A0_3 l0_3.length c0_3] 26 (0, 0)) (by (with_reducible repeat (first | refine blk_drewN ?_ _ | refine blk_drew ?_ | refine blk_alloc ?_ _)); exact BK203.out) hg (Kd.R_ne HO_5.out BK203.out (by decide))); have n1_ := Aside0.mk (blk_grown (g := gb224) (o := .cells #[.int .u64 ((rd_T39 l0_1 x6_2).f0), .int .i64 ((rd_T39 l0_1 x6_2).f1), .slice A223_2 ((rd_T39 l0_1 x6_2).f2).length c223_2, .int .i64 ((rd_T39 l0_1 x6_2).f3)] 39 (0, 0)) (by (with_reducible repeat (first | refine blk_drewN ?_ _ | refine blk_drew ?_ | refine blk_alloc ?_ _)); exact BK224.out) hg (Kd.R_ne HO_5.out BK224.out (by decide))); have n2_ := Aside0.mk (hb); have n3_ := Aside0.mk (ho); clear BK203; clear BK224; clear HB; clear HO_5; have BK203 := n0_; have BK224 := n1_; have HB := n2_; have HO233 := n3_; clear n0_ n1_ n2_ n3_; clear ho hb hg hat))
             go_roundg kj30
             case measure => have := HJ4.out; have := HK2.out; have := HJ30.out; omega
             case rel => exact ⟨(y231), (wrap64 (x6_2 + 1)), (by first | rfl | (simp; done) | (simp [*]; done)), H', ⟨by have := HJ4.out; have := HK2.out; have := HJ30.out; omega⟩, ⟨by (with_reducible repeat (first | apply Kd.R_alloc | apply Kd.R_drewN | apply Kd.R_drew)); exact HO233.out⟩, ⟨by (with_reducible repeat (first | refine blk_drewN ?_ _ | refine blk_drew ?_ | refine blk_alloc ?_ _)); exact BK203.out⟩, ⟨by repeat (first | (with_reducible first | exact HB.out | apply below_alloc | apply pw_below_drewN | apply below_drew1 | refine below_set ?_ GE203.out | refine below_set ?_ GE224.out) | exact HB.out)⟩⟩
            ·rw [if_neg c49] at H
             exact absurd H (by simp)
           ·rw [if_neg c48] at H
            have c48b0 : decide (((rd_T39 l0_1 x6_2).f1) ≤ 40) = false := decide_eq_false c48
            clear c48
            replace H := Option.bind_eq_some_iff.mp H
            obtain ⟨t234, A540, H⟩ := H
            replace H : (marginaliaref20_Encode.l0 kj30 t234 (wrap64 (x6_2 + 1)) a0_0 l0_1 a0_2 l0_3) = some (r1, r2) := H
            have A54 := Aside0.mk A540
            clear A540
            have H' := Aside0.mk H
            clear H
            have hnb55 := NB203_224.out
            have hnc55 := NB224_203.out
            have hcz56_0 : wc.cell? ⟨gb203, 0, none⟩ = some (.int .i64 a0_0) := (blk_cell BK203.out 0).trans rfl
            have hcz56_1 : wc.cell? ⟨gb203, 1, none⟩ = some (.slice (some ad223) l0_1.length c0_1) := (blk_cell BK203.out 1).trans rfl
            have hcz56_2 : wc.cell? ⟨gb203, 2, none⟩ = some (.int .i64 a0_2) := (blk_cell BK203.out 2).trans rfl
            have hcz56_3 : wc.cell? ⟨gb203, 3, none⟩ = some (.slice A0_3 l0_3.length c0_3) := (blk_cell BK203.out 3).trans rfl
            have hfz56_0 := blk_frozen BK203.out 0
            have hfz56_1 := blk_frozen BK203.out 1
            have hfz56_2 := blk_frozen BK203.out 2
            have hfz56_3 := blk_frozen BK203.out 3
            have hcz57_0 : wc.cell? ⟨gb224, 0, none⟩ = some (.int .u64 ((rd_T39 l0_1 x6_2).f0)) := (blk_cell BK224.out 0).trans rfl
            have hcz57_1 : wc.cell? ⟨gb224, 1, none⟩ = some (.int .i64 ((rd_T39 l0_1 x6_2).f1)) := (blk_cell BK224.out 1).trans rfl
            have hcz57_2 : wc.cell? ⟨gb224, 2, none⟩ = some (.slice A223_2 ((rd_T39 l0_1 x6_2).f2).length c223_2) := (blk_cell BK224.out 2).trans rfl
            have hcz57_3 : wc.cell? ⟨gb224, 3, none⟩ = some (.int .i64 ((rd_T39 l0_1 x6_2).f3)) := (blk_cell BK224.out 3).trans rfl
            have hfz57_0 := blk_frozen BK224.out 0
            have hfz57_1 := blk_frozen BK224.out 1
            have hfz57_2 := blk_frozen BK224.out 2
            have hfz57_3 := blk_frozen BK224.out 3
            obtain ⟨Ao58, co58, eo58⟩ := Kd.R_slice HO_5.out
            subst eo58
            go_wp2_with (first | ((with_reducible refine gate_callee (f := 54) rfl ?_); refine goesL_ (some 82) rfl rfl Try.func54 (by kernel_rfl) rfl #[.slice Ao58 x5_30.length co58, .int .u64 (IntKind.u64.wrap (((rd_T39 l0_1 x6_2).f3))), .int .i64 4] rfl (by (try simp only [List.map_toArray, List.map_cons, List.map_nil]); first | done | rfl | (simp only [List.length_drop, List.length_take]; rfl)) ?_; (with_reducible refine (marginaliaref16_Put.calls kj30 (fun k_ => some k_ = (.slice Ao58 x5_30.length co58 : Value).ownBlock) (.slice Ao58 x5_30.length co58) x5_30 (IntKind.u64.wrap (((rd_T39 l0_1 x6_2).f3))) 4 t234 w _ ?side1 ?side2 A54.out).mono ?_); (case side1 => repeat (first | (with_reducible first | exact HB.out | apply below_alloc | apply pw_below_drewN | apply below_drew1 | refine below_set ?_ GE203.out | refine below_set ?_ GE224.out) | exact HB.out)); (case side2 => exact Kd.R_tight rfl HO_5.out); rintro e w59 ⟨v235, rfl, ho0, hb, hkp⟩; refine ⟨_, rfl, ?_⟩; have n0_ := Aside0.mk (blk_kept (by (with_reducible repeat (first | refine blk_drewN ?_ _ | refine blk_drew ?_ | refine blk_alloc ?_ _)); exact BK203.out) hkp (fun hs_ => (fun e_ => (Kd.R_ne HO_5.out BK203.out (by decide)) e_) hs_)); have n1_ := Aside0.mk (blk_kept (by (with_reducible repeat (first | refine blk_drewN ?_ _ | refine blk_drew ?_ | refine blk_alloc ?_ _)); exact BK224.out) hkp (fun hs_ => (fun e_ => (Kd.R_ne HO_5.out BK224.out (by decide)) e_) hs_)); have n2_ := Aside0.mk (Kd.R_mono (ok' := fun k_ => True) ho0 (fun k_ hk_ => trivial)); have n3_ := Aside0.mk (hb); clear BK203; clear BK224; clear HB; clear HO_5; have BK203 := n0_; have BK224 := n1_; have HO236 := n2_; have HB := n3_; clear n0_ n1_ n2_ n3_; (try clear hb); (try clear hkp); (try clear ho0)))
            go_roundg kj30
            case measure => have := HJ4.out; have := HK2.out; have := HJ30.out; omega
            case rel => exact ⟨(t234), (wrap64 (x6_2 + 1)), (by first | rfl | (simp; done) | (simp [*]; done)), H', ⟨by have := HJ4.out; have := HK2.out; have := HJ30.out; omega⟩, ⟨by (with_reducible repeat (first | apply Kd.R_alloc | apply Kd.R_drewN | apply Kd.R_drew)); exact HO236.out⟩, ⟨by (with_reducible repeat (first | refine blk_drewN ?_ _ | refine blk_drew ?_ | refine blk_alloc ?_ _)); exact BK203.out⟩, ⟨by repeat (first | (with_reducible first | exact HB.out | apply below_alloc | apply pw_below_drewN | apply below_drew1 | refine below_set ?_ GE203.out | refine below_set ?_ GE224.out) | exact HB.out)⟩⟩
          ·rw [if_neg c47] at H
           have c47b0 : (a0_0 == 1) = false := beq_eq_false_iff_ne.mpr c47
           have c47b1 : (a0_0 != 1) = true := bne_iff_ne.mpr c47
           replace H := Option.bind_eq_some_iff.mp H
           obtain ⟨t237, A600, H⟩ := H
           replace H : (marginaliaref20_Encode.l0 kj30 t237 (wrap64 (x6_2 + 1)) a0_0 l0_1 a0_2 l0_3) = some (r1, r2) := H
           have A60 := Aside0.mk A600
           clear A600
           have H' := Aside0.mk H
           clear H
           have hnb61 := NB203_224.out
           have hnc61 := NB224_203.out
           have hcz62_0 : wc.cell? ⟨gb203, 0, none⟩ = some (.int .i64 a0_0) := (blk_cell BK203.out 0).trans rfl
           have hcz62_1 : wc.cell? ⟨gb203, 1, none⟩ = some (.slice (some ad223) l0_1.length c0_1) := (blk_cell BK203.out 1).trans rfl
           have hcz62_2 : wc.cell? ⟨gb203, 2, none⟩ = some (.int .i64 a0_2) := (blk_cell BK203.out 2).trans rfl
           have hcz62_3 : wc.cell? ⟨gb203, 3, none⟩ = some (.slice A0_3 l0_3.length c0_3) := (blk_cell BK203.out 3).trans rfl
           have hfz62_0 := blk_frozen BK203.out 0
           have hfz62_1 := blk_frozen BK203.out 1
           have hfz62_2 := blk_frozen BK203.out 2
           have hfz62_3 := blk_frozen BK203.out 3
           have hcz63_0 : wc.cell? ⟨gb224, 0, none⟩ = some (.int .u64 ((rd_T39 l0_1 x6_2).f0)) := (blk_cell BK224.out 0).trans rfl
           have hcz63_1 : wc.cell? ⟨gb224, 1, none⟩ = some (.int .i64 ((rd_T39 l0_1 x6_2).f1)) := (blk_cell BK224.out 1).trans rfl
           have hcz63_2 : wc.cell? ⟨gb224, 2, none⟩ = some (.slice A223_2 ((rd_T39 l0_1 x6_2).f2).length c223_2) := (blk_cell BK224.out 2).trans rfl
           have hcz63_3 : wc.cell? ⟨gb224, 3, none⟩ = some (.int .i64 ((rd_T39 l0_1 x6_2).f3)) := (blk_cell BK224.out 3).trans rfl
           have hfz63_0 := blk_frozen BK224.out 0
           have hfz63_1 := blk_frozen BK224.out 1
           have hfz63_2 := blk_frozen BK224.out 2
           have hfz63_3 := blk_frozen BK224.out 3
           obtain ⟨Ao64, co64, eo64⟩ := Kd.R_slice HO_5.out
           subst eo64
           go_wp2_with (first | ((with_reducible refine gate_callee (f := 54) rfl ?_); refine goesL_ (some 82) rfl rfl Try.func54 (by kernel_rfl) rfl #[.slice Ao64 x5_30.length co64, .int .u64 (IntKind.u64.wrap (((rd_T39 l0_1 x6_2).f3))), .int .i64 4] rfl (by (try simp only [List.map_toArray, List.map_cons, List.map_nil]); first | done | rfl | (simp only [List.length_drop, List.length_take]; rfl)) ?_; (with_reducible refine (marginaliaref16_Put.calls kj30 (fun k_ => some k_ = (.slice Ao64 x5_30.length co64 : Value).ownBlock) (.slice Ao64 x5_30.length co64) x5_30 (IntKind.u64.wrap (((rd_T39 l0_1 x6_2).f3))) 4 t237 w _ ?side1 ?side2 A60.out).mono ?_); (case side1 => repeat (first | (with_reducible first | exact HB.out | apply below_alloc | apply pw_below_drewN | apply below_drew1 | refine below_set ?_ GE203.out | refine below_set ?_ GE224.out) | exact HB.out)); (case side2 => exact Kd.R_tight rfl HO_5.out); rintro e w65 ⟨v238, rfl, ho0, hb, hkp⟩; refine ⟨_, rfl, ?_⟩; have n0_ := Aside0.mk (blk_kept (by (with_reducible repeat (first | refine blk_drewN ?_ _ | refine blk_drew ?_ | refine blk_alloc ?_ _)); exact BK203.out) hkp (fun hs_ => (fun e_ => (Kd.R_ne HO_5.out BK203.out (by decide)) e_) hs_)); have n1_ := Aside0.mk (blk_kept (by (with_reducible repeat (first | refine blk_drewN ?_ _ | refine blk_drew ?_ | refine blk_alloc ?_ _)); exact BK224.out) hkp (fun hs_ => (fun e_ => (Kd.R_ne HO_5.out BK224.out (by decide)) e_) hs_)); have n2_ := Aside0.mk (Kd.R_mono (ok' := fun k_ => True) ho0 (fun k_ hk_ => trivial)); have n3_ := Aside0.mk (hb); clear BK203; clear BK224; clear HB; clear HO_5; have BK203 := n0_; have BK224 := n1_; have HO239 := n2_; have HB := n3_; clear n0_ n1_ n2_ n3_; (try clear hb); (try clear hkp); (try clear ho0)))
           go_roundg kj30
           case measure => have := HJ4.out; have := HK2.out; have := HJ30.out; omega
           case rel => exact ⟨(t237), (wrap64 (x6_2 + 1)), (by first | rfl | (simp; done) | (simp [*]; done)), H', ⟨by have := HJ4.out; have := HK2.out; have := HJ30.out; omega⟩, ⟨by (with_reducible repeat (first | apply Kd.R_alloc | apply Kd.R_drewN | apply Kd.R_drew)); exact HO239.out⟩, ⟨by (with_reducible repeat (first | refine blk_drewN ?_ _ | refine blk_drew ?_ | refine blk_alloc ?_ _)); exact BK203.out⟩, ⟨by repeat (first | (with_reducible first | exact HB.out | apply below_alloc | apply pw_below_drewN | apply below_drew1 | refine below_set ?_ GE203.out | refine below_set ?_ GE224.out) | exact HB.out)⟩⟩
       ·rw [if_neg c29] at H
        exact absurd H (by simp)
      ·rw [if_neg c28] at H
       have c28b0 : decide (x6_2 < (l0_1.length : Int)) = false := decide_eq_false c28
       clear c28
       obtain ⟨ji66, hji66⟩ : ∃ j_ : Int, (wrap64 (256 - (x5_2.length : Int))) = j_ := ⟨_, rfl⟩
       replace H : (if 0 ≤ (ji66) then (if x5_2.length + (ji66 : Int).toNat < 140737488355328 then (some ((x5_2 ++ List.replicate (ji66 : Int).toNat 0), 0)) else (none)) else (none)) = some (r1, r2) := by first | (rw [hji66] at H; exact H) | (simp only [hji66] at H ⊢; exact H)
       have hji66w : (IntKind.i64.wrap (256 - (x5_2.length : Int))) = ji66 := (i64_w _).trans hji66
       by_cases c67 : 0 ≤ (ji66)
       ·rw [if_pos c67] at H
        have c67b0 := eq_true c67
        have c67b1 : decide (0 ≤ (ji66)) = true := decide_eq_true c67
        clear c67
        by_cases c68 : x5_2.length + (ji66 : Int).toNat < 140737488355328
        ·rw [if_pos c68] at H
         have LMc68 := Aside0.mk c68
         clear c68
         obtain ⟨y220, hy220⟩ : ∃ y_ : List Int, y_ = (x5_2 ++ List.replicate (ji66 : Int).toNat 0) := ⟨_, rfl⟩
         replace H : (some (y220, 0)) = some (r1, r2) := by first | (rw [hy220]; with_reducible exact H) | (have H2_ := (Option.bind_some _ _).symm.trans H; rw [hy220]; with_reducible exact H2_) | (have H2_ := (Option.bind_some _ _).symm.trans H; with_reducible exact H2_) | with_reducible exact H | (rw [hy220]; exact H) | exact H
         have Ny220 := Aside0.mk hy220
         clear hy220
         simp only [Option.some.injEq, Prod.mk.injEq] at H
         obtain ⟨rfl, rfl⟩ := H
         have hcz69_0 : wr.cell? ⟨gb203, 0, none⟩ = some (.int .i64 a0_0) := (blk_cell BK203.out 0).trans rfl
         have hcz69_1 : wr.cell? ⟨gb203, 1, none⟩ = some (.slice A0_1 l0_1.length c0_1) := (blk_cell BK203.out 1).trans rfl
         have hcz69_2 : wr.cell? ⟨gb203, 2, none⟩ = some (.int .i64 a0_2) := (blk_cell BK203.out 2).trans rfl
         have hcz69_3 : wr.cell? ⟨gb203, 3, none⟩ = some (.slice A0_3 l0_3.length c0_3) := (blk_cell BK203.out 3).trans rfl
         have hfz69_0 := blk_frozen BK203.out 0
         have hfz69_1 := blk_frozen BK203.out 1
         have hfz69_2 := blk_frozen BK203.out 2
         have hfz69_3 := blk_frozen BK203.out 3
         obtain ⟨Ao70, co70, eo70⟩ := Kd.R_slice HO_5.out
         subst eo70
         go_wp2_with (first | (at_builtin; refine Kd.R_append_zeros (Kd.int .u8) (w0 := w) w.heap.size rfl (.tmp 83) (.tmp 86) 24 3 5 (.int .u8 0) 1 rfl Try.underlying24 Try.underlying3 info5 rfl (by decide) (by omega) (.slice Ao70 x5_2.length co70) x5_2 0 (ji66 : Int) (fun _ => True) rfl rfl rfl ?aF ?aO (of_decide_eq_true (by first | (with_reducible assumption) | assumption)) ?aB ?aS ?aL ?_; (case aB => exact (by repeat (first | (with_reducible first | exact HB.out | apply below_alloc | apply pw_below_drewN | apply below_drew1 | refine below_set ?_ GE203.out) | exact HB.out))); (case aF => exact (fun _ _ => trivial)); (case aO => exact (by (with_reducible repeat (first | apply Kd.R_alloc | apply Kd.R_drewN | apply Kd.R_drew)); exact HO_5.out)); (case aS => exact (below_size (by repeat (first | (with_reducible first | exact HB.out | apply below_alloc | apply pw_below_drewN | apply below_drew1 | refine below_set ?_ GE203.out) | exact HB.out)))); (case aL => have := LMc68.out; omega); intro v221 w71 ho hb hg hat; rw [← Ny220.out] at ho; have n0_ := Aside0.mk (blk_grown (g := gb203) (o := .cells #[.int .i64 a0_0, .slice A0_1 l0_1.length c0_1, .int .i64 a0_2, .slice A0_3 l0_3.length c0_3] 26 (0, 0)) (by (with_reducible repeat (first | refine blk_drewN ?_ _ | refine blk_drew ?_ | refine blk_alloc ?_ _)); exact BK203.out) hg (Kd.R_ne HO_5.out BK203.out (by decide))); have n1_ := Aside0.mk (hb); have n2_ := Aside0.mk (ho); clear BK203; clear HB; clear HO_5; have BK203 := n0_; have HB := n1_; have HO222 := n2_; clear n0_ n1_ n2_; clear ho hb hg hat))
         go_ret2
         exact ⟨_, by first | rfl | (simp [errW_none, errW_some] <;> rfl) | (simp only [← hji66]; first | rfl | (simp [errW_none, errW_some] <;> rfl)) | (simp [*, errW_none, errW_some] <;> rfl), by (with_reducible repeat (first | apply Kd.R_alloc | apply Kd.R_drewN | apply Kd.R_drew)); exact HO222.out, by repeat (first | (with_reducible first | exact HB.out | apply below_alloc | apply pw_below_drewN | apply below_drew1 | refine below_set ?_ GE203.out) | exact HB.out)⟩
        ·rw [if_neg c68] at H
         exact absurd H (by simp)
       ·rw [if_neg c67] at H
        exact absurd H (by simp)
 ·rw [if_neg c3] at H
  have c3b0 : (t204 == 0) = false := beq_eq_false_iff_ne.mpr c3
  have c3b1 : (t204 != 0) = true := bne_iff_ne.mpr c3
  simp only [Option.some.injEq, Prod.mk.injEq] at H
  obtain ⟨rfl, rfl⟩ := H
  go_enter Try.func21, Try.ntmps21
  go_wp2_with (first | ((with_reducible refine gate_dst (N := 1) rfl ?_); refine box_event ?hg (N := 1) ?hd (cs := #[.int .i64 a0_0, .slice A0_1 l0_1.length c0_1, .int .i64 a0_2, .slice A0_3 l0_3.length c0_3]) (t := 26) ?hr ?_; (case hd => rfl); (case hg => rfl); (case hr => first | (go_simp; done) | (go_simp; rfl)); intro gb203 hg w72 hbox hb; have n0_ := Aside0.mk (below_step (by repeat (first | (with_reducible first | exact HB.out | apply below_alloc | apply pw_below_drewN | apply below_drew1) | exact HB.out)) hb); have n1_ := Aside0.mk (hbox); have n2_ := Aside0.mk ((by rw [hg]; exact (below_size (by repeat (first | (with_reducible first | exact HB.out | apply below_alloc | apply pw_below_drewN | apply below_drew1) | exact HB.out))) : w.heap.size ≤ gb203)); have n3_ := Aside0.mk ((by rw [hg]; exact (below_size (by repeat (first | (with_reducible first | exact HB.out | apply below_alloc | apply pw_below_drewN | apply below_drew1) | exact HB.out))) : w.heap.size ≤ gb203)); clear HB; have HB := n0_; have BK203 := n1_; have GW203 := n2_; have GE203 := n3_; clear n0_ n1_ n2_ n3_; clear hb hbox hg; have hcz73_0 : w72.cell? ⟨gb203, 0, none⟩ = some (.int .i64 a0_0) := (blk_cell BK203.out 0).trans rfl; have hcz73_1 : w72.cell? ⟨gb203, 1, none⟩ = some (.slice A0_1 l0_1.length c0_1) := (blk_cell BK203.out 1).trans rfl; have hcz73_2 : w72.cell? ⟨gb203, 2, none⟩ = some (.int .i64 a0_2) := (blk_cell BK203.out 2).trans rfl; have hcz73_3 : w72.cell? ⟨gb203, 3, none⟩ = some (.slice A0_3 l0_3.length c0_3) := (blk_cell BK203.out 3).trans rfl; have hfz73_0 := blk_frozen BK203.out 0; have hfz73_1 := blk_frozen BK203.out 1; have hfz73_2 := blk_frozen BK203.out 2; have hfz73_3 := blk_frozen BK203.out 3) | ((with_reducible refine gate_callee (f := 17) rfl ?_); refine goesL_ (some 9) rfl rfl Try.func17 (by kernel_rfl) rfl #[.agg #[.int .i64 a0_0, .slice A0_1 l0_1.length c0_1, .int .i64 a0_2, .slice A0_3 l0_3.length c0_3]] rfl (by (try simp only [List.map_toArray, List.map_cons, List.map_nil]); first | done | rfl | (simp only [List.length_drop, List.length_take]; rfl)) ?_; (with_reducible refine (marginaliaref20_Check.calls k a0_0 _ _ l0_1 a0_2 _ _ l0_3 t204 _ ?side1 ?side2 ?side3 ?side4 A2.out).mono ?_); (case side1 => repeat (first | exact (Kd.C_below HR0_1.out HB.out) | (with_reducible refine Kd.C_alloc ?_ _) | (with_reducible refine Kd.C_drewN ?_ _) | (with_reducible refine Kd.C_drew ?_))); (case side2 => exact HC0_1.out); (case side3 => repeat (first | exact (Kd.C_below HR0_3.out HB.out) | (with_reducible refine Kd.C_alloc ?_ _) | (with_reducible refine Kd.C_drewN ?_ _) | (with_reducible refine Kd.C_drew ?_))); (case side4 => exact HC0_3.out); rintro e w74 ⟨rfl, hb⟩; refine ⟨_, rfl, ?_⟩; have n0_ := Aside0.mk (blk_below (g := gb203) (o := .cells #[.int .i64 a0_0, .slice A0_1 l0_1.length c0_1, .int .i64 a0_2, .slice A0_3 l0_3.length c0_3] 26 (0, 0)) (by (with_reducible repeat (first | refine blk_drewN ?_ _ | refine blk_drew ?_ | refine blk_alloc ?_ _)); exact BK203.out) hb); have n1_ := Aside0.mk (below_step (by repeat (first | (with_reducible first | exact HB.out | apply below_alloc | apply pw_below_drewN | apply below_drew1 | refine below_set ?_ GE203.out) | exact HB.out)) hb); clear BK203; clear HB; have BK203 := n0_; have HB := n1_; clear n0_ n1_; (try clear hb); (try clear hb2); (try clear hk); (try clear hi)))
  go_ret2
  exact ⟨_, by first | rfl | (simp [errW_none, errW_some] <;> rfl) | (simp [*, errW_none, errW_some] <;> rfl), by first | exact Kd.R_nil _ _ _ _ _ | exact Kd.N_nil _ _ _ _ _ | exact Kd.V_nil _ _ _ _ _ | exact Kd.Q_nil _ _ _ _ _ | exact Kd.S_nil _ _ _ _ _, by repeat (first | (with_reducible first | exact HB.out | apply below_alloc | apply pw_below_drewN | apply below_drew1 | refine below_set ?_ GE203.out) | exact HB.out)⟩

end Go.Proofs.Ytnkaidaflegnlaa.G
