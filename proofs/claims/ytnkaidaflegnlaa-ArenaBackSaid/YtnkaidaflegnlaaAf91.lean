/- The functions of the program that these laws reach, each as a plain Lean function, and the proof that the machine's call comes to it; no condition beyond those that each theorem names. Made by wip/xprint.py. -/
import Derived.Test.YtnkaidaflegnlaaAx0
import Derived.Test.YtnkaidaflegnlaaAf43
import Derived.Test.YtnkaidaflegnlaaAf92
import Derived.Test.YtnkaidaflegnlaaAh
namespace Go.Proofs.Ytnkaidaflegnlaa.A
open Go.RowKit Go.Proofs.YtnkaidaflegnlaaW.PrintWords Go.Proofs.YtnkaidaflegnlaaW.PrintLast Go.Proofs.YtnkaidaflegnlaaW.PrintMore
attribute [local go_sem] max2_int min2_int max_two min_two max_three min_three max_four min_four   -- for this text's walks alone
set_option linter.unusedVariables false
set_option linter.unusedSimpArgs false

/-! ### marginaliaref05_out: function 91 -/
def marginaliaref05_out.l0 : Nat → Int → Int → List Int → Int → List (S116) → Option ((List (S116)))
  | 0, _, _, _, _, _ => none
  | k + 1, x1, x5, x6, x7, x214000 => if 0 ≤ x5 then (if x5 < (x214000.length : Int) then (if x7 < (((rd_T116 x214000 x5).f1).length : Int) then (if 0 ≤ x7 then (if (rd ((rd_T116 x214000 x5).f1) x7) = x1 then (marginaliaref05_out.l0 k x1 x5 x6 (wrap64 (x7 + 1)) x214000) else (if x6.length < 17592186044416 then (marginaliaref05_out.l0 k x1 x5 (x6 ++ [rd ((rd_T116 x214000 x5).f1) x7]) (wrap64 (x7 + 1)) x214000) else (none))) else (none)) else ((marginaliaref05_set.f x214000 x5 x6).bind fun t220 => (some t220))) else (none)) else (none)
def marginaliaref05_out.f (k : Nat) (l0_0 : List (S116)) (a1 : Int) : Option ((List (S116))) := (marginaliaref05_Parent.f k l0_0 a1).bind fun t215 => (if t215 < 0 then (some l0_0) else (marginaliaref05_out.l0 k a1 t215 (([] : List Int)) 0 l0_0))
theorem marginaliaref05_out.mono_l : ∀ k, (∀ y0 y1 y2 y3 y4, LeO (marginaliaref05_out.l0 k y0 y1 y2 y3 y4) (marginaliaref05_out.l0 (k + 1) y0 y1 y2 y3 y4))
  | 0 => fun _ _ _ _ _ r h => by simp [marginaliaref05_out.l0] at h
  | k + 1 => by
    have ih0 := marginaliaref05_out.mono_l k
    · intro y0 y1 y2 y3 y4
      unfold marginaliaref05_out.l0
      repeat' first
      | (with_reducible exact ih0 _ _ _ _ _)
      | (with_reducible exact marginaliaref05_Parent.mono _ _ _)
      | (with_reducible exact LeO.refl _)
      | (with_reducible exact LeO.none _)
      | (with_reducible refine LeO.ite ?_ ?_)
      | (with_reducible refine LeO.bind ?_ (fun _ => ?_))
      | exact ih0 _ _ _ _ _
      | exact marginaliaref05_Parent.mono _ _ _
      | exact LeO.none _
      | refine LeO.ite ?_ ?_
      | refine LeO.bind ?_ (fun _ => ?_)
theorem marginaliaref05_out.mono : ∀ a0 a1 k, LeO (marginaliaref05_out.f k a0 a1) (marginaliaref05_out.f (k + 1) a0 a1) := by
  intro a0 a1 k
  have ih0 := marginaliaref05_out.mono_l k
  unfold marginaliaref05_out.f
  repeat' first
      | (with_reducible exact ih0 _ _ _ _ _)
      | (with_reducible exact marginaliaref05_Parent.mono _ _ _)
      | (with_reducible exact LeO.refl _)
      | (with_reducible exact LeO.none _)
      | (with_reducible refine LeO.ite ?_ ?_)
      | (with_reducible refine LeO.bind ?_ (fun _ => ?_))
      | exact ih0 _ _ _ _ _
      | exact marginaliaref05_Parent.mono _ _ _
      | exact LeO.none _
      | refine LeO.ite ?_ ?_
      | refine LeO.bind ?_ (fun _ => ?_)
set_option maxHeartbeats 8000000 in
set_option maxRecDepth 100000 in
theorem marginaliaref05_out.calls (k : Nat) (P0_0_ : Nat → Prop) (A0_0 : Option Addr) (c0_0 : Nat) (l0_0 : List (S116)) (a1 : Int) (r : List (S116)) (w : World) (hs0_0 : Kd.V k116 116 w w.heap.size (fun k_ => P0_0_ k_) (.slice A0_0 l0_0.length c0_0) l0_0) (h : marginaliaref05_out.f k l0_0 a1 = some r) :
    Calls Try.prog 91 #[.agg #[.slice A0_0 l0_0.length c0_0], .int .i64 a1] w fun e w' => ∃ v0_ : Value, e = .returned (.agg #[v0_]) ∧ Kd.V k116 116 w' w.heap.size (fun k_ => (P0_0_ k_ ∨ w.heap.size ≤ k_)) v0_ r ∧ Below w.heap.size w w' := by
  have hu57 := Try.underlying57
  have HO0_0 := Aside0.mk (show Kd.V k116 116 w w.heap.size (fun k_ => (P0_0_ k_ ∨ w.heap.size ≤ k_)) (.slice A0_0 l0_0.length c0_0) l0_0 from Kd.V_mono hs0_0 (fun k_ hk => .inl hk))
  have HB := Aside0.mk (Below.refl w.heap.size w)
  have H : ((marginaliaref05_Parent.f k l0_0 a1).bind fun t215 => (if t215 < 0 then (some l0_0) else (marginaliaref05_out.l0 k a1 t215 (([] : List Int)) 0 l0_0))) = some r := h
  clear h
  replace H := Option.bind_eq_some_iff.mp H
  obtain ⟨t215, A30, H⟩ := H
  replace H : (if t215 < 0 then (some l0_0) else (marginaliaref05_out.l0 k a1 t215 (([] : List Int)) 0 l0_0)) = some r := H
  have A3 := Aside0.mk A30
  clear A30
  by_cases c4 : t215 < 0
  · rw [if_pos c4] at H
    have c4b0 : decide (t215 < 0) = true := decide_eq_true c4
    clear c4
    obtain rfl := Option.some.inj H
    go_enter Try.func91, Try.ntmps91
    go_wp2_with (first | ((with_reducible refine gate_dst (N := 2) rfl ?_); refine box_event ?hg (N := 2) ?hd (cs := #[.slice A0_0 l0_0.length c0_0]) (t := 57) ?hr ?_; (case hd => rfl); (case hg => rfl); (case hr => first | (go_simp; done) | (go_simp; rfl)); intro gb213 hg w5 hbox hb; have n0_ := Aside0.mk (Kd.V_below (Kd.V_elderB (by (with_reducible repeat (first | apply Kd.V_alloc | apply Kd.V_drewN | apply Kd.V_drew)); exact HO0_0.out) gb213 (Nat.le_of_eq hg.symm)) hb); have n1_ := Aside0.mk (below_step (by repeat (first | (with_reducible first | exact HB.out | apply below_alloc | apply pw_below_drewN | apply below_drew1) | exact HB.out)) hb); have n2_ := Aside0.mk (hbox); have n3_ := Aside0.mk ((by rw [hg]; exact (below_size (by repeat (first | (with_reducible first | exact HB.out | apply below_alloc | apply pw_below_drewN | apply below_drew1) | exact HB.out))) : w.heap.size ≤ gb213)); have n4_ := Aside0.mk ((by rw [hg]; exact (below_size (by repeat (first | (with_reducible first | exact HB.out | apply below_alloc | apply pw_below_drewN | apply below_drew1) | exact HB.out))) : w.heap.size ≤ gb213)); clear HO0_0; clear HB; have HO0_0 := n0_; have HB := n1_; have BK213 := n2_; have GW213 := n3_; have GE213 := n4_; clear n0_ n1_ n2_ n3_ n4_; clear hb hbox hg) | ((with_reducible refine gate_dst (N := 4) rfl ?_); refine box_event ?hg (N := 4) ?hd (cs := #[.slice none 0 0]) (t := 57) ?hr ?_; (case hd => rfl); (case hg => rfl); (case hr => first | (go_simp; done) | (go_simp; rfl)); intro gb214 hg w6 hbox hb; have n0_ := Aside0.mk (Kd.V_below (Kd.V_elderB (by (with_reducible repeat (first | apply Kd.V_alloc | apply Kd.V_drewN | apply Kd.V_drew)); exact HO0_0.out) gb214 (Nat.le_of_eq hg.symm)) hb); have n1_ := Aside0.mk (blk_below (g := gb213) (o := .cells #[.slice A0_0 l0_0.length c0_0] 57 (0, 0)) (by (with_reducible repeat (first | refine blk_drewN ?_ _ | refine blk_drew ?_ | refine blk_alloc ?_ _)); exact BK213.out) hb); have n2_ := Aside0.mk (below_step (by repeat (first | (with_reducible first | exact HB.out | apply below_alloc | apply pw_below_drewN | apply below_drew1 | refine below_set ?_ GE213.out) | exact HB.out)) hb); have n3_ := Aside0.mk (hbox); have n4_ := Aside0.mk ((by rw [hg]; exact (below_size (by repeat (first | (with_reducible first | exact HB.out | apply below_alloc | apply pw_below_drewN | apply below_drew1 | refine below_set ?_ GE213.out) | exact HB.out))) : w.heap.size ≤ gb214)); have n5_ := Aside0.mk ((by rw [hg]; exact (below_size (by repeat (first | (with_reducible first | exact HB.out | apply below_alloc | apply pw_below_drewN | apply below_drew1 | refine below_set ?_ GE213.out) | exact HB.out))) : w.heap.size ≤ gb214)); have n6_ := Aside0.mk ((by rw [hg]; exact Nat.ne_of_lt (blk_lt (g := gb213) (o := .cells #[.slice A0_0 l0_0.length c0_0] 57 (0, 0)) (by (with_reducible repeat (first | refine blk_drewN ?_ _ | refine blk_drew ?_ | refine blk_alloc ?_ _)); exact BK213.out)) : gb213 ≠ gb214)); have n7_ := Aside0.mk ((by rw [hg]; exact Nat.ne_of_gt (blk_lt (g := gb213) (o := .cells #[.slice A0_0 l0_0.length c0_0] 57 (0, 0)) (by (with_reducible repeat (first | refine blk_drewN ?_ _ | refine blk_drew ?_ | refine blk_alloc ?_ _)); exact BK213.out)) : gb214 ≠ gb213)); clear HO0_0; clear BK213; clear HB; have HO0_0 := n0_; have BK213 := n1_; have HB := n2_; have BK214 := n3_; have GW214 := n4_; have GE214 := n5_; have NB213_214 := n6_; have NB214_213 := n7_; clear n0_ n1_ n2_ n3_ n4_ n5_ n6_ n7_; clear hb hbox hg; have hnb7 := NB213_214.out; have hnc7 := NB214_213.out; have hcz8_0 : w6.cell? ⟨gb213, 0, none⟩ = some (.slice A0_0 l0_0.length c0_0) := (blk_cell BK213.out 0).trans rfl; have hfz8_0 := blk_frozen BK213.out 0) | ((with_reducible refine gate_callee (f := 43) rfl ?_); refine goesL_ (some 10) rfl rfl Try.func43 (by kernel_rfl) rfl #[.agg #[.slice A0_0 l0_0.length c0_0], .int .i64 a1] rfl (by (try simp only [List.map_toArray, List.map_cons, List.map_nil]); first | done | rfl | (simp only [List.length_drop, List.length_take]; rfl)) ?_; (with_reducible refine (marginaliaref05_Parent.calls k _ _ l0_0 a1 t215 _ ?side1 ?side2 A3.out).mono ?_); (case side1 => repeat (first | exact (Kd.V_reads' HO0_0.out).2.2 | (with_reducible refine Kd.C_alloc ?_ _) | (with_reducible refine Kd.C_drewN ?_ _) | (with_reducible refine Kd.C_drew ?_))); (case side2 => exact (Kd.V_reads' HO0_0.out).2.1); rintro e w9 ⟨rfl, hb⟩; refine ⟨_, rfl, ?_⟩; have n0_ := Aside0.mk (Kd.V_below (by (with_reducible repeat (first | apply Kd.V_alloc | apply Kd.V_drewN | apply Kd.V_drew)); exact HO0_0.out) hb); have n1_ := Aside0.mk (blk_below (g := gb213) (o := .cells #[.slice A0_0 l0_0.length c0_0] 57 (0, 0)) (by (with_reducible repeat (first | refine blk_drewN ?_ _ | refine blk_drew ?_ | refine blk_alloc ?_ _)); exact BK213.out) hb); have n2_ := Aside0.mk (blk_below (g := gb214) (o := .cells #[.slice none 0 0] 57 (0, 0)) (by (with_reducible repeat (first | refine blk_drewN ?_ _ | refine blk_drew ?_ | refine blk_alloc ?_ _)); exact BK214.out) hb); have n3_ := Aside0.mk (below_step (by repeat (first | (with_reducible first | exact HB.out | apply below_alloc | apply pw_below_drewN | apply below_drew1 | refine below_set ?_ GE213.out | refine below_set ?_ GE214.out) | exact HB.out)) hb); clear HO0_0; clear BK213; clear BK214; clear HB; have HO0_0 := n0_; have BK213 := n1_; have BK214 := n2_; have HB := n3_; clear n0_ n1_ n2_ n3_; (try clear hb); (try clear hb2); (try clear hk); (try clear hi); have hcz10_0 : w9.cell? ⟨gb213, 0, none⟩ = some (.slice A0_0 l0_0.length c0_0) := (blk_cell BK213.out 0).trans rfl; have hfz10_0 := blk_frozen BK213.out 0; have hcz11_0 : w9.cell? ⟨gb214, 0, none⟩ = some (.slice none 0 0) := (blk_cell BK214.out 0).trans rfl; have hfz11_0 := blk_frozen BK214.out 0))
    refine bodyPost_ret (results_cell_row rfl _ _ gb214 57 #[.slice A0_0 l0_0.length c0_0] (0, 0) _ rfl (by (with_reducible repeat (first | refine blk_drewN ?_ _ | refine blk_drew ?_ | refine blk_alloc ?_ _)); refine blk_put (cs := #[.slice none 0 0]) ?_ 0 _ rfl; (with_reducible repeat (first | refine blk_drewN ?_ _ | refine blk_drew ?_ | refine blk_alloc ?_ _)); exact BK214.out) Try.underlying57 rfl (by kernel_rfl)) rfl ?_
    exact ⟨_, by first | rfl | (simp [errW_none, errW_some] <;> rfl) | (simp [*, errW_none, errW_some] <;> rfl), by (with_reducible repeat (first | apply Kd.V_alloc | apply Kd.V_drewN | apply Kd.V_drew)); exact Kd.V_mono (Kd.V_far (p := ⟨gb214, 0, none⟩) (Kd.V_mono HO0_0.out (fun k_ hk => (⟨hk, hk.2⟩ : _ ∧ k_ ≠ gb214))) (fun _ hk => hk.2) (.slice A0_0 l0_0.length c0_0)) (fun _ hk => hk.1.1.1), by repeat (first | (with_reducible first | exact HB.out | apply below_alloc | apply pw_below_drewN | apply below_drew1 | refine below_set ?_ GE213.out | refine below_set ?_ GE214.out) | exact HB.out)⟩
  · rw [if_neg c4] at H
    have c4b0 : decide (t215 < 0) = false := decide_eq_false c4
    clear c4
    obtain ⟨y216, hy216⟩ : ∃ y_ : List Int, y_ = (([] : List Int)) := ⟨_, rfl⟩
    replace H : (marginaliaref05_out.l0 k a1 t215 y216 0 l0_0) = some r := by first | (rw [hy216]; with_reducible exact H) | (have H2_ := (Option.bind_some _ _).symm.trans H; rw [hy216]; with_reducible exact H2_) | (have H2_ := (Option.bind_some _ _).symm.trans H; with_reducible exact H2_) | with_reducible exact H | (rw [hy216]; exact H) | exact H
    have Ny216 := Aside0.mk hy216
    clear hy216
    have H' := Aside0.mk H
    clear H
    go_enter Try.func91, Try.ntmps91
    go_wp2_with (first | ((with_reducible refine gate_dst (N := 2) rfl ?_); refine box_event ?hg (N := 2) ?hd (cs := #[.slice A0_0 l0_0.length c0_0]) (t := 57) ?hr ?_; (case hd => rfl); (case hg => rfl); (case hr => first | (go_simp; done) | (go_simp; rfl)); intro gb213 hg w12 hbox hb; have n0_ := Aside0.mk (Kd.V_below (Kd.V_elderB (by (with_reducible repeat (first | apply Kd.V_alloc | apply Kd.V_drewN | apply Kd.V_drew)); exact HO0_0.out) gb213 (Nat.le_of_eq hg.symm)) hb); have n1_ := Aside0.mk (below_step (by repeat (first | (with_reducible first | exact HB.out | apply below_alloc | apply pw_below_drewN | apply below_drew1) | exact HB.out)) hb); have n2_ := Aside0.mk (hbox); have n3_ := Aside0.mk ((by rw [hg]; exact (below_size (by repeat (first | (with_reducible first | exact HB.out | apply below_alloc | apply pw_below_drewN | apply below_drew1) | exact HB.out))) : w.heap.size ≤ gb213)); have n4_ := Aside0.mk ((by rw [hg]; exact (below_size (by repeat (first | (with_reducible first | exact HB.out | apply below_alloc | apply pw_below_drewN | apply below_drew1) | exact HB.out))) : w.heap.size ≤ gb213)); clear HO0_0; clear HB; have HO0_0 := n0_; have HB := n1_; have BK213 := n2_; have GW213 := n3_; have GE213 := n4_; clear n0_ n1_ n2_ n3_ n4_; clear hb hbox hg) | ((with_reducible refine gate_dst (N := 4) rfl ?_); refine box_event ?hg (N := 4) ?hd (cs := #[.slice none 0 0]) (t := 57) ?hr ?_; (case hd => rfl); (case hg => rfl); (case hr => first | (go_simp; done) | (go_simp; rfl)); intro gb214 hg w13 hbox hb; have n0_ := Aside0.mk (Kd.V_below (Kd.V_elderB (by (with_reducible repeat (first | apply Kd.V_alloc | apply Kd.V_drewN | apply Kd.V_drew)); exact HO0_0.out) gb214 (Nat.le_of_eq hg.symm)) hb); have n1_ := Aside0.mk (blk_below (g := gb213) (o := .cells #[.slice A0_0 l0_0.length c0_0] 57 (0, 0)) (by (with_reducible repeat (first | refine blk_drewN ?_ _ | refine blk_drew ?_ | refine blk_alloc ?_ _)); exact BK213.out) hb); have n2_ := Aside0.mk (below_step (by repeat (first | (with_reducible first | exact HB.out | apply below_alloc | apply pw_below_drewN | apply below_drew1 | refine below_set ?_ GE213.out) | exact HB.out)) hb); have n3_ := Aside0.mk (hbox); have n4_ := Aside0.mk ((by rw [hg]; exact (below_size (by repeat (first | (with_reducible first | exact HB.out | apply below_alloc | apply pw_below_drewN | apply below_drew1 | refine below_set ?_ GE213.out) | exact HB.out))) : w.heap.size ≤ gb214)); have n5_ := Aside0.mk ((by rw [hg]; exact (below_size (by repeat (first | (with_reducible first | exact HB.out | apply below_alloc | apply pw_below_drewN | apply below_drew1 | refine below_set ?_ GE213.out) | exact HB.out))) : w.heap.size ≤ gb214)); have n6_ := Aside0.mk ((by rw [hg]; exact Nat.ne_of_lt (blk_lt (g := gb213) (o := .cells #[.slice A0_0 l0_0.length c0_0] 57 (0, 0)) (by (with_reducible repeat (first | refine blk_drewN ?_ _ | refine blk_drew ?_ | refine blk_alloc ?_ _)); exact BK213.out)) : gb213 ≠ gb214)); have n7_ := Aside0.mk ((by rw [hg]; exact Nat.ne_of_gt (blk_lt (g := gb213) (o := .cells #[.slice A0_0 l0_0.length c0_0] 57 (0, 0)) (by (with_reducible repeat (first | refine blk_drewN ?_ _ | refine blk_drew ?_ | refine blk_alloc ?_ _)); exact BK213.out)) : gb214 ≠ gb213)); clear HO0_0; clear BK213; clear HB; have HO0_0 := n0_; have BK213 := n1_; have HB := n2_; have BK214 := n3_; have GW214 := n4_; have GE214 := n5_; have NB213_214 := n6_; have NB214_213 := n7_; clear n0_ n1_ n2_ n3_ n4_ n5_ n6_ n7_; clear hb hbox hg; have hnb14 := NB213_214.out; have hnc14 := NB214_213.out; have hcz15_0 : w13.cell? ⟨gb213, 0, none⟩ = some (.slice A0_0 l0_0.length c0_0) := (blk_cell BK213.out 0).trans rfl; have hfz15_0 := blk_frozen BK213.out 0) | ((with_reducible refine gate_callee (f := 43) rfl ?_); refine goesL_ (some 10) rfl rfl Try.func43 (by kernel_rfl) rfl #[.agg #[.slice A0_0 l0_0.length c0_0], .int .i64 a1] rfl (by (try simp only [List.map_toArray, List.map_cons, List.map_nil]); first | done | rfl | (simp only [List.length_drop, List.length_take]; rfl)) ?_; (with_reducible refine (marginaliaref05_Parent.calls k _ _ l0_0 a1 t215 _ ?side1 ?side2 A3.out).mono ?_); (case side1 => repeat (first | exact (Kd.V_reads' HO0_0.out).2.2 | (with_reducible refine Kd.C_alloc ?_ _) | (with_reducible refine Kd.C_drewN ?_ _) | (with_reducible refine Kd.C_drew ?_))); (case side2 => exact (Kd.V_reads' HO0_0.out).2.1); rintro e w16 ⟨rfl, hb⟩; refine ⟨_, rfl, ?_⟩; have n0_ := Aside0.mk (Kd.V_below (by (with_reducible repeat (first | apply Kd.V_alloc | apply Kd.V_drewN | apply Kd.V_drew)); exact HO0_0.out) hb); have n1_ := Aside0.mk (blk_below (g := gb213) (o := .cells #[.slice A0_0 l0_0.length c0_0] 57 (0, 0)) (by (with_reducible repeat (first | refine blk_drewN ?_ _ | refine blk_drew ?_ | refine blk_alloc ?_ _)); exact BK213.out) hb); have n2_ := Aside0.mk (blk_below (g := gb214) (o := .cells #[.slice none 0 0] 57 (0, 0)) (by (with_reducible repeat (first | refine blk_drewN ?_ _ | refine blk_drew ?_ | refine blk_alloc ?_ _)); exact BK214.out) hb); have n3_ := Aside0.mk (below_step (by repeat (first | (with_reducible first | exact HB.out | apply below_alloc | apply pw_below_drewN | apply below_drew1 | refine below_set ?_ GE213.out | refine below_set ?_ GE214.out) | exact HB.out)) hb); clear HO0_0; clear BK213; clear BK214; clear HB; have HO0_0 := n0_; have BK213 := n1_; have BK214 := n2_; have HB := n3_; clear n0_ n1_ n2_ n3_; (try clear hb); (try clear hb2); (try clear hk); (try clear hi)) | ((with_reducible refine gate_dst (N := 14) rfl ?_); refine Kd.R_lit (Kd.int .i64) _ 3 ?hg (N := 14) ?hd (xs := ([] : List Int)) (inner := []) (ok := fun _ => True) (okp := fun _ => True) ?hr ?hp (fun _ hk => hk) trivial (Below.refl _ _) (Nat.le_refl _) (by simp) ?_; (case hd => rfl); (case hg => rfl); (case hr => first | (go_simp; done) | (go_simp; rfl)); (case hp => exact (Reps.none _ _)); intro v217 w17 ho18 hb hg_ hnew_; clear hg_ hnew_; (first | rw [← Ny216.out] at ho18 | (simp only [Int.reduceToNat] at ho18; rw [← Ny216.out] at ho18)); have n0_ := Aside0.mk (Kd.V_elder' (by (with_reducible repeat (first | apply Kd.V_alloc | apply Kd.V_drewN | apply Kd.V_drew)); exact HO0_0.out) (Kd.R_base ho18) hb); have n1_ := Aside0.mk (Kd.R_lower (Kd.R_newM (M := fun k_ => (w.heap.size ≤ k_)) ho18 (below_size (by repeat (first | (with_reducible first | exact HB.out | apply below_alloc | apply pw_below_drewN | apply below_drew1 | refine below_set ?_ GE213.out | refine below_set ?_ GE214.out) | exact HB.out))) (fun k_ h_ => h_)) (below_size (by repeat (first | (with_reducible first | exact HB.out | apply below_alloc | apply pw_below_drewN | apply below_drew1 | refine below_set ?_ GE213.out | refine below_set ?_ GE214.out) | exact HB.out)))); have n2_ := Aside0.mk (blk_below (g := gb213) (o := .cells #[.slice A0_0 l0_0.length c0_0] 57 (0, 0)) (by (with_reducible repeat (first | refine blk_drewN ?_ _ | refine blk_drew ?_ | refine blk_alloc ?_ _)); exact BK213.out) hb); have n3_ := Aside0.mk (blk_below (g := gb214) (o := .cells #[.slice none 0 0] 57 (0, 0)) (by (with_reducible repeat (first | refine blk_drewN ?_ _ | refine blk_drew ?_ | refine blk_alloc ?_ _)); exact BK214.out) hb); have n4_ := Aside0.mk (below_step (by repeat (first | (with_reducible first | exact HB.out | apply below_alloc | apply pw_below_drewN | apply below_drew1 | refine below_set ?_ GE213.out | refine below_set ?_ GE214.out) | exact HB.out)) hb); clear HO0_0; clear BK213; clear BK214; clear HB; have HO0_0 := n0_; have HO218 := n1_; have BK213 := n2_; have BK214 := n3_; have HB := n4_; clear n0_ n1_ n2_ n3_ n4_; clear hb ho18))
    go_loopg [6, 7] k (fun kq v6 v7 w' => ∃ (x6_1 : List Int) (x7_1 : Int), v7 = .int .i64 x7_1 ∧ Aside0 (marginaliaref05_out.l0 kq a1 t215 x6_1 x7_1 l0_0 = some r) ∧ Aside0 (kq ≤ k) ∧ Aside0 (Kd.R (Kd.int .i64) 3 w' w.heap.size (fun k_ => (w.heap.size ≤ k_)) v6 x6_1) ∧ Aside0 (Kd.V k116 116 w' w.heap.size (fun k_ => (P0_0_ k_ ∨ w.heap.size ≤ k_) ∧ some k_ ≠ (v6 : Value).ownBlock ∧ k_ ≠ gb213 ∧ k_ ≠ gb214) (.slice A0_0 l0_0.length c0_0) l0_0) ∧ Aside0 (w'.heap[gb213]? = some (.cells #[(.slice A0_0 l0_0.length c0_0)] 57 (0, 0))) ∧ Aside0 (w'.heap[gb214]? = some (.cells #[(.slice none 0 0)] 57 (0, 0))) ∧ Aside0 (Below w.heap.size w w'))
    case atStart => exact ⟨(y216), (0), (by first | rfl | (simp; done) | (simp [*]; done)), H', ⟨Nat.le_refl _⟩, ⟨by (with_reducible repeat (first | apply Kd.R_alloc | apply Kd.R_drewN | apply Kd.R_drew)); exact Kd.R_mono HO218.out (fun _ hk => hk.1)⟩, ⟨by (with_reducible repeat (first | apply Kd.V_alloc | apply Kd.V_drewN | apply Kd.V_drew)); exact Kd.V_mono HO0_0.out (fun _ hk => ⟨hk.1.1.1, ⟨hk.2, ⟨hk.1.1.2, hk.1.2⟩⟩⟩)⟩, ⟨by (with_reducible repeat (first | refine blk_drewN ?_ _ | refine blk_drew ?_ | refine blk_alloc ?_ _)); exact BK213.out⟩, ⟨by (with_reducible repeat (first | refine blk_drewN ?_ _ | refine blk_drew ?_ | refine blk_alloc ?_ _)); exact BK214.out⟩, ⟨by repeat (first | (with_reducible first | exact HB.out | apply below_alloc | apply pw_below_drewN | apply below_drew1 | refine below_set ?_ GE213.out | refine below_set ?_ GE214.out) | exact HB.out)⟩⟩
    case round =>
      clear H'
      try clear c1
      try clear p2
      try clear c4
      try clear c4b0
      try clear c7
      try clear c9
      try clear c14
      try clear hcz10_0
      try clear hcz11_0
      try clear hcz15_0
      try clear hcz8_0
      try clear hfz10_0
      try clear hfz11_0
      try clear hfz15_0
      try clear hfz8_0
      obtain ⟨x6_1, x7_1, rfl, HA, HK1, HO_6, HO_214000, BK213, BK214, HB⟩ := hrel
      cases gk with
      | zero => exact absurd HA.out (by simp [marginaliaref05_out.l0])
      | succ k1 =>
        have H := HA.out
        clear HA
        simp only [marginaliaref05_out.l0] at H
        by_cases c19 : 0 ≤ t215
        · rw [if_pos c19] at H
          have c19b0 : decide (0 ≤ t215) = true := decide_eq_true c19
          clear c19
          by_cases c20 : t215 < (l0_0.length : Int)
          · rw [if_pos c20] at H
            have c20b0 : decide (t215 < (l0_0.length : Int)) = true := decide_eq_true c20
            clear c20
            by_cases c21 : x7_1 < (((rd_T116 l0_0 t215).f1).length : Int)
            · rw [if_pos c21] at H
              have c21b0 : decide (x7_1 < (((rd_T116 l0_0 t215).f1).length : Int)) = true := decide_eq_true c21
              clear c21
              by_cases c22 : 0 ≤ x7_1
              · rw [if_pos c22] at H
                have c22b0 : decide (0 ≤ x7_1) = true := decide_eq_true c22
                clear c22
                by_cases c23 : (rd ((rd_T116 l0_0 t215).f1) x7_1) = a1
                · rw [if_pos c23] at H
                  have c23b0 : ((rd ((rd_T116 l0_0 t215).f1) x7_1) == a1) = true := beq_iff_eq.mpr c23
                  have c23b1 : ((rd ((rd_T116 l0_0 t215).f1) x7_1) != a1) = false := bne_eq_false_iff_eq.mpr c23
                  clear c23
                  have H' := Aside0.mk H
                  clear H
                  have hnb24 := NB213_214.out
                  have hnc24 := NB214_213.out
                  have hcz25_0 : wr.cell? ⟨gb213, 0, none⟩ = some (.slice A0_0 l0_0.length c0_0) := (blk_cell BK213.out 0).trans rfl
                  have hfz25_0 := blk_frozen BK213.out 0
                  have p219 : 0 ≤ (t215 : Int) := of_decide_eq_true (by first | (with_reducible assumption) | assumption)
                  have q219 : t215 < (l0_0.length : Int) := of_decide_eq_true (by first | (with_reducible assumption) | assumption)
                  obtain ⟨ad219, A219_3, c219_3, A219_5, c219_5, A219_6, c219_6, e219, hx219_0, hx219_1, hx219_2, hx219_3, hx219_4, hx219_5, hx219_6, hl219_3, hi219_3, hl219_5, hi219_5, hl219_6, hi219_6⟩ := at_T116 (Kd.V_reads' HO_214000.out).2.2 t215 p219 q219
                  cases e219
                  obtain ⟨ce219, hce219, hMe219, hcc219⟩ := Kd.V_get HO_214000.out z116 t215 p219 (by first | exact q219 | exact of_decide_eq_true (by first | (with_reducible assumption) | assumption) | (have e_ := (Kd.V_reads' HO_214000.out).1; omega))
                  obtain ⟨ua219_3, uc219_3, ua219_5, uc219_5, ua219_6, uc219_6, rfl, ul219_3, ge219_3, ul219_5, ge219_5, ul219_6, ge219_6⟩ := k116_openF hMe219
                  have hv219_3 := hcc219 3 _ rfl
                  rw [add_field _ _ 3 (by omega)] at hv219_3
                  replace hv219_3 := Option.some.inj (hv219_3.symm.trans hx219_3)
                  injection hv219_3 with hva_ hvn_ hvc_
                  rw [hva_] at ge219_3
                  rw [hvc_] at ul219_3
                  have HL219_3 := Aside0.mk (show Kd.V k103 103 _ w.heap.size _ _ ((rd_T116 l0_0 t215).f0.f3) from Kd.V_mk ul219_3 ge219_3)
                  clear hva_ hvn_ hvc_ ge219_3 ul219_3
                  have hv219_5 := hcc219 5 _ rfl
                  rw [add_field _ _ 5 (by omega)] at hv219_5
                  replace hv219_5 := Option.some.inj (hv219_5.symm.trans hx219_5)
                  injection hv219_5 with hva_ hvn_ hvc_
                  rw [hva_] at ge219_5
                  rw [hvc_] at ul219_5
                  have HL219_5 := Aside0.mk (show Kd.V k67 67 _ w.heap.size _ _ ((rd_T116 l0_0 t215).f0.f5) from Kd.V_mk ul219_5 ge219_5)
                  clear hva_ hvn_ hvc_ ge219_5 ul219_5
                  have hv219_6 := hcc219 6 _ rfl
                  rw [add_field _ _ 6 (by omega)] at hv219_6
                  replace hv219_6 := Option.some.inj (hv219_6.symm.trans hx219_6)
                  injection hv219_6 with hva_ hvn_ hvc_
                  rw [hva_] at ge219_6
                  rw [hvc_] at ul219_6
                  have HL219_6 := Aside0.mk (show Kd.V (Kd.int .i64) 3 _ w.heap.size _ _ ((rd_T116 l0_0 t215).f1) from Kd.V_mk ul219_6 ge219_6)
                  clear hva_ hvn_ hvc_ ge219_6 ul219_6
                  clear hcc219 hce219
                  have HR219_3 := Aside0.mk hi219_3
                  have HC219_3 := Aside0.mk hl219_3
                  clear hi219_3 hl219_3
                  have HR219_5 := Aside0.mk hi219_5
                  have HC219_5 := Aside0.mk hl219_5
                  clear hi219_5 hl219_5
                  have HR219_6 := Aside0.mk hi219_6
                  have HC219_6 := Aside0.mk hl219_6
                  clear hi219_6 hl219_6
                  replace p219 := eq_true p219
                  replace q219 := eq_true q219
                  have p223 : 0 ≤ (t215 : Int) := of_decide_eq_true (by first | (with_reducible assumption) | assumption)
                  have q223 : t215 < (l0_0.length : Int) := of_decide_eq_true (by first | (with_reducible assumption) | assumption)
                  obtain ⟨ad223, A223_3, c223_3, A223_5, c223_5, A223_6, c223_6, e223, hx223_0, hx223_1, hx223_2, hx223_3, hx223_4, hx223_5, hx223_6, hl223_3, hi223_3, hl223_5, hi223_5, hl223_6, hi223_6⟩ := at_T116 (Kd.V_reads' HO_214000.out).2.2 t215 p223 q223
                  obtain rfl : ad219 = ad223 := (by injection e223)
                  obtain ⟨ce223, hce223, hMe223, hcc223⟩ := Kd.V_get HO_214000.out z116 t215 p223 (by first | exact q223 | exact of_decide_eq_true (by first | (with_reducible assumption) | assumption) | (have e_ := (Kd.V_reads' HO_214000.out).1; omega))
                  obtain ⟨ua223_3, uc223_3, ua223_5, uc223_5, ua223_6, uc223_6, rfl, ul223_3, ge223_3, ul223_5, ge223_5, ul223_6, ge223_6⟩ := k116_openF hMe223
                  have hv223_3 := hcc223 3 _ rfl
                  rw [add_field _ _ 3 (by omega)] at hv223_3
                  replace hv223_3 := Option.some.inj (hv223_3.symm.trans hx223_3)
                  injection hv223_3 with hva_ hvn_ hvc_
                  rw [hva_] at ge223_3
                  rw [hvc_] at ul223_3
                  have HL223_3 := Aside0.mk (show Kd.V k103 103 _ w.heap.size _ _ ((rd_T116 l0_0 t215).f0.f3) from Kd.V_mk ul223_3 ge223_3)
                  clear hva_ hvn_ hvc_ ge223_3 ul223_3
                  have hv223_5 := hcc223 5 _ rfl
                  rw [add_field _ _ 5 (by omega)] at hv223_5
                  replace hv223_5 := Option.some.inj (hv223_5.symm.trans hx223_5)
                  injection hv223_5 with hva_ hvn_ hvc_
                  rw [hva_] at ge223_5
                  rw [hvc_] at ul223_5
                  have HL223_5 := Aside0.mk (show Kd.V k67 67 _ w.heap.size _ _ ((rd_T116 l0_0 t215).f0.f5) from Kd.V_mk ul223_5 ge223_5)
                  clear hva_ hvn_ hvc_ ge223_5 ul223_5
                  have hv223_6 := hcc223 6 _ rfl
                  rw [add_field _ _ 6 (by omega)] at hv223_6
                  replace hv223_6 := Option.some.inj (hv223_6.symm.trans hx223_6)
                  injection hv223_6 with hva_ hvn_ hvc_
                  rw [hva_] at ge223_6
                  rw [hvc_] at ul223_6
                  have HL223_6 := Aside0.mk (show Kd.V (Kd.int .i64) 3 _ w.heap.size _ _ ((rd_T116 l0_0 t215).f1) from Kd.V_mk ul223_6 ge223_6)
                  clear hva_ hvn_ hvc_ ge223_6 ul223_6
                  clear hcc223 hce223
                  have HR223_3 := Aside0.mk hi223_3
                  have HC223_3 := Aside0.mk hl223_3
                  clear hi223_3 hl223_3
                  have HR223_5 := Aside0.mk hi223_5
                  have HC223_5 := Aside0.mk hl223_5
                  clear hi223_5 hl223_5
                  have HR223_6 := Aside0.mk hi223_6
                  have HC223_6 := Aside0.mk hl223_6
                  clear hi223_6 hl223_6
                  replace p223 := eq_true p223
                  replace q223 := eq_true q223
                  have ea_ := Option.some.inj (hx219_3.symm.trans hx223_3)
                  injection ea_ with ea_ en_ ec_
                  subst ea_
                  subst ec_
                  clear en_
                  have ea_ := Option.some.inj (hx219_5.symm.trans hx223_5)
                  injection ea_ with ea_ en_ ec_
                  subst ea_
                  subst ec_
                  clear en_
                  have ea_ := Option.some.inj (hx219_6.symm.trans hx223_6)
                  injection ea_ with ea_ en_ ec_
                  subst ea_
                  subst ec_
                  clear en_
                  have p224 : 0 ≤ (x7_1 : Int) := of_decide_eq_true (by first | (with_reducible assumption) | assumption)
                  have q224 : x7_1 < (((rd_T116 l0_0 t215).f1).length : Int) := of_decide_eq_true (by first | (with_reducible assumption) | assumption)
                  obtain ⟨ad224, e224, hx224_0⟩ := Kd.at_int (by repeat (first | (with_reducible exact HR223_6.out) | (with_reducible refine Kd.C_alloc ?_ _) | (with_reducible refine Kd.C_drewN ?_ _) | (with_reducible refine Kd.C_drew ?_) | exact HR223_6.out)) x7_1 p224 q224
                  cases e224
                  replace p224 := eq_true p224
                  replace q224 := eq_true q224
                  go_wp2
                  go_roundg k1
                  case measure => have := HK1.out; omega
                  case rel => exact ⟨(x6_1), (wrap64 (x7_1 + 1)), (by first | rfl | (simp; done) | (simp [*]; done)), H', ⟨by have := HK1.out; omega⟩, ⟨by (with_reducible repeat (first | apply Kd.R_alloc | apply Kd.R_drewN | apply Kd.R_drew)); exact HO_6.out⟩, ⟨by (with_reducible repeat (first | apply Kd.V_alloc | apply Kd.V_drewN | apply Kd.V_drew)); exact HO_214000.out⟩, ⟨by (with_reducible repeat (first | refine blk_drewN ?_ _ | refine blk_drew ?_ | refine blk_alloc ?_ _)); exact BK213.out⟩, ⟨by (with_reducible repeat (first | refine blk_drewN ?_ _ | refine blk_drew ?_ | refine blk_alloc ?_ _)); exact BK214.out⟩, ⟨by repeat (first | (with_reducible first | exact HB.out | apply below_alloc | apply pw_below_drewN | apply below_drew1 | refine below_set ?_ GE213.out | refine below_set ?_ GE214.out) | exact HB.out)⟩⟩
                · rw [if_neg c23] at H
                  have c23b0 : ((rd ((rd_T116 l0_0 t215).f1) x7_1) == a1) = false := beq_eq_false_iff_ne.mpr c23
                  have c23b1 : ((rd ((rd_T116 l0_0 t215).f1) x7_1) != a1) = true := bne_iff_ne.mpr c23
                  by_cases c26 : x6_1.length < 17592186044416
                  · rw [if_pos c26] at H
                    have LMc26 := Aside0.mk c26
                    clear c26
                    obtain ⟨y227, hy227⟩ : ∃ y_ : List Int, y_ = (x6_1 ++ [rd ((rd_T116 l0_0 t215).f1) x7_1]) := ⟨_, rfl⟩
                    replace H : (marginaliaref05_out.l0 k1 a1 t215 y227 (wrap64 (x7_1 + 1)) l0_0) = some r := by first | (rw [hy227]; with_reducible exact H) | (have H2_ := (Option.bind_some _ _).symm.trans H; rw [hy227]; with_reducible exact H2_) | (have H2_ := (Option.bind_some _ _).symm.trans H; with_reducible exact H2_) | with_reducible exact H | (rw [hy227]; exact H) | exact H
                    have Ny227 := Aside0.mk hy227
                    clear hy227
                    have H' := Aside0.mk H
                    clear H
                    have hnb27 := NB213_214.out
                    have hnc27 := NB214_213.out
                    have hcz28_0 : wr.cell? ⟨gb213, 0, none⟩ = some (.slice A0_0 l0_0.length c0_0) := (blk_cell BK213.out 0).trans rfl
                    have hfz28_0 := blk_frozen BK213.out 0
                    have p219 : 0 ≤ (t215 : Int) := of_decide_eq_true (by first | (with_reducible assumption) | assumption)
                    have q219 : t215 < (l0_0.length : Int) := of_decide_eq_true (by first | (with_reducible assumption) | assumption)
                    obtain ⟨ad219, A219_3, c219_3, A219_5, c219_5, A219_6, c219_6, e219, hx219_0, hx219_1, hx219_2, hx219_3, hx219_4, hx219_5, hx219_6, hl219_3, hi219_3, hl219_5, hi219_5, hl219_6, hi219_6⟩ := at_T116 (Kd.V_reads' HO_214000.out).2.2 t215 p219 q219
                    cases e219
                    obtain ⟨ce219, hce219, hMe219, hcc219⟩ := Kd.V_get HO_214000.out z116 t215 p219 (by first | exact q219 | exact of_decide_eq_true (by first | (with_reducible assumption) | assumption) | (have e_ := (Kd.V_reads' HO_214000.out).1; omega))
                    obtain ⟨ua219_3, uc219_3, ua219_5, uc219_5, ua219_6, uc219_6, rfl, ul219_3, ge219_3, ul219_5, ge219_5, ul219_6, ge219_6⟩ := k116_openF hMe219
                    have hv219_3 := hcc219 3 _ rfl
                    rw [add_field _ _ 3 (by omega)] at hv219_3
                    replace hv219_3 := Option.some.inj (hv219_3.symm.trans hx219_3)
                    injection hv219_3 with hva_ hvn_ hvc_
                    rw [hva_] at ge219_3
                    rw [hvc_] at ul219_3
                    have HL219_3 := Aside0.mk (show Kd.V k103 103 _ w.heap.size _ _ ((rd_T116 l0_0 t215).f0.f3) from Kd.V_mk ul219_3 ge219_3)
                    clear hva_ hvn_ hvc_ ge219_3 ul219_3
                    have hv219_5 := hcc219 5 _ rfl
                    rw [add_field _ _ 5 (by omega)] at hv219_5
                    replace hv219_5 := Option.some.inj (hv219_5.symm.trans hx219_5)
                    injection hv219_5 with hva_ hvn_ hvc_
                    rw [hva_] at ge219_5
                    rw [hvc_] at ul219_5
                    have HL219_5 := Aside0.mk (show Kd.V k67 67 _ w.heap.size _ _ ((rd_T116 l0_0 t215).f0.f5) from Kd.V_mk ul219_5 ge219_5)
                    clear hva_ hvn_ hvc_ ge219_5 ul219_5
                    have hv219_6 := hcc219 6 _ rfl
                    rw [add_field _ _ 6 (by omega)] at hv219_6
                    replace hv219_6 := Option.some.inj (hv219_6.symm.trans hx219_6)
                    injection hv219_6 with hva_ hvn_ hvc_
                    rw [hva_] at ge219_6
                    rw [hvc_] at ul219_6
                    have HL219_6 := Aside0.mk (show Kd.V (Kd.int .i64) 3 _ w.heap.size _ _ ((rd_T116 l0_0 t215).f1) from Kd.V_mk ul219_6 ge219_6)
                    clear hva_ hvn_ hvc_ ge219_6 ul219_6
                    clear hcc219 hce219
                    have HR219_3 := Aside0.mk hi219_3
                    have HC219_3 := Aside0.mk hl219_3
                    clear hi219_3 hl219_3
                    have HR219_5 := Aside0.mk hi219_5
                    have HC219_5 := Aside0.mk hl219_5
                    clear hi219_5 hl219_5
                    have HR219_6 := Aside0.mk hi219_6
                    have HC219_6 := Aside0.mk hl219_6
                    clear hi219_6 hl219_6
                    replace p219 := eq_true p219
                    replace q219 := eq_true q219
                    have p223 : 0 ≤ (t215 : Int) := of_decide_eq_true (by first | (with_reducible assumption) | assumption)
                    have q223 : t215 < (l0_0.length : Int) := of_decide_eq_true (by first | (with_reducible assumption) | assumption)
                    obtain ⟨ad223, A223_3, c223_3, A223_5, c223_5, A223_6, c223_6, e223, hx223_0, hx223_1, hx223_2, hx223_3, hx223_4, hx223_5, hx223_6, hl223_3, hi223_3, hl223_5, hi223_5, hl223_6, hi223_6⟩ := at_T116 (Kd.V_reads' HO_214000.out).2.2 t215 p223 q223
                    obtain rfl : ad219 = ad223 := (by injection e223)
                    obtain ⟨ce223, hce223, hMe223, hcc223⟩ := Kd.V_get HO_214000.out z116 t215 p223 (by first | exact q223 | exact of_decide_eq_true (by first | (with_reducible assumption) | assumption) | (have e_ := (Kd.V_reads' HO_214000.out).1; omega))
                    obtain ⟨ua223_3, uc223_3, ua223_5, uc223_5, ua223_6, uc223_6, rfl, ul223_3, ge223_3, ul223_5, ge223_5, ul223_6, ge223_6⟩ := k116_openF hMe223
                    have hv223_3 := hcc223 3 _ rfl
                    rw [add_field _ _ 3 (by omega)] at hv223_3
                    replace hv223_3 := Option.some.inj (hv223_3.symm.trans hx223_3)
                    injection hv223_3 with hva_ hvn_ hvc_
                    rw [hva_] at ge223_3
                    rw [hvc_] at ul223_3
                    have HL223_3 := Aside0.mk (show Kd.V k103 103 _ w.heap.size _ _ ((rd_T116 l0_0 t215).f0.f3) from Kd.V_mk ul223_3 ge223_3)
                    clear hva_ hvn_ hvc_ ge223_3 ul223_3
                    have hv223_5 := hcc223 5 _ rfl
                    rw [add_field _ _ 5 (by omega)] at hv223_5
                    replace hv223_5 := Option.some.inj (hv223_5.symm.trans hx223_5)
                    injection hv223_5 with hva_ hvn_ hvc_
                    rw [hva_] at ge223_5
                    rw [hvc_] at ul223_5
                    have HL223_5 := Aside0.mk (show Kd.V k67 67 _ w.heap.size _ _ ((rd_T116 l0_0 t215).f0.f5) from Kd.V_mk ul223_5 ge223_5)
                    clear hva_ hvn_ hvc_ ge223_5 ul223_5
                    have hv223_6 := hcc223 6 _ rfl
                    rw [add_field _ _ 6 (by omega)] at hv223_6
                    replace hv223_6 := Option.some.inj (hv223_6.symm.trans hx223_6)
                    injection hv223_6 with hva_ hvn_ hvc_
                    rw [hva_] at ge223_6
                    rw [hvc_] at ul223_6
                    have HL223_6 := Aside0.mk (show Kd.V (Kd.int .i64) 3 _ w.heap.size _ _ ((rd_T116 l0_0 t215).f1) from Kd.V_mk ul223_6 ge223_6)
                    clear hva_ hvn_ hvc_ ge223_6 ul223_6
                    clear hcc223 hce223
                    have HR223_3 := Aside0.mk hi223_3
                    have HC223_3 := Aside0.mk hl223_3
                    clear hi223_3 hl223_3
                    have HR223_5 := Aside0.mk hi223_5
                    have HC223_5 := Aside0.mk hl223_5
                    clear hi223_5 hl223_5
                    have HR223_6 := Aside0.mk hi223_6
                    have HC223_6 := Aside0.mk hl223_6
                    clear hi223_6 hl223_6
                    replace p223 := eq_true p223
                    replace q223 := eq_true q223
                    have ea_ := Option.some.inj (hx219_3.symm.trans hx223_3)
                    injection ea_ with ea_ en_ ec_
                    subst ea_
                    subst ec_
                    clear en_
                    have ea_ := Option.some.inj (hx219_5.symm.trans hx223_5)
                    injection ea_ with ea_ en_ ec_
                    subst ea_
                    subst ec_
                    clear en_
                    have ea_ := Option.some.inj (hx219_6.symm.trans hx223_6)
                    injection ea_ with ea_ en_ ec_
                    subst ea_
                    subst ec_
                    clear en_
                    have p224 : 0 ≤ (x7_1 : Int) := of_decide_eq_true (by first | (with_reducible assumption) | assumption)
                    have q224 : x7_1 < (((rd_T116 l0_0 t215).f1).length : Int) := of_decide_eq_true (by first | (with_reducible assumption) | assumption)
                    obtain ⟨ad224, e224, hx224_0⟩ := Kd.at_int (by repeat (first | (with_reducible exact HR223_6.out) | (with_reducible refine Kd.C_alloc ?_ _) | (with_reducible refine Kd.C_drewN ?_ _) | (with_reducible refine Kd.C_drew ?_) | exact HR223_6.out)) x7_1 p224 q224
                    cases e224
                    replace p224 := eq_true p224
                    replace q224 := eq_true q224
                    have p225 : 0 ≤ (t215 : Int) := of_decide_eq_true (by first | (with_reducible assumption) | assumption)
                    have q225 : t215 < (l0_0.length : Int) := of_decide_eq_true (by first | (with_reducible assumption) | assumption)
                    obtain ⟨ad225, A225_3, c225_3, A225_5, c225_5, A225_6, c225_6, e225, hx225_0, hx225_1, hx225_2, hx225_3, hx225_4, hx225_5, hx225_6, hl225_3, hi225_3, hl225_5, hi225_5, hl225_6, hi225_6⟩ := at_T116 (Kd.V_reads' HO_214000.out).2.2 t215 p225 q225
                    obtain rfl : ad219 = ad225 := (by injection e225)
                    obtain ⟨ce225, hce225, hMe225, hcc225⟩ := Kd.V_get HO_214000.out z116 t215 p225 (by first | exact q225 | exact of_decide_eq_true (by first | (with_reducible assumption) | assumption) | (have e_ := (Kd.V_reads' HO_214000.out).1; omega))
                    obtain ⟨ua225_3, uc225_3, ua225_5, uc225_5, ua225_6, uc225_6, rfl, ul225_3, ge225_3, ul225_5, ge225_5, ul225_6, ge225_6⟩ := k116_openF hMe225
                    have hv225_3 := hcc225 3 _ rfl
                    rw [add_field _ _ 3 (by omega)] at hv225_3
                    replace hv225_3 := Option.some.inj (hv225_3.symm.trans hx225_3)
                    injection hv225_3 with hva_ hvn_ hvc_
                    rw [hva_] at ge225_3
                    rw [hvc_] at ul225_3
                    have HL225_3 := Aside0.mk (show Kd.V k103 103 _ w.heap.size _ _ ((rd_T116 l0_0 t215).f0.f3) from Kd.V_mk ul225_3 ge225_3)
                    clear hva_ hvn_ hvc_ ge225_3 ul225_3
                    have hv225_5 := hcc225 5 _ rfl
                    rw [add_field _ _ 5 (by omega)] at hv225_5
                    replace hv225_5 := Option.some.inj (hv225_5.symm.trans hx225_5)
                    injection hv225_5 with hva_ hvn_ hvc_
                    rw [hva_] at ge225_5
                    rw [hvc_] at ul225_5
                    have HL225_5 := Aside0.mk (show Kd.V k67 67 _ w.heap.size _ _ ((rd_T116 l0_0 t215).f0.f5) from Kd.V_mk ul225_5 ge225_5)
                    clear hva_ hvn_ hvc_ ge225_5 ul225_5
                    have hv225_6 := hcc225 6 _ rfl
                    rw [add_field _ _ 6 (by omega)] at hv225_6
                    replace hv225_6 := Option.some.inj (hv225_6.symm.trans hx225_6)
                    injection hv225_6 with hva_ hvn_ hvc_
                    rw [hva_] at ge225_6
                    rw [hvc_] at ul225_6
                    have HL225_6 := Aside0.mk (show Kd.V (Kd.int .i64) 3 _ w.heap.size _ _ ((rd_T116 l0_0 t215).f1) from Kd.V_mk ul225_6 ge225_6)
                    clear hva_ hvn_ hvc_ ge225_6 ul225_6
                    clear hcc225 hce225
                    have HR225_3 := Aside0.mk hi225_3
                    have HC225_3 := Aside0.mk hl225_3
                    clear hi225_3 hl225_3
                    have HR225_5 := Aside0.mk hi225_5
                    have HC225_5 := Aside0.mk hl225_5
                    clear hi225_5 hl225_5
                    have HR225_6 := Aside0.mk hi225_6
                    have HC225_6 := Aside0.mk hl225_6
                    clear hi225_6 hl225_6
                    replace p225 := eq_true p225
                    replace q225 := eq_true q225
                    have ea_ := Option.some.inj (hx219_3.symm.trans hx225_3)
                    injection ea_ with ea_ en_ ec_
                    subst ea_
                    subst ec_
                    clear en_
                    have ea_ := Option.some.inj (hx219_5.symm.trans hx225_5)
                    injection ea_ with ea_ en_ ec_
                    subst ea_
                    subst ec_
                    clear en_
                    have ea_ := Option.some.inj (hx219_6.symm.trans hx225_6)
                    injection ea_ with ea_ en_ ec_
                    subst ea_
                    subst ec_
                    clear en_
                    have p226 : 0 ≤ (x7_1 : Int) := of_decide_eq_true (by first | (with_reducible assumption) | assumption)
                    have q226 : x7_1 < (((rd_T116 l0_0 t215).f1).length : Int) := of_decide_eq_true (by first | (with_reducible assumption) | assumption)
                    obtain ⟨ad226, e226, hx226_0⟩ := Kd.at_int (by repeat (first | (with_reducible exact HR225_6.out) | (with_reducible refine Kd.C_alloc ?_ _) | (with_reducible refine Kd.C_drewN ?_ _) | (with_reducible refine Kd.C_drew ?_) | exact HR225_6.out)) x7_1 p226 q226
                    cases e226
                    replace p226 := eq_true p226
                    replace q226 := eq_true q226
                    go_wp2_with (first | ((with_reducible refine gate_builtin (b := .append) (xs := #[.tmp 37, .tmp 47]) rfl ?_); at_builtin; refine Kd.R_append (Kd.int .i64) (w0 := w) w.heap.size rfl (.tmp 37) (.tmp 47) 61 3 (.int .i64 0) 8 rfl Try.underlying61 info3 rfl (by decide) (by omega) u6 x6_1 (rd ((rd_T116 l0_0 t215).f1) x7_1) [.int .i64 (rd ((rd_T116 l0_0 t215).f1) x7_1)] (fun k_ => (w.heap.size ≤ k_)) (fun _ => False) rfl rfl ?aP (fun _ hk => hk.elim) ?aF ?aO ?aB ?aS ?aL ?_; (case aP => exact rfl); (case aB => exact (by repeat (first | (with_reducible first | exact HB.out | apply below_alloc | apply pw_below_drewN | apply below_drew1 | refine below_set ?_ GE213.out | refine below_set ?_ GE214.out) | exact HB.out))); (case aF => exact (fun k_ hk => (Nat.le_trans (below_size (by repeat (first | (with_reducible first | exact HB.out | apply below_alloc | apply pw_below_drewN | apply below_drew1 | refine below_set ?_ GE213.out | refine below_set ?_ GE214.out) | exact HB.out))) hk))); (case aO => exact (by (with_reducible repeat (first | apply Kd.R_alloc | apply Kd.R_drewN | apply Kd.R_drew)); exact HO_6.out)); (case aS => exact (below_size (by repeat (first | (with_reducible first | exact HB.out | apply below_alloc | apply pw_below_drewN | apply below_drew1 | refine below_set ?_ GE213.out | refine below_set ?_ GE214.out) | exact HB.out)))); (case aL => have := LMc26.out; omega); intro v228 w29 ho hb hg hat; rw [← Ny227.out] at ho; have n0_ := Aside0.mk (Kd.V_afterv (ok := (fun k_ => (P0_0_ k_ ∨ w.heap.size ≤ k_) ∧ k_ ≠ gb213 ∧ k_ ≠ gb214)) (by (with_reducible repeat (first | apply Kd.V_alloc | apply Kd.V_drewN | apply Kd.V_drew)); exact Kd.V_mono HO_214000.out (fun _ hk => ⟨⟨hk.1, ⟨hk.2.2.1, hk.2.2.2⟩⟩, hk.2.1⟩)) hg hat); have n1_ := Aside0.mk (blk_grown (g := gb213) (o := .cells #[.slice (some ad219) l0_0.length c0_0] 57 (0, 0)) (by (with_reducible repeat (first | refine blk_drewN ?_ _ | refine blk_drew ?_ | refine blk_alloc ?_ _)); exact BK213.out) hg (Kd.R_ne HO_6.out BK213.out (by decide))); have n2_ := Aside0.mk (blk_grown (g := gb214) (o := .cells #[.slice none 0 0] 57 (0, 0)) (by (with_reducible repeat (first | refine blk_drewN ?_ _ | refine blk_drew ?_ | refine blk_alloc ?_ _)); exact BK214.out) hg (Kd.R_ne HO_6.out BK214.out (by decide))); have n3_ := Aside0.mk (Kd.V_afterv (ok := (fun k_ => (P0_0_ k_ ∨ w.heap.size ≤ k_) ∧ k_ ≠ gb213 ∧ k_ ≠ gb214)) (by (with_reducible repeat (first | apply Kd.V_alloc | apply Kd.V_drewN | apply Kd.V_drew)); exact Kd.V_mono HL219_3.out (fun _ hk => ⟨⟨hk.1, ⟨hk.2.2.1, hk.2.2.2⟩⟩, hk.2.1⟩)) hg hat); have n4_ := Aside0.mk (Kd.V_afterv (ok := (fun k_ => (P0_0_ k_ ∨ w.heap.size ≤ k_) ∧ k_ ≠ gb213 ∧ k_ ≠ gb214)) (by (with_reducible repeat (first | apply Kd.V_alloc | apply Kd.V_drewN | apply Kd.V_drew)); exact Kd.V_mono HL219_5.out (fun _ hk => ⟨⟨hk.1, ⟨hk.2.2.1, hk.2.2.2⟩⟩, hk.2.1⟩)) hg hat); have n5_ := Aside0.mk (Kd.V_afterv (ok := (fun k_ => (P0_0_ k_ ∨ w.heap.size ≤ k_) ∧ k_ ≠ gb213 ∧ k_ ≠ gb214)) (by (with_reducible repeat (first | apply Kd.V_alloc | apply Kd.V_drewN | apply Kd.V_drew)); exact Kd.V_mono HL219_6.out (fun _ hk => ⟨⟨hk.1, ⟨hk.2.2.1, hk.2.2.2⟩⟩, hk.2.1⟩)) hg hat); have n6_ := Aside0.mk (Kd.V_afterv (ok := (fun k_ => (P0_0_ k_ ∨ w.heap.size ≤ k_) ∧ k_ ≠ gb213 ∧ k_ ≠ gb214)) (by (with_reducible repeat (first | apply Kd.V_alloc | apply Kd.V_drewN | apply Kd.V_drew)); exact Kd.V_mono HL223_3.out (fun _ hk => ⟨⟨hk.1, ⟨hk.2.2.1, hk.2.2.2⟩⟩, hk.2.1⟩)) hg hat); have n7_ := Aside0.mk (Kd.V_afterv (ok := (fun k_ => (P0_0_ k_ ∨ w.heap.size ≤ k_) ∧ k_ ≠ gb213 ∧ k_ ≠ gb214)) (by (with_reducible repeat (first | apply Kd.V_alloc | apply Kd.V_drewN | apply Kd.V_drew)); exact Kd.V_mono HL223_5.out (fun _ hk => ⟨⟨hk.1, ⟨hk.2.2.1, hk.2.2.2⟩⟩, hk.2.1⟩)) hg hat); have n8_ := Aside0.mk (Kd.V_afterv (ok := (fun k_ => (P0_0_ k_ ∨ w.heap.size ≤ k_) ∧ k_ ≠ gb213 ∧ k_ ≠ gb214)) (by (with_reducible repeat (first | apply Kd.V_alloc | apply Kd.V_drewN | apply Kd.V_drew)); exact Kd.V_mono HL223_6.out (fun _ hk => ⟨⟨hk.1, ⟨hk.2.2.1, hk.2.2.2⟩⟩, hk.2.1⟩)) hg hat); have n9_ := Aside0.mk (Kd.V_afterv (ok := (fun k_ => (P0_0_ k_ ∨ w.heap.size ≤ k_) ∧ k_ ≠ gb213 ∧ k_ ≠ gb214)) (by (with_reducible repeat (first | apply Kd.V_alloc | apply Kd.V_drewN | apply Kd.V_drew)); exact Kd.V_mono HL225_3.out (fun _ hk => ⟨⟨hk.1, ⟨hk.2.2.1, hk.2.2.2⟩⟩, hk.2.1⟩)) hg hat); have n10_ := Aside0.mk (Kd.V_afterv (ok := (fun k_ => (P0_0_ k_ ∨ w.heap.size ≤ k_) ∧ k_ ≠ gb213 ∧ k_ ≠ gb214)) (by (with_reducible repeat (first | apply Kd.V_alloc | apply Kd.V_drewN | apply Kd.V_drew)); exact Kd.V_mono HL225_5.out (fun _ hk => ⟨⟨hk.1, ⟨hk.2.2.1, hk.2.2.2⟩⟩, hk.2.1⟩)) hg hat); have n11_ := Aside0.mk (Kd.V_afterv (ok := (fun k_ => (P0_0_ k_ ∨ w.heap.size ≤ k_) ∧ k_ ≠ gb213 ∧ k_ ≠ gb214)) (by (with_reducible repeat (first | apply Kd.V_alloc | apply Kd.V_drewN | apply Kd.V_drew)); exact Kd.V_mono HL225_6.out (fun _ hk => ⟨⟨hk.1, ⟨hk.2.2.1, hk.2.2.2⟩⟩, hk.2.1⟩)) hg hat); have n12_ := Aside0.mk (hb); have n13_ := Aside0.mk (ho); clear HO_214000; clear BK213; clear BK214; clear HL219_3; clear HL219_5; clear HL219_6; clear HL223_3; clear HL223_5; clear HL223_6; clear HL225_3; clear HL225_5; clear HL225_6; clear HB; clear HO_6; have HO_214000 := n0_; have BK213 := n1_; have BK214 := n2_; have HL219_3 := n3_; have HL219_5 := n4_; have HL219_6 := n5_; have HL223_3 := n6_; have HL223_5 := n7_; have HL223_6 := n8_; have HL225_3 := n9_; have HL225_5 := n10_; have HL225_6 := n11_; have HB := n12_; have HO229 := n13_; clear n0_ n1_ n2_ n3_ n4_ n5_ n6_ n7_ n8_ n9_ n10_ n11_ n12_ n13_; clear ho hb hg hat))
                    go_roundg k1
                    case measure => have := HK1.out; omega
                    case rel => exact ⟨(y227), (wrap64 (x7_1 + 1)), (by first | rfl | (simp; done) | (simp [*]; done)), H', ⟨by have := HK1.out; omega⟩, ⟨by (with_reducible repeat (first | apply Kd.R_alloc | apply Kd.R_drewN | apply Kd.R_drew)); exact HO229.out⟩, ⟨by (with_reducible repeat (first | apply Kd.V_alloc | apply Kd.V_drewN | apply Kd.V_drew)); exact Kd.V_mono HO_214000.out (fun _ hk => ⟨hk.1.1, ⟨hk.2, ⟨hk.1.2.1, hk.1.2.2⟩⟩⟩)⟩, ⟨by (with_reducible repeat (first | refine blk_drewN ?_ _ | refine blk_drew ?_ | refine blk_alloc ?_ _)); exact BK213.out⟩, ⟨by (with_reducible repeat (first | refine blk_drewN ?_ _ | refine blk_drew ?_ | refine blk_alloc ?_ _)); exact BK214.out⟩, ⟨by repeat (first | (with_reducible first | exact HB.out | apply below_alloc | apply pw_below_drewN | apply below_drew1 | refine below_set ?_ GE213.out | refine below_set ?_ GE214.out) | exact HB.out)⟩⟩
                  · rw [if_neg c26] at H
                    exact absurd H (by simp)
              · rw [if_neg c22] at H
                exact absurd H (by simp)
            · rw [if_neg c21] at H
              have c21b0 : decide (x7_1 < (((rd_T116 l0_0 t215).f1).length : Int)) = false := decide_eq_false c21
              clear c21
              replace H := Option.bind_eq_some_iff.mp H
              obtain ⟨t220, A300, H⟩ := H
              replace H : (some t220) = some r := H
              have A30 := Aside0.mk A300
              clear A300
              obtain rfl := Option.some.inj H
              have hnb31 := NB213_214.out
              have hnc31 := NB214_213.out
              have hcz32_0 : wr.cell? ⟨gb213, 0, none⟩ = some (.slice A0_0 l0_0.length c0_0) := (blk_cell BK213.out 0).trans rfl
              have hfz32_0 := blk_frozen BK213.out 0
              have p219 : 0 ≤ (t215 : Int) := of_decide_eq_true (by first | (with_reducible assumption) | assumption)
              have q219 : t215 < (l0_0.length : Int) := of_decide_eq_true (by first | (with_reducible assumption) | assumption)
              obtain ⟨ad219, A219_3, c219_3, A219_5, c219_5, A219_6, c219_6, e219, hx219_0, hx219_1, hx219_2, hx219_3, hx219_4, hx219_5, hx219_6, hl219_3, hi219_3, hl219_5, hi219_5, hl219_6, hi219_6⟩ := at_T116 (Kd.V_reads' HO_214000.out).2.2 t215 p219 q219
              cases e219
              obtain ⟨ce219, hce219, hMe219, hcc219⟩ := Kd.V_get HO_214000.out z116 t215 p219 (by first | exact q219 | exact of_decide_eq_true (by first | (with_reducible assumption) | assumption) | (have e_ := (Kd.V_reads' HO_214000.out).1; omega))
              obtain ⟨ua219_3, uc219_3, ua219_5, uc219_5, ua219_6, uc219_6, rfl, ul219_3, ge219_3, ul219_5, ge219_5, ul219_6, ge219_6⟩ := k116_openF hMe219
              have hv219_3 := hcc219 3 _ rfl
              rw [add_field _ _ 3 (by omega)] at hv219_3
              replace hv219_3 := Option.some.inj (hv219_3.symm.trans hx219_3)
              injection hv219_3 with hva_ hvn_ hvc_
              rw [hva_] at ge219_3
              rw [hvc_] at ul219_3
              have HL219_3 := Aside0.mk (show Kd.V k103 103 _ w.heap.size _ _ ((rd_T116 l0_0 t215).f0.f3) from Kd.V_mk ul219_3 ge219_3)
              clear hva_ hvn_ hvc_ ge219_3 ul219_3
              have hv219_5 := hcc219 5 _ rfl
              rw [add_field _ _ 5 (by omega)] at hv219_5
              replace hv219_5 := Option.some.inj (hv219_5.symm.trans hx219_5)
              injection hv219_5 with hva_ hvn_ hvc_
              rw [hva_] at ge219_5
              rw [hvc_] at ul219_5
              have HL219_5 := Aside0.mk (show Kd.V k67 67 _ w.heap.size _ _ ((rd_T116 l0_0 t215).f0.f5) from Kd.V_mk ul219_5 ge219_5)
              clear hva_ hvn_ hvc_ ge219_5 ul219_5
              have hv219_6 := hcc219 6 _ rfl
              rw [add_field _ _ 6 (by omega)] at hv219_6
              replace hv219_6 := Option.some.inj (hv219_6.symm.trans hx219_6)
              injection hv219_6 with hva_ hvn_ hvc_
              rw [hva_] at ge219_6
              rw [hvc_] at ul219_6
              have HL219_6 := Aside0.mk (show Kd.V (Kd.int .i64) 3 _ w.heap.size _ _ ((rd_T116 l0_0 t215).f1) from Kd.V_mk ul219_6 ge219_6)
              clear hva_ hvn_ hvc_ ge219_6 ul219_6
              clear hcc219 hce219
              have HR219_3 := Aside0.mk hi219_3
              have HC219_3 := Aside0.mk hl219_3
              clear hi219_3 hl219_3
              have HR219_5 := Aside0.mk hi219_5
              have HC219_5 := Aside0.mk hl219_5
              clear hi219_5 hl219_5
              have HR219_6 := Aside0.mk hi219_6
              have HC219_6 := Aside0.mk hl219_6
              clear hi219_6 hl219_6
              replace p219 := eq_true p219
              replace q219 := eq_true q219
              obtain ⟨Ao33, co33, eo33⟩ := Kd.R_slice HO_6.out
              subst eo33
              go_wp2_with (first | ((with_reducible refine gate_callee (f := 92) rfl ?_); refine goesL_ (some 52) rfl rfl Try.func92 (by kernel_rfl) rfl #[.agg #[.slice (some ad219) l0_0.length c0_0], .int .i64 t215, .slice Ao33 x6_1.length co33] rfl (by (try simp only [List.map_toArray, List.map_cons, List.map_nil]); first | done | rfl | (simp only [List.length_drop, List.length_take]; rfl)) ?_; (with_reducible refine (marginaliaref05_set.calls (fun k_ => ((P0_0_ k_ ∨ w.heap.size ≤ k_) ∧ (some k_ ≠ (.slice Ao33 x6_1.length co33 : Value).ownBlock ∧ (k_ ≠ gb213 ∧ k_ ≠ gb214)))) _ _ l0_0 t215 (fun k_ => some k_ = (.slice Ao33 x6_1.length co33 : Value).ownBlock) _ _ x6_1 t220 _ ?side1 ?side2 A30.out).mono ?_); (case side1 => exact HO_214000.out); (case side2 => exact Kd.R_V (Kd.R_tight rfl (Kd.R_types (Kd.R_types (HO_6.out) BK213.out (by decide)) BK214.out (by decide)))); rintro e w34 ⟨v221, rfl, ho0, hb⟩; refine ⟨_, rfl, ?_⟩; have n0_ := Aside0.mk (Kd.R_below (by (with_reducible repeat (first | apply Kd.R_alloc | apply Kd.R_drewN | apply Kd.R_drew)); exact HO_6.out) hb); have n1_ := Aside0.mk (Kd.V_elder' (by (with_reducible repeat (first | apply Kd.V_alloc | apply Kd.V_drewN | apply Kd.V_drew)); exact HO_214000.out) (Kd.N_base ho0) hb); have n2_ := Aside0.mk (Kd.V_elder' (by (with_reducible repeat (first | apply Kd.V_alloc | apply Kd.V_drewN | apply Kd.V_drew)); exact HL219_3.out) (Kd.N_base ho0) hb); have n3_ := Aside0.mk (Kd.V_elder' (by (with_reducible repeat (first | apply Kd.V_alloc | apply Kd.V_drewN | apply Kd.V_drew)); exact HL219_5.out) (Kd.N_base ho0) hb); have n4_ := Aside0.mk (Kd.V_elder' (by (with_reducible repeat (first | apply Kd.V_alloc | apply Kd.V_drewN | apply Kd.V_drew)); exact HL219_6.out) (Kd.N_base ho0) hb); have n5_ := Aside0.mk (Kd.N_lower (Kd.N_mono (ok' := fun k_ => (P0_0_ k_ ∨ w.heap.size ≤ k_) ∧ k_ ≠ gb213 ∧ k_ ≠ gb214) ho0 (fun k_ hk_ => ⟨Or.elim hk_ (fun hs_ => Or.elim hs_ (fun hs_ => hs_.1) (fun hs_ => (.inr (((Kd.R_types (Kd.R_types (HO_6.out) BK213.out (by decide)) BK214.out (by decide)).1 k_ hs_.symm).1.1)))) (fun hn_ => (.inr (Nat.le_trans (below_size (by repeat (first | (with_reducible first | exact HB.out | apply below_alloc | apply pw_below_drewN | apply below_drew1 | refine below_set ?_ GE213.out | refine below_set ?_ GE214.out) | exact HB.out))) hn_))), Or.elim hk_ (fun hs_ => Or.elim hs_ (fun hs_ => hs_.2.2.1) (fun hs_ => ((Kd.R_types (Kd.R_types (HO_6.out) BK213.out (by decide)) BK214.out (by decide)).1 k_ hs_.symm).1.2)) (fun hn_ => (Kd.freshB (g := gb213) (o := .cells #[.slice (some ad219) l0_0.length c0_0] 57 (0, 0)) (by (with_reducible repeat (first | refine blk_drewN ?_ _ | refine blk_drew ?_ | refine blk_alloc ?_ _)); exact BK213.out) k_ hn_)), Or.elim hk_ (fun hs_ => Or.elim hs_ (fun hs_ => hs_.2.2.2) (fun hs_ => ((Kd.R_types (Kd.R_types (HO_6.out) BK213.out (by decide)) BK214.out (by decide)).1 k_ hs_.symm).2)) (fun hn_ => (Kd.freshB (g := gb214) (o := .cells #[.slice none 0 0] 57 (0, 0)) (by (with_reducible repeat (first | refine blk_drewN ?_ _ | refine blk_drew ?_ | refine blk_alloc ?_ _)); exact BK214.out) k_ hn_))⟩)) (below_size (by repeat (first | (with_reducible first | exact HB.out | apply below_alloc | apply pw_below_drewN | apply below_drew1 | refine below_set ?_ GE213.out | refine below_set ?_ GE214.out) | exact HB.out)))); have n6_ := Aside0.mk (blk_below (g := gb213) (o := .cells #[.slice (some ad219) l0_0.length c0_0] 57 (0, 0)) (by (with_reducible repeat (first | refine blk_drewN ?_ _ | refine blk_drew ?_ | refine blk_alloc ?_ _)); exact BK213.out) hb); have n7_ := Aside0.mk (blk_below (g := gb214) (o := .cells #[.slice none 0 0] 57 (0, 0)) (by (with_reducible repeat (first | refine blk_drewN ?_ _ | refine blk_drew ?_ | refine blk_alloc ?_ _)); exact BK214.out) hb); have n8_ := Aside0.mk (Kd.C_below (by repeat (first | (with_reducible exact HR219_3.out) | (with_reducible refine Kd.C_alloc ?_ _) | (with_reducible refine Kd.C_drewN ?_ _) | (with_reducible refine Kd.C_drew ?_) | exact HR219_3.out)) hb); have n9_ := Aside0.mk (Kd.C_below (by repeat (first | (with_reducible exact HR219_5.out) | (with_reducible refine Kd.C_alloc ?_ _) | (with_reducible refine Kd.C_drewN ?_ _) | (with_reducible refine Kd.C_drew ?_) | exact HR219_5.out)) hb); have n10_ := Aside0.mk (Kd.C_below (by repeat (first | (with_reducible exact HR219_6.out) | (with_reducible refine Kd.C_alloc ?_ _) | (with_reducible refine Kd.C_drewN ?_ _) | (with_reducible refine Kd.C_drew ?_) | exact HR219_6.out)) hb); have n11_ := Aside0.mk (below_step (by repeat (first | (with_reducible first | exact HB.out | apply below_alloc | apply pw_below_drewN | apply below_drew1 | refine below_set ?_ GE213.out | refine below_set ?_ GE214.out) | exact HB.out)) hb); clear HO_6; clear HO_214000; clear HL219_3; clear HL219_5; clear HL219_6; clear BK213; clear BK214; clear HR219_3; clear HR219_5; clear HR219_6; clear HB; have HO_6 := n0_; have HO_214000 := n1_; have HL219_3 := n2_; have HL219_5 := n3_; have HL219_6 := n4_; have HO222 := n5_; have BK213 := n6_; have BK214 := n7_; have HR219_3 := n8_; have HR219_5 := n9_; have HR219_6 := n10_; have HB := n11_; clear n0_ n1_ n2_ n3_ n4_ n5_ n6_ n7_ n8_ n9_ n10_ n11_; (try clear hb); (try clear hb2); (try clear hk); (try clear hi); (try clear ho0); obtain ⟨Ao35, co35, eo35⟩ := Kd.N_slice HO222.out; subst eo35; have hcz36_0 : w34.cell? ⟨gb214, 0, none⟩ = some (.slice none 0 0) := (blk_cell BK214.out 0).trans rfl; have hfz36_0 := blk_frozen BK214.out 0))
              refine bodyPost_ret (results_cell_row rfl _ _ gb214 57 #[.slice Ao35 t220.length co35] (0, 0) _ rfl (by (with_reducible repeat (first | refine blk_drewN ?_ _ | refine blk_drew ?_ | refine blk_alloc ?_ _)); refine blk_put (cs := #[.slice none 0 0]) ?_ 0 _ rfl; (with_reducible repeat (first | refine blk_drewN ?_ _ | refine blk_drew ?_ | refine blk_alloc ?_ _)); exact BK214.out) Try.underlying57 rfl (by kernel_rfl)) rfl ?_
              exact ⟨_, by first | rfl | (simp [errW_none, errW_some] <;> rfl) | (simp [*, errW_none, errW_some] <;> rfl), Kd.N_V (by (with_reducible repeat (first | apply Kd.N_alloc | apply Kd.N_drewN | apply Kd.N_drew)); exact Kd.N_mono (Kd.N_far (p := ⟨gb214, 0, none⟩) (Kd.N_mono HO222.out (fun k_ hk => (⟨hk, hk.2.2⟩ : _ ∧ k_ ≠ gb214))) (fun _ hk => hk.2) (.slice Ao35 t220.length co35)) (fun _ hk => hk.1.1)), by repeat (first | (with_reducible first | exact HB.out | apply below_alloc | apply pw_below_drewN | apply below_drew1 | refine below_set ?_ GE213.out | refine below_set ?_ GE214.out) | exact HB.out)⟩
          · rw [if_neg c20] at H
            exact absurd H (by simp)
        · rw [if_neg c19] at H
          exact absurd H (by simp)

end Go.Proofs.Ytnkaidaflegnlaa.A
