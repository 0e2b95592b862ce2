/- The functions of the program that these laws reach, each as a plain Lean function, and the proof that the machine's call comes to it; no condition beyond those that each theorem names. Made by wip/xprint.py. -/
import Derived.Test.YtnkaidaflegnlaaAx0
import Derived.Test.YtnkaidaflegnlaaAf43
import Derived.Test.YtnkaidaflegnlaaAf81
import Derived.Test.YtnkaidaflegnlaaAf90
import Derived.Test.YtnkaidaflegnlaaAf91
import Derived.Test.YtnkaidaflegnlaaAf92
import Derived.Test.YtnkaidaflegnlaaAh
namespace Go.Proofs.Ytnkaidaflegnlaa.A
open Go.RowKit Go.Proofs.YtnkaidaflegnlaaW.PrintWords Go.Proofs.YtnkaidaflegnlaaW.PrintLast Go.Proofs.YtnkaidaflegnlaaW.PrintMore
attribute [local go_sem] max2_int min2_int max_two min_two max_three min_three max_four min_four   -- for this text's walks alone
set_option linter.unusedVariables false
set_option linter.unusedSimpArgs false

/-! ### marginaliaref05_Before: function 74 -/
mutual
def marginaliaref05_Before.j0 : Nat → Int → Int → Bool → List (S116) → Option ((List (S116)) × Int)
  | 0, _, _, _, _ => none
  | k + 1, x1, x2, x20, x253000 => if x20 = true then (some (x253000, 2)) else ((marginaliaref05_Parent.f k x253000 x1).bind fun t256 => (if t256 < 0 then (marginaliaref05_Before.j1 k x1 x2 t256 true x253000) else (if x2 = 0 then (marginaliaref05_Before.j1 k x1 x2 t256 true x253000) else ((marginaliaref05_within.f k x253000 x1 x2).bind fun t257 => (marginaliaref05_Before.j1 k x1 x2 t256 t257 x253000)))))
def marginaliaref05_Before.j1 : Nat → Int → Int → Int → Bool → List (S116) → Option ((List (S116)) × Int)
  | 0, _, _, _, _, _ => none
  | k + 1, x1, x2, x8, x36, x253000 => if x36 = true then (some (x253000, 1)) else ((marginaliaref05_out.f k x253000 x2).bind fun t258 => (marginaliaref05_Before.l0 k x1 x2 x8 (([] : List Int)) 0 t258))
def marginaliaref05_Before.l0 : Nat → Int → Int → Int → List Int → Int → List (S116) → Option ((List (S116)) × Int)
  | 0, _, _, _, _, _, _ => none
  | k + 1, x1, x2, x8, x9, x10, x253000 => if 0 ≤ x8 then (if x8 < (x253000.length : Int) then (if x10 < (((rd_T116 x253000 x8).f1).length : Int) then (if 0 ≤ x10 then (if (rd ((rd_T116 x253000 x8).f1) x10) = x1 then (if x9.length < 17592186044416 then ((some (x9 ++ [x2] : List Int)).bind fun y270 => (if y270.length < 17592186044416 then (marginaliaref05_Before.l0 k x1 x2 x8 (y270 ++ [rd ((rd_T116 x253000 x8).f1) x10]) (wrap64 (x10 + 1)) x253000) else (none))) else (none)) else (if x9.length < 17592186044416 then (marginaliaref05_Before.l0 k x1 x2 x8 (x9 ++ [rd ((rd_T116 x253000 x8).f1) x10]) (wrap64 (x10 + 1)) x253000) else (none))) else (none)) else ((marginaliaref05_set.f x253000 x8 x9).bind fun t265 => (some (t265, 0)))) else (none)) else (none)
end
def marginaliaref05_Before.f (k : Nat) (l0_0 : List (S116)) (a1 : Int) (a2 : Int) : Option ((List (S116)) × Int) := (marginaliaref05_Is.f l0_0 a1).bind fun t254 => (if t254 = true then ((marginaliaref05_Is.f l0_0 a2).bind fun t255 => (marginaliaref05_Before.j0 k a1 a2 (!t255) l0_0)) else (marginaliaref05_Before.j0 k a1 a2 true l0_0))
theorem marginaliaref05_Before.mono_l : ∀ k, (∀ y0 y1 y2 y3, LeO (marginaliaref05_Before.j0 k y0 y1 y2 y3) (marginaliaref05_Before.j0 (k + 1) y0 y1 y2 y3)) ∧ (∀ y0 y1 y2 y3 y4, LeO (marginaliaref05_Before.j1 k y0 y1 y2 y3 y4) (marginaliaref05_Before.j1 (k + 1) y0 y1 y2 y3 y4)) ∧ (∀ y0 y1 y2 y3 y4 y5, LeO (marginaliaref05_Before.l0 k y0 y1 y2 y3 y4 y5) (marginaliaref05_Before.l0 (k + 1) y0 y1 y2 y3 y4 y5))
  | 0 => ⟨fun _ _ _ _ r h => by simp [marginaliaref05_Before.j0] at h, fun _ _ _ _ _ r h => by simp [marginaliaref05_Before.j1] at h, fun _ _ _ _ _ _ r h => by simp [marginaliaref05_Before.l0] at h⟩
  | k + 1 => by
    obtain ⟨ih0, ih1, ih2⟩ := marginaliaref05_Before.mono_l k
    refine ⟨?_, ?_, ?_⟩
    · intro y0 y1 y2 y3
      unfold marginaliaref05_Before.j0
      repeat' first
      | (with_reducible exact ih0 _ _ _ _)
      | (with_reducible exact ih1 _ _ _ _ _)
      | (with_reducible exact ih2 _ _ _ _ _ _)
      | (with_reducible exact marginaliaref05_Parent.mono _ _ _)
      | (with_reducible exact marginaliaref05_out.mono _ _ _)
      | (with_reducible exact marginaliaref05_within.mono _ _ _ _)
      | (with_reducible exact LeO.refl _)
      | (with_reducible exact LeO.none _)
      | (with_reducible refine LeO.ite ?_ ?_)
      | (with_reducible refine LeO.bind ?_ (fun _ => ?_))
      | exact ih0 _ _ _ _
      | exact ih1 _ _ _ _ _
      | exact ih2 _ _ _ _ _ _
      | exact marginaliaref05_Parent.mono _ _ _
      | exact marginaliaref05_out.mono _ _ _
      | exact marginaliaref05_within.mono _ _ _ _
      | exact LeO.none _
      | refine LeO.ite ?_ ?_
      | refine LeO.bind ?_ (fun _ => ?_)
    · intro y0 y1 y2 y3 y4
      unfold marginaliaref05_Before.j1
      repeat' first
      | (with_reducible exact ih0 _ _ _ _)
      | (with_reducible exact ih1 _ _ _ _ _)
      | (with_reducible exact ih2 _ _ _ _ _ _)
      | (with_reducible exact marginaliaref05_Parent.mono _ _ _)
      | (with_reducible exact marginaliaref05_out.mono _ _ _)
      | (with_reducible exact marginaliaref05_within.mono _ _ _ _)
      | (with_reducible exact LeO.refl _)
      | (with_reducible exact LeO.none _)
      | (with_reducible refine LeO.ite ?_ ?_)
      | (with_reducible refine LeO.bind ?_ (fun _ => ?_))
      | exact ih0 _ _ _ _
      | exact ih1 _ _ _ _ _
      | exact ih2 _ _ _ _ _ _
      | exact marginaliaref05_Parent.mono _ _ _
      | exact marginaliaref05_out.mono _ _ _
      | exact marginaliaref05_within.mono _ _ _ _
      | exact LeO.none _
      | refine LeO.ite ?_ ?_
      | refine LeO.bind ?_ (fun _ => ?_)
    · intro y0 y1 y2 y3 y4 y5
      unfold marginaliaref05_Before.l0
      repeat' first
      | (with_reducible exact ih0 _ _ _ _)
      | (with_reducible exact ih1 _ _ _ _ _)
      | (with_reducible exact ih2 _ _ _ _ _ _)
      | (with_reducible exact marginaliaref05_Parent.mono _ _ _)
      | (with_reducible exact marginaliaref05_out.mono _ _ _)
      | (with_reducible exact marginaliaref05_within.mono _ _ _ _)
      | (with_reducible exact LeO.refl _)
      | (with_reducible exact LeO.none _)
      | (with_reducible refine LeO.ite ?_ ?_)
      | (with_reducible refine LeO.bind ?_ (fun _ => ?_))
      | exact ih0 _ _ _ _
      | exact ih1 _ _ _ _ _
      | exact ih2 _ _ _ _ _ _
      | exact marginaliaref05_Parent.mono _ _ _
      | exact marginaliaref05_out.mono _ _ _
      | exact marginaliaref05_within.mono _ _ _ _
      | exact LeO.none _
      | refine LeO.ite ?_ ?_
      | refine LeO.bind ?_ (fun _ => ?_)
theorem marginaliaref05_Before.mono : ∀ a0 a1 a2 k, LeO (marginaliaref05_Before.f k a0 a1 a2) (marginaliaref05_Before.f (k + 1) a0 a1 a2) := by
  intro a0 a1 a2 k
  obtain ⟨ih0, ih1, ih2⟩ := marginaliaref05_Before.mono_l k
  unfold marginaliaref05_Before.f
  repeat' first
      | (with_reducible exact ih0 _ _ _ _)
      | (with_reducible exact ih1 _ _ _ _ _)
      | (with_reducible exact ih2 _ _ _ _ _ _)
      | (with_reducible exact marginaliaref05_Parent.mono _ _ _)
      | (with_reducible exact marginaliaref05_out.mono _ _ _)
      | (with_reducible exact marginaliaref05_within.mono _ _ _ _)
      | (with_reducible exact LeO.refl _)
      | (with_reducible exact LeO.none _)
      | (with_reducible refine LeO.ite ?_ ?_)
      | (with_reducible refine LeO.bind ?_ (fun _ => ?_))
      | exact ih0 _ _ _ _
      | exact ih1 _ _ _ _ _
      | exact ih2 _ _ _ _ _ _
      | exact marginaliaref05_Parent.mono _ _ _
      | exact marginaliaref05_out.mono _ _ _
      | exact marginaliaref05_within.mono _ _ _ _
      | exact LeO.none _
      | refine LeO.ite ?_ ?_
      | refine LeO.bind ?_ (fun _ => ?_)
set_option maxHeartbeats 8000000 in
set_option maxRecDepth 100000 in
theorem marginaliaref05_Before.calls (k : Nat) (P0_0_ : Nat → Prop) (A0_0 : Option Addr) (c0_0 : Nat) (l0_0 : List (S116)) (a1 : Int) (a2 : Int) (r1 : List (S116)) (r2 : Int) (w : World) (hs0_0 : Kd.V k116 116 w w.heap.size (fun k_ => P0_0_ k_) (.slice A0_0 l0_0.length c0_0) l0_0) (h : marginaliaref05_Before.f k l0_0 a1 a2 = some (r1, r2)) :
    Calls Try.prog 74 #[.agg #[.slice A0_0 l0_0.length c0_0], .int .i64 a1, .int .i64 a2] w fun e w' => ∃ v0_ : Value, e = .returned (.tuple #[.agg #[v0_], .int .i64 r2]) ∧ Kd.V k116 116 w' w.heap.size (fun k_ => (P0_0_ k_ ∨ w.heap.size ≤ k_)) v0_ r1 ∧ Below w.heap.size w w' := by
  have hu57 := Try.underlying57
  have HO0_0 := Aside0.mk (show Kd.V k116 116 w w.heap.size (fun k_ => (P0_0_ k_ ∨ w.heap.size ≤ k_)) (.slice A0_0 l0_0.length c0_0) l0_0 from Kd.V_mono hs0_0 (fun k_ hk => .inl hk))
  have HB := Aside0.mk (Below.refl w.heap.size w)
  have H : ((marginaliaref05_Is.f l0_0 a1).bind fun t254 => (if t254 = true then ((marginaliaref05_Is.f l0_0 a2).bind fun t255 => (marginaliaref05_Before.j0 k a1 a2 (!t255) l0_0)) else (marginaliaref05_Before.j0 k a1 a2 true l0_0))) = some (r1, r2) := h
  clear h
  have HC4 := Aside0.mk H
  clear H
  go_enter Try.func74, Try.ntmps74
  go_upto_region 1 with (first | ((with_reducible refine gate_dst (N := 3) rfl ?_); refine box_event ?hg (N := 3) ?hd (cs := #[.slice A0_0 l0_0.length c0_0]) (t := 57) ?hr ?_; (case hd => rfl); (case hg => rfl); (case hr => first | (go_simp; done) | (go_simp; rfl)); intro gb252 hg w5 hbox hb; have n0_ := Aside0.mk (Kd.V_below (Kd.V_elderB (by (with_reducible repeat (first | apply Kd.V_alloc | apply Kd.V_drewN | apply Kd.V_drew)); exact HO0_0.out) gb252 (Nat.le_of_eq hg.symm)) hb); have n1_ := Aside0.mk (below_step (by repeat (first | (with_reducible first | exact HB.out | apply below_alloc | apply pw_below_drewN | apply below_drew1) | exact HB.out)) hb); have n2_ := Aside0.mk (hbox); have n3_ := Aside0.mk ((by rw [hg]; exact (below_size (by repeat (first | (with_reducible first | exact HB.out | apply below_alloc | apply pw_below_drewN | apply below_drew1) | exact HB.out))) : w.heap.size ≤ gb252)); have n4_ := Aside0.mk ((by rw [hg]; exact (below_size (by repeat (first | (with_reducible first | exact HB.out | apply below_alloc | apply pw_below_drewN | apply below_drew1) | exact HB.out))) : w.heap.size ≤ gb252)); clear HO0_0; clear HB; have HO0_0 := n0_; have HB := n1_; have BK252 := n2_; have GW252 := n3_; have GE252 := n4_; clear n0_ n1_ n2_ n3_ n4_; clear hb hbox hg) | ((with_reducible refine gate_dst (N := 6) rfl ?_); refine box_event ?hg (N := 6) ?hd (cs := #[.slice none 0 0]) (t := 57) ?hr ?_; (case hd => rfl); (case hg => rfl); (case hr => first | (go_simp; done) | (go_simp; rfl)); intro gb253 hg w6 hbox hb; have n0_ := Aside0.mk (Kd.V_below (Kd.V_elderB (by (with_reducible repeat (first | apply Kd.V_alloc | apply Kd.V_drewN | apply Kd.V_drew)); exact HO0_0.out) gb253 (Nat.le_of_eq hg.symm)) hb); have n1_ := Aside0.mk (blk_below (g := gb252) (o := .cells #[.slice A0_0 l0_0.length c0_0] 57 (0, 0)) (by (with_reducible repeat (first | refine blk_drewN ?_ _ | refine blk_drew ?_ | refine blk_alloc ?_ _)); exact BK252.out) hb); have n2_ := Aside0.mk (below_step (by repeat (first | (with_reducible first | exact HB.out | apply below_alloc | apply pw_below_drewN | apply below_drew1 | refine below_set ?_ GE252.out) | exact HB.out)) hb); have n3_ := Aside0.mk (hbox); have n4_ := Aside0.mk ((by rw [hg]; exact (below_size (by repeat (first | (with_reducible first | exact HB.out | apply below_alloc | apply pw_below_drewN | apply below_drew1 | refine below_set ?_ GE252.out) | exact HB.out))) : w.heap.size ≤ gb253)); have n5_ := Aside0.mk ((by rw [hg]; exact (below_size (by repeat (first | (with_reducible first | exact HB.out | apply below_alloc | apply pw_below_drewN | apply below_drew1 | refine below_set ?_ GE252.out) | exact HB.out))) : w.heap.size ≤ gb253)); have n6_ := Aside0.mk ((by rw [hg]; exact Nat.ne_of_lt (blk_lt (g := gb252) (o := .cells #[.slice A0_0 l0_0.length c0_0] 57 (0, 0)) (by (with_reducible repeat (first | refine blk_drewN ?_ _ | refine blk_drew ?_ | refine blk_alloc ?_ _)); exact BK252.out)) : gb252 ≠ gb253)); have n7_ := Aside0.mk ((by rw [hg]; exact Nat.ne_of_gt (blk_lt (g := gb252) (o := .cells #[.slice A0_0 l0_0.length c0_0] 57 (0, 0)) (by (with_reducible repeat (first | refine blk_drewN ?_ _ | refine blk_drew ?_ | refine blk_alloc ?_ _)); exact BK252.out)) : gb253 ≠ gb252)); clear HO0_0; clear BK252; clear HB; have HO0_0 := n0_; have BK252 := n1_; have HB := n2_; have BK253 := n3_; have GW253 := n4_; have GE253 := n5_; have NB252_253 := n6_; have NB253_252 := n7_; clear n0_ n1_ n2_ n3_ n4_ n5_ n6_ n7_; clear hb hbox hg))
  (try simp only [Act.put, List.setIfInBounds_toArray, List.set_cons_zero, List.set_cons_succ])
  go_cut [20] (fun v20 wc => ∃ (kq : Nat) (x20_3 : Bool), v20 = .bool x20_3 ∧ Aside0 (marginaliaref05_Before.j0 kq a1 a2 x20_3 l0_0 = some (r1, r2)) ∧ Aside0 (kq ≤ k) ∧ Aside0 (Kd.V k116 116 wc w.heap.size (fun k_ => (P0_0_ k_ ∨ w.heap.size ≤ k_) ∧ k_ ≠ gb252 ∧ k_ ≠ gb253) (.slice A0_0 l0_0.length c0_0) l0_0) ∧ Aside0 (wc.heap[gb252]? = some (.cells #[(.slice A0_0 l0_0.length c0_0)] 57 (0, 0))) ∧ Aside0 (wc.heap[gb253]? = some (.cells #[(.slice none 0 0)] 57 (0, 0))) ∧ Aside0 (Below w.heap.size w wc))
  case first =>
    have H := HC4.out
    clear HC4
    replace H := Option.bind_eq_some_iff.mp H
    obtain ⟨t254, A70, H⟩ := H
    replace H : (if t254 = true then ((marginaliaref05_Is.f l0_0 a2).bind fun t255 => (marginaliaref05_Before.j0 k a1 a2 (!t255) l0_0)) else (marginaliaref05_Before.j0 k a1 a2 true l0_0)) = some (r1, r2) := H
    have A7 := Aside0.mk A70
    clear A70
    by_cases c8 : t254 = true
    · subst c8
      have H1 : ((marginaliaref05_Is.f l0_0 a2).bind fun t255 => (marginaliaref05_Before.j0 k a1 a2 (!t255) l0_0)) = some (r1, r2) := by rw [if_pos rfl] at H; exact H
      clear H
      have H := H1
      clear H1
      replace H := Option.bind_eq_some_iff.mp H
      obtain ⟨t255, A90, H⟩ := H
      replace H : (marginaliaref05_Before.j0 k a1 a2 (!t255) l0_0) = some (r1, r2) := H
      have A9 := Aside0.mk A90
      clear A90
      have H' := Aside0.mk H
      clear H
      have hnb10 := NB252_253.out
      have hnc10 := NB253_252.out
      have hcz11_0 : w6.cell? ⟨gb252, 0, none⟩ = some (.slice A0_0 l0_0.length c0_0) := (blk_cell BK252.out 0).trans rfl
      have hfz11_0 := blk_frozen BK252.out 0
      go_wp2_with (first | ((with_reducible refine gate_callee (f := 81) rfl ?_); refine goesL_ (some 13) rfl rfl Try.func81 (by kernel_rfl) rfl #[.agg #[.slice A0_0 l0_0.length c0_0], .int .i64 a1] rfl (by (try simp only [List.map_toArray, List.map_cons, List.map_nil]); first | done | rfl | (simp only [List.length_drop, List.length_take]; rfl)) ?_; (with_reducible refine (marginaliaref05_Is.calls _ _ l0_0 a1 true _ ?side1 ?side2 A7.out).mono ?_); (case side1 => repeat (first | exact (Kd.V_reads' HO0_0.out).2.2 | (with_reducible refine Kd.C_alloc ?_ _) | (with_reducible refine Kd.C_drewN ?_ _) | (with_reducible refine Kd.C_drew ?_))); (case side2 => exact (Kd.V_reads' HO0_0.out).2.1); rintro e w12 ⟨rfl, hb⟩; refine ⟨_, rfl, ?_⟩; have n0_ := Aside0.mk (Kd.V_below (by (with_reducible repeat (first | apply Kd.V_alloc | apply Kd.V_drewN | apply Kd.V_drew)); exact HO0_0.out) hb); have n1_ := Aside0.mk (blk_below (g := gb252) (o := .cells #[.slice A0_0 l0_0.length c0_0] 57 (0, 0)) (by (with_reducible repeat (first | refine blk_drewN ?_ _ | refine blk_drew ?_ | refine blk_alloc ?_ _)); exact BK252.out) hb); have n2_ := Aside0.mk (blk_below (g := gb253) (o := .cells #[.slice none 0 0] 57 (0, 0)) (by (with_reducible repeat (first | refine blk_drewN ?_ _ | refine blk_drew ?_ | refine blk_alloc ?_ _)); exact BK253.out) hb); have n3_ := Aside0.mk (below_step (by repeat (first | (with_reducible first | exact HB.out | apply below_alloc | apply pw_below_drewN | apply below_drew1 | refine below_set ?_ GE252.out | refine below_set ?_ GE253.out) | exact HB.out)) hb); clear HO0_0; clear BK252; clear BK253; clear HB; have HO0_0 := n0_; have BK252 := n1_; have BK253 := n2_; have HB := n3_; clear n0_ n1_ n2_ n3_; (try clear hb); (try clear hb2); (try clear hk); (try clear hi); have hcz13_0 : w12.cell? ⟨gb252, 0, none⟩ = some (.slice A0_0 l0_0.length c0_0) := (blk_cell BK252.out 0).trans rfl; have hfz13_0 := blk_frozen BK252.out 0) | (go_at_call 81; (with_reducible refine (marginaliaref05_Is.calls _ _ l0_0 a2 t255 _ ?side1 ?side2 A9.out).mono ?_); (case side1 => repeat (first | exact (Kd.V_reads' HO0_0.out).2.2 | (with_reducible refine Kd.C_alloc ?_ _) | (with_reducible refine Kd.C_drewN ?_ _) | (with_reducible refine Kd.C_drew ?_))); (case side2 => exact (Kd.V_reads' HO0_0.out).2.1); rintro e w14 ⟨rfl, hb⟩; have n0_ := Aside0.mk (Kd.V_below (by (with_reducible repeat (first | apply Kd.V_alloc | apply Kd.V_drewN | apply Kd.V_drew)); exact HO0_0.out) hb); have n1_ := Aside0.mk (blk_below (g := gb252) (o := .cells #[.slice A0_0 l0_0.length c0_0] 57 (0, 0)) (by (with_reducible repeat (first | refine blk_drewN ?_ _ | refine blk_drew ?_ | refine blk_alloc ?_ _)); exact BK252.out) hb); have n2_ := Aside0.mk (blk_below (g := gb253) (o := .cells #[.slice none 0 0] 57 (0, 0)) (by (with_reducible repeat (first | refine blk_drewN ?_ _ | refine blk_drew ?_ | refine blk_alloc ?_ _)); exact BK253.out) hb); have n3_ := Aside0.mk (below_step (by repeat (first | (with_reducible first | exact HB.out | apply below_alloc | apply pw_below_drewN | apply below_drew1 | refine below_set ?_ GE252.out | refine below_set ?_ GE253.out) | exact HB.out)) hb); clear HO0_0; clear BK252; clear BK253; clear HB; have HO0_0 := n0_; have BK252 := n1_; have BK253 := n2_; have HB := n3_; clear n0_ n1_ n2_ n3_; (try clear hb); (try clear hb2); (try clear hk); (try clear hi)))
      go_meet
      case rel => exact ⟨_, (!t255), (by first | rfl | (simp; done) | (simp [*]; done)), H', ⟨by first | omega | exact Nat.le_refl _⟩, ⟨by (with_reducible repeat (first | apply Kd.V_alloc | apply Kd.V_drewN | apply Kd.V_drew)); exact Kd.V_mono HO0_0.out (fun _ hk => ⟨hk.1.1, ⟨hk.1.2, hk.2⟩⟩)⟩, ⟨by (with_reducible repeat (first | refine blk_drewN ?_ _ | refine blk_drew ?_ | refine blk_alloc ?_ _)); exact BK252.out⟩, ⟨by (with_reducible repeat (first | refine blk_drewN ?_ _ | refine blk_drew ?_ | refine blk_alloc ?_ _)); exact BK253.out⟩, ⟨by repeat (first | (with_reducible first | exact HB.out | apply below_alloc | apply pw_below_drewN | apply below_drew1 | refine below_set ?_ GE252.out | refine below_set ?_ GE253.out) | exact HB.out)⟩⟩
    · replace c8 := Bool.eq_false_iff.mpr c8
      subst c8
      have H1 : (marginaliaref05_Before.j0 k a1 a2 true l0_0) = some (r1, r2) := by rw [if_neg (show ¬ (false = true) by decide)] at H; exact H
      clear H
      have H := H1
      clear H1
      have H' := Aside0.mk H
      clear H
      have hnb15 := NB252_253.out
      have hnc15 := NB253_252.out
      have hcz16_0 : w6.cell? ⟨gb252, 0, none⟩ = some (.slice A0_0 l0_0.length c0_0) := (blk_cell BK252.out 0).trans rfl
      have hfz16_0 := blk_frozen BK252.out 0
      go_wp2_with (first | ((with_reducible refine gate_callee (f := 81) rfl ?_); refine goesL_ (some 13) rfl rfl Try.func81 (by kernel_rfl) rfl #[.agg #[.slice A0_0 l0_0.length c0_0], .int .i64 a1] rfl (by (try simp only [List.map_toArray, List.map_cons, List.map_nil]); first | done | rfl | (simp only [List.length_drop, List.length_take]; rfl)) ?_; (with_reducible refine (marginaliaref05_Is.calls _ _ l0_0 a1 false _ ?side1 ?side2 A7.out).mono ?_); (case side1 => repeat (first | exact (Kd.V_reads' HO0_0.out).2.2 | (with_reducible refine Kd.C_alloc ?_ _) | (with_reducible refine Kd.C_drewN ?_ _) | (with_reducible refine Kd.C_drew ?_))); (case side2 => exact (Kd.V_reads' HO0_0.out).2.1); rintro e w17 ⟨rfl, hb⟩; refine ⟨_, rfl, ?_⟩; have n0_ := Aside0.mk (Kd.V_below (by (with_reducible repeat (first | apply Kd.V_alloc | apply Kd.V_drewN | apply Kd.V_drew)); exact HO0_0.out) hb); have n1_ := Aside0.mk (blk_below (g := gb252) (o := .cells #[.slice A0_0 l0_0.length c0_0] 57 (0, 0)) (by (with_reducible repeat (first | refine blk_drewN ?_ _ | refine blk_drew ?_ | refine blk_alloc ?_ _)); exact BK252.out) hb); have n2_ := Aside0.mk (blk_below (g := gb253) (o := .cells #[.slice none 0 0] 57 (0, 0)) (by (with_reducible repeat (first | refine blk_drewN ?_ _ | refine blk_drew ?_ | refine blk_alloc ?_ _)); exact BK253.out) hb); have n3_ := Aside0.mk (below_step (by repeat (first | (with_reducible first | exact HB.out | apply below_alloc | apply pw_below_drewN | apply below_drew1 | refine below_set ?_ GE252.out | refine below_set ?_ GE253.out) | exact HB.out)) hb); clear HO0_0; clear BK252; clear BK253; clear HB; have HO0_0 := n0_; have BK252 := n1_; have BK253 := n2_; have HB := n3_; clear n0_ n1_ n2_ n3_; (try clear hb); (try clear hb2); (try clear hk); (try clear hi)))
      go_meet
      case rel => exact ⟨_, (true), (by first | rfl | (simp; done) | (simp [*]; done)), H', ⟨by first | omega | exact Nat.le_refl _⟩, ⟨by (with_reducible repeat (first | apply Kd.V_alloc | apply Kd.V_drewN | apply Kd.V_drew)); exact Kd.V_mono HO0_0.out (fun _ hk => ⟨hk.1.1, ⟨hk.1.2, hk.2⟩⟩)⟩, ⟨by (with_reducible repeat (first | refine blk_drewN ?_ _ | refine blk_drew ?_ | refine blk_alloc ?_ _)); exact BK252.out⟩, ⟨by (with_reducible repeat (first | refine blk_drewN ?_ _ | refine blk_drew ?_ | refine blk_alloc ?_ _)); exact BK253.out⟩, ⟨by repeat (first | (with_reducible first | exact HB.out | apply below_alloc | apply pw_below_drewN | apply below_drew1 | refine below_set ?_ GE252.out | refine below_set ?_ GE253.out) | exact HB.out)⟩⟩
  case rest =>
    clear HC4
    try clear c1
    try clear p2
    try clear c7
    try clear c8
    try clear c10
    try clear c15
    try clear hcz11_0
    try clear hcz13_0
    try clear hcz16_0
    try clear hfz11_0
    try clear hfz13_0
    try clear hfz16_0
    obtain ⟨kq, x20_3, rfl, HA, HJ3, HO_253000, BK252, BK253, HB⟩ := hcut
    cases kq with
    | zero => exact absurd HA.out (by simp [marginaliaref05_Before.j0])
    | succ kj3 =>
      have H := HA.out
      clear HA
      simp only [marginaliaref05_Before.j0] at H
      by_cases c18 : x20_3 = true
      · subst c18
        have H1 : (some (l0_0, 2)) = some (r1, r2) := by rw [if_pos rfl] at H; exact H
        clear H
        have H := H1
        clear H1
        simp only [Option.some.injEq, Prod.mk.injEq] at H
        obtain ⟨rfl, rfl⟩ := H
        have hnb19 := NB252_253.out
        have hnc19 := NB253_252.out
        have hcz20_0 : wc.cell? ⟨gb252, 0, none⟩ = some (.slice A0_0 l0_0.length c0_0) := (blk_cell BK252.out 0).trans rfl
        have hfz20_0 := blk_frozen BK252.out 0
        have hcz21_0 : wc.cell? ⟨gb253, 0, none⟩ = some (.slice none 0 0) := (blk_cell BK253.out 0).trans rfl
        have hfz21_0 := blk_frozen BK253.out 0
        go_wp2
        refine bodyPost_ret (results_ct rfl _ _ gb253 57 #[.slice A0_0 l0_0.length c0_0] (0, 0) _ rfl (by (with_reducible repeat (first | refine blk_drewN ?_ _ | refine blk_drew ?_ | refine blk_alloc ?_ _)); refine blk_put (cs := #[.slice none 0 0]) ?_ 0 _ rfl; (with_reducible repeat (first | refine blk_drewN ?_ _ | refine blk_drew ?_ | refine blk_alloc ?_ _)); exact BK253.out) Try.underlying57 rfl (by kernel_rfl)) rfl ?_
        exact ⟨_, by first | rfl | (simp [errW_none, errW_some] <;> rfl) | (simp [*, errW_none, errW_some] <;> rfl), by (with_reducible repeat (first | apply Kd.V_alloc | apply Kd.V_drewN | apply Kd.V_drew)); exact Kd.V_mono (Kd.V_far (p := ⟨gb253, 0, none⟩) (Kd.V_mono HO_253000.out (fun k_ hk => (⟨hk, hk.2.2⟩ : _ ∧ k_ ≠ gb253))) (fun _ hk => hk.2) (.slice A0_0 l0_0.length c0_0)) (fun _ hk => hk.1.1), by repeat (first | (with_reducible first | exact HB.out | apply below_alloc | apply pw_below_drewN | apply below_drew1 | refine below_set ?_ GE252.out | refine below_set ?_ GE253.out) | exact HB.out)⟩
      · replace c18 := Bool.eq_false_iff.mpr c18
        subst c18
        have H1 : ((marginaliaref05_Parent.f kj3 l0_0 a1).bind fun t256 => (if t256 < 0 then (marginaliaref05_Before.j1 kj3 a1 a2 t256 true l0_0) else (if a2 = 0 then (marginaliaref05_Before.j1 kj3 a1 a2 t256 true l0_0) else ((marginaliaref05_within.f kj3 l0_0 a1 a2).bind fun t257 => (marginaliaref05_Before.j1 kj3 a1 a2 t256 t257 l0_0))))) = some (r1, r2) := by rw [if_neg (show ¬ (false = true) by decide)] at H; exact H
        clear H
        have H := H1
        clear H1
        replace H := Option.bind_eq_some_iff.mp H
        obtain ⟨t256, A220, H⟩ := H
        replace H : (if t256 < 0 then (marginaliaref05_Before.j1 kj3 a1 a2 t256 true l0_0) else (if a2 = 0 then (marginaliaref05_Before.j1 kj3 a1 a2 t256 true l0_0) else ((marginaliaref05_within.f kj3 l0_0 a1 a2).bind fun t257 => (marginaliaref05_Before.j1 kj3 a1 a2 t256 t257 l0_0)))) = some (r1, r2) := H
        have A22 := Aside0.mk A220
        clear A220
        have HC23 := Aside0.mk H
        clear H
        have hnb24 := NB252_253.out
        have hnc24 := NB253_252.out
        have hcz25_0 : wc.cell? ⟨gb252, 0, none⟩ = some (.slice A0_0 l0_0.length c0_0) := (blk_cell BK252.out 0).trans rfl
        have hfz25_0 := blk_frozen BK252.out 0
        go_upto_region 4 with (first | ((with_reducible refine gate_callee (f := 43) rfl ?_); refine goesL_ (some 24) rfl rfl Try.func43 (by kernel_rfl) rfl #[.agg #[.slice A0_0 l0_0.length c0_0], .int .i64 a1] rfl (by (try simp only [List.map_toArray, List.map_cons, List.map_nil]); first | done | rfl | (simp only [List.length_drop, List.length_take]; rfl)) ?_; (with_reducible refine (marginaliaref05_Parent.calls kj3 _ _ l0_0 a1 t256 _ ?side1 ?side2 A22.out).mono ?_); (case side1 => repeat (first | exact (Kd.V_reads' HO_253000.out).2.2 | (with_reducible refine Kd.C_alloc ?_ _) | (with_reducible refine Kd.C_drewN ?_ _) | (with_reducible refine Kd.C_drew ?_))); (case side2 => exact (Kd.V_reads' HO_253000.out).2.1); rintro e w26 ⟨rfl, hb⟩; refine ⟨_, rfl, ?_⟩; have n0_ := Aside0.mk (Kd.V_below (by (with_reducible repeat (first | apply Kd.V_alloc | apply Kd.V_drewN | apply Kd.V_drew)); exact HO_253000.out) hb); have n1_ := Aside0.mk (blk_below (g := gb252) (o := .cells #[.slice A0_0 l0_0.length c0_0] 57 (0, 0)) (by (with_reducible repeat (first | refine blk_drewN ?_ _ | refine blk_drew ?_ | refine blk_alloc ?_ _)); exact BK252.out) hb); have n2_ := Aside0.mk (blk_below (g := gb253) (o := .cells #[.slice none 0 0] 57 (0, 0)) (by (with_reducible repeat (first | refine blk_drewN ?_ _ | refine blk_drew ?_ | refine blk_alloc ?_ _)); exact BK253.out) hb); have n3_ := Aside0.mk (below_step (by repeat (first | (with_reducible first | exact HB.out | apply below_alloc | apply pw_below_drewN | apply below_drew1 | refine below_set ?_ GE252.out | refine below_set ?_ GE253.out) | exact HB.out)) hb); clear HO_253000; clear BK252; clear BK253; clear HB; have HO_253000 := n0_; have BK252 := n1_; have BK253 := n2_; have HB := n3_; clear n0_ n1_ n2_ n3_; (try clear hb); (try clear hb2); (try clear hk); (try clear hi)))
        (try simp only [Act.put, List.setIfInBounds_toArray, List.set_cons_zero, List.set_cons_succ])
        go_cut [36] (fun v36 wc => ∃ (kq : Nat) (x36_22 : Bool), v36 = .bool x36_22 ∧ Aside0 (marginaliaref05_Before.j1 kq a1 a2 t256 x36_22 l0_0 = some (r1, r2)) ∧ Aside0 (kq ≤ kj3) ∧ Aside0 (Kd.V k116 116 wc w.heap.size (fun k_ => (P0_0_ k_ ∨ w.heap.size ≤ k_) ∧ k_ ≠ gb252 ∧ k_ ≠ gb253) (.slice A0_0 l0_0.length c0_0) l0_0) ∧ Aside0 (wc.heap[gb252]? = some (.cells #[(.slice A0_0 l0_0.length c0_0)] 57 (0, 0))) ∧ Aside0 (wc.heap[gb253]? = some (.cells #[(.slice none 0 0)] 57 (0, 0))) ∧ Aside0 (Below w.heap.size w wc))
        case first =>
          have H := HC23.out
          clear HC23
          by_cases c27 : t256 < 0
          · rw [if_pos c27] at H
            have c27b0 : decide (t256 < 0) = true := decide_eq_true c27
            clear c27
            (first | rw [c27b0] | (simp only [i64_w, i32_w]; rw [c27b0]) | skip)
            have H' := Aside0.mk H
            clear H
            go_wp2
            go_meet
            case rel => exact ⟨_, (true), (by first | rfl | (simp; done) | (simp [*]; done)), H', ⟨by have := HJ3.out; first | omega | exact Nat.le_refl _⟩, ⟨by (with_reducible repeat (first | apply Kd.V_alloc | apply Kd.V_drewN | apply Kd.V_drew)); exact HO_253000.out⟩, ⟨by (with_reducible repeat (first | refine blk_drewN ?_ _ | refine blk_drew ?_ | refine blk_alloc ?_ _)); exact BK252.out⟩, ⟨by (with_reducible repeat (first | refine blk_drewN ?_ _ | refine blk_drew ?_ | refine blk_alloc ?_ _)); exact BK253.out⟩, ⟨by repeat (first | (with_reducible first | exact HB.out | apply below_alloc | apply pw_below_drewN | apply below_drew1 | refine below_set ?_ GE252.out | refine below_set ?_ GE253.out) | exact HB.out)⟩⟩
          · rw [if_neg c27] at H
            have c27b0 : decide (t256 < 0) = false := decide_eq_false c27
            clear c27
            (first | rw [c27b0] | (simp only [i64_w, i32_w]; rw [c27b0]) | skip)
            by_cases c28 : a2 = 0
            · rw [if_pos c28] at H
              have c28b0 : (a2 == 0) = true := beq_iff_eq.mpr c28
              have c28b1 : (a2 != 0) = false := bne_eq_false_iff_eq.mpr c28
              clear c28
              have H' := Aside0.mk H
              clear H
              go_wp2
              go_meet
              case rel => exact ⟨_, (true), (by first | rfl | (simp; done) | (simp [*]; done)), H', ⟨by have := HJ3.out; first | omega | exact Nat.le_refl _⟩, ⟨by (with_reducible repeat (first | apply Kd.V_alloc | apply Kd.V_drewN | apply Kd.V_drew)); exact HO_253000.out⟩, ⟨by (with_reducible repeat (first | refine blk_drewN ?_ _ | refine blk_drew ?_ | refine blk_alloc ?_ _)); exact BK252.out⟩, ⟨by (with_reducible repeat (first | refine blk_drewN ?_ _ | refine blk_drew ?_ | refine blk_alloc ?_ _)); exact BK253.out⟩, ⟨by repeat (first | (with_reducible first | exact HB.out | apply below_alloc | apply pw_below_drewN | apply below_drew1 | refine below_set ?_ GE252.out | refine below_set ?_ GE253.out) | exact HB.out)⟩⟩
            · rw [if_neg c28] at H
              have c28b0 : (a2 == 0) = false := beq_eq_false_iff_ne.mpr c28
              have c28b1 : (a2 != 0) = true := bne_iff_ne.mpr c28
              replace H := Option.bind_eq_some_iff.mp H
              obtain ⟨t257, A290, H⟩ := H
              replace H : (marginaliaref05_Before.j1 kj3 a1 a2 t256 t257 l0_0) = some (r1, r2) := H
              have A29 := Aside0.mk A290
              clear A290
              have H' := Aside0.mk H
              clear H
              have hnb30 := NB252_253.out
              have hnc30 := NB253_252.out
              have hcz31_0 : w26.cell? ⟨gb252, 0, none⟩ = some (.slice A0_0 l0_0.length c0_0) := (blk_cell BK252.out 0).trans rfl
              have hfz31_0 := blk_frozen BK252.out 0
              go_wp2_with (first | (go_at_call 90; (with_reducible refine (marginaliaref05_within.calls kj3 _ _ l0_0 a1 a2 t257 _ ?side1 ?side2 A29.out).mono ?_); (case side1 => repeat (first | exact (Kd.V_reads' HO_253000.out).2.2 | (with_reducible refine Kd.C_alloc ?_ _) | (with_reducible refine Kd.C_drewN ?_ _) | (with_reducible refine Kd.C_drew ?_))); (case side2 => exact (Kd.V_reads' HO_253000.out).2.1); rintro e w32 ⟨rfl, hb⟩; have n0_ := Aside0.mk (Kd.V_below (by (with_reducible repeat (first | apply Kd.V_alloc | apply Kd.V_drewN | apply Kd.V_drew)); exact HO_253000.out) hb); have n1_ := Aside0.mk (blk_below (g := gb252) (o := .cells #[.slice A0_0 l0_0.length c0_0] 57 (0, 0)) (by (with_reducible repeat (first | refine blk_drewN ?_ _ | refine blk_drew ?_ | refine blk_alloc ?_ _)); exact BK252.out) hb); have n2_ := Aside0.mk (blk_below (g := gb253) (o := .cells #[.slice none 0 0] 57 (0, 0)) (by (with_reducible repeat (first | refine blk_drewN ?_ _ | refine blk_drew ?_ | refine blk_alloc ?_ _)); exact BK253.out) hb); have n3_ := Aside0.mk (below_step (by repeat (first | (with_reducible first | exact HB.out | apply below_alloc | apply pw_below_drewN | apply below_drew1 | refine below_set ?_ GE252.out | refine below_set ?_ GE253.out) | exact HB.out)) hb); clear HO_253000; clear BK252; clear BK253; clear HB; have HO_253000 := n0_; have BK252 := n1_; have BK253 := n2_; have HB := n3_; clear n0_ n1_ n2_ n3_; (try clear hb); (try clear hb2); (try clear hk); (try clear hi)))
              go_meet
              case rel => exact ⟨_, (t257), (by first | rfl | (simp; done) | (simp [*]; done)), H', ⟨by have := HJ3.out; first | omega | exact Nat.le_refl _⟩, ⟨by (with_reducible repeat (first | apply Kd.V_alloc | apply Kd.V_drewN | apply Kd.V_drew)); exact HO_253000.out⟩, ⟨by (with_reducible repeat (first | refine blk_drewN ?_ _ | refine blk_drew ?_ | refine blk_alloc ?_ _)); exact BK252.out⟩, ⟨by (with_reducible repeat (first | refine blk_drewN ?_ _ | refine blk_drew ?_ | refine blk_alloc ?_ _)); exact BK253.out⟩, ⟨by repeat (first | (with_reducible first | exact HB.out | apply below_alloc | apply pw_below_drewN | apply below_drew1 | refine below_set ?_ GE252.out | refine below_set ?_ GE253.out) | exact HB.out)⟩⟩
        case rest =>
          clear HC23
          try clear c1
          try clear c2
          try clear p2
          try clear c3
          try clear c4
          try clear c7
          try clear c8
          try clear c10
          try clear c15
          try clear c18
          try clear c19
          try clear c24
          try clear c27
          try clear c27b0
          try clear c28
          try clear c28b0
          try clear c28b1
          try clear c30
          try clear hcz11_0
          try clear hcz13_0
          try clear hcz16_0
          try clear hcz20_0
          try clear hcz21_0
          try clear hcz25_0
          try clear hcz31_0
          try clear hfz11_0
          try clear hfz13_0
          try clear hfz16_0
          try clear hfz20_0
          try clear hfz21_0
          try clear hfz25_0
          try clear hfz31_0
          try clear p2
          obtain ⟨kq, x36_22, rfl, HA, HJ22, HO_253000, BK252, BK253, HB⟩ := hcut
          cases kq with
          | zero => exact absurd HA.out (by simp [marginaliaref05_Before.j1])
          | succ kj22 =>
            have H := HA.out
            clear HA
            simp only [marginaliaref05_Before.j1] at H
            by_cases c33 : x36_22 = true
            · subst c33
              have H1 : (some (l0_0, 1)) = some (r1, r2) := by rw [if_pos rfl] at H; exact H
              clear H
              have H := H1
              clear H1
              simp only [Option.some.injEq, Prod.mk.injEq] at H
              obtain ⟨rfl, rfl⟩ := H
              have hnb34 := NB252_253.out
              have hnc34 := NB253_252.out
              have hcz35_0 : wc.cell? ⟨gb252, 0, none⟩ = some (.slice A0_0 l0_0.length c0_0) := (blk_cell BK252.out 0).trans rfl
              have hfz35_0 := blk_frozen BK252.out 0
              have hcz36_0 : wc.cell? ⟨gb253, 0, none⟩ = some (.slice none 0 0) := (blk_cell BK253.out 0).trans rfl
              have hfz36_0 := blk_frozen BK253.out 0
              go_wp2
              refine bodyPost_ret (results_ct rfl _ _ gb253 57 #[.slice A0_0 l0_0.length c0_0] (0, 0) _ rfl (by (with_reducible repeat (first | refine blk_drewN ?_ _ | refine blk_drew ?_ | refine blk_alloc ?_ _)); refine blk_put (cs := #[.slice none 0 0]) ?_ 0 _ rfl; (with_reducible repeat (first | refine blk_drewN ?_ _ | refine blk_drew ?_ | refine blk_alloc ?_ _)); exact BK253.out) Try.underlying57 rfl (by kernel_rfl)) rfl ?_
              exact ⟨_, by first | rfl | (simp [errW_none, errW_some] <;> rfl) | (simp [*, errW_none, errW_some] <;> rfl), by (with_reducible repeat (first | apply Kd.V_alloc | apply Kd.V_drewN | apply Kd.V_drew)); exact Kd.V_mono (Kd.V_far (p := ⟨gb253, 0, none⟩) (Kd.V_mono HO_253000.out (fun k_ hk => (⟨hk, hk.2.2⟩ : _ ∧ k_ ≠ gb253))) (fun _ hk => hk.2) (.slice A0_0 l0_0.length c0_0)) (fun _ hk => hk.1.1), by repeat (first | (with_reducible first | exact HB.out | apply below_alloc | apply pw_below_drewN | apply below_drew1 | refine below_set ?_ GE252.out | refine below_set ?_ GE253.out) | exact HB.out)⟩
            · replace c33 := Bool.eq_false_iff.mpr c33
              subst c33
              have H1 : ((marginaliaref05_out.f kj22 l0_0 a2).bind fun t258 => (marginaliaref05_Before.l0 kj22 a1 a2 t256 (([] : List Int)) 0 t258)) = some (r1, r2) := by rw [if_neg (show ¬ (false = true) by decide)] at H; exact H
              clear H
              have H := H1
              clear H1
              replace H := Option.bind_eq_some_iff.mp H
              obtain ⟨t258, A370, H⟩ := H
              replace H : (marginaliaref05_Before.l0 kj22 a1 a2 t256 (([] : List Int)) 0 t258) = some (r1, r2) := H
              have A37 := Aside0.mk A370
              clear A370
              obtain ⟨y261, hy261⟩ : ∃ y_ : List Int, y_ = (([] : List Int)) := ⟨_, rfl⟩
              replace H : (marginaliaref05_Before.l0 kj22 a1 a2 t256 y261 0 t258) = some (r1, r2) := by first | (rw [hy261]; with_reducible exact H) | (have H2_ := (Option.bind_some _ _).symm.trans H; rw [hy261]; with_reducible exact H2_) | (have H2_ := (Option.bind_some _ _).symm.trans H; with_reducible exact H2_) | with_reducible exact H | (rw [hy261]; exact H) | exact H
              have Ny261 := Aside0.mk hy261
              clear hy261
              have H' := Aside0.mk H
              clear H
              have hnb38 := NB252_253.out
              have hnc38 := NB253_252.out
              have hcz39_0 : wc.cell? ⟨gb252, 0, none⟩ = some (.slice A0_0 l0_0.length c0_0) := (blk_cell BK252.out 0).trans rfl
              have hfz39_0 := blk_frozen BK252.out 0
              go_wp2_with (first | ((with_reducible refine gate_callee (f := 91) rfl ?_); refine goesL_ (some 40) rfl rfl Try.func91 (by kernel_rfl) rfl #[.agg #[.slice A0_0 l0_0.length c0_0], .int .i64 a2] rfl (by (try simp only [List.map_toArray, List.map_cons, List.map_nil]); first | done | rfl | (simp only [List.length_drop, List.length_take]; rfl)) ?_; (with_reducible refine (marginaliaref05_out.calls kj22 (fun k_ => ((P0_0_ k_ ∨ w.heap.size ≤ k_) ∧ (k_ ≠ gb252 ∧ k_ ≠ gb253))) _ _ l0_0 a2 t258 _ ?side1 A37.out).mono ?_); (case side1 => exact HO_253000.out); rintro e w40 ⟨v259, rfl, ho0, hb⟩; refine ⟨_, rfl, ?_⟩; have n0_ := Aside0.mk (Kd.V_below (by (with_reducible repeat (first | apply Kd.V_alloc | apply Kd.V_drewN | apply Kd.V_drew)); exact HO_253000.out) hb); have n1_ := Aside0.mk (Kd.V_lower (Kd.V_mono (ok' := fun k_ => (P0_0_ k_ ∨ w.heap.size ≤ k_) ∧ k_ ≠ gb252 ∧ k_ ≠ gb253) ho0 (fun k_ hk_ => ⟨Or.elim hk_ (fun hs_ => hs_.1) (fun hn_ => (.inr (Nat.le_trans (below_size (by repeat (first | (with_reducible first | exact HB.out | apply below_alloc | apply pw_below_drewN | apply below_drew1 | refine below_set ?_ GE252.out | refine below_set ?_ GE253.out) | exact HB.out))) hn_))), Or.elim hk_ (fun hs_ => hs_.2.1) (fun hn_ => (Kd.freshB (g := gb252) (o := .cells #[.slice A0_0 l0_0.length c0_0] 57 (0, 0)) (by (with_reducible repeat (first | refine blk_drewN ?_ _ | refine blk_drew ?_ | refine blk_alloc ?_ _)); exact BK252.out) k_ hn_)), Or.elim hk_ (fun hs_ => hs_.2.2) (fun hn_ => (Kd.freshB (g := gb253) (o := .cells #[.slice none 0 0] 57 (0, 0)) (by (with_reducible repeat (first | refine blk_drewN ?_ _ | refine blk_drew ?_ | refine blk_alloc ?_ _)); exact BK253.out) k_ hn_))⟩)) (below_size (by repeat (first | (with_reducible first | exact HB.out | apply below_alloc | apply pw_below_drewN | apply below_drew1 | refine below_set ?_ GE252.out | refine below_set ?_ GE253.out) | exact HB.out)))); have n2_ := Aside0.mk (blk_below (g := gb252) (o := .cells #[.slice A0_0 l0_0.length c0_0] 57 (0, 0)) (by (with_reducible repeat (first | refine blk_drewN ?_ _ | refine blk_drew ?_ | refine blk_alloc ?_ _)); exact BK252.out) hb); have n3_ := Aside0.mk (blk_below (g := gb253) (o := .cells #[.slice none 0 0] 57 (0, 0)) (by (with_reducible repeat (first | refine blk_drewN ?_ _ | refine blk_drew ?_ | refine blk_alloc ?_ _)); exact BK253.out) hb); have n4_ := Aside0.mk (below_step (by repeat (first | (with_reducible first | exact HB.out | apply below_alloc | apply pw_below_drewN | apply below_drew1 | refine below_set ?_ GE252.out | refine below_set ?_ GE253.out) | exact HB.out)) hb); clear HO_253000; clear BK252; clear BK253; clear HB; have HO_253000 := n0_; have HO260 := n1_; have BK252 := n2_; have BK253 := n3_; have HB := n4_; clear n0_ n1_ n2_ n3_ n4_; (try clear hb); (try clear hb2); (try clear hk); (try clear hi); (try clear ho0); obtain ⟨Ao41, co41, eo41⟩ := Kd.V_slice HO260.out; subst eo41; have hcz42_0 : w40.cell? ⟨gb252, 0, none⟩ = some (.slice A0_0 l0_0.length c0_0) := (blk_cell BK252.out 0).trans rfl; have hfz42_0 := blk_frozen BK252.out 0) | ((with_reducible refine gate_dst (N := 41) rfl ?_); refine Kd.R_lit (Kd.int .i64) _ 3 ?hg (N := 41) ?hd (xs := ([] : List Int)) (inner := []) (ok := fun _ => True) (okp := fun _ => True) ?hr ?hp (fun _ hk => hk) trivial (Below.refl _ _) (Nat.le_refl _) (by simp) ?_; (case hd => rfl); (case hg => rfl); (case hr => first | (go_simp; done) | (go_simp; rfl)); (case hp => exact (Reps.none _ _)); intro v262 w43 ho44 hb hg_ hnew_; clear hg_ hnew_; (first | rw [← Ny261.out] at ho44 | (simp only [Int.reduceToNat] at ho44; rw [← Ny261.out] at ho44)); have n0_ := Aside0.mk (Kd.V_elder' (by (with_reducible repeat (first | apply Kd.V_alloc | apply Kd.V_drewN | apply Kd.V_drew)); exact (Kd.V_mono (Kd.V_far (p := ⟨gb252, 0, none⟩) (Kd.V_mono HO_253000.out (fun k_ hk => (⟨hk, hk.2.1⟩ : _ ∧ k_ ≠ gb252))) (fun _ hk => hk.2) (.slice Ao41 t258.length co41)) (fun _ h_ => h_.1))) (Kd.R_base ho44) hb); have n1_ := Aside0.mk (Kd.V_elder' (by (with_reducible repeat (first | apply Kd.V_alloc | apply Kd.V_drewN | apply Kd.V_drew)); exact (Kd.V_mono (Kd.V_far (p := ⟨gb252, 0, none⟩) (Kd.V_mono HO260.out (fun k_ hk => (⟨hk, hk.2.1⟩ : _ ∧ k_ ≠ gb252))) (fun _ hk => hk.2) (.slice Ao41 t258.length co41)) (fun _ h_ => h_.1))) (Kd.R_base ho44) hb); have n2_ := Aside0.mk (Kd.R_lower (Kd.R_newM (M := fun k_ => (w.heap.size ≤ k_)) ho44 (below_size (by repeat (first | (with_reducible first | exact HB.out | apply below_alloc | apply pw_below_drewN | apply below_drew1 | refine below_set ?_ GE252.out | refine below_set ?_ GE253.out) | exact HB.out))) (fun k_ h_ => h_)) (below_size (by repeat (first | (with_reducible first | exact HB.out | apply below_alloc | apply pw_below_drewN | apply below_drew1 | refine below_set ?_ GE252.out | refine below_set ?_ GE253.out) | exact HB.out)))); have n3_ := Aside0.mk (blk_below (g := gb252) (o := .cells #[.slice Ao41 t258.length co41] 57 (0, 0)) (by (with_reducible repeat (first | refine blk_drewN ?_ _ | refine blk_drew ?_ | refine blk_alloc ?_ _)); refine blk_put (cs := #[.slice A0_0 l0_0.length c0_0]) ?_ 0 _ rfl; (with_reducible repeat (first | refine blk_drewN ?_ _ | refine blk_drew ?_ | refine blk_alloc ?_ _)); exact BK252.out) hb); have n4_ := Aside0.mk (blk_below (g := gb253) (o := .cells #[.slice none 0 0] 57 (0, 0)) (by (with_reducible repeat (first | refine blk_drewN ?_ _ | refine blk_drew ?_ | refine blk_alloc ?_ _)); refine blk_far ?_ NB253_252.out _; (with_reducible repeat (first | refine blk_drewN ?_ _ | refine blk_drew ?_ | refine blk_alloc ?_ _)); exact BK253.out) hb); have n5_ := Aside0.mk (below_step (by repeat (first | (with_reducible first | exact HB.out | apply below_alloc | apply pw_below_drewN | apply below_drew1 | refine below_set ?_ GE252.out | refine below_set ?_ GE253.out) | exact HB.out)) hb); clear HO_253000; clear HO260; clear BK252; clear BK253; clear HB; have HO_253000 := n0_; have HO260 := n1_; have HO263 := n2_; have BK252 := n3_; have BK253 := n4_; have HB := n5_; clear n0_ n1_ n2_ n3_ n4_ n5_; clear hb ho44))
              go_loopg [9, 10] kj22 (fun kq v9 v10 w' => ∃ (x9_3 : List Int) (x10_3 : Int), v10 = .int .i64 x10_3 ∧ Aside0 (marginaliaref05_Before.l0 kq a1 a2 t256 x9_3 x10_3 t258 = some (r1, r2)) ∧ Aside0 (kq ≤ kj22) ∧ Aside0 (Kd.R (Kd.int .i64) 3 w' w.heap.size (fun k_ => (w.heap.size ≤ k_)) v9 x9_3) ∧ Aside0 (Kd.V k116 116 w' w.heap.size (fun k_ => (P0_0_ k_ ∨ w.heap.size ≤ k_) ∧ some k_ ≠ (v9 : Value).ownBlock ∧ k_ ≠ gb252 ∧ k_ ≠ gb253) (.slice Ao41 t258.length co41) t258) ∧ Aside0 (w'.heap[gb252]? = some (.cells #[(.slice Ao41 t258.length co41)] 57 (0, 0))) ∧ Aside0 (w'.heap[gb253]? = some (.cells #[(.slice none 0 0)] 57 (0, 0))) ∧ Aside0 (Below w.heap.size w w'))
              case atStart => exact ⟨(y261), (0), (by first | rfl | (simp; done) | (simp [*]; done)), H', ⟨Nat.le_refl _⟩, ⟨by (with_reducible repeat (first | apply Kd.R_alloc | apply Kd.R_drewN | apply Kd.R_drew)); exact Kd.R_mono HO263.out (fun _ hk => hk.1)⟩, ⟨by (with_reducible repeat (first | apply Kd.V_alloc | apply Kd.V_drewN | apply Kd.V_drew)); exact Kd.V_mono HO260.out (fun _ hk => ⟨hk.1.1, ⟨hk.2, ⟨hk.1.2.1, hk.1.2.2⟩⟩⟩)⟩, ⟨by (with_reducible repeat (first | refine blk_drewN ?_ _ | refine blk_drew ?_ | refine blk_alloc ?_ _)); exact BK252.out⟩, ⟨by (with_reducible repeat (first | refine blk_drewN ?_ _ | refine blk_drew ?_ | refine blk_alloc ?_ _)); exact BK253.out⟩, ⟨by repeat (first | (with_reducible first | exact HB.out | apply below_alloc | apply pw_below_drewN | apply below_drew1 | refine below_set ?_ GE252.out | refine below_set ?_ GE253.out) | exact HB.out)⟩⟩
              case round =>
                clear H'
                try clear c1
                try clear c2
                try clear p2
                try clear c3
                try clear c4
                try clear c7
                try clear c8
                try clear c9
                try clear c10
                try clear c15
                try clear c18
                try clear c19
                try clear c24
                try clear c27
                try clear c27b0
                try clear c28
                try clear c28b0
                try clear c28b1
                try clear c30
                try clear c33
                try clear c34
                try clear c38
                try clear c43
                try clear hcz11_0
                try clear hcz13_0
                try clear hcz16_0
                try clear hcz20_0
                try clear hcz21_0
                try clear hcz25_0
                try clear hcz31_0
                try clear hcz35_0
                try clear hcz36_0
                try clear hcz39_0
                try clear hcz42_0
                try clear hfz11_0
                try clear hfz13_0
                try clear hfz16_0
                try clear hfz20_0
                try clear hfz21_0
                try clear hfz25_0
                try clear hfz31_0
                try clear hfz35_0
                try clear hfz36_0
                try clear hfz39_0
                try clear hfz42_0
                try clear p2
                obtain ⟨x9_3, x10_3, rfl, HA, HK3, HO_9, HO_253000, BK252, BK253, HB⟩ := hrel
                cases gk with
                | zero => exact absurd HA.out (by simp [marginaliaref05_Before.l0])
                | succ k3 =>
                  have H := HA.out
                  clear HA
                  simp only [marginaliaref05_Before.l0] at H
                  by_cases c45 : 0 ≤ t256
                  · rw [if_pos c45] at H
                    have c45b0 : decide (0 ≤ t256) = true := decide_eq_true c45
                    clear c45
                    by_cases c46 : t256 < (t258.length : Int)
                    · rw [if_pos c46] at H
                      have c46b0 : decide (t256 < (t258.length : Int)) = true := decide_eq_true c46
                      clear c46
                      by_cases c47 : x10_3 < (((rd_T116 t258 t256).f1).length : Int)
                      · rw [if_pos c47] at H
                        have c47b0 : decide (x10_3 < (((rd_T116 t258 t256).f1).length : Int)) = true := decide_eq_true c47
                        clear c47
                        by_cases c48 : 0 ≤ x10_3
                        · rw [if_pos c48] at H
                          have c48b0 : decide (0 ≤ x10_3) = true := decide_eq_true c48
                          clear c48
                          by_cases c49 : (rd ((rd_T116 t258 t256).f1) x10_3) = a1
                          · rw [if_pos c49] at H
                            have c49b0 : ((rd ((rd_T116 t258 t256).f1) x10_3) == a1) = true := beq_iff_eq.mpr c49
                            have c49b1 : ((rd ((rd_T116 t258 t256).f1) x10_3) != a1) = false := bne_eq_false_iff_eq.mpr c49
                            clear c49
                            by_cases c50 : x9_3.length < 17592186044416
                            · rw [if_pos c50] at H
                              have LMc50 := Aside0.mk c50
                              clear c50
                              obtain ⟨y270, hy270⟩ : ∃ y_ : List Int, y_ = (x9_3 ++ [a2]) := ⟨_, rfl⟩
                              replace H : (if y270.length < 17592186044416 then (marginaliaref05_Before.l0 k3 a1 a2 t256 (y270 ++ [rd ((rd_T116 t258 t256).f1) x10_3]) (wrap64 (x10_3 + 1)) t258) else (none)) = some (r1, r2) := by first | (rw [hy270]; with_reducible exact H) | (have H2_ := (Option.bind_some _ _).symm.trans H; rw [hy270]; with_reducible exact H2_) | (have H2_ := (Option.bind_some _ _).symm.trans H; with_reducible exact H2_) | with_reducible exact H | (rw [hy270]; exact H) | exact H
                              have Ny270 := Aside0.mk hy270
                              clear hy270
                              by_cases c51 : y270.length < 17592186044416
                              · rw [if_pos c51] at H
                                have LMc51 := Aside0.mk c51
                                clear c51
                                obtain ⟨y275, hy275⟩ : ∃ y_ : List Int, y_ = (y270 ++ [rd ((rd_T116 t258 t256).f1) x10_3]) := ⟨_, rfl⟩
                                replace H : (marginaliaref05_Before.l0 k3 a1 a2 t256 y275 (wrap64 (x10_3 + 1)) t258) = some (r1, r2) := by first | (rw [hy275]; with_reducible exact H) | (have H2_ := (Option.bind_some _ _).symm.trans H; rw [hy275]; with_reducible exact H2_) | (have H2_ := (Option.bind_some _ _).symm.trans H; with_reducible exact H2_) | with_reducible exact H | (rw [hy275]; exact H) | exact H
                                have Ny275 := Aside0.mk hy275
                                clear hy275
                                have H' := Aside0.mk H
                                clear H
                                have hnb52 := NB252_253.out
                                have hnc52 := NB253_252.out
                                have hcz53_0 : wr.cell? ⟨gb252, 0, none⟩ = some (.slice Ao41 t258.length co41) := (blk_cell BK252.out 0).trans rfl
                                have hfz53_0 := blk_frozen BK252.out 0
                                have p264 : 0 ≤ (t256 : Int) := of_decide_eq_true (by first | (with_reducible assumption) | assumption)
                                have q264 : t256 < (t258.length : Int) := of_decide_eq_true (by first | (with_reducible assumption) | assumption)
                                obtain ⟨ad264, A264_3, c264_3, A264_5, c264_5, A264_6, c264_6, e264, hx264_0, hx264_1, hx264_2, hx264_3, hx264_4, hx264_5, hx264_6, hl264_3, hi264_3, hl264_5, hi264_5, hl264_6, hi264_6⟩ := at_T116 (Kd.V_reads' HO_253000.out).2.2 t256 p264 q264
                                cases e264
                                obtain ⟨ce264, hce264, hMe264, hcc264⟩ := Kd.V_get HO_253000.out z116 t256 p264 (by first | exact q264 | exact of_decide_eq_true (by first | (with_reducible assumption) | assumption) | (have e_ := (Kd.V_reads' HO_253000.out).1; omega))
                                obtain ⟨ua264_3, uc264_3, ua264_5, uc264_5, ua264_6, uc264_6, rfl, ul264_3, ge264_3, ul264_5, ge264_5, ul264_6, ge264_6⟩ := k116_openF hMe264
                                have hv264_3 := hcc264 3 _ rfl
                                rw [add_field _ _ 3 (by omega)] at hv264_3
                                replace hv264_3 := Option.some.inj (hv264_3.symm.trans hx264_3)
                                injection hv264_3 with hva_ hvn_ hvc_
                                rw [hva_] at ge264_3
                                rw [hvc_] at ul264_3
                                have HL264_3 := Aside0.mk (show Kd.V k103 103 _ w.heap.size _ _ ((rd_T116 t258 t256).f0.f3) from Kd.V_mk ul264_3 ge264_3)
                                clear hva_ hvn_ hvc_ ge264_3 ul264_3
                                have hv264_5 := hcc264 5 _ rfl
                                rw [add_field _ _ 5 (by omega)] at hv264_5
                                replace hv264_5 := Option.some.inj (hv264_5.symm.trans hx264_5)
                                injection hv264_5 with hva_ hvn_ hvc_
                                rw [hva_] at ge264_5
                                rw [hvc_] at ul264_5
                                have HL264_5 := Aside0.mk (show Kd.V k67 67 _ w.heap.size _ _ ((rd_T116 t258 t256).f0.f5) from Kd.V_mk ul264_5 ge264_5)
                                clear hva_ hvn_ hvc_ ge264_5 ul264_5
                                have hv264_6 := hcc264 6 _ rfl
                                rw [add_field _ _ 6 (by omega)] at hv264_6
                                replace hv264_6 := Option.some.inj (hv264_6.symm.trans hx264_6)
                                injection hv264_6 with hva_ hvn_ hvc_
                                rw [hva_] at ge264_6
                                rw [hvc_] at ul264_6
                                have HL264_6 := Aside0.mk (show Kd.V (Kd.int .i64) 3 _ w.heap.size _ _ ((rd_T116 t258 t256).f1) from Kd.V_mk ul264_6 ge264_6)
                                clear hva_ hvn_ hvc_ ge264_6 ul264_6
                                clear hcc264 hce264
                                have HR264_3 := Aside0.mk hi264_3
                                have HC264_3 := Aside0.mk hl264_3
                                clear hi264_3 hl264_3
                                have HR264_5 := Aside0.mk hi264_5
                                have HC264_5 := Aside0.mk hl264_5
                                clear hi264_5 hl264_5
                                have HR264_6 := Aside0.mk hi264_6
                                have HC264_6 := Aside0.mk hl264_6
                                clear hi264_6 hl264_6
                                replace p264 := eq_true p264
                                replace q264 := eq_true q264
                                have p268 : 0 ≤ (t256 : Int) := of_decide_eq_true (by first | (with_reducible assumption) | assumption)
                                have q268 : t256 < (t258.length : Int) := of_decide_eq_true (by first | (with_reducible assumption) | assumption)
                                obtain ⟨ad268, A268_3, c268_3, A268_5, c268_5, A268_6, c268_6, e268, hx268_0, hx268_1, hx268_2, hx268_3, hx268_4, hx268_5, hx268_6, hl268_3, hi268_3, hl268_5, hi268_5, hl268_6, hi268_6⟩ := at_T116 (Kd.V_reads' HO_253000.out).2.2 t256 p268 q268
                                obtain rfl : ad264 = ad268 := (by injection e268)
                                obtain ⟨ce268, hce268, hMe268, hcc268⟩ := Kd.V_get HO_253000.out z116 t256 p268 (by first | exact q268 | exact of_decide_eq_true (by first | (with_reducible assumption) | assumption) | (have e_ := (Kd.V_reads' HO_253000.out).1; omega))
                                obtain ⟨ua268_3, uc268_3, ua268_5, uc268_5, ua268_6, uc268_6, rfl, ul268_3, ge268_3, ul268_5, ge268_5, ul268_6, ge268_6⟩ := k116_openF hMe268
                                have hv268_3 := hcc268 3 _ rfl
                                rw [add_field _ _ 3 (by omega)] at hv268_3
                                replace hv268_3 := Option.some.inj (hv268_3.symm.trans hx268_3)
                                injection hv268_3 with hva_ hvn_ hvc_
                                rw [hva_] at ge268_3
                                rw [hvc_] at ul268_3
                                have HL268_3 := Aside0.mk (show Kd.V k103 103 _ w.heap.size _ _ ((rd_T116 t258 t256).f0.f3) from Kd.V_mk ul268_3 ge268_3)
                                clear hva_ hvn_ hvc_ ge268_3 ul268_3
                                have hv268_5 := hcc268 5 _ rfl
                                rw [add_field _ _ 5 (by omega)] at hv268_5
                                replace hv268_5 := Option.some.inj (hv268_5.symm.trans hx268_5)
                                injection hv268_5 with hva_ hvn_ hvc_
                                rw [hva_] at ge268_5
                                rw [hvc_] at ul268_5
                                have HL268_5 := Aside0.mk (show Kd.V k67 67 _ w.heap.size _ _ ((rd_T116 t258 t256).f0.f5) from Kd.V_mk ul268_5 ge268_5)
                                clear hva_ hvn_ hvc_ ge268_5 ul268_5
                                have hv268_6 := hcc268 6 _ rfl
                                rw [add_field _ _ 6 (by omega)] at hv268_6
                                replace hv268_6 := Option.some.inj (hv268_6.symm.trans hx268_6)
                                injection hv268_6 with hva_ hvn_ hvc_
                                rw [hva_] at ge268_6
                                rw [hvc_] at ul268_6
                                have HL268_6 := Aside0.mk (show Kd.V (Kd.int .i64) 3 _ w.heap.size _ _ ((rd_T116 t258 t256).f1) from Kd.V_mk ul268_6 ge268_6)
                                clear hva_ hvn_ hvc_ ge268_6 ul268_6
                                clear hcc268 hce268
                                have HR268_3 := Aside0.mk hi268_3
                                have HC268_3 := Aside0.mk hl268_3
                                clear hi268_3 hl268_3
                                have HR268_5 := Aside0.mk hi268_5
                                have HC268_5 := Aside0.mk hl268_5
                                clear hi268_5 hl268_5
                                have HR268_6 := Aside0.mk hi268_6
                                have HC268_6 := Aside0.mk hl268_6
                                clear hi268_6 hl268_6
                                replace p268 := eq_true p268
                                replace q268 := eq_true q268
                                have ea_ := Option.some.inj (hx264_3.symm.trans hx268_3)
                                injection ea_ with ea_ en_ ec_
                                subst ea_
                                subst ec_
                                clear en_
                                have ea_ := Option.some.inj (hx264_5.symm.trans hx268_5)
                                injection ea_ with ea_ en_ ec_
                                subst ea_
                                subst ec_
                                clear en_
                                have ea_ := Option.some.inj (hx264_6.symm.trans hx268_6)
                                injection ea_ with ea_ en_ ec_
                                subst ea_
                                subst ec_
                                clear en_
                                have p269 : 0 ≤ (x10_3 : Int) := of_decide_eq_true (by first | (with_reducible assumption) | assumption)
                                have q269 : x10_3 < (((rd_T116 t258 t256).f1).length : Int) := of_decide_eq_true (by first | (with_reducible assumption) | assumption)
                                obtain ⟨ad269, e269, hx269_0⟩ := Kd.at_int (by repeat (first | (with_reducible exact HR268_6.out) | (with_reducible refine Kd.C_alloc ?_ _) | (with_reducible refine Kd.C_drewN ?_ _) | (with_reducible refine Kd.C_drew ?_) | exact HR268_6.out)) x10_3 p269 q269
                                cases e269
                                replace p269 := eq_true p269
                                replace q269 := eq_true q269
                                go_wp2_with (first | ((with_reducible refine gate_builtin (b := .append) (xs := #[.tmp 64, .tmp 66]) rfl ?_); at_builtin; refine Kd.R_append (Kd.int .i64) (w0 := w) w.heap.size rfl (.tmp 64) (.tmp 66) 61 3 (.int .i64 0) 8 rfl Try.underlying61 info3 rfl (by decide) (by omega) u9 x9_3 a2 [.int .i64 a2] (fun k_ => (w.heap.size ≤ k_)) (fun _ => False) rfl rfl ?aP (fun _ hk => hk.elim) ?aF ?aO ?aB ?aS ?aL ?_; (case aP => exact rfl); (case aB => exact (by repeat (first | (with_reducible first | exact HB.out | apply below_alloc | apply pw_below_drewN | apply below_drew1 | refine below_set ?_ GE252.out | refine below_set ?_ GE253.out) | exact HB.out))); (case aF => exact (fun k_ hk => (Nat.le_trans (below_size (by repeat (first | (with_reducible first | exact HB.out | apply below_alloc | apply pw_below_drewN | apply below_drew1 | refine below_set ?_ GE252.out | refine below_set ?_ GE253.out) | exact HB.out))) hk))); (case aO => exact (by (with_reducible repeat (first | apply Kd.R_alloc | apply Kd.R_drewN | apply Kd.R_drew)); exact HO_9.out)); (case aS => exact (below_size (by repeat (first | (with_reducible first | exact HB.out | apply below_alloc | apply pw_below_drewN | apply below_drew1 | refine below_set ?_ GE252.out | refine below_set ?_ GE253.out) | exact HB.out)))); (case aL => have := LMc50.out; omega); intro v271 w54 ho hb hg hat; rw [← Ny270.out] at ho; have n0_ := Aside0.mk (Kd.V_afterv (ok := (fun k_ => (P0_0_ k_ ∨ w.heap.size ≤ k_) ∧ k_ ≠ gb252 ∧ k_ ≠ gb253)) (by (with_reducible repeat (first | apply Kd.V_alloc | apply Kd.V_drewN | apply Kd.V_drew)); exact Kd.V_mono HO_253000.out (fun _ hk => ⟨⟨hk.1, ⟨hk.2.2.1, hk.2.2.2⟩⟩, hk.2.1⟩)) hg hat); have n1_ := Aside0.mk (blk_grown (g := gb252) (o := .cells #[.slice (some ad264) t258.length co41] 57 (0, 0)) (by (with_reducible repeat (first | refine blk_drewN ?_ _ | refine blk_drew ?_ | refine blk_alloc ?_ _)); exact BK252.out) hg (Kd.R_ne HO_9.out BK252.out (by decide))); have n2_ := Aside0.mk (blk_grown (g := gb253) (o := .cells #[.slice none 0 0] 57 (0, 0)) (by (with_reducible repeat (first | refine blk_drewN ?_ _ | refine blk_drew ?_ | refine blk_alloc ?_ _)); exact BK253.out) hg (Kd.R_ne HO_9.out BK253.out (by decide))); have n3_ := Aside0.mk (Kd.V_afterv (ok := (fun k_ => (P0_0_ k_ ∨ w.heap.size ≤ k_) ∧ k_ ≠ gb252 ∧ k_ ≠ gb253)) (by (with_reducible repeat (first | apply Kd.V_alloc | apply Kd.V_drewN | apply Kd.V_drew)); exact Kd.V_mono HL264_3.out (fun _ hk => ⟨⟨hk.1, ⟨hk.2.2.1, hk.2.2.2⟩⟩, hk.2.1⟩)) hg hat); have n4_ := Aside0.mk (Kd.V_afterv (ok := (fun k_ => (P0_0_ k_ ∨ w.heap.size ≤ k_) ∧ k_ ≠ gb252 ∧ k_ ≠ gb253)) (by (with_reducible repeat (first | apply Kd.V_alloc | apply Kd.V_drewN | apply Kd.V_drew)); exact Kd.V_mono HL264_5.out (fun _ hk => ⟨⟨hk.1, ⟨hk.2.2.1, hk.2.2.2⟩⟩, hk.2.1⟩)) hg hat); have n5_ := Aside0.mk (Kd.V_afterv (ok := (fun k_ => (P0_0_ k_ ∨ w.heap.size ≤ k_) ∧ k_ ≠ gb252 ∧ k_ ≠ gb253)) (by (with_reducible repeat (first | apply Kd.V_alloc | apply Kd.V_drewN | apply Kd.V_drew)); exact Kd.V_mono HL264_6.out (fun _ hk => ⟨⟨hk.1, ⟨hk.2.2.1, hk.2.2.2⟩⟩, hk.2.1⟩)) hg hat); have n6_ := Aside0.mk (Kd.V_afterv (ok := (fun k_ => (P0_0_ k_ ∨ w.heap.size ≤ k_) ∧ k_ ≠ gb252 ∧ k_ ≠ gb253)) (by (with_reducible repeat (first | apply Kd.V_alloc | apply Kd.V_drewN | apply Kd.V_drew)); exact Kd.V_mono HL268_3.out (fun _ hk => ⟨⟨hk.1, ⟨hk.2.2.1, hk.2.2.2⟩⟩, hk.2.1⟩)) hg hat); have n7_ := Aside0.mk (Kd.V_afterv (ok := (fun k_ => (P0_0_ k_ ∨ w.heap.size ≤ k_) ∧ k_ ≠ gb252 ∧ k_ ≠ gb253)) (by (with_reducible repeat (first | apply Kd.V_alloc | apply Kd.V_drewN | apply Kd.V_drew)); exact Kd.V_mono HL268_5.out (fun _ hk => ⟨⟨hk.1, ⟨hk.2.2.1, hk.2.2.2⟩⟩, hk.2.1⟩)) hg hat); have n8_ := Aside0.mk (Kd.V_afterv (ok := (fun k_ => (P0_0_ k_ ∨ w.heap.size ≤ k_) ∧ k_ ≠ gb252 ∧ k_ ≠ gb253)) (by (with_reducible repeat (first | apply Kd.V_alloc | apply Kd.V_drewN | apply Kd.V_drew)); exact Kd.V_mono HL268_6.out (fun _ hk => ⟨⟨hk.1, ⟨hk.2.2.1, hk.2.2.2⟩⟩, hk.2.1⟩)) hg hat); have n9_ := Aside0.mk (hb); have n10_ := Aside0.mk (ho); clear HO_253000; clear BK252; clear BK253; clear HL264_3; clear HL264_5; clear HL264_6; clear HL268_3; clear HL268_5; clear HL268_6; clear HB; clear HO_9; have HO_253000 := n0_; have BK252 := n1_; have BK253 := n2_; have HL264_3 := n3_; have HL264_5 := n4_; have HL264_6 := n5_; have HL268_3 := n6_; have HL268_5 := n7_; have HL268_6 := n8_; have HB := n9_; have HO272 := n10_; clear n0_ n1_ n2_ n3_ n4_ n5_ n6_ n7_ n8_ n9_ n10_; clear ho hb hg hat; have hcz55_0 : w54.cell? ⟨gb252, 0, none⟩ = some (.slice (some ad264) t258.length co41) := (blk_cell BK252.out 0).trans rfl; have hfz55_0 := blk_frozen BK252.out 0; have p273 : 0 ≤ (t256 : Int) := of_decide_eq_true (by first | (with_reducible assumption) | assumption); have q273 : t256 < (t258.length : Int) := of_decide_eq_true (by first | (with_reducible assumption) | assumption); obtain ⟨ad273, A273_3, c273_3, A273_5, c273_5, A273_6, c273_6, e273, hx273_0, hx273_1, hx273_2, hx273_3, hx273_4, hx273_5, hx273_6, hl273_3, hi273_3, hl273_5, hi273_5, hl273_6, hi273_6⟩ := at_T116 (Kd.V_reads' HO_253000.out).2.2 t256 p273 q273; obtain rfl : ad264 = ad273 := (by injection e273); obtain ⟨ce273, hce273, hMe273, hcc273⟩ := Kd.V_get HO_253000.out z116 t256 p273 (by first | exact q273 | exact of_decide_eq_true (by first | (with_reducible assumption) | assumption) | (have e_ := (Kd.V_reads' HO_253000.out).1; omega)); obtain ⟨ua273_3, uc273_3, ua273_5, uc273_5, ua273_6, uc273_6, rfl, ul273_3, ge273_3, ul273_5, ge273_5, ul273_6, ge273_6⟩ := k116_openF hMe273; have hv273_3 := hcc273 3 _ rfl; rw [add_field _ _ 3 (by omega)] at hv273_3; replace hv273_3 := Option.some.inj (hv273_3.symm.trans hx273_3); injection hv273_3 with hva_ hvn_ hvc_; rw [hva_] at ge273_3; rw [hvc_] at ul273_3; have HL273_3 := Aside0.mk (show Kd.V k103 103 _ w.heap.size _ _ ((rd_T116 t258 t256).f0.f3) from Kd.V_mk ul273_3 ge273_3); clear hva_ hvn_ hvc_ ge273_3 ul273_3; have hv273_5 := hcc273 5 _ rfl; rw [add_field _ _ 5 (by omega)] at hv273_5; replace hv273_5 := Option.some.inj (hv273_5.symm.trans hx273_5); injection hv273_5 with hva_ hvn_ hvc_; rw [hva_] at ge273_5; rw [hvc_] at ul273_5; have HL273_5 := Aside0.mk (show Kd.V k67 67 _ w.heap.size _ _ ((rd_T116 t258 t256).f0.f5) from Kd.V_mk ul273_5 ge273_5); clear hva_ hvn_ hvc_ ge273_5 ul273_5; have hv273_6 := hcc273 6 _ rfl; rw [add_field _ _ 6 (by omega)] at hv273_6; replace hv273_6 := Option.some.inj (hv273_6.symm.trans hx273_6); injection hv273_6 with hva_ hvn_ hvc_; rw [hva_] at ge273_6; rw [hvc_] at ul273_6; have HL273_6 := Aside0.mk (show Kd.V (Kd.int .i64) 3 _ w.heap.size _ _ ((rd_T116 t258 t256).f1) from Kd.V_mk ul273_6 ge273_6); clear hva_ hvn_ hvc_ ge273_6 ul273_6; clear hcc273 hce273; have HR273_3 := Aside0.mk hi273_3; have HC273_3 := Aside0.mk hl273_3; clear hi273_3 hl273_3; have HR273_5 := Aside0.mk hi273_5; have HC273_5 := Aside0.mk hl273_5; clear hi273_5 hl273_5; have HR273_6 := Aside0.mk hi273_6; have HC273_6 := Aside0.mk hl273_6; clear hi273_6 hl273_6; replace p273 := eq_true p273; replace q273 := eq_true q273; have p274 : 0 ≤ (x10_3 : Int) := of_decide_eq_true (by first | (with_reducible assumption) | assumption); have q274 : x10_3 < (((rd_T116 t258 t256).f1).length : Int) := of_decide_eq_true (by first | (with_reducible assumption) | assumption); obtain ⟨ad274, e274, hx274_0⟩ := Kd.at_int (by repeat (first | (with_reducible exact HR273_6.out) | (with_reducible refine Kd.C_alloc ?_ _) | (with_reducible refine Kd.C_drewN ?_ _) | (with_reducible refine Kd.C_drew ?_) | exact HR273_6.out)) x10_3 p274 q274; cases e274; replace p274 := eq_true p274; replace q274 := eq_true q274) | ((with_reducible refine gate_builtin (b := .append) (xs := #[.tmp 68, .tmp 78]) rfl ?_); at_builtin; refine Kd.R_append (Kd.int .i64) (w0 := w) w.heap.size rfl (.tmp 68) (.tmp 78) 61 3 (.int .i64 0) 8 rfl Try.underlying61 info3 rfl (by decide) (by omega) v271 y270 (rd ((rd_T116 t258 t256).f1) x10_3) [.int .i64 (rd ((rd_T116 t258 t256).f1) x10_3)] (fun k_ => (w.heap.size ≤ k_)) (fun _ => False) rfl rfl ?aP (fun _ hk => hk.elim) ?aF ?aO ?aB ?aS ?aL ?_; (case aP => exact rfl); (case aB => exact (by repeat (first | (with_reducible first | exact HB.out | apply below_alloc | apply pw_below_drewN | apply below_drew1 | refine below_set ?_ GE252.out | refine below_set ?_ GE253.out) | exact HB.out))); (case aF => exact (fun k_ hk => (Nat.le_trans (below_size (by repeat (first | (with_reducible first | exact HB.out | apply below_alloc | apply pw_below_drewN | apply below_drew1 | refine below_set ?_ GE252.out | refine below_set ?_ GE253.out) | exact HB.out))) hk))); (case aO => exact (by (with_reducible repeat (first | apply Kd.R_alloc | apply Kd.R_drewN | apply Kd.R_drew)); exact HO272.out)); (case aS => exact (below_size (by repeat (first | (with_reducible first | exact HB.out | apply below_alloc | apply pw_below_drewN | apply below_drew1 | refine below_set ?_ GE252.out | refine below_set ?_ GE253.out) | exact HB.out)))); (case aL => have := LMc51.out; omega); intro v276 w56 ho hb hg hat; rw [← Ny275.out] at ho; have n0_ := Aside0.mk (Kd.V_afterv (ok := (fun k_ => (P0_0_ k_ ∨ w.heap.size ≤ k_) ∧ k_ ≠ gb252 ∧ k_ ≠ gb253)) (by (with_reducible repeat (first | apply Kd.V_alloc | apply Kd.V_drewN | apply Kd.V_drew)); exact HO_253000.out) hg hat); have n1_ := Aside0.mk (blk_grown (g := gb252) (o := .cells #[.slice (some ad264) t258.length co41] 57 (0, 0)) (by (with_reducible repeat (first | refine blk_drewN ?_ _ | refine blk_drew ?_ | refine blk_alloc ?_ _)); exact BK252.out) hg (Kd.R_ne HO272.out BK252.out (by decide))); have n2_ := Aside0.mk (blk_grown (g := gb253) (o := .cells #[.slice none 0 0] 57 (0, 0)) (by (with_reducible repeat (first | refine blk_drewN ?_ _ | refine blk_drew ?_ | refine blk_alloc ?_ _)); exact BK253.out) hg (Kd.R_ne HO272.out BK253.out (by decide))); have n3_ := Aside0.mk (Kd.V_afterv (ok := (fun k_ => (P0_0_ k_ ∨ w.heap.size ≤ k_) ∧ k_ ≠ gb252 ∧ k_ ≠ gb253)) (by (with_reducible repeat (first | apply Kd.V_alloc | apply Kd.V_drewN | apply Kd.V_drew)); exact HL264_3.out) hg hat); have n4_ := Aside0.mk (Kd.V_afterv (ok := (fun k_ => (P0_0_ k_ ∨ w.heap.size ≤ k_) ∧ k_ ≠ gb252 ∧ k_ ≠ gb253)) (by (with_reducible repeat (first | apply Kd.V_alloc | apply Kd.V_drewN | apply Kd.V_drew)); exact HL264_5.out) hg hat); have n5_ := Aside0.mk (Kd.V_afterv (ok := (fun k_ => (P0_0_ k_ ∨ w.heap.size ≤ k_) ∧ k_ ≠ gb252 ∧ k_ ≠ gb253)) (by (with_reducible repeat (first | apply Kd.V_alloc | apply Kd.V_drewN | apply Kd.V_drew)); exact HL264_6.out) hg hat); have n6_ := Aside0.mk (Kd.V_afterv (ok := (fun k_ => (P0_0_ k_ ∨ w.heap.size ≤ k_) ∧ k_ ≠ gb252 ∧ k_ ≠ gb253)) (by (with_reducible repeat (first | apply Kd.V_alloc | apply Kd.V_drewN | apply Kd.V_drew)); exact HL268_3.out) hg hat); have n7_ := Aside0.mk (Kd.V_afterv (ok := (fun k_ => (P0_0_ k_ ∨ w.heap.size ≤ k_) ∧ k_ ≠ gb252 ∧ k_ ≠ gb253)) (by (with_reducible repeat (first | apply Kd.V_alloc | apply Kd.V_drewN | apply Kd.V_drew)); exact HL268_5.out) hg hat); have n8_ := Aside0.mk (Kd.V_afterv (ok := (fun k_ => (P0_0_ k_ ∨ w.heap.size ≤ k_) ∧ k_ ≠ gb252 ∧ k_ ≠ gb253)) (by (with_reducible repeat (first | apply Kd.V_alloc | apply Kd.V_drewN | apply Kd.V_drew)); exact HL268_6.out) hg hat); have n9_ := Aside0.mk (Kd.V_afterv (ok := (fun k_ => (P0_0_ k_ ∨ w.heap.size ≤ k_) ∧ k_ ≠ gb252 ∧ k_ ≠ gb253)) (by (with_reducible repeat (first | apply Kd.V_alloc | apply Kd.V_drewN | apply Kd.V_drew)); exact HL273_3.out) hg hat); have n10_ := Aside0.mk (Kd.V_afterv (ok := (fun k_ => (P0_0_ k_ ∨ w.heap.size ≤ k_) ∧ k_ ≠ gb252 ∧ k_ ≠ gb253)) (by (with_reducible repeat (first | apply Kd.V_alloc | apply Kd.V_drewN | apply Kd.V_drew)); exact HL273_5.out) hg hat); have n11_ := Aside0.mk (Kd.V_afterv (ok := (fun k_ => (P0_0_ k_ ∨ w.heap.size ≤ k_) ∧ k_ ≠ gb252 ∧ k_ ≠ gb253)) (by (with_reducible repeat (first | apply Kd.V_alloc | apply Kd.V_drewN | apply Kd.V_drew)); exact HL273_6.out) hg hat); have n12_ := Aside0.mk (hb); have n13_ := Aside0.mk (ho); clear HO_253000; clear BK252; clear BK253; clear HL264_3; clear HL264_5; clear HL264_6; clear HL268_3; clear HL268_5; clear HL268_6; clear HL273_3; clear HL273_5; clear HL273_6; clear HB; clear HO272; have HO_253000 := n0_; have BK252 := n1_; have BK253 := n2_; have HL264_3 := n3_; have HL264_5 := n4_; have HL264_6 := n5_; have HL268_3 := n6_; have HL268_5 := n7_; have HL268_6 := n8_; have HL273_3 := n9_; have HL273_5 := n10_; have HL273_6 := n11_; have HB := n12_; have HO277 := n13_; clear n0_ n1_ n2_ n3_ n4_ n5_ n6_ n7_ n8_ n9_ n10_ n11_ n12_ n13_; clear ho hb hg hat))
                                go_roundg k3
                                case measure => have := HJ3.out; have := HJ22.out; have := HK3.out; omega
                                case rel => exact ⟨(y275), (wrap64 (x10_3 + 1)), (by first | rfl | (simp; done) | (simp [*]; done)), H', ⟨by have := HJ3.out; have := HJ22.out; have := HK3.out; omega⟩, ⟨by (with_reducible repeat (first | apply Kd.R_alloc | apply Kd.R_drewN | apply Kd.R_drew)); exact HO277.out⟩, ⟨by (with_reducible repeat (first | apply Kd.V_alloc | apply Kd.V_drewN | apply Kd.V_drew)); exact Kd.V_mono HO_253000.out (fun _ hk => ⟨hk.1.1, ⟨hk.2, ⟨hk.1.2.1, hk.1.2.2⟩⟩⟩)⟩, ⟨by (with_reducible repeat (first | refine blk_drewN ?_ _ | refine blk_drew ?_ | refine blk_alloc ?_ _)); exact BK252.out⟩, ⟨by (with_reducible repeat (first | refine blk_drewN ?_ _ | refine blk_drew ?_ | refine blk_alloc ?_ _)); exact BK253.out⟩, ⟨by repeat (first | (with_reducible first | exact HB.out | apply below_alloc | apply pw_below_drewN | apply below_drew1 | refine below_set ?_ GE252.out | refine below_set ?_ GE253.out) | exact HB.out)⟩⟩
                              · rw [if_neg c51] at H
                                exact absurd H (by simp)
                            · rw [if_neg c50] at H
                              exact absurd H (by simp)
                          · rw [if_neg c49] at H
                            have c49b0 : ((rd ((rd_T116 t258 t256).f1) x10_3) == a1) = false := beq_eq_false_iff_ne.mpr c49
                            have c49b1 : ((rd ((rd_T116 t258 t256).f1) x10_3) != a1) = true := bne_iff_ne.mpr c49
                            by_cases c57 : x9_3.length < 17592186044416
                            · rw [if_pos c57] at H
                              have LMc57 := Aside0.mk c57
                              clear c57
                              obtain ⟨y280, hy280⟩ : ∃ y_ : List Int, y_ = (x9_3 ++ [rd ((rd_T116 t258 t256).f1) x10_3]) := ⟨_, rfl⟩
                              replace H : (marginaliaref05_Before.l0 k3 a1 a2 t256 y280 (wrap64 (x10_3 + 1)) t258) = some (r1, r2) := by first | (rw [hy280]; with_reducible exact H) | (have H2_ := (Option.bind_some _ _).symm.trans H; rw [hy280]; with_reducible exact H2_) | (have H2_ := (Option.bind_some _ _).symm.trans H; with_reducible exact H2_) | with_reducible exact H | (rw [hy280]; exact H) | exact H
                              have Ny280 := Aside0.mk hy280
                              clear hy280
                              have H' := Aside0.mk H
                              clear H
                              have hnb58 := NB252_253.out
                              have hnc58 := NB253_252.out
                              have hcz59_0 : wr.cell? ⟨gb252, 0, none⟩ = some (.slice Ao41 t258.length co41) := (blk_cell BK252.out 0).trans rfl
                              have hfz59_0 := blk_frozen BK252.out 0
                              have p264 : 0 ≤ (t256 : Int) := of_decide_eq_true (by first | (with_reducible assumption) | assumption)
                              have q264 : t256 < (t258.length : Int) := of_decide_eq_true (by first | (with_reducible assumption) | assumption)
                              obtain ⟨ad264, A264_3, c264_3, A264_5, c264_5, A264_6, c264_6, e264, hx264_0, hx264_1, hx264_2, hx264_3, hx264_4, hx264_5, hx264_6, hl264_3, hi264_3, hl264_5, hi264_5, hl264_6, hi264_6⟩ := at_T116 (Kd.V_reads' HO_253000.out).2.2 t256 p264 q264
                              cases e264
                              obtain ⟨ce264, hce264, hMe264, hcc264⟩ := Kd.V_get HO_253000.out z116 t256 p264 (by first | exact q264 | exact of_decide_eq_true (by first | (with_reducible assumption) | assumption) | (have e_ := (Kd.V_reads' HO_253000.out).1; omega))
                              obtain ⟨ua264_3, uc264_3, ua264_5, uc264_5, ua264_6, uc264_6, rfl, ul264_3, ge264_3, ul264_5, ge264_5, ul264_6, ge264_6⟩ := k116_openF hMe264
                              have hv264_3 := hcc264 3 _ rfl
                              rw [add_field _ _ 3 (by omega)] at hv264_3
                              replace hv264_3 := Option.some.inj (hv264_3.symm.trans hx264_3)
                              injection hv264_3 with hva_ hvn_ hvc_
                              rw [hva_] at ge264_3
                              rw [hvc_] at ul264_3
                              have HL264_3 := Aside0.mk (show Kd.V k103 103 _ w.heap.size _ _ ((rd_T116 t258 t256).f0.f3) from Kd.V_mk ul264_3 ge264_3)
                              clear hva_ hvn_ hvc_ ge264_3 ul264_3
                              have hv264_5 := hcc264 5 _ rfl
                              rw [add_field _ _ 5 (by omega)] at hv264_5
                              replace hv264_5 := Option.some.inj (hv264_5.symm.trans hx264_5)
                              injection hv264_5 with hva_ hvn_ hvc_
                              rw [hva_] at ge264_5
                              rw [hvc_] at ul264_5
                              have HL264_5 := Aside0.mk (show Kd.V k67 67 _ w.heap.size _ _ ((rd_T116 t258 t256).f0.f5) from Kd.V_mk ul264_5 ge264_5)
                              clear hva_ hvn_ hvc_ ge264_5 ul264_5
                              have hv264_6 := hcc264 6 _ rfl
                              rw [add_field _ _ 6 (by omega)] at hv264_6
                              replace hv264_6 := Option.some.inj (hv264_6.symm.trans hx264_6)
                              injection hv264_6 with hva_ hvn_ hvc_
                              rw [hva_] at ge264_6
                              rw [hvc_] at ul264_6
                              have HL264_6 := Aside0.mk (show Kd.V (Kd.int .i64) 3 _ w.heap.size _ _ ((rd_T116 t258 t256).f1) from Kd.V_mk ul264_6 ge264_6)
                              clear hva_ hvn_ hvc_ ge264_6 ul264_6
                              clear hcc264 hce264
                              have HR264_3 := Aside0.mk hi264_3
                              have HC264_3 := Aside0.mk hl264_3
                              clear hi264_3 hl264_3
                              have HR264_5 := Aside0.mk hi264_5
                              have HC264_5 := Aside0.mk hl264_5
                              clear hi264_5 hl264_5
                              have HR264_6 := Aside0.mk hi264_6
                              have HC264_6 := Aside0.mk hl264_6
                              clear hi264_6 hl264_6
                              replace p264 := eq_true p264
                              replace q264 := eq_true q264
                              have p268 : 0 ≤ (t256 : Int) := of_decide_eq_true (by first | (with_reducible assumption) | assumption)
                              have q268 : t256 < (t258.length : Int) := of_decide_eq_true (by first | (with_reducible assumption) | assumption)
                              obtain ⟨ad268, A268_3, c268_3, A268_5, c268_5, A268_6, c268_6, e268, hx268_0, hx268_1, hx268_2, hx268_3, hx268_4, hx268_5, hx268_6, hl268_3, hi268_3, hl268_5, hi268_5, hl268_6, hi268_6⟩ := at_T116 (Kd.V_reads' HO_253000.out).2.2 t256 p268 q268
                              obtain rfl : ad264 = ad268 := (by injection e268)
                              obtain ⟨ce268, hce268, hMe268, hcc268⟩ := Kd.V_get HO_253000.out z116 t256 p268 (by first | exact q268 | exact of_decide_eq_true (by first | (with_reducible assumption) | assumption) | (have e_ := (Kd.V_reads' HO_253000.out).1; omega))
                              obtain ⟨ua268_3, uc268_3, ua268_5, uc268_5, ua268_6, uc268_6, rfl, ul268_3, ge268_3, ul268_5, ge268_5, ul268_6, ge268_6⟩ := k116_openF hMe268
                              have hv268_3 := hcc268 3 _ rfl
                              rw [add_field _ _ 3 (by omega)] at hv268_3
                              replace hv268_3 := Option.some.inj (hv268_3.symm.trans hx268_3)
                              injection hv268_3 with hva_ hvn_ hvc_
                              rw [hva_] at ge268_3
                              rw [hvc_] at ul268_3
                              have HL268_3 := Aside0.mk (show Kd.V k103 103 _ w.heap.size _ _ ((rd_T116 t258 t256).f0.f3) from Kd.V_mk ul268_3 ge268_3)
                              clear hva_ hvn_ hvc_ ge268_3 ul268_3
                              have hv268_5 := hcc268 5 _ rfl
                              rw [add_field _ _ 5 (by omega)] at hv268_5
                              replace hv268_5 := Option.some.inj (hv268_5.symm.trans hx268_5)
                              injection hv268_5 with hva_ hvn_ hvc_
                              rw [hva_] at ge268_5
                              rw [hvc_] at ul268_5
                              have HL268_5 := Aside0.mk (show Kd.V k67 67 _ w.heap.size _ _ ((rd_T116 t258 t256).f0.f5) from Kd.V_mk ul268_5 ge268_5)
                              clear hva_ hvn_ hvc_ ge268_5 ul268_5
                              have hv268_6 := hcc268 6 _ rfl
                              rw [add_field _ _ 6 (by omega)] at hv268_6
                              replace hv268_6 := Option.some.inj (hv268_6.symm.trans hx268_6)
                              injection hv268_6 with hva_ hvn_ hvc_
                              rw [hva_] at ge268_6
                              rw [hvc_] at ul268_6
                              have HL268_6 := Aside0.mk (show Kd.V (Kd.int .i64) 3 _ w.heap.size _ _ ((rd_T116 t258 t256).f1) from Kd.V_mk ul268_6 ge268_6)
                              clear hva_ hvn_ hvc_ ge268_6 ul268_6
                              clear hcc268 hce268
                              have HR268_3 := Aside0.mk hi268_3
                              have HC268_3 := Aside0.mk hl268_3
                              clear hi268_3 hl268_3
                              have HR268_5 := Aside0.mk hi268_5
                              have HC268_5 := Aside0.mk hl268_5
                              clear hi268_5 hl268_5
                              have HR268_6 := Aside0.mk hi268_6
                              have HC268_6 := Aside0.mk hl268_6
                              clear hi268_6 hl268_6
                              replace p268 := eq_true p268
                              replace q268 := eq_true q268
                              have ea_ := Option.some.inj (hx264_3.symm.trans hx268_3)
                              injection ea_ with ea_ en_ ec_
                              subst ea_
                              subst ec_
                              clear en_
                              have ea_ := Option.some.inj (hx264_5.symm.trans hx268_5)
                              injection ea_ with ea_ en_ ec_
                              subst ea_
                              subst ec_
                              clear en_
                              have ea_ := Option.some.inj (hx264_6.symm.trans hx268_6)
                              injection ea_ with ea_ en_ ec_
                              subst ea_
                              subst ec_
                              clear en_
                              have p269 : 0 ≤ (x10_3 : Int) := of_decide_eq_true (by first | (with_reducible assumption) | assumption)
                              have q269 : x10_3 < (((rd_T116 t258 t256).f1).length : Int) := of_decide_eq_true (by first | (with_reducible assumption) | assumption)
                              obtain ⟨ad269, e269, hx269_0⟩ := Kd.at_int (by repeat (first | (with_reducible exact HR268_6.out) | (with_reducible refine Kd.C_alloc ?_ _) | (with_reducible refine Kd.C_drewN ?_ _) | (with_reducible refine Kd.C_drew ?_) | exact HR268_6.out)) x10_3 p269 q269
                              cases e269
                              replace p269 := eq_true p269
                              replace q269 := eq_true q269
                              have p278 : 0 ≤ (t256 : Int) := of_decide_eq_true (by first | (with_reducible assumption) | assumption)
                              have q278 : t256 < (t258.length : Int) := of_decide_eq_true (by first | (with_reducible assumption) | assumption)
                              obtain ⟨ad278, A278_3, c278_3, A278_5, c278_5, A278_6, c278_6, e278, hx278_0, hx278_1, hx278_2, hx278_3, hx278_4, hx278_5, hx278_6, hl278_3, hi278_3, hl278_5, hi278_5, hl278_6, hi278_6⟩ := at_T116 (Kd.V_reads' HO_253000.out).2.2 t256 p278 q278
                              obtain rfl : ad264 = ad278 := (by injection e278)
                              obtain ⟨ce278, hce278, hMe278, hcc278⟩ := Kd.V_get HO_253000.out z116 t256 p278 (by first | exact q278 | exact of_decide_eq_true (by first | (with_reducible assumption) | assumption) | (have e_ := (Kd.V_reads' HO_253000.out).1; omega))
                              obtain ⟨ua278_3, uc278_3, ua278_5, uc278_5, ua278_6, uc278_6, rfl, ul278_3, ge278_3, ul278_5, ge278_5, ul278_6, ge278_6⟩ := k116_openF hMe278
                              have hv278_3 := hcc278 3 _ rfl
                              rw [add_field _ _ 3 (by omega)] at hv278_3
                              replace hv278_3 := Option.some.inj (hv278_3.symm.trans hx278_3)
                              injection hv278_3 with hva_ hvn_ hvc_
                              rw [hva_] at ge278_3
                              rw [hvc_] at ul278_3
                              have HL278_3 := Aside0.mk (show Kd.V k103 103 _ w.heap.size _ _ ((rd_T116 t258 t256).f0.f3) from Kd.V_mk ul278_3 ge278_3)
                              clear hva_ hvn_ hvc_ ge278_3 ul278_3
                              have hv278_5 := hcc278 5 _ rfl
                              rw [add_field _ _ 5 (by omega)] at hv278_5
                              replace hv278_5 := Option.some.inj (hv278_5.symm.trans hx278_5)
                              injection hv278_5 with hva_ hvn_ hvc_
                              rw [hva_] at ge278_5
                              rw [hvc_] at ul278_5
                              have HL278_5 := Aside0.mk (show Kd.V k67 67 _ w.heap.size _ _ ((rd_T116 t258 t256).f0.f5) from Kd.V_mk ul278_5 ge278_5)
                              clear hva_ hvn_ hvc_ ge278_5 ul278_5
                              have hv278_6 := hcc278 6 _ rfl
                              rw [add_field _ _ 6 (by omega)] at hv278_6
                              replace hv278_6 := Option.some.inj (hv278_6.symm.trans hx278_6)
                              injection hv278_6 with hva_ hvn_ hvc_
                              rw [hva_] at ge278_6
                              rw [hvc_] at ul278_6
                              have HL278_6 := Aside0.mk (show Kd.V (Kd.int .i64) 3 _ w.heap.size _ _ ((rd_T116 t258 t256).f1) from Kd.V_mk ul278_6 ge278_6)
                              clear hva_ hvn_ hvc_ ge278_6 ul278_6
                              clear hcc278 hce278
                              have HR278_3 := Aside0.mk hi278_3
                              have HC278_3 := Aside0.mk hl278_3
                              clear hi278_3 hl278_3
                              have HR278_5 := Aside0.mk hi278_5
                              have HC278_5 := Aside0.mk hl278_5
                              clear hi278_5 hl278_5
                              have HR278_6 := Aside0.mk hi278_6
                              have HC278_6 := Aside0.mk hl278_6
                              clear hi278_6 hl278_6
                              replace p278 := eq_true p278
                              replace q278 := eq_true q278
                              have ea_ := Option.some.inj (hx264_3.symm.trans hx278_3)
                              injection ea_ with ea_ en_ ec_
                              subst ea_
                              subst ec_
                              clear en_
                              have ea_ := Option.some.inj (hx264_5.symm.trans hx278_5)
                              injection ea_ with ea_ en_ ec_
                              subst ea_
                              subst ec_
                              clear en_
                              have ea_ := Option.some.inj (hx264_6.symm.trans hx278_6)
                              injection ea_ with ea_ en_ ec_
                              subst ea_
                              subst ec_
                              clear en_
                              have p279 : 0 ≤ (x10_3 : Int) := of_decide_eq_true (by first | (with_reducible assumption) | assumption)
                              have q279 : x10_3 < (((rd_T116 t258 t256).f1).length : Int) := of_decide_eq_true (by first | (with_reducible assumption) | assumption)
                              obtain ⟨ad279, e279, hx279_0⟩ := Kd.at_int (by repeat (first | (with_reducible exact HR278_6.out) | (with_reducible refine Kd.C_alloc ?_ _) | (with_reducible refine Kd.C_drewN ?_ _) | (with_reducible refine Kd.C_drew ?_) | exact HR278_6.out)) x10_3 p279 q279
                              cases e279
                              replace p279 := eq_true p279
                              replace q279 := eq_true q279
                              go_wp2_with (first | ((with_reducible refine gate_builtin (b := .append) (xs := #[.tmp 68, .tmp 78]) rfl ?_); at_builtin; refine Kd.R_append (Kd.int .i64) (w0 := w) w.heap.size rfl (.tmp 68) (.tmp 78) 61 3 (.int .i64 0) 8 rfl Try.underlying61 info3 rfl (by decide) (by omega) u9 x9_3 (rd ((rd_T116 t258 t256).f1) x10_3) [.int .i64 (rd ((rd_T116 t258 t256).f1) x10_3)] (fun k_ => (w.heap.size ≤ k_)) (fun _ => False) rfl rfl ?aP (fun _ hk => hk.elim) ?aF ?aO ?aB ?aS ?aL ?_; (case aP => exact rfl); (case aB => exact (by repeat (first | (with_reducible first | exact HB.out | apply below_alloc | apply pw_below_drewN | apply below_drew1 | refine below_set ?_ GE252.out | refine below_set ?_ GE253.out) | exact HB.out))); (case aF => exact (fun k_ hk => (Nat.le_trans (below_size (by repeat (first | (with_reducible first | exact HB.out | apply below_alloc | apply pw_below_drewN | apply below_drew1 | refine below_set ?_ GE252.out | refine below_set ?_ GE253.out) | exact HB.out))) hk))); (case aO => exact (by (with_reducible repeat (first | apply Kd.R_alloc | apply Kd.R_drewN | apply Kd.R_drew)); exact HO_9.out)); (case aS => exact (below_size (by repeat (first | (with_reducible first | exact HB.out | apply below_alloc | apply pw_below_drewN | apply below_drew1 | refine below_set ?_ GE252.out | refine below_set ?_ GE253.out) | exact HB.out)))); (case aL => have := LMc57.out; omega); intro v281 w60 ho hb hg hat; rw [← Ny280.out] at ho; have n0_ := Aside0.mk (Kd.V_afterv (ok := (fun k_ => (P0_0_ k_ ∨ w.heap.size ≤ k_) ∧ k_ ≠ gb252 ∧ k_ ≠ gb253)) (by (with_reducible repeat (first | apply Kd.V_alloc | apply Kd.V_drewN | apply Kd.V_drew)); exact Kd.V_mono HO_253000.out (fun _ hk => ⟨⟨hk.1, ⟨hk.2.2.1, hk.2.2.2⟩⟩, hk.2.1⟩)) hg hat); have n1_ := Aside0.mk (blk_grown (g := gb252) (o := .cells #[.slice (some ad264) t258.length co41] 57 (0, 0)) (by (with_reducible repeat (first | refine blk_drewN ?_ _ | refine blk_drew ?_ | refine blk_alloc ?_ _)); exact BK252.out) hg (Kd.R_ne HO_9.out BK252.out (by decide))); have n2_ := Aside0.mk (blk_grown (g := gb253) (o := .cells #[.slice none 0 0] 57 (0, 0)) (by (with_reducible repeat (first | refine blk_drewN ?_ _ | refine blk_drew ?_ | refine blk_alloc ?_ _)); exact BK253.out) hg (Kd.R_ne HO_9.out BK253.out (by decide))); have n3_ := Aside0.mk (Kd.V_afterv (ok := (fun k_ => (P0_0_ k_ ∨ w.heap.size ≤ k_) ∧ k_ ≠ gb252 ∧ k_ ≠ gb253)) (by (with_reducible repeat (first | apply Kd.V_alloc | apply Kd.V_drewN | apply Kd.V_drew)); exact Kd.V_mono HL264_3.out (fun _ hk => ⟨⟨hk.1, ⟨hk.2.2.1, hk.2.2.2⟩⟩, hk.2.1⟩)) hg hat); have n4_ := Aside0.mk (Kd.V_afterv (ok := (fun k_ => (P0_0_ k_ ∨ w.heap.size ≤ k_) ∧ k_ ≠ gb252 ∧ k_ ≠ gb253)) (by (with_reducible repeat (first | apply Kd.V_alloc | apply Kd.V_drewN | apply Kd.V_drew)); exact Kd.V_mono HL264_5.out (fun _ hk => ⟨⟨hk.1, ⟨hk.2.2.1, hk.2.2.2⟩⟩, hk.2.1⟩)) hg hat); have n5_ := Aside0.mk (Kd.V_afterv (ok := (fun k_ => (P0_0_ k_ ∨ w.heap.size ≤ k_) ∧ k_ ≠ gb252 ∧ k_ ≠ gb253)) (by (with_reducible repeat (first | apply Kd.V_alloc | apply Kd.V_drewN | apply Kd.V_drew)); exact Kd.V_mono HL264_6.out (fun _ hk => ⟨⟨hk.1, ⟨hk.2.2.1, hk.2.2.2⟩⟩, hk.2.1⟩)) hg hat); have n6_ := Aside0.mk (Kd.V_afterv (ok := (fun k_ => (P0_0_ k_ ∨ w.heap.size ≤ k_) ∧ k_ ≠ gb252 ∧ k_ ≠ gb253)) (by (with_reducible repeat (first | apply Kd.V_alloc | apply Kd.V_drewN | apply Kd.V_drew)); exact Kd.V_mono HL268_3.out (fun _ hk => ⟨⟨hk.1, ⟨hk.2.2.1, hk.2.2.2⟩⟩, hk.2.1⟩)) hg hat); have n7_ := Aside0.mk (Kd.V_afterv (ok := (fun k_ => (P0_0_ k_ ∨ w.heap.size ≤ k_) ∧ k_ ≠ gb252 ∧ k_ ≠ gb253)) (by (with_reducible repeat (first | apply Kd.V_alloc | apply Kd.V_drewN | apply Kd.V_drew)); exact Kd.V_mono HL268_5.out (fun _ hk => ⟨⟨hk.1, ⟨hk.2.2.1, hk.2.2.2⟩⟩, hk.2.1⟩)) hg hat); have n8_ := Aside0.mk (Kd.V_afterv (ok := (fun k_ => (P0_0_ k_ ∨ w.heap.size ≤ k_) ∧ k_ ≠ gb252 ∧ k_ ≠ gb253)) (by (with_reducible repeat (first | apply Kd.V_alloc | apply Kd.V_drewN | apply Kd.V_drew)); exact Kd.V_mono HL268_6.out (fun _ hk => ⟨⟨hk.1, ⟨hk.2.2.1, hk.2.2.2⟩⟩, hk.2.1⟩)) hg hat); have n9_ := Aside0.mk (Kd.V_afterv (ok := (fun k_ => (P0_0_ k_ ∨ w.heap.size ≤ k_) ∧ k_ ≠ gb252 ∧ k_ ≠ gb253)) (by (with_reducible repeat (first | apply Kd.V_alloc | apply Kd.V_drewN | apply Kd.V_drew)); exact Kd.V_mono HL278_3.out (fun _ hk => ⟨⟨hk.1, ⟨hk.2.2.1, hk.2.2.2⟩⟩, hk.2.1⟩)) hg hat); have n10_ := Aside0.mk (Kd.V_afterv (ok := (fun k_ => (P0_0_ k_ ∨ w.heap.size ≤ k_) ∧ k_ ≠ gb252 ∧ k_ ≠ gb253)) (by (with_reducible repeat (first | apply Kd.V_alloc | apply Kd.V_drewN | apply Kd.V_drew)); exact Kd.V_mono HL278_5.out (fun _ hk => ⟨⟨hk.1, ⟨hk.2.2.1, hk.2.2.2⟩⟩, hk.2.1⟩)) hg hat); have n11_ := Aside0.mk (Kd.V_afterv (ok := (fun k_ => (P0_0_ k_ ∨ w.heap.size ≤ k_) ∧ k_ ≠ gb252 ∧ k_ ≠ gb253)) (by (with_reducible repeat (first | apply Kd.V_alloc | apply Kd.V_drewN | apply Kd.V_drew)); exact Kd.V_mono HL278_6.out (fun _ hk => ⟨⟨hk.1, ⟨hk.2.2.1, hk.2.2.2⟩⟩, hk.2.1⟩)) hg hat); have n12_ := Aside0.mk (hb); have n13_ := Aside0.mk (ho); clear HO_253000; clear BK252; clear BK253; clear HL264_3; clear HL264_5; clear HL264_6; clear HL268_3; clear HL268_5; clear HL268_6; clear HL278_3; clear HL278_5; clear HL278_6; clear HB; clear HO_9; have HO_253000 := n0_; have BK252 := n1_; have BK253 := n2_; have HL264_3 := n3_; have HL264_5 := n4_; have HL264_6 := n5_; have HL268_3 := n6_; have HL268_5 := n7_; have HL268_6 := n8_; have HL278_3 := n9_; have HL278_5 := n10_; have HL278_6 := n11_; have HB := n12_; have HO282 := n13_; clear n0_ n1_ n2_ n3_ n4_ n5_ n6_ n7_ n8_ n9_ n10_ n11_ n12_ n13_; clear ho hb hg hat))
                              go_roundg k3
                              case measure => have := HJ3.out; have := HJ22.out; have := HK3.out; omega
                              case rel => exact ⟨(y280), (wrap64 (x10_3 + 1)), (by first | rfl | (simp; done) | (simp [*]; done)), H', ⟨by have := HJ3.out; have := HJ22.out; have := HK3.out; omega⟩, ⟨by (with_reducible repeat (first | apply Kd.R_alloc | apply Kd.R_drewN | apply Kd.R_drew)); exact HO282.out⟩, ⟨by (with_reducible repeat (first | apply Kd.V_alloc | apply Kd.V_drewN | apply Kd.V_drew)); exact Kd.V_mono HO_253000.out (fun _ hk => ⟨hk.1.1, ⟨hk.2, ⟨hk.1.2.1, hk.1.2.2⟩⟩⟩)⟩, ⟨by (with_reducible repeat (first | refine blk_drewN ?_ _ | refine blk_drew ?_ | refine blk_alloc ?_ _)); exact BK252.out⟩, ⟨by (with_reducible repeat (first | refine blk_drewN ?_ _ | refine blk_drew ?_ | refine blk_alloc ?_ _)); exact BK253.out⟩, ⟨by repeat (first | (with_reducible first | exact HB.out | apply below_alloc | apply pw_below_drewN | apply below_drew1 | refine below_set ?_ GE252.out | refine below_set ?_ GE253.out) | exact HB.out)⟩⟩
                            · rw [if_neg c57] at H
                              exact absurd H (by simp)
                        · rw [if_neg c48] at H
                          exact absurd H (by simp)
                      · rw [if_neg c47] at H
                        have c47b0 : decide (x10_3 < (((rd_T116 t258 t256).f1).length : Int)) = false := decide_eq_false c47
                        clear c47
                        replace H := Option.bind_eq_some_iff.mp H
                        obtain ⟨t265, A610, H⟩ := H
                        replace H : (some (t265, 0)) = some (r1, r2) := H
                        have A61 := Aside0.mk A610
                        clear A610
                        simp only [Option.some.injEq, Prod.mk.injEq] at H
                        obtain ⟨rfl, rfl⟩ := H
                        have hnb62 := NB252_253.out
                        have hnc62 := NB253_252.out
                        have hcz63_0 : wr.cell? ⟨gb252, 0, none⟩ = some (.slice Ao41 t258.length co41) := (blk_cell BK252.out 0).trans rfl
                        have hfz63_0 := blk_frozen BK252.out 0
                        have p264 : 0 ≤ (t256 : Int) := of_decide_eq_true (by first | (with_reducible assumption) | assumption)
                        have q264 : t256 < (t258.length : Int) := of_decide_eq_true (by first | (with_reducible assumption) | assumption)
                        obtain ⟨ad264, A264_3, c264_3, A264_5, c264_5, A264_6, c264_6, e264, hx264_0, hx264_1, hx264_2, hx264_3, hx264_4, hx264_5, hx264_6, hl264_3, hi264_3, hl264_5, hi264_5, hl264_6, hi264_6⟩ := at_T116 (Kd.V_reads' HO_253000.out).2.2 t256 p264 q264
                        cases e264
                        obtain ⟨ce264, hce264, hMe264, hcc264⟩ := Kd.V_get HO_253000.out z116 t256 p264 (by first | exact q264 | exact of_decide_eq_true (by first | (with_reducible assumption) | assumption) | (have e_ := (Kd.V_reads' HO_253000.out).1; omega))
                        obtain ⟨ua264_3, uc264_3, ua264_5, uc264_5, ua264_6, uc264_6, rfl, ul264_3, ge264_3, ul264_5, ge264_5, ul264_6, ge264_6⟩ := k116_openF hMe264
                        have hv264_3 := hcc264 3 _ rfl
                        rw [add_field _ _ 3 (by omega)] at hv264_3
                        replace hv264_3 := Option.some.inj (hv264_3.symm.trans hx264_3)
                        injection hv264_3 with hva_ hvn_ hvc_
                        rw [hva_] at ge264_3
                        rw [hvc_] at ul264_3
                        have HL264_3 := Aside0.mk (show Kd.V k103 103 _ w.heap.size _ _ ((rd_T116 t258 t256).f0.f3) from Kd.V_mk ul264_3 ge264_3)
                        clear hva_ hvn_ hvc_ ge264_3 ul264_3
                        have hv264_5 := hcc264 5 _ rfl
                        rw [add_field _ _ 5 (by omega)] at hv264_5
                        replace hv264_5 := Option.some.inj (hv264_5.symm.trans hx264_5)
                        injection hv264_5 with hva_ hvn_ hvc_
                        rw [hva_] at ge264_5
                        rw [hvc_] at ul264_5
                        have HL264_5 := Aside0.mk (show Kd.V k67 67 _ w.heap.size _ _ ((rd_T116 t258 t256).f0.f5) from Kd.V_mk ul264_5 ge264_5)
                        clear hva_ hvn_ hvc_ ge264_5 ul264_5
                        have hv264_6 := hcc264 6 _ rfl
                        rw [add_field _ _ 6 (by omega)] at hv264_6
                        replace hv264_6 := Option.some.inj (hv264_6.symm.trans hx264_6)
                        injection hv264_6 with hva_ hvn_ hvc_
                        rw [hva_] at ge264_6
                        rw [hvc_] at ul264_6
                        have HL264_6 := Aside0.mk (show Kd.V (Kd.int .i64) 3 _ w.heap.size _ _ ((rd_T116 t258 t256).f1) from Kd.V_mk ul264_6 ge264_6)
                        clear hva_ hvn_ hvc_ ge264_6 ul264_6
                        clear hcc264 hce264
                        have HR264_3 := Aside0.mk hi264_3
                        have HC264_3 := Aside0.mk hl264_3
                        clear hi264_3 hl264_3
                        have HR264_5 := Aside0.mk hi264_5
                        have HC264_5 := Aside0.mk hl264_5
                        clear hi264_5 hl264_5
                        have HR264_6 := Aside0.mk hi264_6
                        have HC264_6 := Aside0.mk hl264_6
                        clear hi264_6 hl264_6
                        replace p264 := eq_true p264
                        replace q264 := eq_true q264
                        obtain ⟨Ao64, co64, eo64⟩ := Kd.R_slice HO_9.out
                        subst eo64
                        go_wp2_with (first | ((with_reducible refine gate_callee (f := 92) rfl ?_); refine goesL_ (some 83) rfl rfl Try.func92 (by kernel_rfl) rfl #[.agg #[.slice (some ad264) t258.length co41], .int .i64 t256, .slice Ao64 x9_3.length co64] rfl (by (try simp only [List.map_toArray, List.map_cons, List.map_nil]); first | done | rfl | (simp only [List.length_drop, List.length_take]; rfl)) ?_; (with_reducible refine (marginaliaref05_set.calls (fun k_ => ((P0_0_ k_ ∨ w.heap.size ≤ k_) ∧ (some k_ ≠ (.slice Ao64 x9_3.length co64 : Value).ownBlock ∧ (k_ ≠ gb252 ∧ k_ ≠ gb253)))) _ _ t258 t256 (fun k_ => some k_ = (.slice Ao64 x9_3.length co64 : Value).ownBlock) _ _ x9_3 t265 _ ?side1 ?side2 A61.out).mono ?_); (case side1 => exact HO_253000.out); (case side2 => exact Kd.R_V (Kd.R_tight rfl (Kd.R_types (Kd.R_types (HO_9.out) BK252.out (by decide)) BK253.out (by decide)))); rintro e w65 ⟨v266, rfl, ho0, hb⟩; refine ⟨_, rfl, ?_⟩; have n0_ := Aside0.mk (Kd.R_below (by (with_reducible repeat (first | apply Kd.R_alloc | apply Kd.R_drewN | apply Kd.R_drew)); exact HO_9.out) hb); have n1_ := Aside0.mk (Kd.V_elder' (by (with_reducible repeat (first | apply Kd.V_alloc | apply Kd.V_drewN | apply Kd.V_drew)); exact HO_253000.out) (Kd.N_base ho0) hb); have n2_ := Aside0.mk (Kd.V_elder' (by (with_reducible repeat (first | apply Kd.V_alloc | apply Kd.V_drewN | apply Kd.V_drew)); exact HL264_3.out) (Kd.N_base ho0) hb); have n3_ := Aside0.mk (Kd.V_elder' (by (with_reducible repeat (first | apply Kd.V_alloc | apply Kd.V_drewN | apply Kd.V_drew)); exact HL264_5.out) (Kd.N_base ho0) hb); have n4_ := Aside0.mk (Kd.V_elder' (by (with_reducible repeat (first | apply Kd.V_alloc | apply Kd.V_drewN | apply Kd.V_drew)); exact HL264_6.out) (Kd.N_base ho0) hb); have n5_ := Aside0.mk (Kd.N_lower (Kd.N_mono (ok' := fun k_ => (P0_0_ k_ ∨ w.heap.size ≤ k_) ∧ k_ ≠ gb252 ∧ k_ ≠ gb253) ho0 (fun k_ hk_ => ⟨Or.elim hk_ (fun hs_ => Or.elim hs_ (fun hs_ => hs_.1) (fun hs_ => (.inr (((Kd.R_types (Kd.R_types (HO_9.out) BK252.out (by decide)) BK253.out (by decide)).1 k_ hs_.symm).1.1)))) (fun hn_ => (.inr (Nat.le_trans (below_size (by repeat (first | (with_reducible first | exact HB.out | apply below_alloc | apply pw_below_drewN | apply below_drew1 | refine below_set ?_ GE252.out | refine below_set ?_ GE253.out) | exact HB.out))) hn_))), Or.elim hk_ (fun hs_ => Or.elim hs_ (fun hs_ => hs_.2.2.1) (fun hs_ => ((Kd.R_types (Kd.R_types (HO_9.out) BK252.out (by decide)) BK253.out (by decide)).1 k_ hs_.symm).1.2)) (fun hn_ => (Kd.freshB (g := gb252) (o := .cells #[.slice (some ad264) t258.length co41] 57 (0, 0)) (by (with_reducible repeat (first | refine blk_drewN ?_ _ | refine blk_drew ?_ | refine blk_alloc ?_ _)); exact BK252.out) k_ hn_)), Or.elim hk_ (fun hs_ => Or.elim hs_ (fun hs_ => hs_.2.2.2) (fun hs_ => ((Kd.R_types (Kd.R_types (HO_9.out) BK252.out (by decide)) BK253.out (by decide)).1 k_ hs_.symm).2)) (fun hn_ => (Kd.freshB (g := gb253) (o := .cells #[.slice none 0 0] 57 (0, 0)) (by (with_reducible repeat (first | refine blk_drewN ?_ _ | refine blk_drew ?_ | refine blk_alloc ?_ _)); exact BK253.out) k_ hn_))⟩)) (below_size (by repeat (first | (with_reducible first | exact HB.out | apply below_alloc | apply pw_below_drewN | apply below_drew1 | refine below_set ?_ GE252.out | refine below_set ?_ GE253.out) | exact HB.out)))); have n6_ := Aside0.mk (blk_below (g := gb252) (o := .cells #[.slice (some ad264) t258.length co41] 57 (0, 0)) (by (with_reducible repeat (first | refine blk_drewN ?_ _ | refine blk_drew ?_ | refine blk_alloc ?_ _)); exact BK252.out) hb); have n7_ := Aside0.mk (blk_below (g := gb253) (o := .cells #[.slice none 0 0] 57 (0, 0)) (by (with_reducible repeat (first | refine blk_drewN ?_ _ | refine blk_drew ?_ | refine blk_alloc ?_ _)); exact BK253.out) hb); have n8_ := Aside0.mk (Kd.C_below (by repeat (first | (with_reducible exact HR264_3.out) | (with_reducible refine Kd.C_alloc ?_ _) | (with_reducible refine Kd.C_drewN ?_ _) | (with_reducible refine Kd.C_drew ?_) | exact HR264_3.out)) hb); have n9_ := Aside0.mk (Kd.C_below (by repeat (first | (with_reducible exact HR264_5.out) | (with_reducible refine Kd.C_alloc ?_ _) | (with_reducible refine Kd.C_drewN ?_ _) | (with_reducible refine Kd.C_drew ?_) | exact HR264_5.out)) hb); have n10_ := Aside0.mk (Kd.C_below (by repeat (first | (with_reducible exact HR264_6.out) | (with_reducible refine Kd.C_alloc ?_ _) | (with_reducible refine Kd.C_drewN ?_ _) | (with_reducible refine Kd.C_drew ?_) | exact HR264_6.out)) hb); have n11_ := Aside0.mk (below_step (by repeat (first | (with_reducible first | exact HB.out | apply below_alloc | apply pw_below_drewN | apply below_drew1 | refine below_set ?_ GE252.out | refine below_set ?_ GE253.out) | exact HB.out)) hb); clear HO_9; clear HO_253000; clear HL264_3; clear HL264_5; clear HL264_6; clear BK252; clear BK253; clear HR264_3; clear HR264_5; clear HR264_6; clear HB; have HO_9 := n0_; have HO_253000 := n1_; have HL264_3 := n2_; have HL264_5 := n3_; have HL264_6 := n4_; have HO267 := n5_; have BK252 := n6_; have BK253 := n7_; have HR264_3 := n8_; have HR264_5 := n9_; have HR264_6 := n10_; have HB := n11_; clear n0_ n1_ n2_ n3_ n4_ n5_ n6_ n7_ n8_ n9_ n10_ n11_; (try clear hb); (try clear hb2); (try clear hk); (try clear hi); (try clear ho0); obtain ⟨Ao66, co66, eo66⟩ := Kd.N_slice HO267.out; subst eo66; have hcz67_0 : w65.cell? ⟨gb253, 0, none⟩ = some (.slice none 0 0) := (blk_cell BK253.out 0).trans rfl; have hfz67_0 := blk_frozen BK253.out 0))
                        refine bodyPost_ret (results_ct rfl _ _ gb253 57 #[.slice Ao66 t265.length co66] (0, 0) _ rfl (by (with_reducible repeat (first | refine blk_drewN ?_ _ | refine blk_drew ?_ | refine blk_alloc ?_ _)); refine blk_put (cs := #[.slice none 0 0]) ?_ 0 _ rfl; (with_reducible repeat (first | refine blk_drewN ?_ _ | refine blk_drew ?_ | refine blk_alloc ?_ _)); exact BK253.out) Try.underlying57 rfl (by kernel_rfl)) rfl ?_
                        exact ⟨_, by first | rfl | (simp [errW_none, errW_some] <;> rfl) | (simp [*, errW_none, errW_some] <;> rfl), Kd.N_V (by (with_reducible repeat (first | apply Kd.N_alloc | apply Kd.N_drewN | apply Kd.N_drew)); exact Kd.N_mono (Kd.N_far (p := ⟨gb253, 0, none⟩) (Kd.N_mono HO267.out (fun k_ hk => (⟨hk, hk.2.2⟩ : _ ∧ k_ ≠ gb253))) (fun _ hk => hk.2) (.slice Ao66 t265.length co66)) (fun _ hk => hk.1.1)), by repeat (first | (with_reducible first | exact HB.out | apply below_alloc | apply pw_below_drewN | apply below_drew1 | refine below_set ?_ GE252.out | refine below_set ?_ GE253.out) | exact HB.out)⟩
                    · rw [if_neg c46] at H
                      exact absurd H (by simp)
                  · rw [if_neg c45] at H
                    exact absurd H (by simp)

end Go.Proofs.Ytnkaidaflegnlaa.A
