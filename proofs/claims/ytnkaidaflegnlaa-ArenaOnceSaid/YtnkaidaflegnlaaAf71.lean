/- The functions of the program that these laws reach, each as a plain Lean function, and the proof that the machine's call comes to it; no condition beyond those that each theorem names. Made by wip/xprint.py. -/
import Derived.Test.YtnkaidaflegnlaaAx0
import Derived.Test.YtnkaidaflegnlaaAf70
import Derived.Test.YtnkaidaflegnlaaAf81
import Derived.Test.YtnkaidaflegnlaaAh
namespace Go.Proofs.Ytnkaidaflegnlaa.A
open Go.RowKit Go.Proofs.YtnkaidaflegnlaaW.PrintWords Go.Proofs.YtnkaidaflegnlaaW.PrintLast Go.Proofs.YtnkaidaflegnlaaW.PrintMore
attribute [local go_sem] max2_int min2_int max_two min_two max_three min_three max_four min_four   -- for this text's walks alone
set_option linter.unusedVariables false
set_option linter.unusedSimpArgs false

/-! ### marginaliaref05_Copy: function 71 -/
theorem Kd_v_far {α : Type} {d : Kd α} {e base n c g : Nat} {W : World} {ok : Nat → Prop} {ad : Addr} {xs : List α} (h : Kd.V d e W base ok (.slice (some ad) n c) xs) (hp : 0 < xs.length) (hz : 0 < d.sz) (hok : ∀ k, ok k → k ≠ g) : ad.block ≠ g := by
  obtain ⟨A, c', hv, hl, hF⟩ := h
  injection hv with hv _ _
  subst hv
  obtain ⟨ad', _, he, _, _, _, hin⟩ := Kd.F_get hF (xs[0]'hp) (0 : Int) (by omega) (by omega)
  injection he with he
  subst he
  exact hok _ (hin hz)
def marginaliaref05_Copy.f (l0_0 : List (S116)) (a1 : Int) : Option ((List (S116)) × Int) := (marginaliaref05_Is.f l0_0 a1).bind fun t176 => (if t176 = true then (if 0 ≤ a1 then (if a1 < (l0_0.length : Int) then (if ((rd_T116 l0_0 a1).f0.f0) = 1 then ((marginaliaref05_Make.f l0_0 ((rd_T116 l0_0 a1).f0.f0) ((rd_T116 l0_0 a1).f0.f1) ((rd_T116 l0_0 a1).f0.f2) ((rd_T116 l0_0 a1).f0.f3) ((rd_T116 l0_0 a1).f0.f4) ((rd_T116 l0_0 a1).f0.f5)).bind fun bt179 => (some (bt179.1, bt179.2))) else (some (l0_0, (-1)))) else (none)) else (none)) else (some (l0_0, (-1))))
def marginaliaref05_Copy.T3 : Bool × List (List Nat × List Nat) := (true, [([], []), ([], []), ([1], [1]), ([], []), ([2, 3], [2, 3]), ([4], [4]), ([5], [5]), ([0, 6], [0, 6]), ([7], [7]), ([7], [7]), ([8, 7, 0, 1, 2, 3, 4, 5, 6, 7, 8, 9], [8]), ([9, 10, 0, 1, 2, 3, 4, 5, 6, 7, 8, 9, 10], [9])])
def marginaliaref05_Copy.B3 : List Nat := [0, 0, 2, 0, 14, 30, 62, 127, 255, 255, 1023, 2047]
theorem marginaliaref05_Copy.tab3 : rtab .any (opsOf Try.f71 3) = marginaliaref05_Copy.T3 := by kernel_rfl
theorem marginaliaref05_Copy.bits3 : waitsOk marginaliaref05_Copy.T3.2 marginaliaref05_Copy.B3 = true := by kernel_rfl
set_option maxHeartbeats 8000000 in
set_option maxRecDepth 100000 in
theorem marginaliaref05_Copy.calls (P0_0_ : Nat → Prop) (A0_0 : Option Addr) (c0_0 : Nat) (l0_0 : List (S116)) (a1 : Int) (r1 : List (S116)) (r2 : Int) (w : World) (hs0_0 : Kd.V k116 116 w w.heap.size (fun k_ => P0_0_ k_) (.slice A0_0 l0_0.length c0_0) l0_0) (h : marginaliaref05_Copy.f l0_0 a1 = some (r1, r2)) :
    Calls Try.prog 71 #[.agg #[.slice A0_0 l0_0.length c0_0], .int .i64 a1] w fun e w' => ∃ v0_ : Value, e = .returned (.tuple #[.agg #[v0_], .int .i64 r2]) ∧ Kd.V k116 116 w' w.heap.size (fun k_ => (P0_0_ k_ ∨ w.heap.size ≤ k_)) v0_ r1 ∧ Below w.heap.size w w' := by
  have hu57 := Try.underlying57
  have hu67 := Try.underlying67
  have HO0_0 := Aside0.mk (show Kd.V k116 116 w w.heap.size (fun k_ => (P0_0_ k_ ∨ w.heap.size ≤ k_)) (.slice A0_0 l0_0.length c0_0) l0_0 from Kd.V_mono hs0_0 (fun k_ hk => .inl hk))
  have HB := Aside0.mk (Below.refl w.heap.size w)
  have H : ((marginaliaref05_Is.f l0_0 a1).bind fun t176 => (if t176 = true then (if 0 ≤ a1 then (if a1 < (l0_0.length : Int) then (if ((rd_T116 l0_0 a1).f0.f0) = 1 then ((marginaliaref05_Make.f l0_0 ((rd_T116 l0_0 a1).f0.f0) ((rd_T116 l0_0 a1).f0.f1) ((rd_T116 l0_0 a1).f0.f2) ((rd_T116 l0_0 a1).f0.f3) ((rd_T116 l0_0 a1).f0.f4) ((rd_T116 l0_0 a1).f0.f5)).bind fun bt179 => (some (bt179.1, bt179.2))) else (some (l0_0, (-1)))) else (none)) else (none)) else (some (l0_0, (-1))))) = some (r1, r2) := h
  clear h
  replace H := Option.bind_eq_some_iff.mp H
  obtain ⟨t176, A30, H⟩ := H
  replace H : (if t176 = true then (if 0 ≤ a1 then (if a1 < (l0_0.length : Int) then (if ((rd_T116 l0_0 a1).f0.f0) = 1 then ((marginaliaref05_Make.f l0_0 ((rd_T116 l0_0 a1).f0.f0) ((rd_T116 l0_0 a1).f0.f1) ((rd_T116 l0_0 a1).f0.f2) ((rd_T116 l0_0 a1).f0.f3) ((rd_T116 l0_0 a1).f0.f4) ((rd_T116 l0_0 a1).f0.f5)).bind fun bt179 => (some (bt179.1, bt179.2))) else (some (l0_0, (-1)))) else (none)) else (none)) else (some (l0_0, (-1)))) = some (r1, r2) := H
  have A3 := Aside0.mk A30
  clear A30
  by_cases c4 : t176 = true
  · subst c4
    have H1 : (if 0 ≤ a1 then (if a1 < (l0_0.length : Int) then (if ((rd_T116 l0_0 a1).f0.f0) = 1 then ((marginaliaref05_Make.f l0_0 ((rd_T116 l0_0 a1).f0.f0) ((rd_T116 l0_0 a1).f0.f1) ((rd_T116 l0_0 a1).f0.f2) ((rd_T116 l0_0 a1).f0.f3) ((rd_T116 l0_0 a1).f0.f4) ((rd_T116 l0_0 a1).f0.f5)).bind fun bt179 => (some (bt179.1, bt179.2))) else (some (l0_0, (-1)))) else (none)) else (none)) = some (r1, r2) := by rw [if_pos rfl] at H; exact H
    clear H
    have H := H1
    clear H1
    by_cases c5 : 0 ≤ a1
    · rw [if_pos c5] at H
      have c5b0 : decide (0 ≤ a1) = true := decide_eq_true c5
      clear c5
      by_cases c6 : a1 < (l0_0.length : Int)
      · rw [if_pos c6] at H
        have c6b0 : decide (a1 < (l0_0.length : Int)) = true := decide_eq_true c6
        clear c6
        by_cases c7 : ((rd_T116 l0_0 a1).f0.f0) = 1
        · rw [if_pos c7] at H
          have c7b0 : (((rd_T116 l0_0 a1).f0.f0) == 1) = true := beq_iff_eq.mpr c7
          have c7b1 : (((rd_T116 l0_0 a1).f0.f0) != 1) = false := bne_eq_false_iff_eq.mpr c7
          clear c7
          replace H := Option.bind_eq_some_iff.mp H
          obtain ⟨⟨t179, t182⟩, A80, H⟩ := H
          replace H : (some (t179, t182)) = some (r1, r2) := H
          have A8 := Aside0.mk A80
          clear A80
          simp only [Option.some.injEq, Prod.mk.injEq] at H
          obtain ⟨rfl, rfl⟩ := H
          go_enter Try.func71, Try.ntmps71
          try go_wp2_with (first | ((with_reducible refine gate_dst (N := 2) rfl ?_); refine box_event ?hg (N := 2) ?hd (cs := #[.slice A0_0 l0_0.length c0_0]) (t := 57) ?hr ?_; (case hd => rfl); (case hg => rfl); (case hr => first | (go_simp; done) | (go_simp; rfl)); intro gb174 hg w9 hbox hb; have n0_ := Aside0.mk (Kd.V_below (Kd.V_elderB (by (with_reducible repeat (first | apply Kd.V_alloc | apply Kd.V_drewN | apply Kd.V_drew)); exact HO0_0.out) gb174 (Nat.le_of_eq hg.symm)) hb); have n1_ := Aside0.mk (below_step (by repeat (first | (with_reducible first | exact HB.out | apply below_alloc | apply pw_below_drewN | apply below_drew1) | exact HB.out)) hb); have n2_ := Aside0.mk (hbox); have n3_ := Aside0.mk ((by rw [hg]; exact (below_size (by repeat (first | (with_reducible first | exact HB.out | apply below_alloc | apply pw_below_drewN | apply below_drew1) | exact HB.out))) : w.heap.size ≤ gb174)); have n4_ := Aside0.mk ((by rw [hg]; exact (below_size (by repeat (first | (with_reducible first | exact HB.out | apply below_alloc | apply pw_below_drewN | apply below_drew1) | exact HB.out))) : w.heap.size ≤ gb174)); clear HO0_0; clear HB; have HO0_0 := n0_; have HB := n1_; have BK174 := n2_; have GW174 := n3_; have GE174 := n4_; clear n0_ n1_ n2_ n3_ n4_; clear hb hbox hg) | ((with_reducible refine gate_dst (N := 4) rfl ?_); refine box_event ?hg (N := 4) ?hd (cs := #[.slice none 0 0]) (t := 57) ?hr ?_; (case hd => rfl); (case hg => rfl); (case hr => first | (go_simp; done) | (go_simp; rfl)); intro gb175 hg w10 hbox hb; have n0_ := Aside0.mk (Kd.V_below (Kd.V_elderB (by (with_reducible repeat (first | apply Kd.V_alloc | apply Kd.V_drewN | apply Kd.V_drew)); exact HO0_0.out) gb175 (Nat.le_of_eq hg.symm)) hb); have n1_ := Aside0.mk (blk_below (g := gb174) (o := .cells #[.slice A0_0 l0_0.length c0_0] 57 (0, 0)) (by (with_reducible repeat (first | refine blk_drewN ?_ _ | refine blk_drew ?_ | refine blk_alloc ?_ _)); exact BK174.out) hb); have n2_ := Aside0.mk (below_step (by repeat (first | (with_reducible first | exact HB.out | apply below_alloc | apply pw_below_drewN | apply below_drew1 | refine below_set ?_ GE174.out) | exact HB.out)) hb); have n3_ := Aside0.mk (hbox); have n4_ := Aside0.mk ((by rw [hg]; exact (below_size (by repeat (first | (with_reducible first | exact HB.out | apply below_alloc | apply pw_below_drewN | apply below_drew1 | refine below_set ?_ GE174.out) | exact HB.out))) : w.heap.size ≤ gb175)); have n5_ := Aside0.mk ((by rw [hg]; exact (below_size (by repeat (first | (with_reducible first | exact HB.out | apply below_alloc | apply pw_below_drewN | apply below_drew1 | refine below_set ?_ GE174.out) | exact HB.out))) : w.heap.size ≤ gb175)); have n6_ := Aside0.mk ((by rw [hg]; exact Nat.ne_of_lt (blk_lt (g := gb174) (o := .cells #[.slice A0_0 l0_0.length c0_0] 57 (0, 0)) (by (with_reducible repeat (first | refine blk_drewN ?_ _ | refine blk_drew ?_ | refine blk_alloc ?_ _)); exact BK174.out)) : gb174 ≠ gb175)); have n7_ := Aside0.mk ((by rw [hg]; exact Nat.ne_of_gt (blk_lt (g := gb174) (o := .cells #[.slice A0_0 l0_0.length c0_0] 57 (0, 0)) (by (with_reducible repeat (first | refine blk_drewN ?_ _ | refine blk_drew ?_ | refine blk_alloc ?_ _)); exact BK174.out)) : gb175 ≠ gb174)); clear HO0_0; clear BK174; clear HB; have HO0_0 := n0_; have BK174 := n1_; have HB := n2_; have BK175 := n3_; have GW175 := n4_; have GE175 := n5_; have NB174_175 := n6_; have NB175_174 := n7_; clear n0_ n1_ n2_ n3_ n4_ n5_ n6_ n7_; clear hb hbox hg; have hnb11 := NB174_175.out; have hnc11 := NB175_174.out; have hcz12_0 : w10.cell? ⟨gb174, 0, none⟩ = some (.slice A0_0 l0_0.length c0_0) := (blk_cell BK174.out 0).trans rfl; have hfz12_0 := blk_frozen BK174.out 0) | ((with_reducible refine gate_callee (f := 81) rfl ?_); refine goesL_ (some 8) rfl rfl Try.func81 (by kernel_rfl) rfl #[.agg #[.slice A0_0 l0_0.length c0_0], .int .i64 a1] rfl (by (try simp only [List.map_toArray, List.map_cons, List.map_nil]); first | done | rfl | (simp only [List.length_drop, List.length_take]; rfl)) ?_; (with_reducible refine (marginaliaref05_Is.calls _ _ l0_0 a1 true _ ?side1 ?side2 A3.out).mono ?_); (case side1 => repeat (first | exact (Kd.V_reads' HO0_0.out).2.2 | (with_reducible refine Kd.C_alloc ?_ _) | (with_reducible refine Kd.C_drewN ?_ _) | (with_reducible refine Kd.C_drew ?_))); (case side2 => exact (Kd.V_reads' HO0_0.out).2.1); rintro e w13 ⟨rfl, hb⟩; refine ⟨_, rfl, ?_⟩; have n0_ := Aside0.mk (Kd.V_below (by (with_reducible repeat (first | apply Kd.V_alloc | apply Kd.V_drewN | apply Kd.V_drew)); exact HO0_0.out) hb); have n1_ := Aside0.mk (blk_below (g := gb174) (o := .cells #[.slice A0_0 l0_0.length c0_0] 57 (0, 0)) (by (with_reducible repeat (first | refine blk_drewN ?_ _ | refine blk_drew ?_ | refine blk_alloc ?_ _)); exact BK174.out) hb); have n2_ := Aside0.mk (blk_below (g := gb175) (o := .cells #[.slice none 0 0] 57 (0, 0)) (by (with_reducible repeat (first | refine blk_drewN ?_ _ | refine blk_drew ?_ | refine blk_alloc ?_ _)); exact BK175.out) hb); have n3_ := Aside0.mk (below_step (by repeat (first | (with_reducible first | exact HB.out | apply below_alloc | apply pw_below_drewN | apply below_drew1 | refine below_set ?_ GE174.out | refine below_set ?_ GE175.out) | exact HB.out)) hb); clear HO0_0; clear BK174; clear BK175; clear HB; have HO0_0 := n0_; have BK174 := n1_; have BK175 := n2_; have HB := n3_; clear n0_ n1_ n2_ n3_; (try clear hb); (try clear hb2); (try clear hk); (try clear hi); have hcz14_0 : w13.cell? ⟨gb174, 0, none⟩ = some (.slice A0_0 l0_0.length c0_0) := (blk_cell BK174.out 0).trans rfl; have hfz14_0 := blk_frozen BK174.out 0; have p177 : 0 ≤ (a1 : Int) := of_decide_eq_true (by first | (with_reducible assumption) | assumption); have q177 : a1 < (l0_0.length : Int) := of_decide_eq_true (by first | (with_reducible assumption) | assumption); obtain ⟨ad177, A177_3, c177_3, A177_5, c177_5, A177_6, c177_6, e177, hx177_0, hx177_1, hx177_2, hx177_3, hx177_4, hx177_5, hx177_6, hl177_3, hi177_3, hl177_5, hi177_5, hl177_6, hi177_6⟩ := at_T116 (Kd.V_reads' HO0_0.out).2.2 a1 p177 q177; cases e177; obtain ⟨ce177, hce177, hMe177, hcc177⟩ := Kd.V_get HO0_0.out z116 a1 p177 (by first | exact q177 | exact of_decide_eq_true (by first | (with_reducible assumption) | assumption) | (have e_ := (Kd.V_reads' HO0_0.out).1; omega)); obtain ⟨ua177_3, uc177_3, ua177_5, uc177_5, ua177_6, uc177_6, rfl, ul177_3, ge177_3, ul177_5, ge177_5, ul177_6, ge177_6⟩ := k116_openF hMe177; have hv177_3 := hcc177 3 _ rfl; rw [add_field _ _ 3 (by omega)] at hv177_3; replace hv177_3 := Option.some.inj (hv177_3.symm.trans hx177_3); injection hv177_3 with hva_ hvn_ hvc_; rw [hva_] at ge177_3; rw [hvc_] at ul177_3; have HL177_3 := Aside0.mk (show Kd.V k103 103 _ w.heap.size _ _ ((rd_T116 l0_0 a1).f0.f3) from Kd.V_mk ul177_3 ge177_3); clear hva_ hvn_ hvc_ ge177_3 ul177_3; have hv177_5 := hcc177 5 _ rfl; rw [add_field _ _ 5 (by omega)] at hv177_5; replace hv177_5 := Option.some.inj (hv177_5.symm.trans hx177_5); injection hv177_5 with hva_ hvn_ hvc_; rw [hva_] at ge177_5; rw [hvc_] at ul177_5; have HL177_5 := Aside0.mk (show Kd.V k67 67 _ w.heap.size _ _ ((rd_T116 l0_0 a1).f0.f5) from Kd.V_mk ul177_5 ge177_5); clear hva_ hvn_ hvc_ ge177_5 ul177_5; have hv177_6 := hcc177 6 _ rfl; rw [add_field _ _ 6 (by omega)] at hv177_6; replace hv177_6 := Option.some.inj (hv177_6.symm.trans hx177_6); injection hv177_6 with hva_ hvn_ hvc_; rw [hva_] at ge177_6; rw [hvc_] at ul177_6; have HL177_6 := Aside0.mk (show Kd.V (Kd.int .i64) 3 _ w.heap.size _ _ ((rd_T116 l0_0 a1).f1) from Kd.V_mk ul177_6 ge177_6); clear hva_ hvn_ hvc_ ge177_6 ul177_6; clear hcc177 hce177; have HR177_3 := Aside0.mk hi177_3; have HC177_3 := Aside0.mk hl177_3; clear hi177_3 hl177_3; have HR177_5 := Aside0.mk hi177_5; have HC177_5 := Aside0.mk hl177_5; clear hi177_5 hl177_5; have HR177_6 := Aside0.mk hi177_6; have HC177_6 := Aside0.mk hl177_6; clear hi177_6 hl177_6; replace p177 := eq_true p177; replace q177 := eq_true q177))
          have n0_ := Aside0.mk (Kd.V_drew HO0_0.out)
          have n1_ := Aside0.mk (Kd.V_drew HL177_3.out)
          have n2_ := Aside0.mk (Kd.V_drew HL177_5.out)
          have n3_ := Aside0.mk (Kd.V_drew HL177_6.out)
          have n4_ := Aside0.mk (blk_drew BK174.out)
          have n5_ := Aside0.mk (blk_drew BK175.out)
          have n6_ := Aside0.mk (Kd.C_drew HR177_3.out)
          have n7_ := Aside0.mk (Kd.C_drew HR177_5.out)
          have n8_ := Aside0.mk (Kd.C_drew HR177_6.out)
          have n9_ := Aside0.mk (below_drew1 HB.out)
          clear HO0_0
          clear HL177_3
          clear HL177_5
          clear HL177_6
          clear BK174
          clear BK175
          clear HR177_3
          clear HR177_5
          clear HR177_6
          clear HB
          have HO0_0 := n0_
          have HL177_3 := n1_
          have HL177_5 := n2_
          have HL177_6 := n3_
          have BK174 := n4_
          have BK175 := n5_
          have HR177_3 := n6_
          have HR177_5 := n7_
          have HR177_6 := n8_
          have HB := n9_
          clear n0_ n1_ n2_ n3_ n4_ n5_ n6_ n7_ n8_ n9_
          have p178 : 0 ≤ (a1 : Int) := of_decide_eq_true (by first | (with_reducible assumption) | assumption)
          have q178 : a1 < (l0_0.length : Int) := of_decide_eq_true (by first | (with_reducible assumption) | assumption)
          obtain ⟨ad178, A178_3, c178_3, A178_5, c178_5, A178_6, c178_6, e178, hx178_0, hx178_1, hx178_2, hx178_3, hx178_4, hx178_5, hx178_6, hl178_3, hi178_3, hl178_5, hi178_5, hl178_6, hi178_6⟩ := at_T116 (Kd.V_reads' HO0_0.out).2.2 a1 p178 q178
          obtain rfl : ad177 = ad178 := (by injection e178)
          obtain ⟨ce178, hce178, hMe178, hcc178⟩ := Kd.V_get HO0_0.out z116 a1 p178 (by first | exact q178 | exact of_decide_eq_true (by first | (with_reducible assumption) | assumption) | (have e_ := (Kd.V_reads' HO0_0.out).1; omega))
          obtain ⟨ua178_3, uc178_3, ua178_5, uc178_5, ua178_6, uc178_6, rfl, ul178_3, ge178_3, ul178_5, ge178_5, ul178_6, ge178_6⟩ := k116_openF hMe178
          have hv178_3 := hcc178 3 _ rfl
          rw [add_field _ _ 3 (by omega)] at hv178_3
          replace hv178_3 := Option.some.inj (hv178_3.symm.trans hx178_3)
          injection hv178_3 with hva_ hvn_ hvc_
          rw [hva_] at ge178_3
          rw [hvc_] at ul178_3
          have HL178_3 := Aside0.mk (show Kd.V k103 103 _ w.heap.size _ _ ((rd_T116 l0_0 a1).f0.f3) from Kd.V_mk ul178_3 ge178_3)
          clear hva_ hvn_ hvc_ ge178_3 ul178_3
          have hv178_5 := hcc178 5 _ rfl
          rw [add_field _ _ 5 (by omega)] at hv178_5
          replace hv178_5 := Option.some.inj (hv178_5.symm.trans hx178_5)
          injection hv178_5 with hva_ hvn_ hvc_
          rw [hva_] at ge178_5
          rw [hvc_] at ul178_5
          have HL178_5 := Aside0.mk (show Kd.V k67 67 _ w.heap.size _ _ ((rd_T116 l0_0 a1).f0.f5) from Kd.V_mk ul178_5 ge178_5)
          clear hva_ hvn_ hvc_ ge178_5 ul178_5
          have hv178_6 := hcc178 6 _ rfl
          rw [add_field _ _ 6 (by omega)] at hv178_6
          replace hv178_6 := Option.some.inj (hv178_6.symm.trans hx178_6)
          injection hv178_6 with hva_ hvn_ hvc_
          rw [hva_] at ge178_6
          rw [hvc_] at ul178_6
          have HL178_6 := Aside0.mk (show Kd.V (Kd.int .i64) 3 _ w.heap.size _ _ ((rd_T116 l0_0 a1).f1) from Kd.V_mk ul178_6 ge178_6)
          clear hva_ hvn_ hvc_ ge178_6 ul178_6
          clear hcc178 hce178
          have HR178_3 := Aside0.mk hi178_3
          have HC178_3 := Aside0.mk hl178_3
          clear hi178_3 hl178_3
          have HR178_5 := Aside0.mk hi178_5
          have HC178_5 := Aside0.mk hl178_5
          clear hi178_5 hl178_5
          have HR178_6 := Aside0.mk hi178_6
          have HC178_6 := Aside0.mk hl178_6
          clear hi178_6 hl178_6
          replace p178 := eq_true p178
          replace q178 := eq_true q178
          refine start_ (n := 12) (S := fun w' => w'.cell? ⟨gb174, 0, none⟩ = some (.slice (some ad177) l0_0.length c0_0) ∧ w'.cell? (ad177.add ((a1).toNat * 7)) = some (.int .i64 ((rd_T116 l0_0 a1).f0.f0)) ∧ w'.cell? ⟨(ad177.add ((a1).toNat * 7)).block, (ad177.add ((a1).toNat * 7)).off + 1, none⟩ = some (.int .i64 ((rd_T116 l0_0 a1).f0.f1)) ∧ w'.cell? ⟨(ad177.add ((a1).toNat * 7)).block, (ad177.add ((a1).toNat * 7)).off + 2, none⟩ = some (.string ((rd_T116 l0_0 a1).f0.f2)) ∧ w'.cell? ⟨(ad177.add ((a1).toNat * 7)).block, (ad177.add ((a1).toNat * 7)).off + 3, none⟩ = some (.slice A178_3 ((rd_T116 l0_0 a1).f0.f3).length c178_3) ∧ w'.cell? ⟨(ad177.add ((a1).toNat * 7)).block, (ad177.add ((a1).toNat * 7)).off + 4, none⟩ = some (.string ((rd_T116 l0_0 a1).f0.f4)) ∧ w'.cell? ⟨(ad177.add ((a1).toNat * 7)).block, (ad177.add ((a1).toNat * 7)).off + 5, none⟩ = some (.slice A178_5 ((rd_T116 l0_0 a1).f0.f5).length c178_5) ∧ w'.cell? ⟨(ad177.add ((a1).toNat * 7)).block, (ad177.add ((a1).toNat * 7)).off + 6, none⟩ = some (.slice A178_6 ((rd_T116 l0_0 a1).f1).length c178_6)) (ds := []) #[false, false, false, false, false, false, false, false, false, false, false, false] (by kernel_rfl) rfl rfl ⟨(blk_cell BK174.out 0).trans rfl, hx178_0, hx178_1, hx178_2, hx178_3, hx178_4, hx178_5, hx178_6⟩ (fun hHeld => ?_); refine with_tabW marginaliaref05_Copy.tab3 marginaliaref05_Copy.bits3 (fun HT_ HW_ => ?_)
          generalize w13.drew = w15 at HO0_0 HL177_3 HL177_5 HL177_6 BK174 BK175 HR177_3 HR177_5 HR177_6 HB HL178_3 HL178_5 HL178_6 HR178_3 HR178_5 HR178_6 hx178_0 hx178_1 hx178_2 hx178_3 hx178_4 hx178_5 hx178_6 hHeld ⊢
          refine pure_ (i := 1) (N := some 22) (v := ?_) (a' := ?_) #[false, true, false, false, false, false, false, false, false, false, false, false] rfl rfl (any_of HT_.out (by kernel_rfl)) (fun _ _ _ h => h) (Or.inl ⟨by rfl, ?_⟩) ?_ ?_
          rotate_left
          · intro w'
            go_simp
            with_reducible rfl
          rotate_left
          · simp only [Act.put, List.setIfInBounds_toArray, List.set_cons_zero, List.set_cons_succ, i64_w, i32_w]
            rfl
          refine pure_ (i := 3) (N := some 24) (v := ?_) (a' := ?_) #[false, true, false, true, false, false, false, false, false, false, false, false] rfl rfl (any_of HT_.out (by kernel_rfl)) (fun _ _ _ h => h) (Or.inl ⟨by rfl, ?_⟩) ?_ ?_
          rotate_left
          · intro w'
            go_simp
            with_reducible rfl
          rotate_left
          · simp only [Act.put, List.setIfInBounds_toArray, List.set_cons_zero, List.set_cons_succ, i64_w, i32_w]
            rfl
          refine take_ (i := 0) (N := some 21) (v := ?_) (a' := ?_) #[true, true, false, true, false, false, false, false, false, false, false, false] rfl rfl (take_ofW HT_.out HW_.out (by kernel_rfl)) (fun _ _ _ h => h) (Or.inl ⟨by rfl, ?_⟩) hHeld ?_ ?_
          rotate_left
          · rintro w' ⟨s0, s1, s2, s3, s4, s5, s6, s7⟩
            go_simp
            with_reducible rfl
          rotate_left
          · simp only [Act.put, List.setIfInBounds_toArray, List.set_cons_zero, List.set_cons_succ, i64_w, i32_w]
            rfl
          refine take_ (i := 2) (N := some 23) (v := ?_) (a' := ?_) #[true, true, true, true, false, false, false, false, false, false, false, false] rfl rfl (take_ofW HT_.out HW_.out (by kernel_rfl)) (fun _ _ _ h => h) (Or.inl ⟨by rfl, ?_⟩) hHeld ?_ ?_
          rotate_left
          · rintro w' ⟨s0, s1, s2, s3, s4, s5, s6, s7⟩
            go_simp
            with_reducible rfl
          rotate_left
          · simp only [Act.put, List.setIfInBounds_toArray, List.set_cons_zero, List.set_cons_succ, i64_w, i32_w]
            rfl
          refine pure_ (i := 4) (N := some 25) (v := ?_) (a' := ?_) #[true, true, true, true, true, false, false, false, false, false, false, false] rfl rfl (any_of HT_.out (by kernel_rfl)) (fun _ _ _ h => h) (Or.inl ⟨by rfl, ?_⟩) ?_ ?_
          rotate_left
          · intro w'
            go_simp
            with_reducible rfl
          rotate_left
          · simp only [Act.put, List.setIfInBounds_toArray, List.set_cons_zero, List.set_cons_succ, i64_w, i32_w]
            rfl
          refine pure_ (i := 5) (N := some 26) (v := ?_) (a' := ?_) #[true, true, true, true, true, true, false, false, false, false, false, false] rfl rfl (any_of HT_.out (by kernel_rfl)) (fun _ _ _ h => h) (Or.inl ⟨by rfl, ?_⟩) ?_ ?_
          rotate_left
          · intro w'
            go_simp
            with_reducible rfl
          rotate_left
          · simp only [Act.put, List.setIfInBounds_toArray, List.set_cons_zero, List.set_cons_succ, i64_w, i32_w]
            rfl
          refine take_ (i := 6) (N := some 27) (v := ?_) (a' := ?_) #[true, true, true, true, true, true, true, false, false, false, false, false] rfl rfl (take_ofW HT_.out HW_.out (by kernel_rfl)) (fun _ _ _ h => h) (Or.inl ⟨by rfl, ?_⟩) hHeld ?_ ?_
          rotate_left
          · rintro w' ⟨s0, s1, s2, s3, s4, s5, s6, s7⟩
            go_simp
            with_reducible rfl
          rotate_left
          · simp only [Act.put, List.setIfInBounds_toArray, List.set_cons_zero, List.set_cons_succ, i64_w, i32_w]
            rfl
          refine one_ (i := 7) (N := some 28) #[true, true, true, true, true, true, true, true, false, false, false, false] rfl rfl (one_of HT_.out (by kernel_rfl)) (by decide) (fun K hK => ?_)
          refine goes_ Try.func70 (by kernel_rfl) rfl #[.agg #[.slice (some ad177) l0_0.length c0_0], .agg #[.int .i64 ((rd_T116 l0_0 a1).f0.f0), .int .i64 ((rd_T116 l0_0 a1).f0.f1), .string ((rd_T116 l0_0 a1).f0.f2), .slice A178_3 ((rd_T116 l0_0 a1).f0.f3).length c178_3, .string ((rd_T116 l0_0 a1).f0.f4), .slice A178_5 ((rd_T116 l0_0 a1).f0.f5).length c178_5]] (by rfl) rfl rfl (by (try simp only [List.map_toArray, List.map_cons, List.map_nil]); first | done | rfl | (simp only [List.length_drop, List.length_take]; rfl)) ?_
          with_reducible refine (marginaliaref05_Make.calls (fun k_ => (((P0_0_ k_ ∨ w.heap.size ≤ k_) ∧ k_ ≠ gb174) ∧ k_ ≠ gb175)) _ _ l0_0 ((rd_T116 l0_0 a1).f0.f0) ((rd_T116 l0_0 a1).f0.f1) ((rd_T116 l0_0 a1).f0.f2) _ _ ((rd_T116 l0_0 a1).f0.f3) ((rd_T116 l0_0 a1).f0.f4) _ _ ((rd_T116 l0_0 a1).f0.f5) t179 t182 _ ?side1 ?side2 ?side3 ?side4 ?side5 A8.out).mono ?_
          (case side1 => exact HO0_0.out)
          (case side2 => repeat (first | exact (by repeat (first | (with_reducible exact HR178_3.out) | (with_reducible refine Kd.C_alloc ?_ _) | (with_reducible refine Kd.C_drewN ?_ _) | (with_reducible refine Kd.C_drew ?_) | exact HR178_3.out)) | (with_reducible refine Kd.C_alloc ?_ _) | (with_reducible refine Kd.C_drewN ?_ _) | (with_reducible refine Kd.C_drew ?_)))
          (case side3 => exact HC178_3.out)
          (case side4 => repeat (first | exact (by repeat (first | (with_reducible exact HR178_5.out) | (with_reducible refine Kd.C_alloc ?_ _) | (with_reducible refine Kd.C_drewN ?_ _) | (with_reducible refine Kd.C_drew ?_) | exact HR178_5.out)) | (with_reducible refine Kd.C_alloc ?_ _) | (with_reducible refine Kd.C_drewN ?_ _) | (with_reducible refine Kd.C_drew ?_)))
          (case side5 => exact HC178_5.out)
          rintro e w16 ⟨v180, rfl, ho0, hb⟩
          have HS1_ := (hb.cell (World.block_lt_of_cell? _ _ (hHeld.2.1))).trans (hHeld.2.1)
          have HS2_ := (hb.cell (World.block_lt_of_cell? _ _ (hHeld.2.2.1))).trans (hHeld.2.2.1)
          have HS3_ := (hb.cell (World.block_lt_of_cell? _ _ (hHeld.2.2.2.1))).trans (hHeld.2.2.2.1)
          have HS4_ := (hb.cell (World.block_lt_of_cell? _ _ (hHeld.2.2.2.2.1))).trans (hHeld.2.2.2.2.1)
          have HS5_ := (hb.cell (World.block_lt_of_cell? _ _ (hHeld.2.2.2.2.2.1))).trans (hHeld.2.2.2.2.2.1)
          have HS6_ := (hb.cell (World.block_lt_of_cell? _ _ (hHeld.2.2.2.2.2.2.1))).trans (hHeld.2.2.2.2.2.2.1)
          have HS7_ := (hb.cell (World.block_lt_of_cell? _ _ (hHeld.2.2.2.2.2.2.2))).trans (hHeld.2.2.2.2.2.2.2)
          refine ⟨_, rfl, ?_⟩
          have n0_ := Aside0.mk (Kd.V_below (by (with_reducible repeat (first | apply Kd.V_alloc | apply Kd.V_drewN | apply Kd.V_drew)); exact HO0_0.out) hb)
          have n1_ := Aside0.mk (Kd.V_below (by (with_reducible repeat (first | apply Kd.V_alloc | apply Kd.V_drewN | apply Kd.V_drew)); exact HL177_3.out) hb)
          have n2_ := Aside0.mk (Kd.V_below (by (with_reducible repeat (first | apply Kd.V_alloc | apply Kd.V_drewN | apply Kd.V_drew)); exact HL177_5.out) hb)
          have n3_ := Aside0.mk (Kd.V_below (by (with_reducible repeat (first | apply Kd.V_alloc | apply Kd.V_drewN | apply Kd.V_drew)); exact HL177_6.out) hb)
          have n4_ := Aside0.mk (Kd.V_below (by (with_reducible repeat (first | apply Kd.V_alloc | apply Kd.V_drewN | apply Kd.V_drew)); exact HL178_3.out) hb)
          have n5_ := Aside0.mk (Kd.V_below (by (with_reducible repeat (first | apply Kd.V_alloc | apply Kd.V_drewN | apply Kd.V_drew)); exact HL178_5.out) hb)
          have n6_ := Aside0.mk (Kd.V_below (by (with_reducible repeat (first | apply Kd.V_alloc | apply Kd.V_drewN | apply Kd.V_drew)); exact HL178_6.out) hb)
          have n7_ := Aside0.mk (Kd.V_lower (Kd.V_mono (ok' := fun k_ => (P0_0_ k_ ∨ w.heap.size ≤ k_) ∧ k_ ≠ gb174 ∧ k_ ≠ gb175) ho0 (fun k_ hk_ => ⟨Or.elim hk_ (fun hs_ => hs_.1.1) (fun hn_ => (.inr (Nat.le_trans (below_size (by repeat (first | (with_reducible first | exact HB.out | apply below_alloc | apply pw_below_drewN | apply below_drew1 | refine below_set ?_ GE174.out | refine below_set ?_ GE175.out) | exact HB.out))) hn_))), Or.elim hk_ (fun hs_ => hs_.1.2) (fun hn_ => (Kd.freshB (g := gb174) (o := .cells #[.slice (some ad177) l0_0.length c0_0] 57 (0, 0)) (by (with_reducible repeat (first | refine blk_drewN ?_ _ | refine blk_drew ?_ | refine blk_alloc ?_ _)); exact BK174.out) k_ hn_)), Or.elim hk_ (fun hs_ => hs_.2) (fun hn_ => (Kd.freshB (g := gb175) (o := .cells #[.slice none 0 0] 57 (0, 0)) (by (with_reducible repeat (first | refine blk_drewN ?_ _ | refine blk_drew ?_ | refine blk_alloc ?_ _)); exact BK175.out) k_ hn_))⟩)) (below_size (by repeat (first | (with_reducible first | exact HB.out | apply below_alloc | apply pw_below_drewN | apply below_drew1 | refine below_set ?_ GE174.out | refine below_set ?_ GE175.out) | exact HB.out))))
          have n8_ := Aside0.mk (blk_below (g := gb174) (o := .cells #[.slice (some ad177) l0_0.length c0_0] 57 (0, 0)) (by (with_reducible repeat (first | refine blk_drewN ?_ _ | refine blk_drew ?_ | refine blk_alloc ?_ _)); exact BK174.out) hb)
          have n9_ := Aside0.mk (blk_below (g := gb175) (o := .cells #[.slice none 0 0] 57 (0, 0)) (by (with_reducible repeat (first | refine blk_drewN ?_ _ | refine blk_drew ?_ | refine blk_alloc ?_ _)); exact BK175.out) hb)
          have n10_ := Aside0.mk (Kd.C_below (by repeat (first | (with_reducible exact HR177_3.out) | (with_reducible refine Kd.C_alloc ?_ _) | (with_reducible refine Kd.C_drewN ?_ _) | (with_reducible refine Kd.C_drew ?_) | exact HR177_3.out)) hb)
          have n11_ := Aside0.mk (Kd.C_below (by repeat (first | (with_reducible exact HR177_5.out) | (with_reducible refine Kd.C_alloc ?_ _) | (with_reducible refine Kd.C_drewN ?_ _) | (with_reducible refine Kd.C_drew ?_) | exact HR177_5.out)) hb)
          have n12_ := Aside0.mk (Kd.C_below (by repeat (first | (with_reducible exact HR177_6.out) | (with_reducible refine Kd.C_alloc ?_ _) | (with_reducible refine Kd.C_drewN ?_ _) | (with_reducible refine Kd.C_drew ?_) | exact HR177_6.out)) hb)
          have n13_ := Aside0.mk (Kd.C_below (by repeat (first | (with_reducible exact HR178_3.out) | (with_reducible refine Kd.C_alloc ?_ _) | (with_reducible refine Kd.C_drewN ?_ _) | (with_reducible refine Kd.C_drew ?_) | exact HR178_3.out)) hb)
          have n14_ := Aside0.mk (Kd.C_below (by repeat (first | (with_reducible exact HR178_5.out) | (with_reducible refine Kd.C_alloc ?_ _) | (with_reducible refine Kd.C_drewN ?_ _) | (with_reducible refine Kd.C_drew ?_) | exact HR178_5.out)) hb)
          have n15_ := Aside0.mk (Kd.C_below (by repeat (first | (with_reducible exact HR178_6.out) | (with_reducible refine Kd.C_alloc ?_ _) | (with_reducible refine Kd.C_drewN ?_ _) | (with_reducible refine Kd.C_drew ?_) | exact HR178_6.out)) hb)
          have n16_ := Aside0.mk (below_step (by repeat (first | (with_reducible first | exact HB.out | apply below_alloc | apply pw_below_drewN | apply below_drew1 | refine below_set ?_ GE174.out | refine below_set ?_ GE175.out) | exact HB.out)) hb)
          clear HO0_0
          clear HL177_3
          clear HL177_5
          clear HL177_6
          clear HL178_3
          clear HL178_5
          clear HL178_6
          clear BK174
          clear BK175
          clear HR177_3
          clear HR177_5
          clear HR177_6
          clear HR178_3
          clear HR178_5
          clear HR178_6
          clear HB
          have HO0_0 := n0_
          have HL177_3 := n1_
          have HL177_5 := n2_
          have HL177_6 := n3_
          have HL178_3 := n4_
          have HL178_5 := n5_
          have HL178_6 := n6_
          have HO181 := n7_
          have BK174 := n8_
          have BK175 := n9_
          have HR177_3 := n10_
          have HR177_5 := n11_
          have HR177_6 := n12_
          have HR178_3 := n13_
          have HR178_5 := n14_
          have HR178_6 := n15_
          have HB := n16_
          clear n0_ n1_ n2_ n3_ n4_ n5_ n6_ n7_ n8_ n9_ n10_ n11_ n12_ n13_ n14_ n15_ n16_
          (try clear hb)
          (try clear hb2)
          (try clear hk)
          (try clear hi)
          (try clear ho0)
          obtain ⟨Ao17, co17, eo17⟩ := Kd.V_slice HO181.out
          (first | subst eo17 | (injection eo17 with f1_ f2_ f3_; have f4_ := f1_.symm; have f5_ := f3_.symm; clear f1_ f2_ f3_; subst f4_; subst f5_))
          refine hK.out _ _ ⟨(blk_cell BK174.out 0).trans rfl, HS1_, HS2_, HS3_, HS4_, HS5_, HS6_, HS7_⟩ (fun hHeld => ?_)
          clear hK K
          refine norm_ (a' := ?_) ?_ ?_
          rotate_left
          · show Act.put _ (some 28) _ = _
            simp only [Act.put, List.setIfInBounds_toArray, List.set_cons_zero, List.set_cons_succ, i64_w, i32_w]
            rfl
          refine pure_ (i := 8) (N := some 29) (v := ?_) (a' := ?_) #[true, true, true, true, true, true, true, true, true, false, false, false] rfl rfl (any_of HT_.out (by kernel_rfl)) (fun _ _ _ h => h) (Or.inl ⟨by rfl, ?_⟩) ?_ ?_
          rotate_left
          · intro w'
            go_simp
            with_reducible rfl
          rotate_left
          · simp only [Act.put, List.setIfInBounds_toArray, List.set_cons_zero, List.set_cons_succ, i64_w, i32_w]
            rfl
          refine pure_ (i := 9) (N := some 30) (v := ?_) (a' := ?_) #[true, true, true, true, true, true, true, true, true, true, false, false] rfl rfl (any_of HT_.out (by kernel_rfl)) (fun _ _ _ h => h) (Or.inl ⟨by rfl, ?_⟩) ?_ ?_
          rotate_left
          · intro w'
            go_simp
            with_reducible rfl
          rotate_left
          · simp only [Act.put, List.setIfInBounds_toArray, List.set_cons_zero, List.set_cons_succ, i64_w, i32_w]
            rfl
          refine one_ (i := 10) (N := none) #[true, true, true, true, true, true, true, true, true, true, true, false] rfl rfl (one_of HT_.out (by kernel_rfl)) (by decide) (fun K hK => ?_)
          have hs18 : w16.cell? ⟨gb175, 0, none⟩ = some (.slice none 0 0) := (blk_cell BK175.out 0).trans rfl
          have hfs18 := blk_frozen BK175.out 0
          have hns18_0 := NB174_175.out
          have hms18_0 := NB175_174.out
          refine skip_ (w1 := ?_) (by rfl) rfl ?_ ?_
          rotate_left
          · go_simp
            rfl
          refine hK.out _ _ ⟨((cell_far (p := ⟨gb175, _, none⟩) NB174_175.out _).trans (hHeld.1)), ((cell_far (p := ⟨gb175, _, none⟩) (by first | exact Kd_v_far HO0_0.out (by have := of_decide_eq_true c5b0; have := of_decide_eq_true c6b0; omega) (by show 0 < 7; decide) (fun _ hk => hk.2) | (rw [add_block]; exact Kd_v_far HO0_0.out (by have := of_decide_eq_true c5b0; have := of_decide_eq_true c6b0; omega) (by show 0 < 7; decide) (fun _ hk => hk.2)) | (show (Addr.add _ _).block ≠ _; rw [add_block]; exact Kd_v_far HO0_0.out (by have := of_decide_eq_true c5b0; have := of_decide_eq_true c6b0; omega) (by show 0 < 7; decide) (fun _ hk => hk.2)) | (dsimp only; exact Kd_v_far HO0_0.out (by have := of_decide_eq_true c5b0; have := of_decide_eq_true c6b0; omega) (by show 0 < 7; decide) (fun _ hk => hk.2))) _).trans (hHeld.2.1)), ((cell_far (p := ⟨gb175, _, none⟩) (by first | exact Kd_v_far HO0_0.out (by have := of_decide_eq_true c5b0; have := of_decide_eq_true c6b0; omega) (by show 0 < 7; decide) (fun _ hk => hk.2) | (rw [add_block]; exact Kd_v_far HO0_0.out (by have := of_decide_eq_true c5b0; have := of_decide_eq_true c6b0; omega) (by show 0 < 7; decide) (fun _ hk => hk.2)) | (show (Addr.add _ _).block ≠ _; rw [add_block]; exact Kd_v_far HO0_0.out (by have := of_decide_eq_true c5b0; have := of_decide_eq_true c6b0; omega) (by show 0 < 7; decide) (fun _ hk => hk.2)) | (dsimp only; exact Kd_v_far HO0_0.out (by have := of_decide_eq_true c5b0; have := of_decide_eq_true c6b0; omega) (by show 0 < 7; decide) (fun _ hk => hk.2))) _).trans (hHeld.2.2.1)), ((cell_far (p := ⟨gb175, _, none⟩) (by first | exact Kd_v_far HO0_0.out (by have := of_decide_eq_true c5b0; have := of_decide_eq_true c6b0; omega) (by show 0 < 7; decide) (fun _ hk => hk.2) | (rw [add_block]; exact Kd_v_far HO0_0.out (by have := of_decide_eq_true c5b0; have := of_decide_eq_true c6b0; omega) (by show 0 < 7; decide) (fun _ hk => hk.2)) | (show (Addr.add _ _).block ≠ _; rw [add_block]; exact Kd_v_far HO0_0.out (by have := of_decide_eq_true c5b0; have := of_decide_eq_true c6b0; omega) (by show 0 < 7; decide) (fun _ hk => hk.2)) | (dsimp only; exact Kd_v_far HO0_0.out (by have := of_decide_eq_true c5b0; have := of_decide_eq_true c6b0; omega) (by show 0 < 7; decide) (fun _ hk => hk.2))) _).trans (hHeld.2.2.2.1)), ((cell_far (p := ⟨gb175, _, none⟩) (by first | exact Kd_v_far HO0_0.out (by have := of_decide_eq_true c5b0; have := of_decide_eq_true c6b0; omega) (by show 0 < 7; decide) (fun _ hk => hk.2) | (rw [add_block]; exact Kd_v_far HO0_0.out (by have := of_decide_eq_true c5b0; have := of_decide_eq_true c6b0; omega) (by show 0 < 7; decide) (fun _ hk => hk.2)) | (show (Addr.add _ _).block ≠ _; rw [add_block]; exact Kd_v_far HO0_0.out (by have := of_decide_eq_true c5b0; have := of_decide_eq_true c6b0; omega) (by show 0 < 7; decide) (fun _ hk => hk.2)) | (dsimp only; exact Kd_v_far HO0_0.out (by have := of_decide_eq_true c5b0; have := of_decide_eq_true c6b0; omega) (by show 0 < 7; decide) (fun _ hk => hk.2))) _).trans (hHeld.2.2.2.2.1)), ((cell_far (p := ⟨gb175, _, none⟩) (by first | exact Kd_v_far HO0_0.out (by have := of_decide_eq_true c5b0; have := of_decide_eq_true c6b0; omega) (by show 0 < 7; decide) (fun _ hk => hk.2) | (rw [add_block]; exact Kd_v_far HO0_0.out (by have := of_decide_eq_true c5b0; have := of_decide_eq_true c6b0; omega) (by show 0 < 7; decide) (fun _ hk => hk.2)) | (show (Addr.add _ _).block ≠ _; rw [add_block]; exact Kd_v_far HO0_0.out (by have := of_decide_eq_true c5b0; have := of_decide_eq_true c6b0; omega) (by show 0 < 7; decide) (fun _ hk => hk.2)) | (dsimp only; exact Kd_v_far HO0_0.out (by have := of_decide_eq_true c5b0; have := of_decide_eq_true c6b0; omega) (by show 0 < 7; decide) (fun _ hk => hk.2))) _).trans (hHeld.2.2.2.2.2.1)), ((cell_far (p := ⟨gb175, _, none⟩) (by first | exact Kd_v_far HO0_0.out (by have := of_decide_eq_true c5b0; have := of_decide_eq_true c6b0; omega) (by show 0 < 7; decide) (fun _ hk => hk.2) | (rw [add_block]; exact Kd_v_far HO0_0.out (by have := of_decide_eq_true c5b0; have := of_decide_eq_true c6b0; omega) (by show 0 < 7; decide) (fun _ hk => hk.2)) | (show (Addr.add _ _).block ≠ _; rw [add_block]; exact Kd_v_far HO0_0.out (by have := of_decide_eq_true c5b0; have := of_decide_eq_true c6b0; omega) (by show 0 < 7; decide) (fun _ hk => hk.2)) | (dsimp only; exact Kd_v_far HO0_0.out (by have := of_decide_eq_true c5b0; have := of_decide_eq_true c6b0; omega) (by show 0 < 7; decide) (fun _ hk => hk.2))) _).trans (hHeld.2.2.2.2.2.2.1)), ((cell_far (p := ⟨gb175, _, none⟩) (by first | exact Kd_v_far HO0_0.out (by have := of_decide_eq_true c5b0; have := of_decide_eq_true c6b0; omega) (by show 0 < 7; decide) (fun _ hk => hk.2) | (rw [add_block]; exact Kd_v_far HO0_0.out (by have := of_decide_eq_true c5b0; have := of_decide_eq_true c6b0; omega) (by show 0 < 7; decide) (fun _ hk => hk.2)) | (show (Addr.add _ _).block ≠ _; rw [add_block]; exact Kd_v_far HO0_0.out (by have := of_decide_eq_true c5b0; have := of_decide_eq_true c6b0; omega) (by show 0 < 7; decide) (fun _ hk => hk.2)) | (dsimp only; exact Kd_v_far HO0_0.out (by have := of_decide_eq_true c5b0; have := of_decide_eq_true c6b0; omega) (by show 0 < 7; decide) (fun _ hk => hk.2))) _).trans (hHeld.2.2.2.2.2.2.2))⟩ (fun hHeld => ?_)
          clear hK K
          refine pure_ (i := 11) (N := some 5) (v := ?_) (a' := ?_) #[true, true, true, true, true, true, true, true, true, true, true, true] rfl rfl (any_of HT_.out (by kernel_rfl)) (fun _ _ _ h => h) (Or.inl ⟨by rfl, ?_⟩) ?_ ?_
          rotate_left
          · intro w'
            go_simp
            with_reducible rfl
          rotate_left
          · simp only [Act.put, List.setIfInBounds_toArray, List.set_cons_zero, List.set_cons_succ, i64_w, i32_w]
            rfl
          refine done_ (done_of HT_.out (by kernel_rfl)) ?_
          try go_wp2
          refine bodyPost_ret (results_ct rfl _ _ gb175 57 #[.slice Ao17 t179.length co17] (0, 0) _ rfl (by (with_reducible repeat (first | refine blk_drewN ?_ _ | refine blk_drew ?_ | refine blk_alloc ?_ _)); refine blk_put (cs := #[.slice none 0 0]) ?_ 0 _ rfl; (with_reducible repeat (first | refine blk_drewN ?_ _ | refine blk_drew ?_ | refine blk_alloc ?_ _)); exact BK175.out) Try.underlying57 rfl (by kernel_rfl)) rfl ?_
          exact ⟨_, by first | rfl | (simp [errW_none, errW_some] <;> rfl) | (simp [*, errW_none, errW_some] <;> rfl), by (with_reducible repeat (first | apply Kd.V_alloc | apply Kd.V_drewN | apply Kd.V_drew)); exact Kd.V_mono (Kd.V_far (p := ⟨gb175, 0, none⟩) (Kd.V_mono HO181.out (fun k_ hk => (⟨hk, hk.2.2⟩ : _ ∧ k_ ≠ gb175))) (fun _ hk => hk.2) (.slice Ao17 t179.length co17)) (fun _ hk => hk.1.1), by repeat (first | (with_reducible first | exact HB.out | apply below_alloc | apply pw_below_drewN | apply below_drew1 | refine below_set ?_ GE174.out | refine below_set ?_ GE175.out) | exact HB.out)⟩
        · rw [if_neg c7] at H
          have c7b0 : (((rd_T116 l0_0 a1).f0.f0) == 1) = false := beq_eq_false_iff_ne.mpr c7
          have c7b1 : (((rd_T116 l0_0 a1).f0.f0) != 1) = true := bne_iff_ne.mpr c7
          simp only [Option.some.injEq, Prod.mk.injEq] at H
          obtain ⟨rfl, rfl⟩ := H
          go_enter Try.func71, Try.ntmps71
          go_wp2_with (first | ((with_reducible refine gate_dst (N := 2) rfl ?_); refine box_event ?hg (N := 2) ?hd (cs := #[.slice A0_0 l0_0.length c0_0]) (t := 57) ?hr ?_; (case hd => rfl); (case hg => rfl); (case hr => first | (go_simp; done) | (go_simp; rfl)); intro gb174 hg w19 hbox hb; have n0_ := Aside0.mk (Kd.V_below (Kd.V_elderB (by (with_reducible repeat (first | apply Kd.V_alloc | apply Kd.V_drewN | apply Kd.V_drew)); exact HO0_0.out) gb174 (Nat.le_of_eq hg.symm)) hb); have n1_ := Aside0.mk (below_step (by repeat (first | (with_reducible first | exact HB.out | apply below_alloc | apply pw_below_drewN | apply below_drew1) | exact HB.out)) hb); have n2_ := Aside0.mk (hbox); have n3_ := Aside0.mk ((by rw [hg]; exact (below_size (by repeat (first | (with_reducible first | exact HB.out | apply below_alloc | apply pw_below_drewN | apply below_drew1) | exact HB.out))) : w.heap.size ≤ gb174)); have n4_ := Aside0.mk ((by rw [hg]; exact (below_size (by repeat (first | (with_reducible first | exact HB.out | apply below_alloc | apply pw_below_drewN | apply below_drew1) | exact HB.out))) : w.heap.size ≤ gb174)); clear HO0_0; clear HB; have HO0_0 := n0_; have HB := n1_; have BK174 := n2_; have GW174 := n3_; have GE174 := n4_; clear n0_ n1_ n2_ n3_ n4_; clear hb hbox hg) | ((with_reducible refine gate_dst (N := 4) rfl ?_); refine box_event ?hg (N := 4) ?hd (cs := #[.slice none 0 0]) (t := 57) ?hr ?_; (case hd => rfl); (case hg => rfl); (case hr => first | (go_simp; done) | (go_simp; rfl)); intro gb175 hg w20 hbox hb; have n0_ := Aside0.mk (Kd.V_below (Kd.V_elderB (by (with_reducible repeat (first | apply Kd.V_alloc | apply Kd.V_drewN | apply Kd.V_drew)); exact HO0_0.out) gb175 (Nat.le_of_eq hg.symm)) hb); have n1_ := Aside0.mk (blk_below (g := gb174) (o := .cells #[.slice A0_0 l0_0.length c0_0] 57 (0, 0)) (by (with_reducible repeat (first | refine blk_drewN ?_ _ | refine blk_drew ?_ | refine blk_alloc ?_ _)); exact BK174.out) hb); have n2_ := Aside0.mk (below_step (by repeat (first | (with_reducible first | exact HB.out | apply below_alloc | apply pw_below_drewN | apply below_drew1 | refine below_set ?_ GE174.out) | exact HB.out)) hb); have n3_ := Aside0.mk (hbox); have n4_ := Aside0.mk ((by rw [hg]; exact (below_size (by repeat (first | (with_reducible first | exact HB.out | apply below_alloc | apply pw_below_drewN | apply below_drew1 | refine below_set ?_ GE174.out) | exact HB.out))) : w.heap.size ≤ gb175)); have n5_ := Aside0.mk ((by rw [hg]; exact (below_size (by repeat (first | (with_reducible first | exact HB.out | apply below_alloc | apply pw_below_drewN | apply below_drew1 | refine below_set ?_ GE174.out) | exact HB.out))) : w.heap.size ≤ gb175)); have n6_ := Aside0.mk ((by rw [hg]; exact Nat.ne_of_lt (blk_lt (g := gb174) (o := .cells #[.slice A0_0 l0_0.length c0_0] 57 (0, 0)) (by (with_reducible repeat (first | refine blk_drewN ?_ _ | refine blk_drew ?_ | refine blk_alloc ?_ _)); exact BK174.out)) : gb174 ≠ gb175)); have n7_ := Aside0.mk ((by rw [hg]; exact Nat.ne_of_gt (blk_lt (g := gb174) (o := .cells #[.slice A0_0 l0_0.length c0_0] 57 (0, 0)) (by (with_reducible repeat (first | refine blk_drewN ?_ _ | refine blk_drew ?_ | refine blk_alloc ?_ _)); exact BK174.out)) : gb175 ≠ gb174)); clear HO0_0; clear BK174; clear HB; have HO0_0 := n0_; have BK174 := n1_; have HB := n2_; have BK175 := n3_; have GW175 := n4_; have GE175 := n5_; have NB174_175 := n6_; have NB175_174 := n7_; clear n0_ n1_ n2_ n3_ n4_ n5_ n6_ n7_; clear hb hbox hg; have hnb21 := NB174_175.out; have hnc21 := NB175_174.out; have hcz22_0 : w20.cell? ⟨gb174, 0, none⟩ = some (.slice A0_0 l0_0.length c0_0) := (blk_cell BK174.out 0).trans rfl; have hfz22_0 := blk_frozen BK174.out 0) | ((with_reducible refine gate_callee (f := 81) rfl ?_); refine goesL_ (some 8) rfl rfl Try.func81 (by kernel_rfl) rfl #[.agg #[.slice A0_0 l0_0.length c0_0], .int .i64 a1] rfl (by (try simp only [List.map_toArray, List.map_cons, List.map_nil]); first | done | rfl | (simp only [List.length_drop, List.length_take]; rfl)) ?_; (with_reducible refine (marginaliaref05_Is.calls _ _ l0_0 a1 true _ ?side1 ?side2 A3.out).mono ?_); (case side1 => repeat (first | exact (Kd.V_reads' HO0_0.out).2.2 | (with_reducible refine Kd.C_alloc ?_ _) | (with_reducible refine Kd.C_drewN ?_ _) | (with_reducible refine Kd.C_drew ?_))); (case side2 => exact (Kd.V_reads' HO0_0.out).2.1); rintro e w23 ⟨rfl, hb⟩; refine ⟨_, rfl, ?_⟩; have n0_ := Aside0.mk (Kd.V_below (by (with_reducible repeat (first | apply Kd.V_alloc | apply Kd.V_drewN | apply Kd.V_drew)); exact HO0_0.out) hb); have n1_ := Aside0.mk (blk_below (g := gb174) (o := .cells #[.slice A0_0 l0_0.length c0_0] 57 (0, 0)) (by (with_reducible repeat (first | refine blk_drewN ?_ _ | refine blk_drew ?_ | refine blk_alloc ?_ _)); exact BK174.out) hb); have n2_ := Aside0.mk (blk_below (g := gb175) (o := .cells #[.slice none 0 0] 57 (0, 0)) (by (with_reducible repeat (first | refine blk_drewN ?_ _ | refine blk_drew ?_ | refine blk_alloc ?_ _)); exact BK175.out) hb); have n3_ := Aside0.mk (below_step (by repeat (first | (with_reducible first | exact HB.out | apply below_alloc | apply pw_below_drewN | apply below_drew1 | refine below_set ?_ GE174.out | refine below_set ?_ GE175.out) | exact HB.out)) hb); clear HO0_0; clear BK174; clear BK175; clear HB; have HO0_0 := n0_; have BK174 := n1_; have BK175 := n2_; have HB := n3_; clear n0_ n1_ n2_ n3_; (try clear hb); (try clear hb2); (try clear hk); (try clear hi); have hcz24_0 : w23.cell? ⟨gb174, 0, none⟩ = some (.slice A0_0 l0_0.length c0_0) := (blk_cell BK174.out 0).trans rfl; have hfz24_0 := blk_frozen BK174.out 0; have p177 : 0 ≤ (a1 : Int) := of_decide_eq_true (by first | (with_reducible assumption) | assumption); have q177 : a1 < (l0_0.length : Int) := of_decide_eq_true (by first | (with_reducible assumption) | assumption); obtain ⟨ad177, A177_3, c177_3, A177_5, c177_5, A177_6, c177_6, e177, hx177_0, hx177_1, hx177_2, hx177_3, hx177_4, hx177_5, hx177_6, hl177_3, hi177_3, hl177_5, hi177_5, hl177_6, hi177_6⟩ := at_T116 (Kd.V_reads' HO0_0.out).2.2 a1 p177 q177; cases e177; obtain ⟨ce177, hce177, hMe177, hcc177⟩ := Kd.V_get HO0_0.out z116 a1 p177 (by first | exact q177 | exact of_decide_eq_true (by first | (with_reducible assumption) | assumption) | (have e_ := (Kd.V_reads' HO0_0.out).1; omega)); obtain ⟨ua177_3, uc177_3, ua177_5, uc177_5, ua177_6, uc177_6, rfl, ul177_3, ge177_3, ul177_5, ge177_5, ul177_6, ge177_6⟩ := k116_openF hMe177; have hv177_3 := hcc177 3 _ rfl; rw [add_field _ _ 3 (by omega)] at hv177_3; replace hv177_3 := Option.some.inj (hv177_3.symm.trans hx177_3); injection hv177_3 with hva_ hvn_ hvc_; rw [hva_] at ge177_3; rw [hvc_] at ul177_3; have HL177_3 := Aside0.mk (show Kd.V k103 103 _ w.heap.size _ _ ((rd_T116 l0_0 a1).f0.f3) from Kd.V_mk ul177_3 ge177_3); clear hva_ hvn_ hvc_ ge177_3 ul177_3; have hv177_5 := hcc177 5 _ rfl; rw [add_field _ _ 5 (by omega)] at hv177_5; replace hv177_5 := Option.some.inj (hv177_5.symm.trans hx177_5); injection hv177_5 with hva_ hvn_ hvc_; rw [hva_] at ge177_5; rw [hvc_] at ul177_5; have HL177_5 := Aside0.mk (show Kd.V k67 67 _ w.heap.size _ _ ((rd_T116 l0_0 a1).f0.f5) from Kd.V_mk ul177_5 ge177_5); clear hva_ hvn_ hvc_ ge177_5 ul177_5; have hv177_6 := hcc177 6 _ rfl; rw [add_field _ _ 6 (by omega)] at hv177_6; replace hv177_6 := Option.some.inj (hv177_6.symm.trans hx177_6); injection hv177_6 with hva_ hvn_ hvc_; rw [hva_] at ge177_6; rw [hvc_] at ul177_6; have HL177_6 := Aside0.mk (show Kd.V (Kd.int .i64) 3 _ w.heap.size _ _ ((rd_T116 l0_0 a1).f1) from Kd.V_mk ul177_6 ge177_6); clear hva_ hvn_ hvc_ ge177_6 ul177_6; clear hcc177 hce177; have HR177_3 := Aside0.mk hi177_3; have HC177_3 := Aside0.mk hl177_3; clear hi177_3 hl177_3; have HR177_5 := Aside0.mk hi177_5; have HC177_5 := Aside0.mk hl177_5; clear hi177_5 hl177_5; have HR177_6 := Aside0.mk hi177_6; have HC177_6 := Aside0.mk hl177_6; clear hi177_6 hl177_6; replace p177 := eq_true p177; replace q177 := eq_true q177; have hcz25_0 : w23.cell? ⟨gb175, 0, none⟩ = some (.slice none 0 0) := (blk_cell BK175.out 0).trans rfl; have hfz25_0 := blk_frozen BK175.out 0))
          refine bodyPost_ret (results_ct rfl _ _ gb175 57 #[.slice (some ad177) l0_0.length c0_0] (0, 0) _ rfl (by (with_reducible repeat (first | refine blk_drewN ?_ _ | refine blk_drew ?_ | refine blk_alloc ?_ _)); refine blk_put (cs := #[.slice none 0 0]) ?_ 0 _ rfl; (with_reducible repeat (first | refine blk_drewN ?_ _ | refine blk_drew ?_ | refine blk_alloc ?_ _)); exact BK175.out) Try.underlying57 rfl (by kernel_rfl)) rfl ?_
          exact ⟨_, by first | rfl | (simp [errW_none, errW_some] <;> rfl) | (simp [*, errW_none, errW_some] <;> rfl), by (with_reducible repeat (first | apply Kd.V_alloc | apply Kd.V_drewN | apply Kd.V_drew)); exact Kd.V_mono (Kd.V_far (p := ⟨gb175, 0, none⟩) (Kd.V_mono HO0_0.out (fun k_ hk => (⟨hk, hk.2⟩ : _ ∧ k_ ≠ gb175))) (fun _ hk => hk.2) (.slice (some ad177) l0_0.length c0_0)) (fun _ hk => hk.1.1.1), by repeat (first | (with_reducible first | exact HB.out | apply below_alloc | apply pw_below_drewN | apply below_drew1 | refine below_set ?_ GE174.out | refine below_set ?_ GE175.out) | exact HB.out)⟩
      · rw [if_neg c6] at H
        exact absurd H (by simp)
    · rw [if_neg c5] at H
      exact absurd H (by simp)
  · replace c4 := Bool.eq_false_iff.mpr c4
    subst c4
    have H1 : (some (l0_0, (-1))) = some (r1, r2) := by rw [if_neg (show ¬ (false = true) by decide)] at H; exact H
    clear H
    have H := H1
    clear H1
    simp only [Option.some.injEq, Prod.mk.injEq] at H
    obtain ⟨rfl, rfl⟩ := H
    go_enter Try.func71, Try.ntmps71
    go_wp2_with (first | ((with_reducible refine gate_dst (N := 2) rfl ?_); refine box_event ?hg (N := 2) ?hd (cs := #[.slice A0_0 l0_0.length c0_0]) (t := 57) ?hr ?_; (case hd => rfl); (case hg => rfl); (case hr => first | (go_simp; done) | (go_simp; rfl)); intro gb174 hg w26 hbox hb; have n0_ := Aside0.mk (Kd.V_below (Kd.V_elderB (by (with_reducible repeat (first | apply Kd.V_alloc | apply Kd.V_drewN | apply Kd.V_drew)); exact HO0_0.out) gb174 (Nat.le_of_eq hg.symm)) hb); have n1_ := Aside0.mk (below_step (by repeat (first | (with_reducible first | exact HB.out | apply below_alloc | apply pw_below_drewN | apply below_drew1) | exact HB.out)) hb); have n2_ := Aside0.mk (hbox); have n3_ := Aside0.mk ((by rw [hg]; exact (below_size (by repeat (first | (with_reducible first | exact HB.out | apply below_alloc | apply pw_below_drewN | apply below_drew1) | exact HB.out))) : w.heap.size ≤ gb174)); have n4_ := Aside0.mk ((by rw [hg]; exact (below_size (by repeat (first | (with_reducible first | exact HB.out | apply below_alloc | apply pw_below_drewN | apply below_drew1) | exact HB.out))) : w.heap.size ≤ gb174)); clear HO0_0; clear HB; have HO0_0 := n0_; have HB := n1_; have BK174 := n2_; have GW174 := n3_; have GE174 := n4_; clear n0_ n1_ n2_ n3_ n4_; clear hb hbox hg) | ((with_reducible refine gate_dst (N := 4) rfl ?_); refine box_event ?hg (N := 4) ?hd (cs := #[.slice none 0 0]) (t := 57) ?hr ?_; (case hd => rfl); (case hg => rfl); (case hr => first | (go_simp; done) | (go_simp; rfl)); intro gb175 hg w27 hbox hb; have n0_ := Aside0.mk (Kd.V_below (Kd.V_elderB (by (with_reducible repeat (first | apply Kd.V_alloc | apply Kd.V_drewN | apply Kd.V_drew)); exact HO0_0.out) gb175 (Nat.le_of_eq hg.symm)) hb); have n1_ := Aside0.mk (blk_below (g := gb174) (o := .cells #[.slice A0_0 l0_0.length c0_0] 57 (0, 0)) (by (with_reducible repeat (first | refine blk_drewN ?_ _ | refine blk_drew ?_ | refine blk_alloc ?_ _)); exact BK174.out) hb); have n2_ := Aside0.mk (below_step (by repeat (first | (with_reducible first | exact HB.out | apply below_alloc | apply pw_below_drewN | apply below_drew1 | refine below_set ?_ GE174.out) | exact HB.out)) hb); have n3_ := Aside0.mk (hbox); have n4_ := Aside0.mk ((by rw [hg]; exact (below_size (by repeat (first | (with_reducible first | exact HB.out | apply below_alloc | apply pw_below_drewN | apply below_drew1 | refine below_set ?_ GE174.out) | exact HB.out))) : w.heap.size ≤ gb175)); have n5_ := Aside0.mk ((by rw [hg]; exact (below_size (by repeat (first | (with_reducible first | exact HB.out | apply below_alloc | apply pw_below_drewN | apply below_drew1 | refine below_set ?_ GE174.out) | exact HB.out))) : w.heap.size ≤ gb175)); have n6_ := Aside0.mk ((by rw [hg]; exact Nat.ne_of_lt (blk_lt (g := gb174) (o := .cells #[.slice A0_0 l0_0.length c0_0] 57 (0, 0)) (by (with_reducible repeat (first | refine blk_drewN ?_ _ | refine blk_drew ?_ | refine blk_alloc ?_ _)); exact BK174.out)) : gb174 ≠ gb175)); have n7_ := Aside0.mk ((by rw [hg]; exact Nat.ne_of_gt (blk_lt (g := gb174) (o := .cells #[.slice A0_0 l0_0.length c0_0] 57 (0, 0)) (by (with_reducible repeat (first | refine blk_drewN ?_ _ | refine blk_drew ?_ | refine blk_alloc ?_ _)); exact BK174.out)) : gb175 ≠ gb174)); clear HO0_0; clear BK174; clear HB; have HO0_0 := n0_; have BK174 := n1_; have HB := n2_; have BK175 := n3_; have GW175 := n4_; have GE175 := n5_; have NB174_175 := n6_; have NB175_174 := n7_; clear n0_ n1_ n2_ n3_ n4_ n5_ n6_ n7_; clear hb hbox hg; have hnb28 := NB174_175.out; have hnc28 := NB175_174.out; have hcz29_0 : w27.cell? ⟨gb174, 0, none⟩ = some (.slice A0_0 l0_0.length c0_0) := (blk_cell BK174.out 0).trans rfl; have hfz29_0 := blk_frozen BK174.out 0) | ((with_reducible refine gate_callee (f := 81) rfl ?_); refine goesL_ (some 8) rfl rfl Try.func81 (by kernel_rfl) rfl #[.agg #[.slice A0_0 l0_0.length c0_0], .int .i64 a1] rfl (by (try simp only [List.map_toArray, List.map_cons, List.map_nil]); first | done | rfl | (simp only [List.length_drop, List.length_take]; rfl)) ?_; (with_reducible refine (marginaliaref05_Is.calls _ _ l0_0 a1 false _ ?side1 ?side2 A3.out).mono ?_); (case side1 => repeat (first | exact (Kd.V_reads' HO0_0.out).2.2 | (with_reducible refine Kd.C_alloc ?_ _) | (with_reducible refine Kd.C_drewN ?_ _) | (with_reducible refine Kd.C_drew ?_))); (case side2 => exact (Kd.V_reads' HO0_0.out).2.1); rintro e w30 ⟨rfl, hb⟩; refine ⟨_, rfl, ?_⟩; have n0_ := Aside0.mk (Kd.V_below (by (with_reducible repeat (first | apply Kd.V_alloc | apply Kd.V_drewN | apply Kd.V_drew)); exact HO0_0.out) hb); have n1_ := Aside0.mk (blk_below (g := gb174) (o := .cells #[.slice A0_0 l0_0.length c0_0] 57 (0, 0)) (by (with_reducible repeat (first | refine blk_drewN ?_ _ | refine blk_drew ?_ | refine blk_alloc ?_ _)); exact BK174.out) hb); have n2_ := Aside0.mk (blk_below (g := gb175) (o := .cells #[.slice none 0 0] 57 (0, 0)) (by (with_reducible repeat (first | refine blk_drewN ?_ _ | refine blk_drew ?_ | refine blk_alloc ?_ _)); exact BK175.out) hb); have n3_ := Aside0.mk (below_step (by repeat (first | (with_reducible first | exact HB.out | apply below_alloc | apply pw_below_drewN | apply below_drew1 | refine below_set ?_ GE174.out | refine below_set ?_ GE175.out) | exact HB.out)) hb); clear HO0_0; clear BK174; clear BK175; clear HB; have HO0_0 := n0_; have BK174 := n1_; have BK175 := n2_; have HB := n3_; clear n0_ n1_ n2_ n3_; (try clear hb); (try clear hb2); (try clear hk); (try clear hi); have hcz31_0 : w30.cell? ⟨gb174, 0, none⟩ = some (.slice A0_0 l0_0.length c0_0) := (blk_cell BK174.out 0).trans rfl; have hfz31_0 := blk_frozen BK174.out 0; have hcz32_0 : w30.cell? ⟨gb175, 0, none⟩ = some (.slice none 0 0) := (blk_cell BK175.out 0).trans rfl; have hfz32_0 := blk_frozen BK175.out 0))
    refine bodyPost_ret (results_ct rfl _ _ gb175 57 #[.slice A0_0 l0_0.length c0_0] (0, 0) _ rfl (by (with_reducible repeat (first | refine blk_drewN ?_ _ | refine blk_drew ?_ | refine blk_alloc ?_ _)); refine blk_put (cs := #[.slice none 0 0]) ?_ 0 _ rfl; (with_reducible repeat (first | refine blk_drewN ?_ _ | refine blk_drew ?_ | refine blk_alloc ?_ _)); exact BK175.out) Try.underlying57 rfl (by kernel_rfl)) rfl ?_
    exact ⟨_, by first | rfl | (simp [errW_none, errW_some] <;> rfl) | (simp [*, errW_none, errW_some] <;> rfl), by (with_reducible repeat (first | apply Kd.V_alloc | apply Kd.V_drewN | apply Kd.V_drew)); exact Kd.V_mono (Kd.V_far (p := ⟨gb175, 0, none⟩) (Kd.V_mono HO0_0.out (fun k_ hk => (⟨hk, hk.2⟩ : _ ∧ k_ ≠ gb175))) (fun _ hk => hk.2) (.slice A0_0 l0_0.length c0_0)) (fun _ hk => hk.1.1.1), by repeat (first | (with_reducible first | exact HB.out | apply below_alloc | apply pw_below_drewN | apply below_drew1 | refine below_set ?_ GE174.out | refine below_set ?_ GE175.out) | exact HB.out)⟩

-- NOT PRINTED: function 72 (marginaliaref05_Add)

end Go.Proofs.Ytnkaidaflegnlaa.A
