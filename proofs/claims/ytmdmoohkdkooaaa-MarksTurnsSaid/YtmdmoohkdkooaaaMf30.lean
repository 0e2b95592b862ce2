/- The functions of the program that these laws reach, each as a plain Lean function, and the proof that the machine's call comes to it; no condition beyond those that each theorem names. Made by wip/xprint.py. -/
import Derived.Test.YtmdmoohkdkooaaaMx0
import Derived.Test.YtmdmoohkdkooaaaMf54
import Derived.Test.YtmdmoohkdkooaaaMh
import Derived.Test.YtmdmoohkdkooaaaMf24
import Derived.Test.YtmdmoohkdkooaaaMf55
namespace Go.Proofs.Ytmdmoohkdkooaaa.M
open Go.RowKit Go.Proofs.YtmdmoohkdkooaaaW.PrintWords Go.Proofs.YtmdmoohkdkooaaaW.PrintLast Go.Proofs.YtmdmoohkdkooaaaW.PrintMore
attribute [local go_sem] max2_int min2_int max_two min_two max_three min_three max_four min_four   -- for this text's walks alone
set_option linter.unusedVariables false
set_option linter.unusedSimpArgs false

/-! ### marginaliaref07_Clear: function 30 -/
def marginaliaref07_Clear.l0 : Nat → List (S27) → List (S27) → Int → Int → Option ((List (S27)))
  | 0, _, _, _, _ => none
  | k + 1, x0, x3, x4, x5 => if x5 < x4 then (if 0 ≤ x5 then (if x5 < (x0.length : Int) then (if x3.length < 2932031007402 then (marginaliaref07_Clear.l0 k x0 (x3 ++ [(⟨(rd_T27 x0 x5).f0, (rd_T27 x0 x5).f1, (rd_T27 x0 x5).f2⟩ : S27)]) x4 (wrap64 (x5 + 1))) else (none)) else (none)) else (none)) else (some x3)
def marginaliaref07_Clear.f (k : Nat) (l0 : List (S27)) : Option ((List (S27))) := (marginaliaref07_behind.f k l0).bind fun t290 => (marginaliaref07_Clear.l0 k l0 (([] : List (S27))) (wrap64 (t290 - 1)) 0)
theorem marginaliaref07_Clear.mono_l : ∀ k, (∀ y0 y1 y2 y3, LeO (marginaliaref07_Clear.l0 k y0 y1 y2 y3) (marginaliaref07_Clear.l0 (k + 1) y0 y1 y2 y3))
  | 0 => fun _ _ _ _ r h => by simp [marginaliaref07_Clear.l0] at h
  | k + 1 => by
    have ih0 := marginaliaref07_Clear.mono_l k
    · intro y0 y1 y2 y3
      unfold marginaliaref07_Clear.l0
      repeat' first
      | (with_reducible exact ih0 _ _ _ _)
      | (with_reducible exact marginaliaref07_behind.mono _ _)
      | (with_reducible exact LeO.refl _)
      | (with_reducible exact LeO.none _)
      | (with_reducible refine LeO.ite ?_ ?_)
      | (with_reducible refine LeO.bind ?_ (fun _ => ?_))
      | exact ih0 _ _ _ _
      | exact marginaliaref07_behind.mono _ _
      | exact LeO.none _
      | refine LeO.ite ?_ ?_
      | refine LeO.bind ?_ (fun _ => ?_)
theorem marginaliaref07_Clear.mono : ∀ a0 k, LeO (marginaliaref07_Clear.f k a0) (marginaliaref07_Clear.f (k + 1) a0) := by
  intro a0 k
  have ih0 := marginaliaref07_Clear.mono_l k
  unfold marginaliaref07_Clear.f
  repeat' first
      | (with_reducible exact ih0 _ _ _ _)
      | (with_reducible exact marginaliaref07_behind.mono _ _)
      | (with_reducible exact LeO.refl _)
      | (with_reducible exact LeO.none _)
      | (with_reducible refine LeO.ite ?_ ?_)
      | (with_reducible refine LeO.bind ?_ (fun _ => ?_))
      | exact ih0 _ _ _ _
      | exact marginaliaref07_behind.mono _ _
      | exact LeO.none _
      | refine LeO.ite ?_ ?_
      | refine LeO.bind ?_ (fun _ => ?_)
set_option maxHeartbeats 8000000 in
set_option maxRecDepth 100000 in
theorem marginaliaref07_Clear.calls (k : Nat) (P0_ : Nat → Prop) (A0 : Option Addr) (c0 : Nat) (l0 : List (S27)) (r : List (S27)) (w : World) (hs0 : Kd.V k27 27 w w.heap.size (fun k_ => P0_ k_) (.slice A0 l0.length c0) l0) (h : marginaliaref07_Clear.f k l0 = some r) :
    Calls Try.prog 30 #[.slice A0 l0.length c0] w fun e w' => ∃ v0_ : Value, e = .returned (v0_) ∧ Kd.N k27 27 w' w.heap.size (fun k_ => (P0_ k_ ∨ w.heap.size ≤ k_)) v0_ r ∧ Below w.heap.size w w' := by
  have hu27 := Try.underlying27
  have HO0 := Aside0.mk (show Kd.V k27 27 w w.heap.size (fun k_ => (P0_ k_ ∨ w.heap.size ≤ k_)) (.slice A0 l0.length c0) l0 from Kd.V_mono hs0 (fun k_ hk => .inl hk))
  have HB := Aside0.mk (Below.refl w.heap.size w)
  have H : ((marginaliaref07_behind.f k l0).bind fun t290 => (marginaliaref07_Clear.l0 k l0 (([] : List (S27))) (wrap64 (t290 - 1)) 0)) = some r := h
  clear h
  obtain ⟨y287, hy287⟩ : ∃ y_ : List (S27), y_ = (([] : List (S27))) := ⟨_, rfl⟩
  replace H : ((marginaliaref07_behind.f k l0).bind fun t290 => (marginaliaref07_Clear.l0 k l0 y287 (wrap64 (t290 - 1)) 0)) = some r := by first | (rw [hy287]; with_reducible exact H) | (have H2_ := (Option.bind_some _ _).symm.trans H; rw [hy287]; with_reducible exact H2_) | (have H2_ := (Option.bind_some _ _).symm.trans H; with_reducible exact H2_) | with_reducible exact H | (rw [hy287]; exact H) | exact H
  have Ny287 := Aside0.mk hy287
  clear hy287
  replace H := Option.bind_eq_some_iff.mp H
  obtain ⟨t290, A20, H⟩ := H
  replace H : (marginaliaref07_Clear.l0 k l0 y287 (wrap64 (t290 - 1)) 0) = some r := H
  have A2 := Aside0.mk A20
  clear A20
  have H' := Aside0.mk H
  clear H
  go_enter Try.func30, Try.ntmps30
  go_wp2_with (first | ((with_reducible refine gate_dst (N := 6) rfl ?_); refine Kd.N_lit k27 _ 27 ?hg (N' := 6) ?hd (xs := ([] : List (S27))) (inner := []) (ok := (fun k_ => (P0_ k_ ∨ w.heap.size ≤ k_))) (okp := (fun k_ => (P0_ k_ ∨ w.heap.size ≤ k_))) ?hr ?hp (fun _ hk => hk) ((show ∀ k_, w.heap.size ≤ k_ → (fun k_ => (P0_ k_ ∨ w.heap.size ≤ k_)) k_ from fun k_ hk => (.inr (Nat.le_trans (below_size (by repeat (first | (with_reducible first | exact HB.out | apply below_alloc | apply pw_below_drewN | apply below_drew1) | exact HB.out))) hk))) _ (Nat.le_refl _)) (Below.refl _ _) (Nat.le_refl _) (by simp) ?_; (case hd => rfl); (case hg => rfl); (case hr => first | (go_simp; done) | (go_simp; rfl)); (case hp => exact (Reps.none _ _)); intro v288 w3 ho4 hb hg_ hnew_; clear hg_ hnew_; (first | rw [← Ny287.out] at ho4 | (simp only [Int.reduceToNat] at ho4; rw [← Ny287.out] at ho4)); have n0_ := Aside0.mk (Kd.V_elder' (by (with_reducible repeat (first | apply Kd.V_alloc | apply Kd.V_drewN | apply Kd.V_drew)); exact HO0.out) (Kd.N_base ho4) hb); have n1_ := Aside0.mk (Kd.N_lower ho4 (below_size (by repeat (first | (with_reducible first | exact HB.out | apply below_alloc | apply pw_below_drewN | apply below_drew1) | exact HB.out)))); have n2_ := Aside0.mk (below_step (by repeat (first | (with_reducible first | exact HB.out | apply below_alloc | apply pw_below_drewN | apply below_drew1) | exact HB.out)) hb); clear HO0; clear HB; have HO0 := n0_; have HO289 := n1_; have HB := n2_; clear n0_ n1_ n2_; clear hb ho4) | ((with_reducible refine gate_callee (f := 54) rfl ?_); refine goesL_ (some 8) rfl rfl Try.func54 (by kernel_rfl) rfl #[.slice A0 l0.length c0] rfl (by (try simp only [List.map_toArray, List.map_cons, List.map_nil]); first | done | rfl | (simp only [List.length_drop, List.length_take]; rfl)) ?_; (with_reducible refine (marginaliaref07_behind.calls k _ _ l0 t290 _ ?side1 ?side2 A2.out).mono ?_); (case side1 => repeat (first | exact (Kd.V_reads' HO0.out).2.2 | (with_reducible refine Kd.C_alloc ?_ _) | (with_reducible refine Kd.C_drewN ?_ _) | (with_reducible refine Kd.C_drew ?_))); (case side2 => exact (Kd.V_reads' HO0.out).2.1); rintro e w' ⟨rfl, ⟨nd, rfl⟩⟩; refine ⟨_, rfl, ?_⟩))
  go_loopg [3, 5] k (fun kq v3 v5 w' => ∃ (x3_1 : List (S27)) (x5_1 : Int), v5 = .int .i64 x5_1 ∧ Aside0 (marginaliaref07_Clear.l0 kq l0 x3_1 (wrap64 (t290 - 1)) x5_1 = some r) ∧ Aside0 (kq ≤ k) ∧ Aside0 (Kd.V k27 27 w' w.heap.size (fun k_ => (P0_ k_ ∨ w.heap.size ≤ k_) ∧ some k_ ≠ (v3 : Value).ownBlock) (.slice A0 l0.length c0) l0) ∧ Aside0 (Kd.N k27 27 w' w.heap.size (fun k_ => (P0_ k_ ∨ w.heap.size ≤ k_)) v3 x3_1) ∧ Aside0 (Below w.heap.size w w'))
  case atStart => exact ⟨(y287), (0), (by first | rfl | (simp; done) | (simp [*]; done)), H', ⟨Nat.le_refl _⟩, ⟨by (with_reducible repeat (first | apply Kd.V_alloc | apply Kd.V_drewN | apply Kd.V_drew)); exact HO0.out⟩, ⟨by (with_reducible repeat (first | apply Kd.N_alloc | apply Kd.N_drewN | apply Kd.N_drew)); exact HO289.out⟩, ⟨by repeat (first | (with_reducible first | exact HB.out | apply below_alloc | apply pw_below_drewN | apply below_drew1) | exact HB.out)⟩⟩
  case round =>
    clear H'
    try clear p2
    try clear c3
    obtain ⟨x3_1, x5_1, rfl, HA, HK1, HO_0, HO_3, HB⟩ := hrel
    cases gk with
    | zero => exact absurd HA.out (by simp [marginaliaref07_Clear.l0])
    | succ k1 =>
      have H := HA.out
      clear HA
      simp only [marginaliaref07_Clear.l0] at H
      by_cases c5 : x5_1 < (wrap64 (t290 - 1))
      · rw [if_pos c5] at H
        have c5b0 : decide (x5_1 < (wrap64 (t290 - 1))) = true := decide_eq_true c5
        clear c5
        by_cases c6 : 0 ≤ x5_1
        · rw [if_pos c6] at H
          have c6b0 : decide (0 ≤ x5_1) = true := decide_eq_true c6
          clear c6
          by_cases c7 : x5_1 < (l0.length : Int)
          · rw [if_pos c7] at H
            have c7b0 : decide (x5_1 < (l0.length : Int)) = true := decide_eq_true c7
            clear c7
            by_cases c8 : x3_1.length < 2932031007402
            · rw [if_pos c8] at H
              have LMc8 := Aside0.mk c8
              clear c8
              obtain ⟨y292, hy292⟩ : ∃ y_ : List (S27), y_ = (x3_1 ++ [(⟨(rd_T27 l0 x5_1).f0, (rd_T27 l0 x5_1).f1, (rd_T27 l0 x5_1).f2⟩ : S27)]) := ⟨_, rfl⟩
              replace H : (marginaliaref07_Clear.l0 k1 l0 y292 (wrap64 (t290 - 1)) (wrap64 (x5_1 + 1))) = some r := by first | (rw [hy292]; with_reducible exact H) | (have H2_ := (Option.bind_some _ _).symm.trans H; rw [hy292]; with_reducible exact H2_) | (have H2_ := (Option.bind_some _ _).symm.trans H; with_reducible exact H2_) | with_reducible exact H | (rw [hy292]; exact H) | exact H
              have Ny292 := Aside0.mk hy292
              clear hy292
              have H' := Aside0.mk H
              clear H
              have p291 : 0 ≤ (x5_1 : Int) := of_decide_eq_true (by first | (with_reducible assumption) | assumption)
              have q291 : x5_1 < (l0.length : Int) := of_decide_eq_true (by first | (with_reducible assumption) | assumption)
              obtain ⟨ad291, A291_2, c291_2, e291, hx291_0, hx291_1, hx291_2, hl291_2, hi291_2⟩ := at_T27 (Kd.V_reads' HO_0.out).2.2 x5_1 p291 q291
              cases e291
              obtain ⟨ce291, hce291, hMe291, hcc291⟩ := Kd.V_get HO_0.out z27 x5_1 p291 (by first | exact q291 | exact of_decide_eq_true (by first | (with_reducible assumption) | assumption) | (have e_ := (Kd.V_reads' HO_0.out).1; omega))
              obtain ⟨ua291_2, uc291_2, rfl, ul291_2, ge291_2⟩ := k27_openF hMe291
              have hv291_2 := hcc291 2 _ rfl
              rw [add_field _ _ 2 (by omega)] at hv291_2
              replace hv291_2 := Option.some.inj (hv291_2.symm.trans hx291_2)
              injection hv291_2 with hva_ hvn_ hvc_
              rw [hva_] at ge291_2
              rw [hvc_] at ul291_2
              have HL291_2 := Aside0.mk (show Kd.V k70 70 _ w.heap.size _ _ ((rd_T27 l0 x5_1).f2) from Kd.V_mk ul291_2 ge291_2)
              clear hva_ hvn_ hvc_ ge291_2 ul291_2
              clear hcc291 hce291
              have HR291_2 := Aside0.mk hi291_2
              have HC291_2 := Aside0.mk hl291_2
              clear hi291_2 hl291_2
              replace p291 := eq_true p291
              replace q291 := eq_true q291
              go_wp2_with (first | ((with_reducible refine gate_builtin (b := .append) (xs := #[.tmp 15, .tmp 20]) rfl ?_); at_builtin; refine Kd.N_append k27 (w0 := w) w.heap.size rfl (.tmp 15) (.tmp 20) 25 27 (.agg #[(.int .i64 0), (.string ⟨#[]⟩), (.slice none 0 0)]) 48 rfl Try.underlying25 info27 rfl (by decide) (by omega) u3 x3_1 (⟨(rd_T27 l0 x5_1).f0, (rd_T27 l0 x5_1).f1, (rd_T27 l0 x5_1).f2⟩ : S27) [.int .i64 ((rd_T27 l0 x5_1).f0), .string ((rd_T27 l0 x5_1).f1), .slice A291_2 ((rd_T27 l0 x5_1).f2).length c291_2] (fun k_ => (P0_ k_ ∨ w.heap.size ≤ k_)) (fun k_ => ((fun k_ => (P0_ k_ ∨ w.heap.size ≤ k_))) k_ ∧ some k_ ≠ (u3 : Value).ownBlock) rfl rfl ?aP (fun _ hk => hk) ?aF ?aO ?aB ?aS ?aL ?_; (case aP => exact (k27_mkF _ _ (⟨(rd_T27 l0 x5_1).f0, (rd_T27 l0 x5_1).f1, (rd_T27 l0 x5_1).f2⟩ : S27) (Kd.V_reads' (Kd.V_mono (ok' := (fun k_ => ((fun k_ => (P0_ k_ ∨ w.heap.size ≤ k_))) k_ ∧ some k_ ≠ (u3 : Value).ownBlock)) (HL291_2.out) (fun k_ hk => ⟨hk.1, hk.2⟩))).2.1 (Kd.V_F (Kd.V_mono (ok' := (fun k_ => ((fun k_ => (P0_ k_ ∨ w.heap.size ≤ k_))) k_ ∧ some k_ ≠ (u3 : Value).ownBlock)) (HL291_2.out) (fun k_ hk => ⟨hk.1, hk.2⟩))))); (case aB => exact (by repeat (first | (with_reducible first | exact HB.out | apply below_alloc | apply pw_below_drewN | apply below_drew1) | exact HB.out))); (case aF => exact (fun k_ hk => (.inr (Nat.le_trans (below_size (by repeat (first | (with_reducible first | exact HB.out | apply below_alloc | apply pw_below_drewN | apply below_drew1) | exact HB.out))) hk)))); (case aO => exact (by (with_reducible repeat (first | apply Kd.N_alloc | apply Kd.N_drewN | apply Kd.N_drew)); exact HO_3.out)); (case aS => exact (below_size (by repeat (first | (with_reducible first | exact HB.out | apply below_alloc | apply pw_below_drewN | apply below_drew1) | exact HB.out)))); (case aL => have := LMc8.out; omega); intro v293 w9 ho hb hg hat; rw [← Ny292.out] at ho; have n0_ := Aside0.mk (Kd.V_afterv (ok := (fun k_ => (P0_ k_ ∨ w.heap.size ≤ k_))) (by (with_reducible repeat (first | apply Kd.V_alloc | apply Kd.V_drewN | apply Kd.V_drew)); exact HO_0.out) hg hat); have n1_ := Aside0.mk (Kd.V_afterv (ok := (fun k_ => (P0_ k_ ∨ w.heap.size ≤ k_))) (by (with_reducible repeat (first | apply Kd.V_alloc | apply Kd.V_drewN | apply Kd.V_drew)); exact HL291_2.out) hg hat); have n2_ := Aside0.mk (hb); have n3_ := Aside0.mk (ho); clear HO_0; clear HL291_2; clear HB; clear HO_3; have HO_0 := n0_; have HL291_2 := n1_; have HB := n2_; have HO294 := n3_; clear n0_ n1_ n2_ n3_; clear ho hb hg hat))
              go_roundg k1
              case measure => have := HK1.out; omega
              case rel => exact ⟨(y292), (wrap64 (x5_1 + 1)), (by first | rfl | (simp; done) | (simp [*]; done)), H', ⟨by have := HK1.out; omega⟩, ⟨by (with_reducible repeat (first | apply Kd.V_alloc | apply Kd.V_drewN | apply Kd.V_drew)); exact HO_0.out⟩, ⟨by (with_reducible repeat (first | apply Kd.N_alloc | apply Kd.N_drewN | apply Kd.N_drew)); exact HO294.out⟩, ⟨by repeat (first | (with_reducible first | exact HB.out | apply below_alloc | apply pw_below_drewN | apply below_drew1) | exact HB.out)⟩⟩
            · rw [if_neg c8] at H
              exact absurd H (by simp)
          · rw [if_neg c7] at H
            exact absurd H (by simp)
        · rw [if_neg c6] at H
          exact absurd H (by simp)
      · rw [if_neg c5] at H
        have c5b0 : decide (x5_1 < (wrap64 (t290 - 1))) = false := decide_eq_false c5
        clear c5
        obtain rfl := Option.some.inj H
        go_wp2
        go_ret
        exact ⟨_, by first | rfl | (simp [errW_none, errW_some] <;> rfl) | (simp [*, errW_none, errW_some] <;> rfl), by (with_reducible repeat (first | apply Kd.N_alloc | apply Kd.N_drewN | apply Kd.N_drew)); exact HO_3.out, by repeat (first | (with_reducible first | exact HB.out | apply below_alloc | apply pw_below_drewN | apply below_drew1) | exact HB.out)⟩

/-! ### marginaliaref07_Drop: function 31 -/
def marginaliaref07_Drop.f (k : Nat) (l0 : List (S27)) (a1 : Int) : Option ((List (S27))) := (marginaliaref07_Find.f k l0 a1).bind fun t295 => ((marginaliaref07_without.f k l0 t295).bind fun t296 => (some t296))
theorem marginaliaref07_Drop.mono : ∀ a0 a1 k, LeO (marginaliaref07_Drop.f k a0 a1) (marginaliaref07_Drop.f (k + 1) a0 a1) := by
  intro a0 a1 k
  unfold marginaliaref07_Drop.f
  repeat' first
      | (with_reducible exact marginaliaref07_Find.mono _ _ _)
      | (with_reducible exact marginaliaref07_without.mono _ _ _)
      | (with_reducible exact LeO.refl _)
      | (with_reducible exact LeO.none _)
      | (with_reducible refine LeO.ite ?_ ?_)
      | (with_reducible refine LeO.bind ?_ (fun _ => ?_))
      | exact marginaliaref07_Find.mono _ _ _
      | exact marginaliaref07_without.mono _ _ _
      | exact LeO.none _
      | refine LeO.ite ?_ ?_
      | refine LeO.bind ?_ (fun _ => ?_)
set_option maxHeartbeats 8000000 in
set_option maxRecDepth 100000 in
theorem marginaliaref07_Drop.calls (k : Nat) (P0_ : Nat → Prop) (A0 : Option Addr) (c0 : Nat) (l0 : List (S27)) (a1 : Int) (r : List (S27)) (w : World) (hs0 : Kd.V k27 27 w w.heap.size (fun k_ => P0_ k_) (.slice A0 l0.length c0) l0) (h : marginaliaref07_Drop.f k l0 a1 = some r) :
    Calls Try.prog 31 #[.slice A0 l0.length c0, .int .i64 a1] w fun e w' => ∃ v0_ : Value, e = .returned (v0_) ∧ Kd.N k27 27 w' w.heap.size (fun k_ => (P0_ k_ ∨ w.heap.size ≤ k_)) v0_ r ∧ Below w.heap.size w w' := by
  have HO0 := Aside0.mk (show Kd.V k27 27 w w.heap.size (fun k_ => (P0_ k_ ∨ w.heap.size ≤ k_)) (.slice A0 l0.length c0) l0 from Kd.V_mono hs0 (fun k_ hk => .inl hk))
  have HB := Aside0.mk (Below.refl w.heap.size w)
  have H : ((marginaliaref07_Find.f k l0 a1).bind fun t295 => ((marginaliaref07_without.f k l0 t295).bind fun t296 => (some t296))) = some r := h
  clear h
  replace H := Option.bind_eq_some_iff.mp H
  obtain ⟨t295, A30, H⟩ := H
  replace H : ((marginaliaref07_without.f k l0 t295).bind fun t296 => (some t296)) = some r := H
  have A3 := Aside0.mk A30
  clear A30
  replace H := Option.bind_eq_some_iff.mp H
  obtain ⟨t296, A40, H⟩ := H
  replace H : (some t296) = some r := H
  have A4 := Aside0.mk A40
  clear A40
  obtain rfl := Option.some.inj H
  go_enter Try.func31, Try.ntmps31
  go_wp2_with (first | ((with_reducible refine gate_callee (f := 24) rfl ?_); refine goesL_ (some 8) rfl rfl Try.func24 (by kernel_rfl) rfl #[.slice A0 l0.length c0, .int .i64 a1] rfl (by (try simp only [List.map_toArray, List.map_cons, List.map_nil]); first | done | rfl | (simp only [List.length_drop, List.length_take]; rfl)) ?_; (with_reducible refine (marginaliaref07_Find.calls k _ _ l0 a1 t295 _ ?side1 ?side2 A3.out).mono ?_); (case side1 => repeat (first | exact (Kd.V_reads' HO0.out).2.2 | (with_reducible refine Kd.C_alloc ?_ _) | (with_reducible refine Kd.C_drewN ?_ _) | (with_reducible refine Kd.C_drew ?_))); (case side2 => exact (Kd.V_reads' HO0.out).2.1); rintro e w' ⟨rfl, ⟨nd, rfl⟩⟩; refine ⟨_, rfl, ?_⟩) | ((with_reducible refine gate_callee (f := 55) rfl ?_); refine goesL_ (some 11) rfl rfl Try.func55 (by kernel_rfl) rfl #[.slice A0 l0.length c0, .int .i64 t295] rfl (by (try simp only [List.map_toArray, List.map_cons, List.map_nil]); first | done | rfl | (simp only [List.length_drop, List.length_take]; rfl)) ?_; (with_reducible refine (marginaliaref07_without.calls k (fun k_ => (P0_ k_ ∨ w.heap.size ≤ k_)) _ _ l0 t295 t296 _ ?side1 A4.out).mono ?_); (case side1 => exact HO0.out); rintro e w5 ⟨v297, rfl, ho0, hb⟩; refine ⟨_, rfl, ?_⟩; have n0_ := Aside0.mk (Kd.V_elder' (by (with_reducible repeat (first | apply Kd.V_alloc | apply Kd.V_drewN | apply Kd.V_drew)); exact HO0.out) (Kd.N_base ho0) hb); have n1_ := Aside0.mk (Kd.N_lower (Kd.N_mono (ok' := fun k_ => (P0_ k_ ∨ w.heap.size ≤ k_)) ho0 (fun k_ hk_ => Or.elim hk_ (fun hs_ => hs_) (fun hn_ => (.inr (Nat.le_trans (below_size (by repeat (first | (with_reducible first | exact HB.out | apply below_alloc | apply pw_below_drewN | apply below_drew1) | exact HB.out))) hn_))))) (below_size (by repeat (first | (with_reducible first | exact HB.out | apply below_alloc | apply pw_below_drewN | apply below_drew1) | exact HB.out)))); have n2_ := Aside0.mk (below_step (by repeat (first | (with_reducible first | exact HB.out | apply below_alloc | apply pw_below_drewN | apply below_drew1) | exact HB.out)) hb); clear HO0; clear HB; have HO0 := n0_; have HO298 := n1_; have HB := n2_; clear n0_ n1_ n2_; (try clear hb); (try clear hb2); (try clear hk); (try clear hi); (try clear ho0)))
  go_ret
  exact ⟨_, by first | rfl | (simp [errW_none, errW_some] <;> rfl) | (simp [*, errW_none, errW_some] <;> rfl), by (with_reducible repeat (first | apply Kd.N_alloc | apply Kd.N_drewN | apply Kd.N_drew)); exact HO298.out, by repeat (first | (with_reducible first | exact HB.out | apply below_alloc | apply pw_below_drewN | apply below_drew1) | exact HB.out)⟩

/-! ### marginaliaref07_Insert: function 32 -/
mutual
def marginaliaref07_Insert.j0 : Nat → List (S27) → Int → List (S27) → Int → ByteArray → List (S70) → Option ((List (S27)))
  | 0, _, _, _, _, _, _ => none
  | k + 1, x0, x1, x7, x300000, x300001, x300002 => marginaliaref07_Insert.l0 k x0 x1 x7 0 x300000 x300001 x300002
def marginaliaref07_Insert.l0 : Nat → List (S27) → Int → List (S27) → Int → Int → ByteArray → List (S70) → Option ((List (S27)))
  | 0, _, _, _, _, _, _, _ => none
  | k + 1, x0, x1, x7, x8, x300000, x300001, x300002 => if x8 < (x0.length : Int) then (if x8 = x1 then (if x7.length < 2932031007402 then ((some (x7 ++ [(⟨x300000, x300001, x300002⟩ : S27)] : List (S27))).bind fun y303 => (if 0 ≤ x8 then (if y303.length < 2932031007402 then (marginaliaref07_Insert.l0 k x0 x1 (y303 ++ [(⟨(rd_T27 x0 x8).f0, (rd_T27 x0 x8).f1, (rd_T27 x0 x8).f2⟩ : S27)]) (wrap64 (x8 + 1)) x300000 x300001 x300002) else (none)) else (none))) else (none)) else (if 0 ≤ x8 then (if x7.length < 2932031007402 then (marginaliaref07_Insert.l0 k x0 x1 (x7 ++ [(⟨(rd_T27 x0 x8).f0, (rd_T27 x0 x8).f1, (rd_T27 x0 x8).f2⟩ : S27)]) (wrap64 (x8 + 1)) x300000 x300001 x300002) else (none)) else (none))) else (if x1 ≥ (x0.length : Int) then (if x7.length < 2932031007402 then (some (x7 ++ [(⟨x300000, x300001, x300002⟩ : S27)])) else (none)) else (some x7))
end
def marginaliaref07_Insert.f (k : Nat) (l0 : List (S27)) (a1 : Int) (a2_0 : Int) (a2_1 : ByteArray) (l2_2 : List (S70)) : Option ((List (S27))) := (some (([] : List (S27)) : List (S27))).bind fun y300 => (if a1 < 0 then (marginaliaref07_Insert.j0 k l0 0 y300 a2_0 a2_1 l2_2) else (marginaliaref07_Insert.j0 k l0 a1 y300 a2_0 a2_1 l2_2))
theorem marginaliaref07_Insert.mono_l : ∀ k, (∀ y0 y1 y2 y3 y4 y5, LeO (marginaliaref07_Insert.j0 k y0 y1 y2 y3 y4 y5) (marginaliaref07_Insert.j0 (k + 1) y0 y1 y2 y3 y4 y5)) ∧ (∀ y0 y1 y2 y3 y4 y5 y6, LeO (marginaliaref07_Insert.l0 k y0 y1 y2 y3 y4 y5 y6) (marginaliaref07_Insert.l0 (k + 1) y0 y1 y2 y3 y4 y5 y6))
  | 0 => ⟨fun _ _ _ _ _ _ r h => by simp [marginaliaref07_Insert.j0] at h, fun _ _ _ _ _ _ _ r h => by simp [marginaliaref07_Insert.l0] at h⟩
  | k + 1 => by
    obtain ⟨ih0, ih1⟩ := marginaliaref07_Insert.mono_l k
    refine ⟨?_, ?_⟩
    · intro y0 y1 y2 y3 y4 y5
      unfold marginaliaref07_Insert.j0
      repeat' first
      | (with_reducible exact ih0 _ _ _ _ _ _)
      | (with_reducible exact ih1 _ _ _ _ _ _ _)
      | (with_reducible exact LeO.refl _)
      | (with_reducible exact LeO.none _)
      | (with_reducible refine LeO.ite ?_ ?_)
      | (with_reducible refine LeO.bind ?_ (fun _ => ?_))
      | exact ih0 _ _ _ _ _ _
      | exact ih1 _ _ _ _ _ _ _
      | exact LeO.none _
      | refine LeO.ite ?_ ?_
      | refine LeO.bind ?_ (fun _ => ?_)
    · intro y0 y1 y2 y3 y4 y5 y6
      unfold marginaliaref07_Insert.l0
      repeat' first
      | (with_reducible exact ih0 _ _ _ _ _ _)
      | (with_reducible exact ih1 _ _ _ _ _ _ _)
      | (with_reducible exact LeO.refl _)
      | (with_reducible exact LeO.none _)
      | (with_reducible refine LeO.ite ?_ ?_)
      | (with_reducible refine LeO.bind ?_ (fun _ => ?_))
      | exact ih0 _ _ _ _ _ _
      | exact ih1 _ _ _ _ _ _ _
      | exact LeO.none _
      | refine LeO.ite ?_ ?_
      | refine LeO.bind ?_ (fun _ => ?_)
theorem marginaliaref07_Insert.mono : ∀ a0 a1 a2 a3 a4 k, LeO (marginaliaref07_Insert.f k a0 a1 a2 a3 a4) (marginaliaref07_Insert.f (k + 1) a0 a1 a2 a3 a4) := by
  intro a0 a1 a2 a3 a4 k
  obtain ⟨ih0, ih1⟩ := marginaliaref07_Insert.mono_l k
  unfold marginaliaref07_Insert.f
  repeat' first
      | (with_reducible exact ih0 _ _ _ _ _ _)
      | (with_reducible exact ih1 _ _ _ _ _ _ _)
      | (with_reducible exact LeO.refl _)
      | (with_reducible exact LeO.none _)
      | (with_reducible refine LeO.ite ?_ ?_)
      | (with_reducible refine LeO.bind ?_ (fun _ => ?_))
      | exact ih0 _ _ _ _ _ _
      | exact ih1 _ _ _ _ _ _ _
      | exact LeO.none _
      | refine LeO.ite ?_ ?_
      | refine LeO.bind ?_ (fun _ => ?_)
set_option maxHeartbeats 8000000 in
set_option maxRecDepth 100000 in
theorem marginaliaref07_Insert.calls (k : Nat) (P0_ : Nat → Prop) (A0 : Option Addr) (c0 : Nat) (l0 : List (S27)) (a1 : Int) (a2_0 : Int) (a2_1 : ByteArray) (P2_2_ : Nat → Prop) (A2_2 : Option Addr) (c2_2 : Nat) (l2_2 : List (S70)) (r : List (S27)) (w : World) (hs0 : Kd.V k27 27 w w.heap.size (fun k_ => P0_ k_) (.slice A0 l0.length c0) l0) (hs2_2 : Kd.V k70 70 w w.heap.size (fun k_ => P2_2_ k_) (.slice A2_2 l2_2.length c2_2) l2_2) (h : marginaliaref07_Insert.f k l0 a1 a2_0 a2_1 l2_2 = some r) :
    Calls Try.prog 32 #[.slice A0 l0.length c0, .int .i64 a1, .agg #[.int .i64 a2_0, .string a2_1, .slice A2_2 l2_2.length c2_2]] w fun e w' => ∃ v0_ : Value, e = .returned (v0_) ∧ Kd.N k27 27 w' w.heap.size (fun k_ => ((P0_ k_ ∨ P2_2_ k_) ∨ w.heap.size ≤ k_)) v0_ r ∧ Below w.heap.size w w' := by
  have hu27 := Try.underlying27
  have HO0 := Aside0.mk (show Kd.V k27 27 w w.heap.size (fun k_ => ((P0_ k_ ∨ P2_2_ k_) ∨ w.heap.size ≤ k_)) (.slice A0 l0.length c0) l0 from Kd.V_mono hs0 (fun k_ hk => .inl (.inl hk)))
  have HO2_2 := Aside0.mk (show Kd.V k70 70 w w.heap.size (fun k_ => ((P0_ k_ ∨ P2_2_ k_) ∨ w.heap.size ≤ k_)) (.slice A2_2 l2_2.length c2_2) l2_2 from Kd.V_mono hs2_2 (fun k_ hk => .inl (.inr hk)))
  have HB := Aside0.mk (Below.refl w.heap.size w)
  have H : ((some (([] : List (S27)) : List (S27))).bind fun y300 => (if a1 < 0 then (marginaliaref07_Insert.j0 k l0 0 y300 a2_0 a2_1 l2_2) else (marginaliaref07_Insert.j0 k l0 a1 y300 a2_0 a2_1 l2_2))) = some r := h
  clear h
  obtain ⟨y300, hy300⟩ : ∃ y_ : List (S27), y_ = (([] : List (S27))) := ⟨_, rfl⟩
  replace H : (if a1 < 0 then (marginaliaref07_Insert.j0 k l0 0 y300 a2_0 a2_1 l2_2) else (marginaliaref07_Insert.j0 k l0 a1 y300 a2_0 a2_1 l2_2)) = some r := by first | (rw [hy300]; with_reducible exact H) | (have H2_ := (Option.bind_some _ _).symm.trans H; rw [hy300]; with_reducible exact H2_) | (have H2_ := (Option.bind_some _ _).symm.trans H; with_reducible exact H2_) | with_reducible exact H | (rw [hy300]; exact H) | exact H
  have Ny300 := Aside0.mk hy300
  clear hy300
  have HC4 := Aside0.mk H
  clear H
  go_enter Try.func32, Try.ntmps32
  go_upto_if 11 with (first | ((with_reducible refine gate_dst (N := 5) rfl ?_); refine box_event ?hg (N := 5) ?hd (cs := #[.int .i64 a2_0, .string a2_1, .slice A2_2 l2_2.length c2_2]) (t := 27) ?hr ?_; (case hd => rfl); (case hg => rfl); (case hr => first | (go_simp; done) | (go_simp; rfl)); intro gb299 hg w5 hbox hb; have n0_ := Aside0.mk (Kd.V_below (Kd.V_elderB (by (with_reducible repeat (first | apply Kd.V_alloc | apply Kd.V_drewN | apply Kd.V_drew)); exact HO0.out) gb299 (Nat.le_of_eq hg.symm)) hb); have n1_ := Aside0.mk (Kd.V_below (Kd.V_elderB (by (with_reducible repeat (first | apply Kd.V_alloc | apply Kd.V_drewN | apply Kd.V_drew)); exact HO2_2.out) gb299 (Nat.le_of_eq hg.symm)) hb); have n2_ := Aside0.mk (below_step (by repeat (first | (with_reducible first | exact HB.out | apply below_alloc | apply pw_below_drewN | apply below_drew1) | exact HB.out)) hb); have n3_ := Aside0.mk (hbox); have n4_ := Aside0.mk ((by rw [hg]; exact (below_size (by repeat (first | (with_reducible first | exact HB.out | apply below_alloc | apply pw_below_drewN | apply below_drew1) | exact HB.out))) : w.heap.size ≤ gb299)); have n5_ := Aside0.mk ((by rw [hg]; exact (below_size (by repeat (first | (with_reducible first | exact HB.out | apply below_alloc | apply pw_below_drewN | apply below_drew1) | exact HB.out))) : w.heap.size ≤ gb299)); clear HO0; clear HO2_2; clear HB; have HO0 := n0_; have HO2_2 := n1_; have HB := n2_; have BK299 := n3_; have GW299 := n4_; have GE299 := n5_; clear n0_ n1_ n2_ n3_ n4_ n5_; clear hb hbox hg) | ((with_reducible refine gate_dst (N := 9) rfl ?_); refine Kd.N_lit k27 _ 27 ?hg (N' := 9) ?hd (xs := ([] : List (S27))) (inner := []) (ok := (fun k_ => ((P0_ k_ ∨ P2_2_ k_) ∨ w.heap.size ≤ k_) ∧ k_ ≠ gb299)) (okp := (fun k_ => ((P0_ k_ ∨ P2_2_ k_) ∨ w.heap.size ≤ k_) ∧ k_ ≠ gb299)) ?hr ?hp (fun _ hk => hk) ((show ∀ k_, w5.heap.size ≤ k_ → (fun k_ => ((P0_ k_ ∨ P2_2_ k_) ∨ w.heap.size ≤ k_) ∧ k_ ≠ gb299) k_ from fun k_ hk => ⟨(.inr (Nat.le_trans (below_size (by repeat (first | (with_reducible first | exact HB.out | apply below_alloc | apply pw_below_drewN | apply below_drew1 | refine below_set ?_ GE299.out) | exact HB.out))) hk)), Kd.freshB (g := gb299) (o := .cells #[.int .i64 a2_0, .string a2_1, .slice A2_2 l2_2.length c2_2] 27 (0, 0)) (by (with_reducible repeat (first | refine blk_drewN ?_ _ | refine blk_drew ?_ | refine blk_alloc ?_ _)); exact BK299.out) k_ hk⟩) _ (Nat.le_refl _)) (Below.refl _ _) (Nat.le_refl _) (by simp) ?_; (case hd => rfl); (case hg => rfl); (case hr => first | (go_simp; done) | (go_simp; rfl)); (case hp => exact (Reps.none _ _)); intro v301 w6 ho7 hb hg_ hnew_; clear hg_ hnew_; (first | rw [← Ny300.out] at ho7 | (simp only [Int.reduceToNat] at ho7; rw [← Ny300.out] at ho7)); have n0_ := Aside0.mk (Kd.V_elder' (by (with_reducible repeat (first | apply Kd.V_alloc | apply Kd.V_drewN | apply Kd.V_drew)); exact HO0.out) (Kd.N_base ho7) hb); have n1_ := Aside0.mk (Kd.V_elder' (by (with_reducible repeat (first | apply Kd.V_alloc | apply Kd.V_drewN | apply Kd.V_drew)); exact HO2_2.out) (Kd.N_base ho7) hb); have n2_ := Aside0.mk (Kd.N_lower ho7 (below_size (by repeat (first | (with_reducible first | exact HB.out | apply below_alloc | apply pw_below_drewN | apply below_drew1 | refine below_set ?_ GE299.out) | exact HB.out)))); have n3_ := Aside0.mk (blk_below (g := gb299) (o := .cells #[.int .i64 a2_0, .string a2_1, .slice A2_2 l2_2.length c2_2] 27 (0, 0)) (by (with_reducible repeat (first | refine blk_drewN ?_ _ | refine blk_drew ?_ | refine blk_alloc ?_ _)); exact BK299.out) hb); have n4_ := Aside0.mk (below_step (by repeat (first | (with_reducible first | exact HB.out | apply below_alloc | apply pw_below_drewN | apply below_drew1 | refine below_set ?_ GE299.out) | exact HB.out)) hb); clear HO0; clear HO2_2; clear BK299; clear HB; have HO0 := n0_; have HO2_2 := n1_; have HO302 := n2_; have BK299 := n3_; have HB := n4_; clear n0_ n1_ n2_ n3_ n4_; clear hb ho7))
  (try simp only [Act.put, List.setIfInBounds_toArray, List.set_cons_zero, List.set_cons_succ])
  go_cut [1] (fun v1 wc => ∃ (kq : Nat) (x1_3 : Int), v1 = .int .i64 x1_3 ∧ Aside0 (marginaliaref07_Insert.j0 kq l0 x1_3 y300 a2_0 a2_1 l2_2 = some r) ∧ Aside0 (kq ≤ k) ∧ Aside0 (Kd.V k27 27 wc w.heap.size (fun k_ => ((P0_ k_ ∨ P2_2_ k_) ∨ w.heap.size ≤ k_) ∧ some k_ ≠ (v301 : Value).ownBlock ∧ k_ ≠ gb299) (.slice A0 l0.length c0) l0) ∧ Aside0 (Kd.N k27 27 wc w.heap.size (fun k_ => ((P0_ k_ ∨ P2_2_ k_) ∨ w.heap.size ≤ k_) ∧ k_ ≠ gb299) v301 y300) ∧ Aside0 (Kd.V k70 70 wc w.heap.size (fun k_ => ((P0_ k_ ∨ P2_2_ k_) ∨ w.heap.size ≤ k_) ∧ some k_ ≠ (v301 : Value).ownBlock ∧ k_ ≠ gb299) (.slice A2_2 l2_2.length c2_2) l2_2) ∧ Aside0 (wc.heap[gb299]? = some (.cells #[.int .i64 a2_0, .string a2_1, (.slice A2_2 l2_2.length c2_2)] 27 (0, 0))) ∧ Aside0 (Below w.heap.size w wc))
  case first =>
    have H := HC4.out
    clear HC4
    by_cases c8 : a1 < 0
    · rw [if_pos c8] at H
      have c8b0 : decide (a1 < 0) = true := decide_eq_true c8
      clear c8
      (first | rw [c8b0] | (simp only [i64_w, i32_w]; rw [c8b0]) | skip)
      have H' := Aside0.mk H
      clear H
      go_wp2
      go_meet
      case rel => exact ⟨_, (0), (by first | rfl | (simp; done) | (simp [*]; done)), H', ⟨by first | omega | exact Nat.le_refl _⟩, ⟨by (with_reducible repeat (first | apply Kd.V_alloc | apply Kd.V_drewN | apply Kd.V_drew)); exact Kd.V_mono HO0.out (fun _ hk => ⟨hk.1.1, ⟨hk.2, hk.1.2⟩⟩)⟩, ⟨by (with_reducible repeat (first | apply Kd.N_alloc | apply Kd.N_drewN | apply Kd.N_drew)); exact HO302.out⟩, ⟨by (with_reducible repeat (first | apply Kd.V_alloc | apply Kd.V_drewN | apply Kd.V_drew)); exact Kd.V_mono HO2_2.out (fun _ hk => ⟨hk.1.1, ⟨hk.2, hk.1.2⟩⟩)⟩, ⟨by (with_reducible repeat (first | refine blk_drewN ?_ _ | refine blk_drew ?_ | refine blk_alloc ?_ _)); exact BK299.out⟩, ⟨by repeat (first | (with_reducible first | exact HB.out | apply below_alloc | apply pw_below_drewN | apply below_drew1 | refine below_set ?_ GE299.out) | exact HB.out)⟩⟩
    · rw [if_neg c8] at H
      have c8b0 : decide (a1 < 0) = false := decide_eq_false c8
      clear c8
      (first | rw [c8b0] | (simp only [i64_w, i32_w]; rw [c8b0]) | skip)
      have H' := Aside0.mk H
      clear H
      go_wp2
      go_meet
      case rel => exact ⟨_, (a1), (by first | rfl | (simp; done) | (simp [*]; done)), H', ⟨by first | omega | exact Nat.le_refl _⟩, ⟨by (with_reducible repeat (first | apply Kd.V_alloc | apply Kd.V_drewN | apply Kd.V_drew)); exact Kd.V_mono HO0.out (fun _ hk => ⟨hk.1.1, ⟨hk.2, hk.1.2⟩⟩)⟩, ⟨by (with_reducible repeat (first | apply Kd.N_alloc | apply Kd.N_drewN | apply Kd.N_drew)); exact HO302.out⟩, ⟨by (with_reducible repeat (first | apply Kd.V_alloc | apply Kd.V_drewN | apply Kd.V_drew)); exact Kd.V_mono HO2_2.out (fun _ hk => ⟨hk.1.1, ⟨hk.2, hk.1.2⟩⟩)⟩, ⟨by (with_reducible repeat (first | refine blk_drewN ?_ _ | refine blk_drew ?_ | refine blk_alloc ?_ _)); exact BK299.out⟩, ⟨by repeat (first | (with_reducible first | exact HB.out | apply below_alloc | apply pw_below_drewN | apply below_drew1 | refine below_set ?_ GE299.out) | exact HB.out)⟩⟩
  case rest =>
    clear HC4
    try clear c2
    try clear p2
    try clear c3
    try clear c8
    try clear c8b0
    obtain ⟨kq, x1_3, rfl, HA, HJ3, HO_0, HO_7, HO_300002, BK299, HB⟩ := hcut
    cases kq with
    | zero => exact absurd HA.out (by simp [marginaliaref07_Insert.j0])
    | succ kj3 =>
      have H := HA.out
      clear HA
      simp only [marginaliaref07_Insert.j0] at H
      have H' := Aside0.mk H
      clear H
      go_wp2
      go_loopg [7, 8] kj3 (fun kq v7 v8 w' => ∃ (x7_2 : List (S27)) (x8_2 : Int), v8 = .int .i64 x8_2 ∧ Aside0 (marginaliaref07_Insert.l0 kq l0 x1_3 x7_2 x8_2 a2_0 a2_1 l2_2 = some r) ∧ Aside0 (kq ≤ kj3) ∧ Aside0 (Kd.V k27 27 w' w.heap.size (fun k_ => ((P0_ k_ ∨ P2_2_ k_) ∨ w.heap.size ≤ k_) ∧ some k_ ≠ (v7 : Value).ownBlock ∧ k_ ≠ gb299) (.slice A0 l0.length c0) l0) ∧ Aside0 (Kd.N k27 27 w' w.heap.size (fun k_ => ((P0_ k_ ∨ P2_2_ k_) ∨ w.heap.size ≤ k_) ∧ k_ ≠ gb299) v7 x7_2) ∧ Aside0 (Kd.V k70 70 w' w.heap.size (fun k_ => ((P0_ k_ ∨ P2_2_ k_) ∨ w.heap.size ≤ k_) ∧ some k_ ≠ (v7 : Value).ownBlock ∧ k_ ≠ gb299) (.slice A2_2 l2_2.length c2_2) l2_2) ∧ Aside0 (w'.heap[gb299]? = some (.cells #[.int .i64 a2_0, .string a2_1, (.slice A2_2 l2_2.length c2_2)] 27 (0, 0))) ∧ Aside0 (Below w.heap.size w w'))
      case atStart => exact ⟨(y300), (0), (by first | rfl | (simp; done) | (simp [*]; done)), H', ⟨Nat.le_refl _⟩, ⟨by (with_reducible repeat (first | apply Kd.V_alloc | apply Kd.V_drewN | apply Kd.V_drew)); exact HO_0.out⟩, ⟨by (with_reducible repeat (first | apply Kd.N_alloc | apply Kd.N_drewN | apply Kd.N_drew)); exact HO_7.out⟩, ⟨by (with_reducible repeat (first | apply Kd.V_alloc | apply Kd.V_drewN | apply Kd.V_drew)); exact HO_300002.out⟩, ⟨by (with_reducible repeat (first | refine blk_drewN ?_ _ | refine blk_drew ?_ | refine blk_alloc ?_ _)); exact BK299.out⟩, ⟨by repeat (first | (with_reducible first | exact HB.out | apply below_alloc | apply pw_below_drewN | apply below_drew1 | refine below_set ?_ GE299.out) | exact HB.out)⟩⟩
      case round =>
        clear H'
        try clear c2
        try clear p2
        try clear c3
        try clear c8
        try clear c8b0
        try clear p2
        obtain ⟨x7_2, x8_2, rfl, HA, HK2, HO_0, HO_7, HO_300002, BK299, HB⟩ := hrel
        cases gk with
        | zero => exact absurd HA.out (by simp [marginaliaref07_Insert.l0])
        | succ k2 =>
          have H := HA.out
          clear HA
          simp only [marginaliaref07_Insert.l0] at H
          by_cases c9 : x8_2 < (l0.length : Int)
          · rw [if_pos c9] at H
            have c9b0 : decide (x8_2 < (l0.length : Int)) = true := decide_eq_true c9
            clear c9
            by_cases c10 : x8_2 = x1_3
            · rw [if_pos c10] at H
              have c10b0 : (x8_2 == x1_3) = true := beq_iff_eq.mpr c10
              have c10b1 : (x8_2 != x1_3) = false := bne_eq_false_iff_eq.mpr c10
              clear c10
              by_cases c11 : x7_2.length < 2932031007402
              · rw [if_pos c11] at H
                have LMc11 := Aside0.mk c11
                clear c11
                obtain ⟨y303, hy303⟩ : ∃ y_ : List (S27), y_ = (x7_2 ++ [(⟨a2_0, a2_1, l2_2⟩ : S27)]) := ⟨_, rfl⟩
                replace H : (if 0 ≤ x8_2 then (if y303.length < 2932031007402 then (marginaliaref07_Insert.l0 k2 l0 x1_3 (y303 ++ [(⟨(rd_T27 l0 x8_2).f0, (rd_T27 l0 x8_2).f1, (rd_T27 l0 x8_2).f2⟩ : S27)]) (wrap64 (x8_2 + 1)) a2_0 a2_1 l2_2) else (none)) else (none)) = some r := by first | (rw [hy303]; with_reducible exact H) | (have H2_ := (Option.bind_some _ _).symm.trans H; rw [hy303]; with_reducible exact H2_) | (have H2_ := (Option.bind_some _ _).symm.trans H; with_reducible exact H2_) | with_reducible exact H | (rw [hy303]; exact H) | exact H
                have Ny303 := Aside0.mk hy303
                clear hy303
                by_cases c12 : 0 ≤ x8_2
                · rw [if_pos c12] at H
                  have c12b0 : decide (0 ≤ x8_2) = true := decide_eq_true c12
                  clear c12
                  by_cases c13 : y303.length < 2932031007402
                  · rw [if_pos c13] at H
                    have LMc13 := Aside0.mk c13
                    clear c13
                    obtain ⟨y307, hy307⟩ : ∃ y_ : List (S27), y_ = (y303 ++ [(⟨(rd_T27 l0 x8_2).f0, (rd_T27 l0 x8_2).f1, (rd_T27 l0 x8_2).f2⟩ : S27)]) := ⟨_, rfl⟩
                    replace H : (marginaliaref07_Insert.l0 k2 l0 x1_3 y307 (wrap64 (x8_2 + 1)) a2_0 a2_1 l2_2) = some r := by first | (rw [hy307]; with_reducible exact H) | (have H2_ := (Option.bind_some _ _).symm.trans H; rw [hy307]; with_reducible exact H2_) | (have H2_ := (Option.bind_some _ _).symm.trans H; with_reducible exact H2_) | with_reducible exact H | (rw [hy307]; exact H) | exact H
                    have Ny307 := Aside0.mk hy307
                    clear hy307
                    have H' := Aside0.mk H
                    clear H
                    have hcz14_0 : wr.cell? ⟨gb299, 0, none⟩ = some (.int .i64 a2_0) := (blk_cell BK299.out 0).trans rfl
                    have hcz14_1 : wr.cell? ⟨gb299, 1, none⟩ = some (.string a2_1) := (blk_cell BK299.out 1).trans rfl
                    have hcz14_2 : wr.cell? ⟨gb299, 2, none⟩ = some (.slice A2_2 l2_2.length c2_2) := (blk_cell BK299.out 2).trans rfl
                    have hfz14_0 := blk_frozen BK299.out 0
                    have hfz14_1 := blk_frozen BK299.out 1
                    have hfz14_2 := blk_frozen BK299.out 2
                    go_wp2_with (first | ((with_reducible refine gate_builtin (b := .append) (xs := #[.tmp 21, .tmp 23]) rfl ?_); at_builtin; refine Kd.N_append k27 (w0 := w) w.heap.size rfl (.tmp 21) (.tmp 23) 25 27 (.agg #[(.int .i64 0), (.string ⟨#[]⟩), (.slice none 0 0)]) 48 rfl Try.underlying25 info27 rfl (by decide) (by omega) u7 x7_2 (⟨a2_0, a2_1, l2_2⟩ : S27) [.int .i64 a2_0, .string a2_1, .slice A2_2 l2_2.length c2_2] (fun k_ => ((P0_ k_ ∨ P2_2_ k_) ∨ w.heap.size ≤ k_) ∧ k_ ≠ gb299) (fun k_ => ((fun k_ => ((P0_ k_ ∨ P2_2_ k_) ∨ w.heap.size ≤ k_) ∧ k_ ≠ gb299)) k_ ∧ some k_ ≠ (u7 : Value).ownBlock) rfl rfl ?aP (fun _ hk => hk) ?aF ?aO ?aB ?aS ?aL ?_; (case aP => exact (k27_mkF _ _ (⟨a2_0, a2_1, l2_2⟩ : S27) (Kd.V_reads' (Kd.V_mono (ok' := (fun k_ => ((fun k_ => ((P0_ k_ ∨ P2_2_ k_) ∨ w.heap.size ≤ k_) ∧ k_ ≠ gb299)) k_ ∧ some k_ ≠ (u7 : Value).ownBlock)) (HO_300002.out) (fun k_ hk => ⟨⟨hk.1, hk.2.2⟩, hk.2.1⟩))).2.1 (Kd.V_F (Kd.V_mono (ok' := (fun k_ => ((fun k_ => ((P0_ k_ ∨ P2_2_ k_) ∨ w.heap.size ≤ k_) ∧ k_ ≠ gb299)) k_ ∧ some k_ ≠ (u7 : Value).ownBlock)) (HO_300002.out) (fun k_ hk => ⟨⟨hk.1, hk.2.2⟩, hk.2.1⟩))))); (case aB => exact (by repeat (first | (with_reducible first | exact HB.out | apply below_alloc | apply pw_below_drewN | apply below_drew1 | refine below_set ?_ GE299.out) | exact HB.out))); (case aF => exact (fun k_ hk => ⟨(.inr (Nat.le_trans (below_size (by repeat (first | (with_reducible first | exact HB.out | apply below_alloc | apply pw_below_drewN | apply below_drew1 | refine below_set ?_ GE299.out) | exact HB.out))) hk)), Kd.freshB (g := gb299) (o := .cells #[.int .i64 a2_0, .string a2_1, .slice A2_2 l2_2.length c2_2] 27 (0, 0)) (by (with_reducible repeat (first | refine blk_drewN ?_ _ | refine blk_drew ?_ | refine blk_alloc ?_ _)); exact BK299.out) k_ hk⟩)); (case aO => exact (by (with_reducible repeat (first | apply Kd.N_alloc | apply Kd.N_drewN | apply Kd.N_drew)); exact HO_7.out)); (case aS => exact (below_size (by repeat (first | (with_reducible first | exact HB.out | apply below_alloc | apply pw_below_drewN | apply below_drew1 | refine below_set ?_ GE299.out) | exact HB.out)))); (case aL => have := LMc11.out; omega); intro v304 w15 ho hb hg hat; rw [← Ny303.out] at ho; have n0_ := Aside0.mk (Kd.V_afterv (ok := (fun k_ => ((P0_ k_ ∨ P2_2_ k_) ∨ w.heap.size ≤ k_) ∧ k_ ≠ gb299)) (by (with_reducible repeat (first | apply Kd.V_alloc | apply Kd.V_drewN | apply Kd.V_drew)); exact Kd.V_mono HO_0.out (fun _ hk => ⟨⟨hk.1, hk.2.2⟩, hk.2.1⟩)) hg hat); have n1_ := Aside0.mk (Kd.V_afterv (ok := (fun k_ => ((P0_ k_ ∨ P2_2_ k_) ∨ w.heap.size ≤ k_) ∧ k_ ≠ gb299)) (by (with_reducible repeat (first | apply Kd.V_alloc | apply Kd.V_drewN | apply Kd.V_drew)); exact Kd.V_mono HO_300002.out (fun _ hk => ⟨⟨hk.1, hk.2.2⟩, hk.2.1⟩)) hg hat); have n2_ := Aside0.mk (blk_grown (g := gb299) (o := .cells #[.int .i64 a2_0, .string a2_1, .slice A2_2 l2_2.length c2_2] 27 (0, 0)) (by (with_reducible repeat (first | refine blk_drewN ?_ _ | refine blk_drew ?_ | refine blk_alloc ?_ _)); exact BK299.out) hg (Kd.N_away HO_7.out (fun _ hk => hk.2))); have n3_ := Aside0.mk (hb); have n4_ := Aside0.mk (ho); clear HO_0; clear HO_300002; clear BK299; clear HB; clear HO_7; have HO_0 := n0_; have HO_300002 := n1_; have BK299 := n2_; have HB := n3_; have HO305 := n4_; clear n0_ n1_ n2_ n3_ n4_; clear ho hb hg hat; have p306 : 0 ≤ (x8_2 : Int) := of_decide_eq_true (by first | (with_reducible assumption) | assumption); have q306 : x8_2 < (l0.length : Int) := of_decide_eq_true (by first | (with_reducible assumption) | assumption); obtain ⟨ad306, A306_2, c306_2, e306, hx306_0, hx306_1, hx306_2, hl306_2, hi306_2⟩ := at_T27 (Kd.V_reads' HO_0.out).2.2 x8_2 p306 q306; cases e306; obtain ⟨ce306, hce306, hMe306, hcc306⟩ := Kd.V_get HO_0.out z27 x8_2 p306 (by first | exact q306 | exact of_decide_eq_true (by first | (with_reducible assumption) | assumption) | (have e_ := (Kd.V_reads' HO_0.out).1; omega)); obtain ⟨ua306_2, uc306_2, rfl, ul306_2, ge306_2⟩ := k27_openF hMe306; have hv306_2 := hcc306 2 _ rfl; rw [add_field _ _ 2 (by omega)] at hv306_2; replace hv306_2 := Option.some.inj (hv306_2.symm.trans hx306_2); injection hv306_2 with hva_ hvn_ hvc_; rw [hva_] at ge306_2; rw [hvc_] at ul306_2; have HL306_2 := Aside0.mk (show Kd.V k70 70 _ w.heap.size _ _ ((rd_T27 l0 x8_2).f2) from Kd.V_mk ul306_2 ge306_2); clear hva_ hvn_ hvc_ ge306_2 ul306_2; clear hcc306 hce306; have HR306_2 := Aside0.mk hi306_2; have HC306_2 := Aside0.mk hl306_2; clear hi306_2 hl306_2; replace p306 := eq_true p306; replace q306 := eq_true q306) | ((with_reducible refine gate_builtin (b := .append) (xs := #[.tmp 25, .tmp 30]) rfl ?_); at_builtin; refine Kd.N_append k27 (w0 := w) w.heap.size rfl (.tmp 25) (.tmp 30) 25 27 (.agg #[(.int .i64 0), (.string ⟨#[]⟩), (.slice none 0 0)]) 48 rfl Try.underlying25 info27 rfl (by decide) (by omega) v304 y303 (⟨(rd_T27 l0 x8_2).f0, (rd_T27 l0 x8_2).f1, (rd_T27 l0 x8_2).f2⟩ : S27) [.int .i64 ((rd_T27 l0 x8_2).f0), .string ((rd_T27 l0 x8_2).f1), .slice A306_2 ((rd_T27 l0 x8_2).f2).length c306_2] (fun k_ => ((P0_ k_ ∨ P2_2_ k_) ∨ w.heap.size ≤ k_) ∧ k_ ≠ gb299) (fun k_ => ((fun k_ => ((P0_ k_ ∨ P2_2_ k_) ∨ w.heap.size ≤ k_) ∧ k_ ≠ gb299)) k_ ∧ some k_ ≠ (v304 : Value).ownBlock) rfl rfl ?aP (fun _ hk => hk) ?aF ?aO ?aB ?aS ?aL ?_; (case aP => exact (k27_mkF _ _ (⟨(rd_T27 l0 x8_2).f0, (rd_T27 l0 x8_2).f1, (rd_T27 l0 x8_2).f2⟩ : S27) (Kd.V_reads' (Kd.V_mono (ok' := (fun k_ => ((fun k_ => ((P0_ k_ ∨ P2_2_ k_) ∨ w.heap.size ≤ k_) ∧ k_ ≠ gb299)) k_ ∧ some k_ ≠ (v304 : Value).ownBlock)) (HL306_2.out) (fun k_ hk => ⟨⟨hk.1.1, hk.1.2⟩, hk.2⟩))).2.1 (Kd.V_F (Kd.V_mono (ok' := (fun k_ => ((fun k_ => ((P0_ k_ ∨ P2_2_ k_) ∨ w.heap.size ≤ k_) ∧ k_ ≠ gb299)) k_ ∧ some k_ ≠ (v304 : Value).ownBlock)) (HL306_2.out) (fun k_ hk => ⟨⟨hk.1.1, hk.1.2⟩, hk.2⟩))))); (case aB => exact (by repeat (first | (with_reducible first | exact HB.out | apply below_alloc | apply pw_below_drewN | apply below_drew1 | refine below_set ?_ GE299.out) | exact HB.out))); (case aF => exact (fun k_ hk => ⟨(.inr (Nat.le_trans (below_size (by repeat (first | (with_reducible first | exact HB.out | apply below_alloc | apply pw_below_drewN | apply below_drew1 | refine below_set ?_ GE299.out) | exact HB.out))) hk)), Kd.freshB (g := gb299) (o := .cells #[.int .i64 a2_0, .string a2_1, .slice A2_2 l2_2.length c2_2] 27 (0, 0)) (by (with_reducible repeat (first | refine blk_drewN ?_ _ | refine blk_drew ?_ | refine blk_alloc ?_ _)); exact BK299.out) k_ hk⟩)); (case aO => exact (by (with_reducible repeat (first | apply Kd.N_alloc | apply Kd.N_drewN | apply Kd.N_drew)); exact HO305.out)); (case aS => exact (below_size (by repeat (first | (with_reducible first | exact HB.out | apply below_alloc | apply pw_below_drewN | apply below_drew1 | refine below_set ?_ GE299.out) | exact HB.out)))); (case aL => have := LMc13.out; omega); intro v308 w16 ho hb hg hat; rw [← Ny307.out] at ho; have n0_ := Aside0.mk (Kd.V_afterv (ok := (fun k_ => ((P0_ k_ ∨ P2_2_ k_) ∨ w.heap.size ≤ k_) ∧ k_ ≠ gb299)) (by (with_reducible repeat (first | apply Kd.V_alloc | apply Kd.V_drewN | apply Kd.V_drew)); exact HO_0.out) hg hat); have n1_ := Aside0.mk (Kd.V_afterv (ok := (fun k_ => ((P0_ k_ ∨ P2_2_ k_) ∨ w.heap.size ≤ k_) ∧ k_ ≠ gb299)) (by (with_reducible repeat (first | apply Kd.V_alloc | apply Kd.V_drewN | apply Kd.V_drew)); exact HO_300002.out) hg hat); have n2_ := Aside0.mk (blk_grown (g := gb299) (o := .cells #[.int .i64 a2_0, .string a2_1, .slice A2_2 l2_2.length c2_2] 27 (0, 0)) (by (with_reducible repeat (first | refine blk_drewN ?_ _ | refine blk_drew ?_ | refine blk_alloc ?_ _)); exact BK299.out) hg (Kd.N_away HO305.out (fun _ hk => hk.2))); have n3_ := Aside0.mk (Kd.V_afterv (ok := (fun k_ => ((P0_ k_ ∨ P2_2_ k_) ∨ w.heap.size ≤ k_) ∧ k_ ≠ gb299)) (by (with_reducible repeat (first | apply Kd.V_alloc | apply Kd.V_drewN | apply Kd.V_drew)); exact HL306_2.out) hg hat); have n4_ := Aside0.mk (hb); have n5_ := Aside0.mk (ho); clear HO_0; clear HO_300002; clear BK299; clear HL306_2; clear HB; clear HO305; have HO_0 := n0_; have HO_300002 := n1_; have BK299 := n2_; have HL306_2 := n3_; have HB := n4_; have HO309 := n5_; clear n0_ n1_ n2_ n3_ n4_ n5_; clear ho hb hg hat))
                    go_roundg k2
                    case measure => have := HJ3.out; have := HK2.out; omega
                    case rel => exact ⟨(y307), (wrap64 (x8_2 + 1)), (by first | rfl | (simp; done) | (simp [*]; done)), H', ⟨by have := HJ3.out; have := HK2.out; omega⟩, ⟨by (with_reducible repeat (first | apply Kd.V_alloc | apply Kd.V_drewN | apply Kd.V_drew)); exact Kd.V_mono HO_0.out (fun _ hk => ⟨hk.1.1, ⟨hk.2, hk.1.2⟩⟩)⟩, ⟨by (with_reducible repeat (first | apply Kd.N_alloc | apply Kd.N_drewN | apply Kd.N_drew)); exact HO309.out⟩, ⟨by (with_reducible repeat (first | apply Kd.V_alloc | apply Kd.V_drewN | apply Kd.V_drew)); exact Kd.V_mono HO_300002.out (fun _ hk => ⟨hk.1.1, ⟨hk.2, hk.1.2⟩⟩)⟩, ⟨by (with_reducible repeat (first | refine blk_drewN ?_ _ | refine blk_drew ?_ | refine blk_alloc ?_ _)); exact BK299.out⟩, ⟨by repeat (first | (with_reducible first | exact HB.out | apply below_alloc | apply pw_below_drewN | apply below_drew1 | refine below_set ?_ GE299.out) | exact HB.out)⟩⟩
                  · rw [if_neg c13] at H
                    exact absurd H (by simp)
                · rw [if_neg c12] at H
                  exact absurd H (by simp)
              · rw [if_neg c11] at H
                exact absurd H (by simp)
            · rw [if_neg c10] at H
              have c10b0 : (x8_2 == x1_3) = false := beq_eq_false_iff_ne.mpr c10
              have c10b1 : (x8_2 != x1_3) = true := bne_iff_ne.mpr c10
              by_cases c17 : 0 ≤ x8_2
              · rw [if_pos c17] at H
                have c17b0 : decide (0 ≤ x8_2) = true := decide_eq_true c17
                clear c17
                by_cases c18 : x7_2.length < 2932031007402
                · rw [if_pos c18] at H
                  have LMc18 := Aside0.mk c18
                  clear c18
                  obtain ⟨y311, hy311⟩ : ∃ y_ : List (S27), y_ = (x7_2 ++ [(⟨(rd_T27 l0 x8_2).f0, (rd_T27 l0 x8_2).f1, (rd_T27 l0 x8_2).f2⟩ : S27)]) := ⟨_, rfl⟩
                  replace H : (marginaliaref07_Insert.l0 k2 l0 x1_3 y311 (wrap64 (x8_2 + 1)) a2_0 a2_1 l2_2) = some r := by first | (rw [hy311]; with_reducible exact H) | (have H2_ := (Option.bind_some _ _).symm.trans H; rw [hy311]; with_reducible exact H2_) | (have H2_ := (Option.bind_some _ _).symm.trans H; with_reducible exact H2_) | with_reducible exact H | (rw [hy311]; exact H) | exact H
                  have Ny311 := Aside0.mk hy311
                  clear hy311
                  have H' := Aside0.mk H
                  clear H
                  have p310 : 0 ≤ (x8_2 : Int) := of_decide_eq_true (by first | (with_reducible assumption) | assumption)
                  have q310 : x8_2 < (l0.length : Int) := of_decide_eq_true (by first | (with_reducible assumption) | assumption)
                  obtain ⟨ad310, A310_2, c310_2, e310, hx310_0, hx310_1, hx310_2, hl310_2, hi310_2⟩ := at_T27 (Kd.V_reads' HO_0.out).2.2 x8_2 p310 q310
                  cases e310
                  obtain ⟨ce310, hce310, hMe310, hcc310⟩ := Kd.V_get HO_0.out z27 x8_2 p310 (by first | exact q310 | exact of_decide_eq_true (by first | (with_reducible assumption) | assumption) | (have e_ := (Kd.V_reads' HO_0.out).1; omega))
                  obtain ⟨ua310_2, uc310_2, rfl, ul310_2, ge310_2⟩ := k27_openF hMe310
                  have hv310_2 := hcc310 2 _ rfl
                  rw [add_field _ _ 2 (by omega)] at hv310_2
                  replace hv310_2 := Option.some.inj (hv310_2.symm.trans hx310_2)
                  injection hv310_2 with hva_ hvn_ hvc_
                  rw [hva_] at ge310_2
                  rw [hvc_] at ul310_2
                  have HL310_2 := Aside0.mk (show Kd.V k70 70 _ w.heap.size _ _ ((rd_T27 l0 x8_2).f2) from Kd.V_mk ul310_2 ge310_2)
                  clear hva_ hvn_ hvc_ ge310_2 ul310_2
                  clear hcc310 hce310
                  have HR310_2 := Aside0.mk hi310_2
                  have HC310_2 := Aside0.mk hl310_2
                  clear hi310_2 hl310_2
                  replace p310 := eq_true p310
                  replace q310 := eq_true q310
                  go_wp2_with (first | ((with_reducible refine gate_builtin (b := .append) (xs := #[.tmp 25, .tmp 30]) rfl ?_); at_builtin; refine Kd.N_append k27 (w0 := w) w.heap.size rfl (.tmp 25) (.tmp 30) 25 27 (.agg #[(.int .i64 0), (.string ⟨#[]⟩), (.slice none 0 0)]) 48 rfl Try.underlying25 info27 rfl (by decide) (by omega) u7 x7_2 (⟨(rd_T27 l0 x8_2).f0, (rd_T27 l0 x8_2).f1, (rd_T27 l0 x8_2).f2⟩ : S27) [.int .i64 ((rd_T27 l0 x8_2).f0), .string ((rd_T27 l0 x8_2).f1), .slice A310_2 ((rd_T27 l0 x8_2).f2).length c310_2] (fun k_ => ((P0_ k_ ∨ P2_2_ k_) ∨ w.heap.size ≤ k_) ∧ k_ ≠ gb299) (fun k_ => ((fun k_ => ((P0_ k_ ∨ P2_2_ k_) ∨ w.heap.size ≤ k_) ∧ k_ ≠ gb299)) k_ ∧ some k_ ≠ (u7 : Value).ownBlock) rfl rfl ?aP (fun _ hk => hk) ?aF ?aO ?aB ?aS ?aL ?_; (case aP => exact (k27_mkF _ _ (⟨(rd_T27 l0 x8_2).f0, (rd_T27 l0 x8_2).f1, (rd_T27 l0 x8_2).f2⟩ : S27) (Kd.V_reads' (Kd.V_mono (ok' := (fun k_ => ((fun k_ => ((P0_ k_ ∨ P2_2_ k_) ∨ w.heap.size ≤ k_) ∧ k_ ≠ gb299)) k_ ∧ some k_ ≠ (u7 : Value).ownBlock)) (HL310_2.out) (fun k_ hk => ⟨⟨hk.1, hk.2.2⟩, hk.2.1⟩))).2.1 (Kd.V_F (Kd.V_mono (ok' := (fun k_ => ((fun k_ => ((P0_ k_ ∨ P2_2_ k_) ∨ w.heap.size ≤ k_) ∧ k_ ≠ gb299)) k_ ∧ some k_ ≠ (u7 : Value).ownBlock)) (HL310_2.out) (fun k_ hk => ⟨⟨hk.1, hk.2.2⟩, hk.2.1⟩))))); (case aB => exact (by repeat (first | (with_reducible first | exact HB.out | apply below_alloc | apply pw_below_drewN | apply below_drew1 | refine below_set ?_ GE299.out) | exact HB.out))); (case aF => exact (fun k_ hk => ⟨(.inr (Nat.le_trans (below_size (by repeat (first | (with_reducible first | exact HB.out | apply below_alloc | apply pw_below_drewN | apply below_drew1 | refine below_set ?_ GE299.out) | exact HB.out))) hk)), Kd.freshB (g := gb299) (o := .cells #[.int .i64 a2_0, .string a2_1, .slice A2_2 l2_2.length c2_2] 27 (0, 0)) (by (with_reducible repeat (first | refine blk_drewN ?_ _ | refine blk_drew ?_ | refine blk_alloc ?_ _)); exact BK299.out) k_ hk⟩)); (case aO => exact (by (with_reducible repeat (first | apply Kd.N_alloc | apply Kd.N_drewN | apply Kd.N_drew)); exact HO_7.out)); (case aS => exact (below_size (by repeat (first | (with_reducible first | exact HB.out | apply below_alloc | apply pw_below_drewN | apply below_drew1 | refine below_set ?_ GE299.out) | exact HB.out)))); (case aL => have := LMc18.out; omega); intro v312 w19 ho hb hg hat; rw [← Ny311.out] at ho; have n0_ := Aside0.mk (Kd.V_afterv (ok := (fun k_ => ((P0_ k_ ∨ P2_2_ k_) ∨ w.heap.size ≤ k_) ∧ k_ ≠ gb299)) (by (with_reducible repeat (first | apply Kd.V_alloc | apply Kd.V_drewN | apply Kd.V_drew)); exact Kd.V_mono HO_0.out (fun _ hk => ⟨⟨hk.1, hk.2.2⟩, hk.2.1⟩)) hg hat); have n1_ := Aside0.mk (Kd.V_afterv (ok := (fun k_ => ((P0_ k_ ∨ P2_2_ k_) ∨ w.heap.size ≤ k_) ∧ k_ ≠ gb299)) (by (with_reducible repeat (first | apply Kd.V_alloc | apply Kd.V_drewN | apply Kd.V_drew)); exact Kd.V_mono HO_300002.out (fun _ hk => ⟨⟨hk.1, hk.2.2⟩, hk.2.1⟩)) hg hat); have n2_ := Aside0.mk (blk_grown (g := gb299) (o := .cells #[.int .i64 a2_0, .string a2_1, .slice A2_2 l2_2.length c2_2] 27 (0, 0)) (by (with_reducible repeat (first | refine blk_drewN ?_ _ | refine blk_drew ?_ | refine blk_alloc ?_ _)); exact BK299.out) hg (Kd.N_away HO_7.out (fun _ hk => hk.2))); have n3_ := Aside0.mk (Kd.V_afterv (ok := (fun k_ => ((P0_ k_ ∨ P2_2_ k_) ∨ w.heap.size ≤ k_) ∧ k_ ≠ gb299)) (by (with_reducible repeat (first | apply Kd.V_alloc | apply Kd.V_drewN | apply Kd.V_drew)); exact Kd.V_mono HL310_2.out (fun _ hk => ⟨⟨hk.1, hk.2.2⟩, hk.2.1⟩)) hg hat); have n4_ := Aside0.mk (hb); have n5_ := Aside0.mk (ho); clear HO_0; clear HO_300002; clear BK299; clear HL310_2; clear HB; clear HO_7; have HO_0 := n0_; have HO_300002 := n1_; have BK299 := n2_; have HL310_2 := n3_; have HB := n4_; have HO313 := n5_; clear n0_ n1_ n2_ n3_ n4_ n5_; clear ho hb hg hat))
                  go_roundg k2
                  case measure => have := HJ3.out; have := HK2.out; omega
                  case rel => exact ⟨(y311), (wrap64 (x8_2 + 1)), (by first | rfl | (simp; done) | (simp [*]; done)), H', ⟨by have := HJ3.out; have := HK2.out; omega⟩, ⟨by (with_reducible repeat (first | apply Kd.V_alloc | apply Kd.V_drewN | apply Kd.V_drew)); exact Kd.V_mono HO_0.out (fun _ hk => ⟨hk.1.1, ⟨hk.2, hk.1.2⟩⟩)⟩, ⟨by (with_reducible repeat (first | apply Kd.N_alloc | apply Kd.N_drewN | apply Kd.N_drew)); exact HO313.out⟩, ⟨by (with_reducible repeat (first | apply Kd.V_alloc | apply Kd.V_drewN | apply Kd.V_drew)); exact Kd.V_mono HO_300002.out (fun _ hk => ⟨hk.1.1, ⟨hk.2, hk.1.2⟩⟩)⟩, ⟨by (with_reducible repeat (first | refine blk_drewN ?_ _ | refine blk_drew ?_ | refine blk_alloc ?_ _)); exact BK299.out⟩, ⟨by repeat (first | (with_reducible first | exact HB.out | apply below_alloc | apply pw_below_drewN | apply below_drew1 | refine below_set ?_ GE299.out) | exact HB.out)⟩⟩
                · rw [if_neg c18] at H
                  exact absurd H (by simp)
              · rw [if_neg c17] at H
                exact absurd H (by simp)
          · rw [if_neg c9] at H
            have c9b0 : decide (x8_2 < (l0.length : Int)) = false := decide_eq_false c9
            clear c9
            by_cases c20 : x1_3 ≥ (l0.length : Int)
            · rw [if_pos c20] at H
              have c20b0 : decide ((l0.length : Int) ≤ x1_3) = true := decide_eq_true c20
              clear c20
              by_cases c21 : x7_2.length < 2932031007402
              · rw [if_pos c21] at H
                have LMc21 := Aside0.mk c21
                clear c21
                obtain ⟨y314, hy314⟩ : ∃ y_ : List (S27), y_ = (x7_2 ++ [(⟨a2_0, a2_1, l2_2⟩ : S27)]) := ⟨_, rfl⟩
                replace H : (some y314) = some r := by first | (rw [hy314]; with_reducible exact H) | (have H2_ := (Option.bind_some _ _).symm.trans H; rw [hy314]; with_reducible exact H2_) | (have H2_ := (Option.bind_some _ _).symm.trans H; with_reducible exact H2_) | with_reducible exact H | (rw [hy314]; exact H) | exact H
                have Ny314 := Aside0.mk hy314
                clear hy314
                obtain rfl := Option.some.inj H
                have hcz22_0 : wr.cell? ⟨gb299, 0, none⟩ = some (.int .i64 a2_0) := (blk_cell BK299.out 0).trans rfl
                have hcz22_1 : wr.cell? ⟨gb299, 1, none⟩ = some (.string a2_1) := (blk_cell BK299.out 1).trans rfl
                have hcz22_2 : wr.cell? ⟨gb299, 2, none⟩ = some (.slice A2_2 l2_2.length c2_2) := (blk_cell BK299.out 2).trans rfl
                have hfz22_0 := blk_frozen BK299.out 0
                have hfz22_1 := blk_frozen BK299.out 1
                have hfz22_2 := blk_frozen BK299.out 2
                go_wp2_with (first | ((with_reducible refine gate_builtin (b := .append) (xs := #[.tmp 36, .tmp 38]) rfl ?_); at_builtin; refine Kd.N_append k27 (w0 := w) w.heap.size rfl (.tmp 36) (.tmp 38) 25 27 (.agg #[(.int .i64 0), (.string ⟨#[]⟩), (.slice none 0 0)]) 48 rfl Try.underlying25 info27 rfl (by decide) (by omega) u7 x7_2 (⟨a2_0, a2_1, l2_2⟩ : S27) [.int .i64 a2_0, .string a2_1, .slice A2_2 l2_2.length c2_2] (fun k_ => ((P0_ k_ ∨ P2_2_ k_) ∨ w.heap.size ≤ k_) ∧ k_ ≠ gb299) (fun k_ => ((fun k_ => ((P0_ k_ ∨ P2_2_ k_) ∨ w.heap.size ≤ k_) ∧ k_ ≠ gb299)) k_ ∧ some k_ ≠ (u7 : Value).ownBlock) rfl rfl ?aP (fun _ hk => hk) ?aF ?aO ?aB ?aS ?aL ?_; (case aP => exact (k27_mkF _ _ (⟨a2_0, a2_1, l2_2⟩ : S27) (Kd.V_reads' (Kd.V_mono (ok' := (fun k_ => ((fun k_ => ((P0_ k_ ∨ P2_2_ k_) ∨ w.heap.size ≤ k_) ∧ k_ ≠ gb299)) k_ ∧ some k_ ≠ (u7 : Value).ownBlock)) (HO_300002.out) (fun k_ hk => ⟨⟨hk.1, hk.2.2⟩, hk.2.1⟩))).2.1 (Kd.V_F (Kd.V_mono (ok' := (fun k_ => ((fun k_ => ((P0_ k_ ∨ P2_2_ k_) ∨ w.heap.size ≤ k_) ∧ k_ ≠ gb299)) k_ ∧ some k_ ≠ (u7 : Value).ownBlock)) (HO_300002.out) (fun k_ hk => ⟨⟨hk.1, hk.2.2⟩, hk.2.1⟩))))); (case aB => exact (by repeat (first | (with_reducible first | exact HB.out | apply below_alloc | apply pw_below_drewN | apply below_drew1 | refine below_set ?_ GE299.out) | exact HB.out))); (case aF => exact (fun k_ hk => ⟨(.inr (Nat.le_trans (below_size (by repeat (first | (with_reducible first | exact HB.out | apply below_alloc | apply pw_below_drewN | apply below_drew1 | refine below_set ?_ GE299.out) | exact HB.out))) hk)), Kd.freshB (g := gb299) (o := .cells #[.int .i64 a2_0, .string a2_1, .slice A2_2 l2_2.length c2_2] 27 (0, 0)) (by (with_reducible repeat (first | refine blk_drewN ?_ _ | refine blk_drew ?_ | refine blk_alloc ?_ _)); exact BK299.out) k_ hk⟩)); (case aO => exact (by (with_reducible repeat (first | apply Kd.N_alloc | apply Kd.N_drewN | apply Kd.N_drew)); exact HO_7.out)); (case aS => exact (below_size (by repeat (first | (with_reducible first | exact HB.out | apply below_alloc | apply pw_below_drewN | apply below_drew1 | refine below_set ?_ GE299.out) | exact HB.out)))); (case aL => have := LMc21.out; omega); intro v315 w23 ho hb hg hat; rw [← Ny314.out] at ho; have n0_ := Aside0.mk (Kd.V_afterv (ok := (fun k_ => ((P0_ k_ ∨ P2_2_ k_) ∨ w.heap.size ≤ k_) ∧ k_ ≠ gb299)) (by (with_reducible repeat (first | apply Kd.V_alloc | apply Kd.V_drewN | apply Kd.V_drew)); exact Kd.V_mono HO_0.out (fun _ hk => ⟨⟨hk.1, hk.2.2⟩, hk.2.1⟩)) hg hat); have n1_ := Aside0.mk (Kd.V_afterv (ok := (fun k_ => ((P0_ k_ ∨ P2_2_ k_) ∨ w.heap.size ≤ k_) ∧ k_ ≠ gb299)) (by (with_reducible repeat (first | apply Kd.V_alloc | apply Kd.V_drewN | apply Kd.V_drew)); exact Kd.V_mono HO_300002.out (fun _ hk => ⟨⟨hk.1, hk.2.2⟩, hk.2.1⟩)) hg hat); have n2_ := Aside0.mk (blk_grown (g := gb299) (o := .cells #[.int .i64 a2_0, .string a2_1, .slice A2_2 l2_2.length c2_2] 27 (0, 0)) (by (with_reducible repeat (first | refine blk_drewN ?_ _ | refine blk_drew ?_ | refine blk_alloc ?_ _)); exact BK299.out) hg (Kd.N_away HO_7.out (fun _ hk => hk.2))); have n3_ := Aside0.mk (hb); have n4_ := Aside0.mk (ho); clear HO_0; clear HO_300002; clear BK299; clear HB; clear HO_7; have HO_0 := n0_; have HO_300002 := n1_; have BK299 := n2_; have HB := n3_; have HO316 := n4_; clear n0_ n1_ n2_ n3_ n4_; clear ho hb hg hat))
                go_ret
                exact ⟨_, by first | rfl | (simp [errW_none, errW_some] <;> rfl) | (simp [*, errW_none, errW_some] <;> rfl), by (with_reducible repeat (first | apply Kd.N_alloc | apply Kd.N_drewN | apply Kd.N_drew)); exact Kd.N_mono HO316.out (fun _ hk => hk.1), by repeat (first | (with_reducible first | exact HB.out | apply below_alloc | apply pw_below_drewN | apply below_drew1 | refine below_set ?_ GE299.out) | exact HB.out)⟩
              · rw [if_neg c21] at H
                exact absurd H (by simp)
            · rw [if_neg c20] at H
              have c20b0 : decide ((l0.length : Int) ≤ x1_3) = false := decide_eq_false c20
              clear c20
              obtain rfl := Option.some.inj H
              go_wp2
              go_ret
              exact ⟨_, by first | rfl | (simp [errW_none, errW_some] <;> rfl) | (simp [*, errW_none, errW_some] <;> rfl), by (with_reducible repeat (first | apply Kd.N_alloc | apply Kd.N_drewN | apply Kd.N_drew)); exact Kd.N_mono HO_7.out (fun _ hk => hk.1), by repeat (first | (with_reducible first | exact HB.out | apply below_alloc | apply pw_below_drewN | apply below_drew1 | refine below_set ?_ GE299.out) | exact HB.out)⟩

/-! ### marginalialaw07_spoil: function 33: by hand -/
theorem sp_trans {w w1 w2 : World} {row : Option Nat} (h : w.grownBy w1 row) (k : w1.grownBy w2 row) : w.grownBy w2 row :=
  ⟨k.os.trans h.os, k.tape.trans h.tape, k.output.trans h.output, Nat.le_trans h.size k.size, fun i hi hne => (k.block i (Nat.lt_of_lt_of_le hi h.size) hne).trans (h.block i hi hne)⟩
def marginalialaw07_spoil.f (l0 : List S27) : Option Unit := some ()
set_option maxHeartbeats 2000000 in
theorem marginalialaw07_spoil.calls (base : Nat) (ok : Nat → Prop) (A0 : Option Addr) (c0 : Nat) (l0 : List S27) (w : World) (hn : Kd.N k27 27 w base ok (.slice A0 l0.length c0) l0) :
    Calls Try.prog 33 #[.slice A0 l0.length c0] w fun e w' => e = .returned (.tuple #[]) ∧ ∃ l1 : List S27, l1.length = l0.length ∧ Kd.N k27 27 w' base ok (.slice A0 l0.length c0) l1 ∧ w.grownBy w' (Value.slice A0 l0.length c0).ownBlock := by
  have hm := Kd.C_max (Kd.N_reads' hn).2.2
  have HN := Aside0.mk hn
  clear hn
  go_enter Try.func33, Try.ntmps33
  go_wp2
  go_loopw [2] (fun v2 wr => ∃ (k : Nat) (x : List S27), k ≤ l0.length ∧ v2 = .int .i64 k ∧ Aside0 (x.length = l0.length) ∧ Aside0 (Kd.N k27 27 wr base ok (.slice A0 l0.length c0) x) ∧ Aside0 (w.grownBy wr (Value.slice A0 l0.length c0).ownBlock)) (fun v2 _ => l0.length - (intOf v2).toNat)
  case atStart => exact ⟨0, l0, Nat.zero_le _, rfl, ⟨rfl⟩, HN, ⟨⟨rfl, rfl, rfl, Nat.le_refl _, fun _ _ _ => rfl⟩⟩⟩
  case round =>
    obtain ⟨k, x, hk, rfl, HX, HO, HG⟩ := hrel
    by_cases hlt : k < l0.length
    · have hlt' : decide (k < l0.length) = true := decide_eq_true hlt
      obtain ⟨go, co, eo, gb, gl, cl, hcells⟩ := Kd.N_form HO.out (by have := HX.out; omega)
      injection eo with ea en ec
      subst ea
      subst ec
      clear en gb gl hcells
      obtain ⟨ce, hcl, hM, hcc, hfr⟩ := Kd.N_elem HO.out z27 (k : Int) (by omega) (by omega)
      obtain ⟨ua, uc, rfl, ul, ge⟩ := k27_openF hM
      have HP := Kd.N_seg HO.out (k : Int) (by omega) (by omega) (seg := [.string (⟨#[115, 112, 111, 105, 108, 116]⟩ : ByteArray)]) (j := 1) hcl hcc (show 2 ≤ 3 from by decide) (x' := (⟨(rd_T27 x (k : Int)).f0, (⟨#[115, 112, 111, 105, 108, 116]⟩ : ByteArray), (rd_T27 x (k : Int)).f2⟩ : S27)) (k27_mkF _ _ (⟨(rd_T27 x (k : Int)).f0, (⟨#[115, 112, 111, 105, 108, 116]⟩ : ByteArray), (rd_T27 x (k : Int)).f2⟩ : S27) ul ge) (fun _ hk => hk)
      have hx0 : wr.cell? ⟨go, (k : Int).toNat * 3, none⟩ = some (.int .i64 ((rd_T27 x (k : Int)).f0)) := hcc 0 _ rfl
      have hx1 : wr.cell? ⟨go, (k : Int).toNat * 3 + 1, none⟩ = some (.string ((rd_T27 x (k : Int)).f1)) := hcc 1 _ rfl
      have hf1 : wr.frozen? ⟨go, (k : Int).toNat * 3 + 1, none⟩ = false := hfr 1
      simp only [Int.toNat_natCast] at hx0 hx1 hf1 HP
      have HPP := Aside0.mk HP
      clear HP hcl hcc hfr hM
      go_wp2
      go_round
      case rel => exact ⟨k + 1, _, by omega, by go_num, ⟨(List.length_set ..).trans HX.out⟩, ⟨HPP.out.1⟩, ⟨sp_trans HG.out HPP.out.2⟩⟩
      case measure => simp [intOf]; omega
    · have hlt' : decide (k < l0.length) = false := decide_eq_false hlt
      go_wp2
      (try simp only [Exit.inBlock, Exit.then])
      refine bodyPost_end (results_none rfl _ _ _) rfl ?_
      exact ⟨rfl, x, HX.out, HO.out, HG.out⟩

end Go.Proofs.Ytmdmoohkdkooaaa.M
