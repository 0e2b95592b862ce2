/- The functions of the program that these laws reach, each as a plain Lean function, and the proof that the machine's call comes to it; no condition beyond those that each theorem names. Made by wip/xprint.py. -/
import Derived.Test.YtepipgneefcoiaaDx0
import Derived.Test.YtepipgneefcoiaaDf72
import Derived.Test.YtepipgneefcoiaaDh
namespace Go.Proofs.Ytepipgneefcoiaa.D
open Go.RowKit Go.Proofs.YtepipgneefcoiaaW.PrintWords Go.Proofs.YtepipgneefcoiaaW.PrintLast Go.Proofs.YtepipgneefcoiaaW.PrintMore
attribute [local go_sem] max2_int min2_int max_two min_two max_three min_three max_four min_four   -- for this text's walks alone
set_option linter.unusedVariables false
set_option linter.unusedSimpArgs false

/-! ### cell_Cut: function 73 -/
def cell_Cut.l0 : Nat → List Int → Int → Int → Int → List (S106) → Int → Int → Option ((List (S106)))
  | 0, _, _, _, _, _, _, _ => none
  | k + 1, x0, x1, x2, x7, x8, x18, x19 => if x19 < x18 then (if 0 ≤ (wrap64 (x19 * 39)) then (if (wrap64 (x19 * 39)) ≤ (x0.length : Int) then (if 0 ≤ (mn ((x0.drop ((wrap64 (x19 * 39)) : Int).toNat).length : Int) 39) then (if (mn ((x0.drop ((wrap64 (x19 * 39)) : Int).toNat).length : Int) 39) ≤ ((x0.drop ((wrap64 (x19 * 39)) : Int).toNat).length : Int) then ((slices_Clone_byte_byte.f ((x0.drop ((wrap64 (x19 * 39)) : Int).toNat).take ((mn ((x0.drop ((wrap64 (x19 * 39)) : Int).toNat).length : Int) 39) : Int).toNat)).bind fun t175 => (if x8.length < 2513169434916 then (cell_Cut.l0 k x0 x1 x2 x7 (x8 ++ [(⟨x1, x2, x19, x7, t175⟩ : S106)]) x18 (wrap64 (x19 + 1))) else (none))) else (none)) else (none)) else (none)) else (none)) else (some x8)
def cell_Cut.f (k : Nat) (l0 : List Int) (a1 : Int) (a2 : Int) : Option ((List (S106))) := if (wrap64 (Int.tdiv (wrap64 ((wrap64 ((l0.length : Int) + 39)) - 1)) 39)) > 65535 then (some ([] : List (S106))) else (cell_Cut.l0 k l0 a1 a2 (wrap64 (Int.tdiv (wrap64 ((wrap64 ((l0.length : Int) + 39)) - 1)) 39)) ([] : List (S106)) (wrap64 (Int.tdiv (wrap64 ((wrap64 ((l0.length : Int) + 39)) - 1)) 39)) 0)
theorem cell_Cut.mono_l : ∀ k, (∀ y0 y1 y2 y3 y4 y5 y6, LeO (cell_Cut.l0 k y0 y1 y2 y3 y4 y5 y6) (cell_Cut.l0 (k + 1) y0 y1 y2 y3 y4 y5 y6))
  | 0 => fun _ _ _ _ _ _ _ r h => by simp [cell_Cut.l0] at h
  | k + 1 => by
    have ih0 := cell_Cut.mono_l k
    · intro y0 y1 y2 y3 y4 y5 y6
      unfold cell_Cut.l0
      repeat' first
      | (with_reducible exact ih0 _ _ _ _ _ _ _)
      | (with_reducible exact LeO.refl _)
      | (with_reducible exact LeO.none _)
      | (with_reducible refine LeO.ite ?_ ?_)
      | (with_reducible refine LeO.bind ?_ (fun _ => ?_))
      | exact ih0 _ _ _ _ _ _ _
      | exact LeO.none _
      | refine LeO.ite ?_ ?_
      | refine LeO.bind ?_ (fun _ => ?_)
theorem cell_Cut.mono : ∀ a0 a1 a2 k, LeO (cell_Cut.f k a0 a1 a2) (cell_Cut.f (k + 1) a0 a1 a2) := by
  intro a0 a1 a2 k
  have ih0 := cell_Cut.mono_l k
  unfold cell_Cut.f
  repeat' first
      | (with_reducible exact ih0 _ _ _ _ _ _ _)
      | (with_reducible exact LeO.refl _)
      | (with_reducible exact LeO.none _)
      | (with_reducible refine LeO.ite ?_ ?_)
      | (with_reducible refine LeO.bind ?_ (fun _ => ?_))
      | exact ih0 _ _ _ _ _ _ _
      | exact LeO.none _
      | refine LeO.ite ?_ ?_
      | refine LeO.bind ?_ (fun _ => ?_)
set_option maxHeartbeats 8000000 in
set_option maxRecDepth 100000 in
theorem cell_Cut.calls (k : Nat) (A0 : Option Addr) (c0 : Nat) (l0 : List Int) (a1 : Int) (a2 : Int) (r : List (S106)) (w : World) (hr0 : Kd.C (Kd.int .u8) w A0 l0.length l0) (hc0 : l0.length ≤ c0) (h : cell_Cut.f k l0 a1 a2 = some r) :
    Calls Try.prog 73 #[.slice A0 l0.length c0, .int .u64 a1, .int .u64 a2] w fun e w' => ∃ v0_ : Value, e = .returned (v0_) ∧ Kd.S k106 106 w' w.heap.size (fun _ => True) v0_ r ∧ Below w.heap.size w w' := by
  have hu106 := Try.underlying106
  have HR0 := Aside0.mk hr0
  have HC0 := Aside0.mk hc0
  clear hr0 hc0
  have HB := Aside0.mk (Below.refl w.heap.size w)
  have H : (if (wrap64 (Int.tdiv (wrap64 ((wrap64 ((l0.length : Int) + 39)) - 1)) 39)) > 65535 then (some ([] : List (S106))) else (cell_Cut.l0 k l0 a1 a2 (wrap64 (Int.tdiv (wrap64 ((wrap64 ((l0.length : Int) + 39)) - 1)) 39)) ([] : List (S106)) (wrap64 (Int.tdiv (wrap64 ((wrap64 ((l0.length : Int) + 39)) - 1)) 39)) 0)) = some r := h
  clear h
  by_cases c4 : (wrap64 (Int.tdiv (wrap64 ((wrap64 ((l0.length : Int) + 39)) - 1)) 39)) > 65535
  · rw [if_pos c4] at H
    have c4b0 : decide (65535 < (wrap64 (Int.tdiv (wrap64 ((wrap64 ((l0.length : Int) + 39)) - 1)) 39))) = true := decide_eq_true c4
    clear c4
    obtain rfl := Option.some.inj H
    go_enter Try.func73, Try.ntmps73
    go_wp2
    go_ret
    exact ⟨_, by first | rfl | (simp [errW_none, errW_some] <;> rfl) | (simp [*, errW_none, errW_some] <;> rfl), by first | exact Kd.S_nil _ _ _ _ _ | exact Kd.N_nil _ _ _ _ _ | exact Kd.V_nil _ _ _ _ _ | exact Kd.Q_nil _ _ _ _ _ | exact Kd.R_nil _ _ _ _ _, by repeat (first | (with_reducible first | exact HB.out | apply below_alloc | apply pw_below_drewN | apply below_drew1) | exact HB.out)⟩
  · rw [if_neg c4] at H
    have c4b0 : decide (65535 < (wrap64 (Int.tdiv (wrap64 ((wrap64 ((l0.length : Int) + 39)) - 1)) 39))) = false := decide_eq_false c4
    clear c4
    have H' := Aside0.mk H
    clear H
    go_enter Try.func73, Try.ntmps73
    go_wp2
    go_loopg [8, 19] k (fun kq v8 v19 w' => ∃ (x8_1 : List (S106)) (x19_1 : Int), v19 = .int .i64 x19_1 ∧ Aside0 (cell_Cut.l0 kq l0 a1 a2 (wrap64 (Int.tdiv (wrap64 ((wrap64 ((l0.length : Int) + 39)) - 1)) 39)) x8_1 (wrap64 (Int.tdiv (wrap64 ((wrap64 ((l0.length : Int) + 39)) - 1)) 39)) x19_1 = some r) ∧ Aside0 (kq ≤ k) ∧ Aside0 (Kd.S k106 106 w' w.heap.size (fun _ => True) v8 x8_1) ∧ Aside0 (Below w.heap.size w w'))
    case atStart => exact ⟨(([] : List (S106))), (0), (by first | rfl | (simp; done) | (simp [*]; done)), H', ⟨Nat.le_refl _⟩, ⟨by first | exact Kd.S_nil _ _ _ _ _ | exact Kd.N_nil _ _ _ _ _ | exact Kd.V_nil _ _ _ _ _ | exact Kd.Q_nil _ _ _ _ _ | exact Kd.R_nil _ _ _ _ _⟩, ⟨by repeat (first | (with_reducible first | exact HB.out | apply below_alloc | apply pw_below_drewN | apply below_drew1) | exact HB.out)⟩⟩
    case round =>
      clear H'
      try clear p2
      try clear c4
      try clear c4b0
      obtain ⟨x8_1, x19_1, rfl, HA, HK1, HO_8, HB⟩ := hrel
      cases gk with
      | zero => exact absurd HA.out (by simp [cell_Cut.l0])
      | succ k1 =>
        have H := HA.out
        clear HA
        simp only [cell_Cut.l0] at H
        by_cases c5 : x19_1 < (wrap64 (Int.tdiv (wrap64 ((wrap64 ((l0.length : Int) + 39)) - 1)) 39))
        · rw [if_pos c5] at H
          have c5b0 : decide (x19_1 < (wrap64 (Int.tdiv (wrap64 ((wrap64 ((l0.length : Int) + 39)) - 1)) 39))) = true := decide_eq_true c5
          clear c5
          obtain ⟨ji6, hji6⟩ : ∃ j_ : Int, (wrap64 (x19_1 * 39)) = j_ := ⟨_, rfl⟩
          replace H : (if 0 ≤ (ji6) then (if (ji6) ≤ (l0.length : Int) then (if 0 ≤ (mn ((l0.drop ((ji6) : Int).toNat).length : Int) 39) then (if (mn ((l0.drop ((ji6) : Int).toNat).length : Int) 39) ≤ ((l0.drop ((ji6) : Int).toNat).length : Int) then ((slices_Clone_byte_byte.f ((l0.drop ((ji6) : Int).toNat).take ((mn ((l0.drop ((ji6) : Int).toNat).length : Int) 39) : Int).toNat)).bind fun t175 => (if x8_1.length < 2513169434916 then (cell_Cut.l0 k1 l0 a1 a2 (wrap64 (Int.tdiv (wrap64 ((wrap64 ((l0.length : Int) + 39)) - 1)) 39)) (x8_1 ++ [(⟨a1, a2, x19_1, (wrap64 (Int.tdiv (wrap64 ((wrap64 ((l0.length : Int) + 39)) - 1)) 39)), t175⟩ : S106)]) (wrap64 (Int.tdiv (wrap64 ((wrap64 ((l0.length : Int) + 39)) - 1)) 39)) (wrap64 (x19_1 + 1))) else (none))) else (none)) else (none)) else (none)) else (none)) = some r := by first | (rw [hji6] at H; exact H) | (simp only [hji6] at H ⊢; exact H)
          have hji6w : (IntKind.i64.wrap (x19_1 * 39)) = ji6 := (i64_w _).trans hji6
          by_cases c7 : 0 ≤ (ji6)
          · rw [if_pos c7] at H
            have c7b0 := eq_true c7
            have c7b1 : decide (0 ≤ (ji6)) = true := decide_eq_true c7
            clear c7
            by_cases c8 : (ji6) ≤ (l0.length : Int)
            · rw [if_pos c8] at H
              have c8b0 := eq_true c8
              have c8b1 : decide ((ji6) ≤ (l0.length : Int)) = true := decide_eq_true c8
              clear c8
              obtain ⟨ji9, hji9⟩ : ∃ j_ : Int, (mn ((l0.drop ((ji6) : Int).toNat).length : Int) 39) = j_ := ⟨_, rfl⟩
              replace H : (if 0 ≤ (ji9) then (if (ji9) ≤ ((l0.drop ((ji6) : Int).toNat).length : Int) then ((slices_Clone_byte_byte.f ((l0.drop ((ji6) : Int).toNat).take ((ji9) : Int).toNat)).bind fun t175 => (if x8_1.length < 2513169434916 then (cell_Cut.l0 k1 l0 a1 a2 (wrap64 (Int.tdiv (wrap64 ((wrap64 ((l0.length : Int) + 39)) - 1)) 39)) (x8_1 ++ [(⟨a1, a2, x19_1, (wrap64 (Int.tdiv (wrap64 ((wrap64 ((l0.length : Int) + 39)) - 1)) 39)), t175⟩ : S106)]) (wrap64 (Int.tdiv (wrap64 ((wrap64 ((l0.length : Int) + 39)) - 1)) 39)) (wrap64 (x19_1 + 1))) else (none))) else (none)) else (none)) = some r := by first | (rw [hji9] at H; exact H) | (simp only [hji9] at H ⊢; exact H)
              have hji9_ : (if 39 < ((l0.drop ((ji6) : Int).toNat).length : Int) then 39 else ((l0.drop ((ji6) : Int).toNat).length : Int)) = ji9 := hji9
              (try (have hji9d := hji9_; simp only [List.length_drop, List.length_take] at hji9d))
              by_cases c10 : 0 ≤ (ji9)
              · rw [if_pos c10] at H
                have c10b0 := eq_true c10
                have c10b1 : decide (0 ≤ (ji9)) = true := decide_eq_true c10
                clear c10
                by_cases c11 : (ji9) ≤ ((l0.drop ((ji6) : Int).toNat).length : Int)
                · rw [if_pos c11] at H
                  have c11b0 := eq_true c11
                  have c11b1 : decide ((ji9) ≤ ((l0.drop ((ji6) : Int).toNat).length : Int)) = true := decide_eq_true c11
                  clear c11
                  replace H := Option.bind_eq_some_iff.mp H
                  obtain ⟨t175, A120, H⟩ := H
                  replace H : (if x8_1.length < 2513169434916 then (cell_Cut.l0 k1 l0 a1 a2 (wrap64 (Int.tdiv (wrap64 ((wrap64 ((l0.length : Int) + 39)) - 1)) 39)) (x8_1 ++ [(⟨a1, a2, x19_1, (wrap64 (Int.tdiv (wrap64 ((wrap64 ((l0.length : Int) + 39)) - 1)) 39)), t175⟩ : S106)]) (wrap64 (Int.tdiv (wrap64 ((wrap64 ((l0.length : Int) + 39)) - 1)) 39)) (wrap64 (x19_1 + 1))) else (none)) = some r := H
                  have A12 := Aside0.mk A120
                  clear A120
                  by_cases c13 : x8_1.length < 2513169434916
                  · rw [if_pos c13] at H
                    have LMc13 := Aside0.mk c13
                    clear c13
                    obtain ⟨y178, hy178⟩ : ∃ y_ : List (S106), y_ = (x8_1 ++ [(⟨a1, a2, x19_1, (wrap64 (Int.tdiv (wrap64 ((wrap64 ((l0.length : Int) + 39)) - 1)) 39)), t175⟩ : S106)]) := ⟨_, rfl⟩
                    replace H : (cell_Cut.l0 k1 l0 a1 a2 (wrap64 (Int.tdiv (wrap64 ((wrap64 ((l0.length : Int) + 39)) - 1)) 39)) y178 (wrap64 (Int.tdiv (wrap64 ((wrap64 ((l0.length : Int) + 39)) - 1)) 39)) (wrap64 (x19_1 + 1))) = some r := by first | (rw [hy178]; with_reducible exact H) | (have H2_ := (Option.bind_some _ _).symm.trans H; rw [hy178]; with_reducible exact H2_) | (have H2_ := (Option.bind_some _ _).symm.trans H; with_reducible exact H2_) | with_reducible exact H | (rw [hy178]; exact H) | exact H
                    have Ny178 := Aside0.mk hy178
                    clear hy178
                    have H' := Aside0.mk H
                    clear H
                    obtain ⟨i014, hi014, _, hsz14, _⟩ := info_parts info5
                    obtain ⟨A14, hcut14, hA14, hC14⟩ := print_drop_of (P := Try.prog) (Value.int .u8) 0 27 5 .i64 Try.underlying27 hi014 hsz14 A0 c0 l0 (ji6) (of_decide_eq_true (by first | (with_reducible assumption) | assumption)) (of_decide_eq_true (by first | (with_reducible assumption) | assumption)) HC0.out
                    have HR173 := Aside0.mk (Kd.C_of_reads (h1 := fun _ => rfl) (hA14 _ (Kd.reads_of_C HR0.out)))
                    have HC173 := Aside0.mk hC14
                    clear hA14 hC14 hi014 hsz14
                    obtain ⟨i015, hi015, _, hsz15, _⟩ := info_parts info5
                    obtain ⟨hcut15, hA15, hC15⟩ := print_take_of (P := Try.prog) (Value.int .u8) 0 27 5 .i64 Try.underlying27 hi015 hsz15 A14 (c0 - (ji6).toNat) (l0.drop ((ji6) : Int).toNat) (ji9) (of_decide_eq_true (by first | (with_reducible assumption) | assumption)) (of_decide_eq_true (by first | (with_reducible assumption) | assumption)) HC173.out
                    have HR174 := Aside0.mk (Kd.C_of_reads (h1 := fun _ => rfl) (hA15 _ (Kd.reads_of_C HR173.out)))
                    have HC174 := Aside0.mk hC15
                    (try (have hcue15 := hcut15; simp only [List.length_drop] at hcue15))
                    clear hA15 hC15 hi015 hsz15
                    go_wp2_with (first | ((with_reducible refine gate_callee (f := 72) rfl ?_); refine goesL_ (some 37) rfl rfl Try.func72 (by kernel_rfl) rfl #[.slice A14 ((l0.drop ((ji6) : Int).toNat).take ((ji9) : Int).toNat).length (c0 - (ji6).toNat)] rfl (by (try simp only [List.map_toArray, List.map_cons, List.map_nil]); first | done | (rw [show ((l0.drop ((ji6) : Int).toNat).take ((ji9) : Int).toNat).length = (ji9).toNat from (by rw [List.length_take]; have h_ : ((ji9) : Int) ≤ ((l0.drop ((ji6) : Int).toNat).length : Int) := of_decide_eq_true (by first | (with_reducible assumption) | assumption); omega)] <;> rfl) | (simp only [hji6, hji9]; rfl) | rfl | (simp only [List.length_drop, List.length_take]; rfl)) ?_; (with_reducible refine (slices_Clone_byte_byte.calls _ _ ((l0.drop ((ji6) : Int).toNat).take ((ji9) : Int).toNat) t175 _ ?side1 ?side2 A12.out).mono ?_); (case side1 => repeat (first | exact (Kd.C_below HR174.out HB.out) | (with_reducible refine Kd.C_alloc ?_ _) | (with_reducible refine Kd.C_drewN ?_ _) | (with_reducible refine Kd.C_drew ?_))); (case side2 => exact HC174.out); rintro e w16 ⟨v176, rfl, ho0, hb⟩; refine ⟨_, rfl, ?_⟩; have n0_ := Aside0.mk (Kd.S_elder' (by (with_reducible repeat (first | apply Kd.S_alloc | apply Kd.S_drewN | apply Kd.S_drew)); exact HO_8.out) (Kd.R_base ho0) hb); have n1_ := Aside0.mk (Kd.R_lower ho0 (below_size (by repeat (first | (with_reducible first | exact HB.out | apply below_alloc | apply pw_below_drewN | apply below_drew1) | exact HB.out)))); have n2_ := Aside0.mk (below_step (by repeat (first | (with_reducible first | exact HB.out | apply below_alloc | apply pw_below_drewN | apply below_drew1) | exact HB.out)) hb); clear HO_8; clear HB; have HO_8 := n0_; have HO177 := n1_; have HB := n2_; clear n0_ n1_ n2_; (try clear hb); (try clear hb2); (try clear hk); (try clear hi); (try clear ho0); obtain ⟨Ao17, co17, eo17⟩ := Kd.R_slice HO177.out; subst eo17) | ((with_reducible refine gate_builtin (b := .append) (xs := #[.tmp 31, .tmp 39]) rfl ?_); at_builtin; refine Kd.S_append k106 (w0 := w) w.heap.size rfl (.tmp 31) (.tmp 39) 62 106 (.agg #[(.int .u64 0), (.int .u64 0), (.int .i64 0), (.int .i64 0), (.slice none 0 0)]) 56 rfl Try.underlying62 info106 rfl (by decide) (by omega) u8 x8_1 (⟨a1, a2, x19_1, (wrap64 (Int.tdiv (wrap64 ((wrap64 ((l0.length : Int) + 39)) - 1)) 39)), t175⟩ : S106) [.int .u64 a1, .int .u64 a2, .int .i64 x19_1, .int .i64 (wrap64 (Int.tdiv (wrap64 ((wrap64 ((l0.length : Int) + 39)) - 1)) 39)), .slice Ao17 t175.length co17] (fun _ => True) (fun k_ => some k_ = (.slice Ao17 t175.length co17 : Value).ownBlock) rfl rfl ?aP (fun k_ hk_ => ((Kd.R_mono (ok' := fun k_ => ((fun _ => True)) k_ ∧ some k_ ≠ (u8 : Value).ownBlock) (Kd.R_apart' (HO177.out) (Kd.S_typed HO_8.out) (by decide)) (fun k_ hk => ⟨trivial, hk.2⟩))).1 k_ hk_.symm) ?aF ?aO ?aB ?aS ?aL ?_; (case aP => exact k106_mkM _ _ _ (⟨a1, a2, x19_1, (wrap64 (Int.tdiv (wrap64 ((wrap64 ((l0.length : Int) + 39)) - 1)) 39)), t175⟩ : S106) (Kd.R_mono (Kd.R_tight rfl (Kd.R_mono (ok' := fun k_ => ((fun _ => True)) k_ ∧ some k_ ≠ (u8 : Value).ownBlock) (Kd.R_apart' (HO177.out) (Kd.S_typed HO_8.out) (by decide)) (fun k_ hk => ⟨trivial, hk.2⟩))) (fun _ h_ => h_))); (case aB => exact (by repeat (first | (with_reducible first | exact HB.out | apply below_alloc | apply pw_below_drewN | apply below_drew1) | exact HB.out))); (case aF => exact (fun _ _ => trivial)); (case aO => exact (by (with_reducible repeat (first | apply Kd.S_alloc | apply Kd.S_drewN | apply Kd.S_drew)); exact Kd.S_mono HO_8.out (fun k_ hk => ⟨trivial, fun e_ => hk.2 e_⟩))); (case aS => exact (below_size (by repeat (first | (with_reducible first | exact HB.out | apply below_alloc | apply pw_below_drewN | apply below_drew1) | exact HB.out)))); (case aL => have := LMc13.out; omega); intro v179 w18 ho hb hg hat; rw [← Ny178.out] at ho; have n0_ := Aside0.mk (hb); have n1_ := Aside0.mk (ho); clear HB; clear HO_8; clear HO177; have HB := n0_; have HO180 := n1_; clear n0_ n1_; clear ho hb hg hat))
                    go_roundg k1
                    case measure => have := HK1.out; omega
                    case rel => exact ⟨(y178), (wrap64 (x19_1 + 1)), (by first | rfl | (simp; done) | (simp [*]; done)), H', ⟨by have := HK1.out; omega⟩, ⟨by (with_reducible repeat (first | apply Kd.S_alloc | apply Kd.S_drewN | apply Kd.S_drew)); exact HO180.out⟩, ⟨by repeat (first | (with_reducible first | exact HB.out | apply below_alloc | apply pw_below_drewN | apply below_drew1) | exact HB.out)⟩⟩
                  · rw [if_neg c13] at H
                    exact absurd H (by simp)
                · rw [if_neg c11] at H
                  exact absurd H (by simp)
              · rw [if_neg c10] at H
                exact absurd H (by simp)
            · rw [if_neg c8] at H
              exact absurd H (by simp)
          · rw [if_neg c7] at H
            exact absurd H (by simp)
        · rw [if_neg c5] at H
          have c5b0 : decide (x19_1 < (wrap64 (Int.tdiv (wrap64 ((wrap64 ((l0.length : Int) + 39)) - 1)) 39))) = false := decide_eq_false c5
          clear c5
          obtain rfl := Option.some.inj H
          go_wp2
          go_ret
          exact ⟨_, by first | rfl | (simp [errW_none, errW_some] <;> rfl) | (simp [*, errW_none, errW_some] <;> rfl), by (with_reducible repeat (first | apply Kd.S_alloc | apply Kd.S_drewN | apply Kd.S_drew)); exact HO_8.out, by repeat (first | (with_reducible first | exact HB.out | apply below_alloc | apply pw_below_drewN | apply below_drew1) | exact HB.out)⟩

end Go.Proofs.Ytepipgneefcoiaa.D
