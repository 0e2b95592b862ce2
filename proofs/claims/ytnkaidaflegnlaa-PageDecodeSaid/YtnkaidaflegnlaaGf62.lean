/- The functions of the program that these laws reach, each as a plain Lean function, and the proof that the machine's call comes to it; no condition beyond those that each theorem names. Made by wip/xprint.py. -/
-- squeezed
import Derived.Test.YtnkaidaflegnlaaGx0
import Derived.Test.YtnkaidaflegnlaaGf61
import Derived.Test.YtnkaidaflegnlaaGf86
import Derived.Test.YtnkaidaflegnlaaGh
namespace Go.Proofs.Ytnkaidaflegnlaa.G
open Go.RowKit Go.Proofs.YtnkaidaflegnlaaW.PrintWords Go.Proofs.YtnkaidaflegnlaaW.PrintLast Go.Proofs.YtnkaidaflegnlaaW.PrintMore
attribute [local go_sem] max2_int min2_int max_two min_two max_three min_three max_four min_four   -- for this text's walks alone
set_option linter.unusedVariables false
set_option linter.unusedSimpArgs false

/-! ### marginaliaref20_items: function 62 -/
mutual
def marginaliaref20_items.l0 : Nat → List Int → Bool → List (S39) → Int → Int → Option ((List (S39)))
 | 0, _, _, _, _, _ => none
 | k + 1, x0, x1, x5, x6, x7 => (marginaliaref20_number.f k x0 1 2).bind fun t257 => (if x7 < t257 then (marginaliaref20_items.j1 k x0 x1 x5 x6 x7 (decide ((wrap64 (x6 + 12)) ≤ (x0.length : Int)))) else (marginaliaref20_items.j1 k x0 x1 x5 x6 x7 false))
def marginaliaref20_items.j1 : Nat → List Int → Bool → List (S39) → Int → Int → Bool → Option ((List (S39)))
 | 0, _, _, _, _, _, _ => none
 | k + 1, x0, x1, x5, x6, x7, x21 => if x21 = true then (if 0 ≤ x6 then (if x6 ≤ (wrap64 (x6 + 8)) then (if (wrap64 (x6 + 8)) ≤ (x0.length : Int) then ((marginaliaref16_Number.f k ((x0.take ((wrap64 (x6 + 8)) : Int).toNat).drop (x6 : Int).toNat)).bind fun t259 => (if x1 = true then ((marginaliaref20_number.f k x0 (wrap64 (x6 + 8)) 4).bind fun t261 => (marginaliaref20_items.j2 k x0 x1 x5 (wrap64 ((wrap64 (x6 + 8)) + 4)) x7 t259 t261 0)) else (marginaliaref20_items.j2 k x0 x1 x5 (wrap64 (x6 + 8)) x7 t259 0 0))) else (none)) else (none)) else (none)) else (some x5)
def marginaliaref20_items.j2 : Nat → List Int → Bool → List (S39) → Int → Int → Int → Int → Int → Option ((List (S39)))
 | 0, _, _, _, _, _, _, _, _ => none
 | k + 1, x0, x1, x5, x6, x7, x261000, x261001, x261003 => if x1 = true then (if x261001 ≤ 40 then ((some (([] : List Int) : List Int)).bind fun y262 => (if 0 ≤ x6 then (if x6 ≤ (mn (wrap64 (x6 + x261001)) (x0.length : Int)) then (if (mn (wrap64 (x6 + x261001)) (x0.length : Int)) ≤ (x0.length : Int) then (if y262.length + ((x0.take ((mn (wrap64 (x6 + x261001)) (x0.length : Int)) : Int).toNat).drop (x6 : Int).toNat).length < 140737488355328 then (if x5.length < 2932031007402 then (marginaliaref20_items.l0 k x0 x1 (x5 ++ [(⟨x261000, x261001, (y262 ++ ((x0.take ((mn (wrap64 (x6 + x261001)) (x0.length : Int)) : Int).toNat).drop (x6 : Int).toNat)), x261003⟩ : S39)]) (mn (wrap64 (x6 + x261001)) (x0.length : Int)) (wrap64 (x7 + 1))) else (none)) else (none)) else (none)) else (none)) else (none))) else ((marginaliaref20_number.f k x0 x6 4).bind fun t272 => (if x5.length < 2932031007402 then (marginaliaref20_items.l0 k x0 x1 (x5 ++ [(⟨x261000, x261001, ([] : List Int), t272⟩ : S39)]) (wrap64 (x6 + 4)) (wrap64 (x7 + 1))) else (none)))) else ((marginaliaref20_number.f k x0 x6 4).bind fun t276 => (if x5.length < 2932031007402 then (marginaliaref20_items.l0 k x0 x1 (x5 ++ [(⟨x261000, x261001, ([] : List Int), t276⟩ : S39)]) (wrap64 (x6 + 4)) (wrap64 (x7 + 1))) else (none)))
end
def marginaliaref20_items.f (k : Nat) (l0 : List Int) (a1 : Bool) : Option ((List (S39))) := marginaliaref20_items.l0 k l0 a1 (([] : List (S39))) 3 0
theorem marginaliaref20_items.mono_l : ∀ k, (∀ y0 y1 y2 y3 y4, LeO (marginaliaref20_items.l0 k y0 y1 y2 y3 y4) (marginaliaref20_items.l0 (k + 1) y0 y1 y2 y3 y4)) ∧ (∀ y0 y1 y2 y3 y4 y5, LeO (marginaliaref20_items.j1 k y0 y1 y2 y3 y4 y5) (marginaliaref20_items.j1 (k + 1) y0 y1 y2 y3 y4 y5)) ∧ (∀ y0 y1 y2 y3 y4 y5 y6 y7, LeO (marginaliaref20_items.j2 k y0 y1 y2 y3 y4 y5 y6 y7) (marginaliaref20_items.j2 (k + 1) y0 y1 y2 y3 y4 y5 y6 y7))
 | 0 => ⟨fun _ _ _ _ _ r h => by simp [marginaliaref20_items.l0] at h, fun _ _ _ _ _ _ r h => by simp [marginaliaref20_items.j1] at h, fun _ _ _ _ _ _ _ _ r h => by simp [marginaliaref20_items.j2] at h⟩
 | k + 1 => by
  obtain ⟨ih0, ih1, ih2⟩ := marginaliaref20_items.mono_l k
  refine ⟨?_, ?_, ?_⟩
  ·intro y0 y1 y2 y3 y4
   unfold marginaliaref20_items.l0
   repeat' first
   | (with_reducible exact ih0 _ _ _ _ _)
   | (with_reducible exact ih1 _ _ _ _ _ _)
   | (with_reducible exact ih2 _ _ _ _ _ _ _ _)
   | (with_reducible exact marginaliaref16_Number.mono _ _)
   | (with_reducible exact marginaliaref20_number.mono _ _ _ _)
   | (with_reducible exact LeO.refl _)
   | (with_reducible exact LeO.none _)
   | (with_reducible refine LeO.ite ?_ ?_)
   | (with_reducible refine LeO.bind ?_ (fun _ => ?_))
   | exact ih0 _ _ _ _ _
   | exact ih1 _ _ _ _ _ _
   | exact ih2 _ _ _ _ _ _ _ _
   | exact marginaliaref16_Number.mono _ _
   | exact marginaliaref20_number.mono _ _ _ _
   | exact LeO.none _
   | refine LeO.ite ?_ ?_
   | refine LeO.bind ?_ (fun _ => ?_)
  ·intro y0 y1 y2 y3 y4 y5
   unfold marginaliaref20_items.j1
   repeat' first
   | (with_reducible exact ih0 _ _ _ _ _)
   | (with_reducible exact ih1 _ _ _ _ _ _)
   | (with_reducible exact ih2 _ _ _ _ _ _ _ _)
   | (with_reducible exact marginaliaref16_Number.mono _ _)
   | (with_reducible exact marginaliaref20_number.mono _ _ _ _)
   | (with_reducible exact LeO.refl _)
   | (with_reducible exact LeO.none _)
   | (with_reducible refine LeO.ite ?_ ?_)
   | (with_reducible refine LeO.bind ?_ (fun _ => ?_))
   | exact ih0 _ _ _ _ _
   | exact ih1 _ _ _ _ _ _
   | exact ih2 _ _ _ _ _ _ _ _
   | exact marginaliaref16_Number.mono _ _
   | exact marginaliaref20_number.mono _ _ _ _
   | exact LeO.none _
   | refine LeO.ite ?_ ?_
   | refine LeO.bind ?_ (fun _ => ?_)
  ·intro y0 y1 y2 y3 y4 y5 y6 y7
   unfold marginaliaref20_items.j2
   repeat' first
   | (with_reducible exact ih0 _ _ _ _ _)
   | (with_reducible exact ih1 _ _ _ _ _ _)
   | (with_reducible exact ih2 _ _ _ _ _ _ _ _)
   | (with_reducible exact marginaliaref16_Number.mono _ _)
   | (with_reducible exact marginaliaref20_number.mono _ _ _ _)
   | (with_reducible exact LeO.refl _)
   | (with_reducible exact LeO.none _)
   | (with_reducible refine LeO.ite ?_ ?_)
   | (with_reducible refine LeO.bind ?_ (fun _ => ?_))
   | exact ih0 _ _ _ _ _
   | exact ih1 _ _ _ _ _ _
   | exact ih2 _ _ _ _ _ _ _ _
   | exact marginaliaref16_Number.mono _ _
   | exact marginaliaref20_number.mono _ _ _ _
   | exact LeO.none _
   | refine LeO.ite ?_ ?_
   | refine LeO.bind ?_ (fun _ => ?_)
theorem marginaliaref20_items.mono : ∀ a0 a1 k, LeO (marginaliaref20_items.f k a0 a1) (marginaliaref20_items.f (k + 1) a0 a1) := by
 intro a0 a1 k
 obtain ⟨ih0, ih1, ih2⟩ := marginaliaref20_items.mono_l k
 unfold marginaliaref20_items.f
 repeat' first
   | (with_reducible exact ih0 _ _ _ _ _)
   | (with_reducible exact ih1 _ _ _ _ _ _)
   | (with_reducible exact ih2 _ _ _ _ _ _ _ _)
   | (with_reducible exact marginaliaref16_Number.mono _ _)
   | (with_reducible exact marginaliaref20_number.mono _ _ _ _)
   | (with_reducible exact LeO.refl _)
   | (with_reducible exact LeO.none _)
   | (with_reducible refine LeO.ite ?_ ?_)
   | (with_reducible refine LeO.bind ?_ (fun _ => ?_))
   | exact ih0 _ _ _ _ _
   | exact ih1 _ _ _ _ _ _
   | exact ih2 _ _ _ _ _ _ _ _
   | exact marginaliaref16_Number.mono _ _
   | exact marginaliaref20_number.mono _ _ _ _
   | exact LeO.none _
   | refine LeO.ite ?_ ?_
   | refine LeO.bind ?_ (fun _ => ?_)
set_option maxHeartbeats 8000000 in
set_option maxRecDepth 100000 in
theorem marginaliaref20_items.calls (k : Nat) (A0 : Option Addr) (c0 : Nat) (l0 : List Int) (a1 : Bool) (r : List (S39)) (w : World) (hr0 : Kd.C (Kd.int .u8) w A0 l0.length l0) (hc0 : l0.length ≤ c0) (h : marginaliaref20_items.f k l0 a1 = some r) :
  Calls Try.prog 62 #[.slice A0 l0.length c0, .bool a1] w fun e w' => ∃ v0_ : Value, e = .returned (v0_) ∧ Kd.S k39 39 w' w.heap.size (fun _ => True) v0_ r ∧ Below w.heap.size w w' := by
 have hu39 := Try.underlying39
 have HR0 := Aside0.mk hr0
 have HC0 := Aside0.mk hc0
 clear hr0 hc0
 have HB := Aside0.mk (Below.refl w.heap.size w)
 have H : (marginaliaref20_items.l0 k l0 a1 (([] : List (S39))) 3 0) = some r := h
 clear h
 obtain ⟨y254, hy254⟩ : ∃ y_ : List (S39), y_ = (([] : List (S39))) := ⟨_, rfl⟩
 replace H : (marginaliaref20_items.l0 k l0 a1 y254 3 0) = some r := by first | (rw [hy254]; with_reducible exact H) | (have H2_ := (Option.bind_some _ _).symm.trans H; rw [hy254]; with_reducible exact H2_) | (have H2_ := (Option.bind_some _ _).symm.trans H; with_reducible exact H2_) | with_reducible exact H | (rw [hy254]; exact H) | exact H
 have Ny254 := Aside0.mk hy254
 clear hy254
 have H' := Aside0.mk H
 clear H
 go_enter Try.func62, Try.ntmps62
 go_wp2_with (first | ((with_reducible refine gate_dst (N := 10) rfl ?_); (try (refine gate_guard (by rfl) ?_; dsimp only)); refine Kd.S_lit k39 _ 39 ?hg (N := 10) ?hd (xs := ([] : List (S39))) (inner := []) (ok := fun _ => True) (okp := fun _ => True) ?hr ?hp (fun _ hk => hk) trivial (Below.refl _ _) (Nat.le_refl _) (by simp) ?_; (case hd => rfl); (case hg => rfl); (case hr => first | (go_simp; done) | (go_simp; rfl)); (case hp => exact (Reps.none _ _)); intro v255 w3 ho4 hb hg_ hnew_; clear hg_ hnew_; (first | rw [← Ny254.out] at ho4 | (simp only [Int.reduceToNat] at ho4; rw [← Ny254.out] at ho4)); have n0_ := Aside0.mk (Kd.S_lower ho4 (below_size (by repeat (first | (with_reducible first | exact HB.out | apply below_alloc | apply pw_below_drewN | apply below_drew1) | exact HB.out)))); have n1_ := Aside0.mk (below_step (by repeat (first | (with_reducible first | exact HB.out | apply below_alloc | apply pw_below_drewN | apply below_drew1) | exact HB.out)) hb); clear HB; have HO256 := n0_; have HB := n1_; clear n0_ n1_; clear hb ho4))
 go_loopg [5, 6, 7] k (fun kq v5 v6 v7 w' => ∃ (x5_1 : List (S39)) (x6_1 : Int) (x7_1 : Int), v6 = .int .i64 x6_1 ∧ v7 = .int .i64 x7_1 ∧ Aside0 (marginaliaref20_items.l0 kq l0 a1 x5_1 x6_1 x7_1 = some r) ∧ Aside0 (kq ≤ k) ∧ Aside0 (Kd.S k39 39 w' w.heap.size (fun _ => True) v5 x5_1) ∧ Aside0 (Below w.heap.size w w'))
 case atStart => exact ⟨(y254), (3), (0), (by first | rfl | (simp; done) | (simp [*]; done)), (by first | rfl | (simp; done) | (simp [*]; done)), H', ⟨Nat.le_refl _⟩, ⟨by (with_reducible repeat (first | apply Kd.S_alloc | apply Kd.S_drewN | apply Kd.S_drew)); exact HO256.out⟩, ⟨by repeat (first | (with_reducible first | exact HB.out | apply below_alloc | apply pw_below_drewN | apply below_drew1) | exact HB.out)⟩⟩
 case round =>
  clear H'
  (try clear p2)
  obtain ⟨x5_1, x6_1, x7_1, rfl, rfl, HA, HK1, HO_5, HB⟩ := hrel
  cases gk with
  | zero => exact absurd HA.out (by simp [marginaliaref20_items.l0])
  | succ k1 =>
   have H := HA.out
   clear HA
   simp only [marginaliaref20_items.l0] at H
   have HC5 := Aside0.mk H
   clear H
   go_upto_region 4 with (fail)
   go_cut [21] (fun v21 wc => ∃ (kq : Nat) (x21_4 : Bool), v21 = .bool x21_4 ∧ Aside0 (marginaliaref20_items.j1 kq l0 a1 x5_1 x6_1 x7_1 x21_4 = some r) ∧ Aside0 (kq ≤ k1) ∧ Aside0 (Kd.S k39 39 wc w.heap.size (fun _ => True) u5 x5_1) ∧ Aside0 (Below w.heap.size w wc))
   case first =>
    have H := HC5.out
    clear HC5
    replace H := Option.bind_eq_some_iff.mp H
    obtain ⟨t257, A60, H⟩ := H
    replace H : (if x7_1 < t257 then (marginaliaref20_items.j1 k1 l0 a1 x5_1 x6_1 x7_1 (decide ((wrap64 (x6_1 + 12)) ≤ (l0.length : Int)))) else (marginaliaref20_items.j1 k1 l0 a1 x5_1 x6_1 x7_1 false)) = some r := H
    have A6 := Aside0.mk A60
    clear A60
    by_cases c7 : x7_1 < t257
    ·rw [if_pos c7] at H
     have c7b0 : decide (x7_1 < t257) = true := decide_eq_true c7
     clear c7
     (first | rw [c7b0] | (simp only [i64_w, i32_w]; rw [c7b0]) | skip)
     have H' := Aside0.mk H
     clear H
     go_wp2_with (first | ((with_reducible refine gate_callee (f := 61) rfl ?_); refine goesL_ (some 13) rfl rfl Try.func61 (by kernel_rfl) rfl #[.slice A0 l0.length c0, .int .i64 1, .int .i64 2] rfl (by (try simp only [List.map_toArray, List.map_cons, List.map_nil]); first | done | rfl | (simp only [List.length_drop, List.length_take]; rfl)) ?_; (with_reducible refine (marginaliaref20_number.calls k1 _ _ l0 1 2 t257 _ ?side1 ?side2 A6.out).mono ?_); (case side1 => repeat (first | exact (Kd.C_below HR0.out HB.out) | (with_reducible refine Kd.C_alloc ?_ _) | (with_reducible refine Kd.C_drewN ?_ _) | (with_reducible refine Kd.C_drew ?_))); (case side2 => exact HC0.out); rintro e w' ⟨rfl, ⟨nd, rfl⟩⟩; refine ⟨_, rfl, ?_⟩))
     go_meet
     case rel => exact ⟨_, (decide ((wrap64 (x6_1 + 12)) ≤ (l0.length : Int))), (by first | rfl | (simp; done) | (simp [*]; done)), H', ⟨by have := HK1.out; first | omega | exact Nat.le_refl _⟩, ⟨by (with_reducible repeat (first | apply Kd.S_alloc | apply Kd.S_drewN | apply Kd.S_drew)); exact HO_5.out⟩, ⟨by repeat (first | (with_reducible first | exact HB.out | apply below_alloc | apply pw_below_drewN | apply below_drew1) | exact HB.out)⟩⟩
    ·rw [if_neg c7] at H
     have c7b0 : decide (x7_1 < t257) = false := decide_eq_false c7
     clear c7
     (first | rw [c7b0] | (simp only [i64_w, i32_w]; rw [c7b0]) | skip)
     have H' := Aside0.mk H
     clear H
     go_wp2_with (first | ((with_reducible refine gate_callee (f := 61) rfl ?_); refine goesL_ (some 13) rfl rfl Try.func61 (by kernel_rfl) rfl #[.slice A0 l0.length c0, .int .i64 1, .int .i64 2] rfl (by (try simp only [List.map_toArray, List.map_cons, List.map_nil]); first | done | rfl | (simp only [List.length_drop, List.length_take]; rfl)) ?_; (with_reducible refine (marginaliaref20_number.calls k1 _ _ l0 1 2 t257 _ ?side1 ?side2 A6.out).mono ?_); (case side1 => repeat (first | exact (Kd.C_below HR0.out HB.out) | (with_reducible refine Kd.C_alloc ?_ _) | (with_reducible refine Kd.C_drewN ?_ _) | (with_reducible refine Kd.C_drew ?_))); (case side2 => exact HC0.out); rintro e w' ⟨rfl, ⟨nd, rfl⟩⟩; refine ⟨_, rfl, ?_⟩))
     go_meet
     case rel => exact ⟨_, (false), (by first | rfl | (simp; done) | (simp [*]; done)), H', ⟨by have := HK1.out; first | omega | exact Nat.le_refl _⟩, ⟨by (with_reducible repeat (first | apply Kd.S_alloc | apply Kd.S_drewN | apply Kd.S_drew)); exact HO_5.out⟩, ⟨by repeat (first | (with_reducible first | exact HB.out | apply below_alloc | apply pw_below_drewN | apply below_drew1) | exact HB.out)⟩⟩
   case rest =>
    clear HC5
    (try clear p2); (try clear c6); (try clear p6); (try clear c7); (try clear c7b0); (try clear p2)
    obtain ⟨kq, x21_4, rfl, HA, HJ4, HO_5, HB⟩ := hcut
    cases kq with
    | zero => exact absurd HA.out (by simp [marginaliaref20_items.j1])
    | succ kj4 =>
     have H := HA.out
     clear HA
     simp only [marginaliaref20_items.j1] at H
     by_cases c8 : x21_4 = true
     ·subst c8
      have H1 : (if 0 ≤ x6_1 then (if x6_1 ≤ (wrap64 (x6_1 + 8)) then (if (wrap64 (x6_1 + 8)) ≤ (l0.length : Int) then ((marginaliaref16_Number.f kj4 ((l0.take ((wrap64 (x6_1 + 8)) : Int).toNat).drop (x6_1 : Int).toNat)).bind fun t259 => (if a1 = true then ((marginaliaref20_number.f kj4 l0 (wrap64 (x6_1 + 8)) 4).bind fun t261 => (marginaliaref20_items.j2 kj4 l0 a1 x5_1 (wrap64 ((wrap64 (x6_1 + 8)) + 4)) x7_1 t259 t261 0)) else (marginaliaref20_items.j2 kj4 l0 a1 x5_1 (wrap64 (x6_1 + 8)) x7_1 t259 0 0))) else (none)) else (none)) else (none)) = some r := by rw [if_pos rfl] at H; exact H
      clear H
      have H := H1
      clear H1
      by_cases c9 : 0 ≤ x6_1
      ·rw [if_pos c9] at H
       have c9b0 := eq_true c9
       have c9b1 : decide (0 ≤ x6_1) = true := decide_eq_true c9
       clear c9
       by_cases c10 : x6_1 ≤ (wrap64 (x6_1 + 8))
       ·rw [if_pos c10] at H
        have c10b0 := eq_true c10
        have c10b1 : decide (x6_1 ≤ (wrap64 (x6_1 + 8))) = true := decide_eq_true c10
        by_cases c11 : (wrap64 (x6_1 + 8)) ≤ (l0.length : Int)
        ·rw [if_pos c11] at H
         have c11b0 := eq_true c11
         have c11b1 : decide ((wrap64 (x6_1 + 8)) ≤ (l0.length : Int)) = true := decide_eq_true c11
         replace H := Option.bind_eq_some_iff.mp H
         obtain ⟨t259, A120, H⟩ := H
         replace H : (if a1 = true then ((marginaliaref20_number.f kj4 l0 (wrap64 (x6_1 + 8)) 4).bind fun t261 => (marginaliaref20_items.j2 kj4 l0 a1 x5_1 (wrap64 ((wrap64 (x6_1 + 8)) + 4)) x7_1 t259 t261 0)) else (marginaliaref20_items.j2 kj4 l0 a1 x5_1 (wrap64 (x6_1 + 8)) x7_1 t259 0 0)) = some r := H
         have A12 := Aside0.mk A120
         clear A120
         have HC13 := Aside0.mk H
         clear H
         obtain ⟨i014, hi014, _, hsz14, _⟩ := info_parts info5
         obtain ⟨A14, hcut14, hA14, hC14⟩ := print_mid_of (P := Try.prog) (Value.int .u8) 0 24 5 .i64 .i64 Try.underlying24 hi014 hsz14 A0 c0 l0 x6_1 (wrap64 (x6_1 + 8)) (of_decide_eq_true (by first | (with_reducible assumption) | assumption)) (by first | omega | exact of_decide_eq_true (by first | (with_reducible assumption) | assumption)) (of_decide_eq_true (by first | (with_reducible assumption) | assumption)) HC0.out
         have HR258 := Aside0.mk (Kd.C_of_reads (h1 := fun _ => rfl) (hA14 _ (Kd.reads_of_C HR0.out)))
         have HC258 := Aside0.mk hC14
         clear hA14 hC14 hi014 hsz14
         go_upto_if 33 with (first | ((with_reducible refine gate_callee (f := 86) rfl ?_); refine goesL_ (some 29) rfl rfl Try.func86 (by kernel_rfl) rfl #[.slice A14 ((l0.take ((wrap64 (x6_1 + 8)) : Int).toNat).drop (x6_1 : Int).toNat).length (c0 - x6_1.toNat)] rfl (by (try simp only [List.map_toArray, List.map_cons, List.map_nil]); first | done | (rw [show ((l0.take ((wrap64 (x6_1 + 8)) : Int).toNat).drop (x6_1 : Int).toNat).length = ((wrap64 (x6_1 + 8)).toNat - x6_1.toNat) from (by rw [List.length_drop, List.length_take]; have h_ : ((wrap64 (x6_1 + 8)) : Int) ≤ (l0.length : Int) := of_decide_eq_true (by first | (with_reducible assumption) | assumption); omega)] <;> rfl) | rfl | (simp only [List.length_drop, List.length_take]; rfl)) ?_; (with_reducible refine (marginaliaref16_Number.calls kj4 _ _ ((l0.take ((wrap64 (x6_1 + 8)) : Int).toNat).drop (x6_1 : Int).toNat) t259 _ ?side1 ?side2 A12.out).mono ?_); (case side1 => repeat (first | exact (Kd.C_below HR258.out HB.out) | (with_reducible refine Kd.C_alloc ?_ _) | (with_reducible refine Kd.C_drewN ?_ _) | (with_reducible refine Kd.C_drew ?_))); (case side2 => exact HC258.out); rintro e w' ⟨rfl, ⟨nd, rfl⟩⟩; refine ⟨_, rfl, ?_⟩; (try (rw [drewN_self wc]; generalize hq_ : World.drewN wc _ = wc; have n0_ : Aside0 (Kd.S k39 39 wc w.heap.size (fun _ => True) u5 x5_1) := ⟨by rw [← hq_]; exact (by (with_reducible repeat (first | apply Kd.S_alloc | apply Kd.S_drewN | apply Kd.S_drew)); exact HO_5.out)⟩; have n1_ : Aside0 (Below w.heap.size w wc) := ⟨by rw [← hq_]; exact (by repeat (first | (with_reducible first | exact HB.out | apply below_alloc | apply pw_below_drewN | apply below_drew1) | exact HB.out))⟩; clear HO_5 HB hq_; have HO_5 := n0_; have HB := n1_; clear n0_ n1_))) | ((with_reducible refine gate_dst (N := 8) rfl ?_); (try (refine gate_guard (by rfl) ?_; dsimp only)); refine box_event ?hg (N := 8) ?hd (cs := #[.int .u64 0, .int .i64 0, .slice none 0 0, .int .i64 0]) (t := 39) ?hr ?_; (case hd => rfl); (case hg => rfl); (case hr => first | (go_simp; done) | (go_simp; rfl)); intro gb260 hg w15 hbox hb; have n0_ := Aside0.mk (Kd.S_below (Kd.S_elderB (by (with_reducible repeat (first | apply Kd.S_alloc | apply Kd.S_drewN | apply Kd.S_drew)); exact HO_5.out) gb260 (Nat.le_of_eq hg.symm)) hb); have n1_ := Aside0.mk (below_step (by repeat (first | (with_reducible first | exact HB.out | apply below_alloc | apply pw_below_drewN | apply below_drew1) | exact HB.out)) hb); have n2_ := Aside0.mk (hbox); have n3_ := Aside0.mk ((by rw [hg]; exact (below_size (by repeat (first | (with_reducible first | exact HB.out | apply below_alloc | apply pw_below_drewN | apply below_drew1) | exact HB.out))) : w.heap.size ≤ gb260)); have n4_ := Aside0.mk ((by rw [hg]; exact (below_size (by repeat (first | (with_reducible first | exact HB.out | apply below_alloc | apply pw_below_drewN | apply below_drew1) | exact HB.out))) : w.heap.size ≤ gb260)); clear HO_5; clear HB; have HO_5 := n0_; have HB := n1_; have BK260 := n2_; have GW260 := n3_; have GE260 := n4_; clear n0_ n1_ n2_ n3_ n4_; clear hb hbox hg; have hcz16_0 : w15.cell? ⟨gb260, 0, none⟩ = some (.int .u64 0) := (blk_cell BK260.out 0).trans rfl; have hcz16_1 : w15.cell? ⟨gb260, 1, none⟩ = some (.int .i64 0) := (blk_cell BK260.out 1).trans rfl; have hcz16_2 : w15.cell? ⟨gb260, 2, none⟩ = some (.slice none 0 0) := (blk_cell BK260.out 2).trans rfl; have hcz16_3 : w15.cell? ⟨gb260, 3, none⟩ = some (.int .i64 0) := (blk_cell BK260.out 3).trans rfl; have hfz16_0 := blk_frozen BK260.out 0; have hfz16_1 := blk_frozen BK260.out 1; have hfz16_2 := blk_frozen BK260.out 2; have hfz16_3 := blk_frozen BK260.out 3))
         (try simp only [Act.put, List.setIfInBounds_toArray, List.set_cons_zero, List.set_cons_succ])
         go_cut [6] (fun v6 wc => ∃ (kq : Nat) (x6_12 : Int) (x261001_12 : Int), v6 = .int .i64 x6_12 ∧ Aside0 (marginaliaref20_items.j2 kq l0 a1 x5_1 x6_12 x7_1 t259 x261001_12 0 = some r) ∧ Aside0 (kq ≤ kj4) ∧ Aside0 (Kd.S k39 39 wc w.heap.size (fun k_ => k_ ≠ gb260) u5 x5_1) ∧ Aside0 (wc.heap[gb260]? = some (.cells #[.int .u64 t259, .int .i64 x261001_12, (.slice none 0 0), .int .i64 0] 39 (0, 0))) ∧ Aside0 (Below w.heap.size w wc))
         case first =>
          have H := HC13.out
          clear HC13
          by_cases c17 : a1 = true
          ·subst c17
           have H1 : ((marginaliaref20_number.f kj4 l0 (wrap64 (x6_1 + 8)) 4).bind fun t261 => (marginaliaref20_items.j2 kj4 l0 true x5_1 (wrap64 ((wrap64 (x6_1 + 8)) + 4)) x7_1 t259 t261 0)) = some r := by rw [if_pos rfl] at H; exact H
           clear H
           have H := H1
           clear H1
           replace H := Option.bind_eq_some_iff.mp H
           obtain ⟨t261, A180, H⟩ := H
           replace H : (marginaliaref20_items.j2 kj4 l0 true x5_1 (wrap64 ((wrap64 (x6_1 + 8)) + 4)) x7_1 t259 t261 0) = some r := H
           have A18 := Aside0.mk A180
           clear A180
           have H' := Aside0.mk H
           clear H
           go_wp2_with (first | ((with_reducible refine gate_callee (f := 61) rfl ?_); refine goesL_ (some 36) rfl rfl Try.func61 (by kernel_rfl) rfl #[.slice A0 l0.length c0, .int .i64 (wrap64 (x6_1 + 8)), .int .i64 4] rfl (by (try simp only [List.map_toArray, List.map_cons, List.map_nil]); first | done | rfl | (simp only [List.length_drop, List.length_take]; rfl)) ?_; (with_reducible refine (marginaliaref20_number.calls kj4 _ _ l0 (wrap64 (x6_1 + 8)) 4 t261 _ ?side1 ?side2 A18.out).mono ?_); (case side1 => exact Kd.C_below HR0.out (by repeat (first | (with_reducible first | exact HB.out | apply below_alloc | apply pw_below_drewN | apply below_drew1 | refine below_set ?_ GE260.out) | exact HB.out))); (case side2 => exact HC0.out); rintro e w' ⟨rfl, ⟨nd, rfl⟩⟩; refine ⟨_, rfl, ?_⟩; have hcz19_0 : w15.cell? ⟨gb260, 0, none⟩ = some (.int .u64 0) := (blk_cell BK260.out 0).trans rfl; have hcz19_1 : w15.cell? ⟨gb260, 1, none⟩ = some (.int .i64 0) := (blk_cell BK260.out 1).trans rfl; have hcz19_2 : w15.cell? ⟨gb260, 2, none⟩ = some (.slice none 0 0) := (blk_cell BK260.out 2).trans rfl; have hcz19_3 : w15.cell? ⟨gb260, 3, none⟩ = some (.int .i64 0) := (blk_cell BK260.out 3).trans rfl; have hfz19_0 := blk_frozen BK260.out 0; have hfz19_1 := blk_frozen BK260.out 1; have hfz19_2 := blk_frozen BK260.out 2; have hfz19_3 := blk_frozen BK260.out 3))
           go_meet
           case rel => exact ⟨_, (wrap64 ((wrap64 (x6_1 + 8)) + 4)), (t261), (by first | rfl | (simp; done) | (simp [*]; done)), H', ⟨by have := HK1.out; have := HJ4.out; first | omega | exact Nat.le_refl _⟩, ⟨by (with_reducible repeat (first | apply Kd.S_alloc | apply Kd.S_drewN | apply Kd.S_drew)); exact Kd.S_mono (Kd.S_far (p := ⟨gb260, 1, none⟩) (Kd.S_far (p := ⟨gb260, 3, none⟩) (Kd.S_far (p := ⟨gb260, 2, none⟩) (Kd.S_far (p := ⟨gb260, 1, none⟩) (Kd.S_far (p := ⟨gb260, 0, none⟩) (Kd.S_mono HO_5.out (fun k_ hk => (⟨hk, hk.2⟩ : _ ∧ k_ ≠ gb260))) (fun _ hk => hk.2) (.int .u64 t259)) (fun _ hk => hk.2) (.int .i64 0)) (fun _ hk => hk.2) (.slice none 0 0)) (fun _ hk => hk.2) (.int .i64 0)) (fun _ hk => hk.2) (.int .i64 t261)) (fun _ hk => hk.1.2)⟩, ⟨by (with_reducible repeat (first | refine blk_drewN ?_ _ | refine blk_drew ?_ | refine blk_alloc ?_ _)); refine blk_put (cs := #[.int .u64 t259, .int .i64 0, .slice none 0 0, .int .i64 0]) ?_ 1 _ rfl; (with_reducible repeat (first | refine blk_drewN ?_ _ | refine blk_drew ?_ | refine blk_alloc ?_ _)); refine blk_put (cs := #[.int .u64 t259, .int .i64 0, .slice none 0 0, .int .i64 0]) ?_ 3 _ rfl; (with_reducible repeat (first | refine blk_drewN ?_ _ | refine blk_drew ?_ | refine blk_alloc ?_ _)); refine blk_put (cs := #[.int .u64 t259, .int .i64 0, .slice none 0 0, .int .i64 0]) ?_ 2 _ rfl; (with_reducible repeat (first | refine blk_drewN ?_ _ | refine blk_drew ?_ | refine blk_alloc ?_ _)); refine blk_put (cs := #[.int .u64 t259, .int .i64 0, .slice none 0 0, .int .i64 0]) ?_ 1 _ rfl; (with_reducible repeat (first | refine blk_drewN ?_ _ | refine blk_drew ?_ | refine blk_alloc ?_ _)); refine blk_put (cs := #[.int .u64 0, .int .i64 0, .slice none 0 0, .int .i64 0]) ?_ 0 _ rfl; (with_reducible repeat (first | refine blk_drewN ?_ _ | refine blk_drew ?_ | refine blk_alloc ?_ _)); exact BK260.out⟩, ⟨by repeat (first | (with_reducible first | exact HB.out | apply below_alloc | apply pw_below_drewN | apply below_drew1 | refine below_set ?_ GE260.out) | exact HB.out)⟩⟩
          ·replace c17 := Bool.eq_false_iff.mpr c17
           subst c17
           have H1 : (marginaliaref20_items.j2 kj4 l0 false x5_1 (wrap64 (x6_1 + 8)) x7_1 t259 0 0) = some r := by rw [if_neg (show ¬ (false = true) by decide)] at H; exact H
           clear H
           have H := H1
           clear H1
           have H' := Aside0.mk H
           clear H
           go_wp2
           go_meet
           case rel => exact ⟨_, (wrap64 (x6_1 + 8)), (0), (by first | rfl | (simp; done) | (simp [*]; done)), H', ⟨by have := HK1.out; have := HJ4.out; first | omega | exact Nat.le_refl _⟩, ⟨by (with_reducible repeat (first | apply Kd.S_alloc | apply Kd.S_drewN | apply Kd.S_drew)); exact Kd.S_mono (Kd.S_far (p := ⟨gb260, 3, none⟩) (Kd.S_far (p := ⟨gb260, 2, none⟩) (Kd.S_far (p := ⟨gb260, 1, none⟩) (Kd.S_far (p := ⟨gb260, 0, none⟩) (Kd.S_mono HO_5.out (fun k_ hk => (⟨hk, hk.2⟩ : _ ∧ k_ ≠ gb260))) (fun _ hk => hk.2) (.int .u64 t259)) (fun _ hk => hk.2) (.int .i64 0)) (fun _ hk => hk.2) (.slice none 0 0)) (fun _ hk => hk.2) (.int .i64 0)) (fun _ hk => hk.1.2)⟩, ⟨by (with_reducible repeat (first | refine blk_drewN ?_ _ | refine blk_drew ?_ | refine blk_alloc ?_ _)); refine blk_put (cs := #[.int .u64 t259, .int .i64 0, .slice none 0 0, .int .i64 0]) ?_ 3 _ rfl; (with_reducible repeat (first | refine blk_drewN ?_ _ | refine blk_drew ?_ | refine blk_alloc ?_ _)); refine blk_put (cs := #[.int .u64 t259, .int .i64 0, .slice none 0 0, .int .i64 0]) ?_ 2 _ rfl; (with_reducible repeat (first | refine blk_drewN ?_ _ | refine blk_drew ?_ | refine blk_alloc ?_ _)); refine blk_put (cs := #[.int .u64 t259, .int .i64 0, .slice none 0 0, .int .i64 0]) ?_ 1 _ rfl; (with_reducible repeat (first | refine blk_drewN ?_ _ | refine blk_drew ?_ | refine blk_alloc ?_ _)); refine blk_put (cs := #[.int .u64 0, .int .i64 0, .slice none 0 0, .int .i64 0]) ?_ 0 _ rfl; (with_reducible repeat (first | refine blk_drewN ?_ _ | refine blk_drew ?_ | refine blk_alloc ?_ _)); exact BK260.out⟩, ⟨by repeat (first | (with_reducible first | exact HB.out | apply below_alloc | apply pw_below_drewN | apply below_drew1 | refine below_set ?_ GE260.out) | exact HB.out)⟩⟩
         case rest =>
          clear HC13
          (try clear c1); (try clear p2); (try clear c6); (try clear p6); (try clear c7); (try clear c7b0); (try clear c8); (try clear c9); (try clear c9b0); (try clear c9b1); (try clear c10); (try clear c10b0); (try clear c10b1); (try clear c11); (try clear c11b0); (try clear c11b1); (try clear c17); (try clear hcz16_0); (try clear hcz16_1); (try clear hcz16_2); (try clear hcz16_3); (try clear hcz19_0); (try clear hcz19_1); (try clear hcz19_2); (try clear hcz19_3); (try clear hfz16_0); (try clear hfz16_1); (try clear hfz16_2); (try clear hfz16_3); (try clear hfz19_0); (try clear hfz19_1); (try clear hfz19_2); (try clear hfz19_3); (try clear p2); (try clear p6)
          obtain ⟨kq, x6_12, x261001_12, rfl, HA, HJ12, HO_5, BK260, HB⟩ := hcut
          cases kq with
          | zero => exact absurd HA.out (by simp [marginaliaref20_items.j2])
          | succ kj12 =>
           have H := HA.out
           clear HA
           simp only [marginaliaref20_items.j2] at H
           by_cases c20 : a1 = true
           ·subst c20
            have H1 : (if x261001_12 ≤ 40 then ((some (([] : List Int) : List Int)).bind fun y262 => (if 0 ≤ x6_12 then (if x6_12 ≤ (mn (wrap64 (x6_12 + x261001_12)) (l0.length : Int)) then (if (mn (wrap64 (x6_12 + x261001_12)) (l0.length : Int)) ≤ (l0.length : Int) then (if y262.length + ((l0.take ((mn (wrap64 (x6_12 + x261001_12)) (l0.length : Int)) : Int).toNat).drop (x6_12 : Int).toNat).length < 140737488355328 then (if x5_1.length < 2932031007402 then (marginaliaref20_items.l0 kj12 l0 true (x5_1 ++ [(⟨t259, x261001_12, (y262 ++ ((l0.take ((mn (wrap64 (x6_12 + x261001_12)) (l0.length : Int)) : Int).toNat).drop (x6_12 : Int).toNat)), 0⟩ : S39)]) (mn (wrap64 (x6_12 + x261001_12)) (l0.length : Int)) (wrap64 (x7_1 + 1))) else (none)) else (none)) else (none)) else (none)) else (none))) else ((marginaliaref20_number.f kj12 l0 x6_12 4).bind fun t272 => (if x5_1.length < 2932031007402 then (marginaliaref20_items.l0 kj12 l0 true (x5_1 ++ [(⟨t259, x261001_12, ([] : List Int), t272⟩ : S39)]) (wrap64 (x6_12 + 4)) (wrap64 (x7_1 + 1))) else (none)))) = some r := by rw [if_pos rfl] at H; exact H
            clear H
            have H := H1
            clear H1
            by_cases c21 : x261001_12 ≤ 40
            ·rw [if_pos c21] at H
             have c21b0 : decide (x261001_12 ≤ 40) = true := decide_eq_true c21
             clear c21
             obtain ⟨ji22, hji22⟩ : ∃ j_ : Int, (mn (wrap64 (x6_12 + x261001_12)) (l0.length : Int)) = j_ := ⟨_, rfl⟩
             replace H : ((some (([] : List Int) : List Int)).bind fun y262 => (if 0 ≤ x6_12 then (if x6_12 ≤ (ji22) then (if (ji22) ≤ (l0.length : Int) then (if y262.length + ((l0.take ((ji22) : Int).toNat).drop (x6_12 : Int).toNat).length < 140737488355328 then (if x5_1.length < 2932031007402 then (marginaliaref20_items.l0 kj12 l0 true (x5_1 ++ [(⟨t259, x261001_12, (y262 ++ ((l0.take ((ji22) : Int).toNat).drop (x6_12 : Int).toNat)), 0⟩ : S39)]) ji22 (wrap64 (x7_1 + 1))) else (none)) else (none)) else (none)) else (none)) else (none))) = some r := by first | (rw [hji22] at H; exact H) | (simp only [hji22] at H ⊢; exact H)
             have hji22_ : (if (l0.length : Int) < (wrap64 (x6_12 + x261001_12)) then (l0.length : Int) else (wrap64 (x6_12 + x261001_12))) = ji22 := hji22
             (try (have hji22d := hji22_; simp only [List.length_drop, List.length_take] at hji22d))
             obtain ⟨y262, hy262⟩ : ∃ y_ : List Int, y_ = (([] : List Int)) := ⟨_, rfl⟩
             replace H : (if 0 ≤ x6_12 then (if x6_12 ≤ (ji22) then (if (ji22) ≤ (l0.length : Int) then (if y262.length + ((l0.take ((ji22) : Int).toNat).drop (x6_12 : Int).toNat).length < 140737488355328 then (if x5_1.length < 2932031007402 then (marginaliaref20_items.l0 kj12 l0 true (x5_1 ++ [(⟨t259, x261001_12, (y262 ++ ((l0.take ((ji22) : Int).toNat).drop (x6_12 : Int).toNat)), 0⟩ : S39)]) ji22 (wrap64 (x7_1 + 1))) else (none)) else (none)) else (none)) else (none)) else (none)) = some r := by first | (rw [hy262]; with_reducible exact H) | (have H2_ := (Option.bind_some _ _).symm.trans H; rw [hy262]; with_reducible exact H2_) | (have H2_ := (Option.bind_some _ _).symm.trans H; with_reducible exact H2_) | with_reducible exact H | (rw [hy262]; exact H) | exact H
             have Ny262 := Aside0.mk hy262
             clear hy262
             by_cases c23 : 0 ≤ x6_12
             ·rw [if_pos c23] at H
              have c23b0 := eq_true c23
              have c23b1 : decide (0 ≤ x6_12) = true := decide_eq_true c23
              clear c23
              by_cases c24 : x6_12 ≤ (ji22)
              ·rw [if_pos c24] at H
               have c24b0 := eq_true c24
               have c24b1 : decide (x6_12 ≤ (ji22)) = true := decide_eq_true c24
               clear c24
               by_cases c25 : (ji22) ≤ (l0.length : Int)
               ·rw [if_pos c25] at H
                have c25b0 := eq_true c25
                have c25b1 : decide ((ji22) ≤ (l0.length : Int)) = true := decide_eq_true c25
                clear c25
                by_cases c26 : y262.length + ((l0.take ((ji22) : Int).toNat).drop (x6_12 : Int).toNat).length < 140737488355328
                ·rw [if_pos c26] at H
                 have LMc26 := Aside0.mk c26
                 clear c26
                 obtain ⟨y266, hy266⟩ : ∃ y_ : List Int, y_ = (y262 ++ ((l0.take ((ji22) : Int).toNat).drop (x6_12 : Int).toNat)) := ⟨_, rfl⟩
                 replace H : (if x5_1.length < 2932031007402 then (marginaliaref20_items.l0 kj12 l0 true (x5_1 ++ [(⟨t259, x261001_12, y266, 0⟩ : S39)]) ji22 (wrap64 (x7_1 + 1))) else (none)) = some r := by first | (rw [hy266]; with_reducible exact H) | (have H2_ := (Option.bind_some _ _).symm.trans H; rw [hy266]; with_reducible exact H2_) | (have H2_ := (Option.bind_some _ _).symm.trans H; with_reducible exact H2_) | with_reducible exact H | (rw [hy266]; exact H) | exact H
                 have Ny266 := Aside0.mk hy266
                 clear hy266
                 by_cases c27 : x5_1.length < 2932031007402
                 ·rw [if_pos c27] at H
                  have LMc27 := Aside0.mk c27
                  clear c27
                  obtain ⟨y269, hy269⟩ : ∃ y_ : List (S39), y_ = (x5_1 ++ [(⟨t259, x261001_12, y266, 0⟩ : S39)]) := ⟨_, rfl⟩
                  replace H : (marginaliaref20_items.l0 kj12 l0 true y269 ji22 (wrap64 (x7_1 + 1))) = some r := by first | (rw [hy269]; with_reducible exact H) | (have H2_ := (Option.bind_some _ _).symm.trans H; rw [hy269]; with_reducible exact H2_) | (have H2_ := (Option.bind_some _ _).symm.trans H; with_reducible exact H2_) | with_reducible exact H | (rw [hy269]; exact H) | exact H
                  have Ny269 := Aside0.mk hy269
                  clear hy269
                  have H' := Aside0.mk H
                  clear H
                  have hcz28_0 : wc.cell? ⟨gb260, 0, none⟩ = some (.int .u64 t259) := (blk_cell BK260.out 0).trans rfl
                  have hcz28_1 : wc.cell? ⟨gb260, 1, none⟩ = some (.int .i64 x261001_12) := (blk_cell BK260.out 1).trans rfl
                  have hcz28_2 : wc.cell? ⟨gb260, 2, none⟩ = some (.slice none 0 0) := (blk_cell BK260.out 2).trans rfl
                  have hcz28_3 : wc.cell? ⟨gb260, 3, none⟩ = some (.int .i64 0) := (blk_cell BK260.out 3).trans rfl
                  have hfz28_0 := blk_frozen BK260.out 0
                  have hfz28_1 := blk_frozen BK260.out 1
                  have hfz28_2 := blk_frozen BK260.out 2
                  have hfz28_3 := blk_frozen BK260.out 3
                  go_wp2_with (first | ((with_reducible refine gate_dst (N := 53) rfl ?_); (try (refine gate_guard (by rfl) ?_; dsimp only)); refine Kd.R_lit (Kd.int .u8) _ 5 ?hg (N := 53) ?hd (xs := ([] : List Int)) (inner := []) (ok := fun _ => True) (okp := fun _ => True) ?hr ?hp (fun _ hk => hk) trivial (Below.refl _ _) (Nat.le_refl _) (by simp) ?_; (case hd => rfl); (case hg => rfl); (case hr => first | (go_simp; done) | (go_simp; rfl)); (case hp => exact (Reps.none _ _)); intro v263 w29 ho30 hb hg_ hnew_; clear hg_ hnew_; (first | rw [← Ny262.out] at ho30 | (simp only [Int.reduceToNat] at ho30; rw [← Ny262.out] at ho30)); have n0_ := Aside0.mk (Kd.S_elder' (by (with_reducible repeat (first | apply Kd.S_alloc | apply Kd.S_drewN | apply Kd.S_drew)); exact HO_5.out) (Kd.R_base ho30) hb); have n1_ := Aside0.mk (Kd.R_lower ho30 (below_size (by repeat (first | (with_reducible first | exact HB.out | apply below_alloc | apply pw_below_drewN | apply below_drew1 | refine below_set ?_ GE260.out) | exact HB.out)))); have n2_ := Aside0.mk (blk_below (g := gb260) (o := .cells #[.int .u64 t259, .int .i64 x261001_12, .slice none 0 0, .int .i64 0] 39 (0, 0)) (by (with_reducible repeat (first | refine blk_drewN ?_ _ | refine blk_drew ?_ | refine blk_alloc ?_ _)); exact BK260.out) hb); have n3_ := Aside0.mk (below_step (by repeat (first | (with_reducible first | exact HB.out | apply below_alloc | apply pw_below_drewN | apply below_drew1 | refine below_set ?_ GE260.out) | exact HB.out)) hb); clear HO_5; clear BK260; clear HB; have HO_5 := n0_; have HO264 := n1_; have BK260 := n2_; have HB := n3_; clear n0_ n1_ n2_ n3_; clear hb ho30; obtain ⟨i031, hi031, _, hsz31, _⟩ := info_parts info5; obtain ⟨A31, hcut31, hA31, hC31⟩ := print_mid_of (P := Try.prog) (Value.int .u8) 0 24 5 .i64 .i64 Try.underlying24 hi031 hsz31 A0 c0 l0 x6_12 (ji22) (of_decide_eq_true (by first | (with_reducible assumption) | assumption)) (by first | omega | exact of_decide_eq_true (by first | (with_reducible assumption) | assumption)) (of_decide_eq_true (by first | (with_reducible assumption) | assumption)) HC0.out; have HR265 := Aside0.mk (Kd.C_of_reads (h1 := fun _ => rfl) (hA31 _ (Kd.reads_of_C HR0.out))); have HC265 := Aside0.mk hC31; clear hA31 hC31 hi031 hsz31) | ((with_reducible refine gate_builtin (b := .append) (xs := #[.tmp 53, .tmp 57]) rfl ?_); (try (refine gate_guard (by rfl) ?_; dsimp only)); at_builtin; refine Kd.R_append_rows (Kd.int .u8) (w0 := w) w.heap.size rfl (.tmp 53) (.tmp 57) 24 5 (.int .u8 0) 1 rfl Try.underlying24 info5 rfl (by decide) (by omega) v263 y262 ((l0.take ((ji22) : Int).toNat).drop (x6_12 : Int).toNat) _ _ _ (fun _ => True) (fun _ => False) rfl rfl ?aO ?aR (fun _ _ h => h) (fun _ h => h.elim) ?aF ?aB ?aS ?aL ?_; (case aR => first | (rw [← show ((l0.take ((ji22) : Int).toNat).drop (x6_12 : Int).toNat).length = ((ji22).toNat - x6_12.toNat) from (by rw [List.length_drop, List.length_take]; have h_ : ((ji22) : Int) ≤ (l0.length : Int) := of_decide_eq_true (by first | (with_reducible assumption) | assumption); omega)]; repeat (first | exact (Kd.C_below HR265.out HB.out) | (with_reducible refine Kd.C_alloc ?_ _) | (with_reducible refine Kd.C_drewN ?_ _) | (with_reducible refine Kd.C_drew ?_))) | (repeat (first | exact (Kd.C_below HR265.out HB.out) | (with_reducible refine Kd.C_alloc ?_ _) | (with_reducible refine Kd.C_drewN ?_ _) | (with_reducible refine Kd.C_drew ?_)))); (case aB => exact (by repeat (first | (with_reducible first | exact HB.out | apply below_alloc | apply pw_below_drewN | apply below_drew1 | refine below_set ?_ GE260.out) | exact HB.out))); (case aF => exact (fun _ _ => trivial)); (case aO => exact (by (with_reducible repeat (first | apply Kd.R_alloc | apply Kd.R_drewN | apply Kd.R_drew)); exact HO264.out)); (case aS => exact (below_size (by repeat (first | (with_reducible first | exact HB.out | apply below_alloc | apply pw_below_drewN | apply below_drew1 | refine below_set ?_ GE260.out) | exact HB.out)))); (case aL => have := LMc26.out; have hlx_ := (show ((l0.take ((ji22) : Int).toNat).drop (x6_12 : Int).toNat).length = ((ji22).toNat - x6_12.toNat) from (by rw [List.length_drop, List.length_take]; have h_ : ((ji22) : Int) ≤ (l0.length : Int) := of_decide_eq_true (by first | (with_reducible assumption) | assumption); omega)); omega); intro v267 w32 ho hb hg hat; rw [← Ny266.out] at ho; have n0_ := Aside0.mk (Kd.S_after (ok := (fun k_ => k_ ≠ gb260)) (by (with_reducible repeat (first | apply Kd.S_alloc | apply Kd.S_drewN | apply Kd.S_drew)); exact HO_5.out) hg hat); have n1_ := Aside0.mk (blk_grown (g := gb260) (o := .cells #[.int .u64 t259, .int .i64 x261001_12, .slice none 0 0, .int .i64 0] 39 (0, 0)) (by (with_reducible repeat (first | refine blk_drewN ?_ _ | refine blk_drew ?_ | refine blk_alloc ?_ _)); exact BK260.out) hg (Kd.R_ne HO264.out BK260.out (by decide))); have n2_ := Aside0.mk (hb); have n3_ := Aside0.mk (ho); clear HO_5; clear BK260; clear HB; clear HO264; have HO_5 := n0_; have BK260 := n1_; have HB := n2_; have HO268 := n3_; clear n0_ n1_ n2_ n3_; clear ho hb hg hat; obtain ⟨Ao33, co33, eo33⟩ := Kd.R_slice HO268.out; subst eo33; have hcz34_0 : w32.cell? ⟨gb260, 0, none⟩ = some (.int .u64 t259) := (blk_cell BK260.out 0).trans rfl; have hcz34_1 : w32.cell? ⟨gb260, 1, none⟩ = some (.int .i64 x261001_12) := (blk_cell BK260.out 1).trans rfl; have hcz34_2 : w32.cell? ⟨gb260, 2, none⟩ = some (.slice none 0 0) := (blk_cell BK260.out 2).trans rfl; have hcz34_3 : w32.cell? ⟨gb260, 3, none⟩ = some (.int .i64 0) := (blk_cell BK260.out 3).trans rfl; have hfz34_0 := blk_frozen BK260.out 0; have hfz34_1 := blk_frozen BK260.out 1; have hfz34_2 := blk_frozen BK260.out 2; have hfz34_3 := blk_frozen BK260.out 3) | ((with_reducible refine gate_store (t := 24) (p := 59) rfl ?_); refine store_event (t := 24) (p := 59) (v := ?vo_w35) (w1 := (w32.setCell ⟨gb260, 2, none⟩ (.slice Ao33 y266.length co33))) ?hg ?ho ?hn ?hr ?_; (case ho => rfl); (case hg => rfl); (case hn => rfl); (case hr => first | (go_simp; done) | (go_simp; rfl)); intro w35 hw; have n0_ : Aside0 (Kd.S k39 39 w35 w.heap.size (fun k_ => some k_ ≠ (.slice Ao33 y266.length co33 : Value).ownBlock ∧ k_ ≠ gb260) u5 x5_1) := ⟨(by rw [hw]; exact (by (with_reducible repeat (first | apply Kd.S_alloc | apply Kd.S_drewN | apply Kd.S_drew)); exact Kd.S_mono (Kd.S_far (p := ⟨gb260, 2, none⟩) (Kd.S_mono HO_5.out (fun k_ hk => (⟨hk, hk.1⟩ : _ ∧ k_ ≠ gb260))) (fun _ hk => hk.2) (.slice Ao33 y266.length co33)) (fun _ hk => ⟨hk.1.2, hk.1.1⟩)))⟩; have n1_ : Aside0 (Kd.R (Kd.int .u8) 5 w35 w.heap.size (fun _ => True) (.slice Ao33 y266.length co33) y266) := ⟨(by rw [hw]; exact (by (with_reducible repeat (first | apply Kd.R_alloc | apply Kd.R_drewN | apply Kd.R_drew)); exact Kd.R_mono (Kd.R_far (p := ⟨gb260, 2, none⟩) (Kd.R_types HO268.out BK260.out (by decide)) (fun _ hk => hk.2) (.slice Ao33 y266.length co33)) (fun _ hk => trivial)))⟩; have n2_ : Aside0 (w35.heap[gb260]? = some (.cells #[.int .u64 t259, .int .i64 x261001_12, .slice Ao33 y266.length co33, .int .i64 0] 39 (0, 0))) := ⟨(by rw [hw]; exact (by (with_reducible repeat (first | refine blk_drewN ?_ _ | refine blk_drew ?_ | refine blk_alloc ?_ _)); refine blk_put (cs := #[.int .u64 t259, .int .i64 x261001_12, .slice none 0 0, .int .i64 0]) ?_ 2 _ rfl; (with_reducible repeat (first | refine blk_drewN ?_ _ | refine blk_drew ?_ | refine blk_alloc ?_ _)); exact BK260.out))⟩; have n3_ : Aside0 (Below w.heap.size w w35) := ⟨(by rw [hw]; exact (by repeat (first | (with_reducible first | exact HB.out | apply below_alloc | apply pw_below_drewN | apply below_drew1 | refine below_set ?_ GE260.out) | exact HB.out)))⟩; clear hw; clear HO_5; clear HO268; clear BK260; clear HB; have HO_5 := n0_; have HO268 := n1_; have BK260 := n2_; have HB := n3_; clear n0_ n1_ n2_ n3_; have hcz36_0 : w35.cell? ⟨gb260, 0, none⟩ = some (.int .u64 t259) := (blk_cell BK260.out 0).trans rfl; have hcz36_1 : w35.cell? ⟨gb260, 1, none⟩ = some (.int .i64 x261001_12) := (blk_cell BK260.out 1).trans rfl; have hcz36_2 : w35.cell? ⟨gb260, 2, none⟩ = some (.slice Ao33 y266.length co33) := (blk_cell BK260.out 2).trans rfl; have hcz36_3 : w35.cell? ⟨gb260, 3, none⟩ = some (.int .i64 0) := (blk_cell BK260.out 3).trans rfl; have hfz36_0 := blk_frozen BK260.out 0; have hfz36_1 := blk_frozen BK260.out 1; have hfz36_2 := blk_frozen BK260.out 2; have hfz36_3 := blk_frozen BK260.out 3) | ((with_reducible refine gate_builtin (b := .append) (xs := #[.tmp 67, .tmp 69]) rfl ?_); (try (refine gate_guard (by rfl) ?_; dsimp only)); at_builtin; refine Kd.S_append k39 (w0 := w) w.heap.size rfl (.tmp 67) (.tmp 69) 23 39 (.agg #[(.int .u64 0), (.int .i64 0), (.slice none 0 0), (.int .i64 0)]) 48 rfl Try.underlying23 info39 rfl (by decide) (by omega) u5 x5_1 (⟨t259, x261001_12, y266, 0⟩ : S39) [.int .u64 t259, .int .i64 x261001_12, .slice Ao33 y266.length co33, .int .i64 0] (fun k_ => k_ ≠ gb260) (fun k_ => some k_ = (.slice Ao33 y266.length co33 : Value).ownBlock) rfl rfl ?aP (fun k_ hk_ => ((Kd.R_mono (ok' := fun k_ => ((fun k_ => k_ ≠ gb260)) k_ ∧ some k_ ≠ (u5 : Value).ownBlock) (Kd.R_types (Kd.R_apart' (HO268.out) (Kd.S_typed HO_5.out) (by decide)) BK260.out (by decide)) (fun k_ hk => ⟨hk.2, hk.1.2⟩))).1 k_ hk_.symm) ?aF ?aO ?aB ?aS ?aL ?_; (case aP => exact k39_mkM _ _ _ (⟨t259, x261001_12, y266, 0⟩ : S39) (Kd.R_mono (Kd.R_tight rfl (Kd.R_mono (ok' := fun k_ => ((fun k_ => k_ ≠ gb260)) k_ ∧ some k_ ≠ (u5 : Value).ownBlock) (Kd.R_types (Kd.R_apart' (HO268.out) (Kd.S_typed HO_5.out) (by decide)) BK260.out (by decide)) (fun k_ hk => ⟨hk.2, hk.1.2⟩))) (fun _ h_ => h_))); (case aB => exact (by repeat (first | (with_reducible first | exact HB.out | apply below_alloc | apply pw_below_drewN | apply below_drew1 | refine below_set ?_ GE260.out) | exact HB.out))); (case aF => exact (fun k_ hk => Kd.freshB (g := gb260) (o := .cells #[.int .u64 t259, .int .i64 x261001_12, .slice Ao33 y266.length co33, .int .i64 0] 39 (0, 0)) (by (with_reducible repeat (first | refine blk_drewN ?_ _ | refine blk_drew ?_ | refine blk_alloc ?_ _)); exact BK260.out) k_ hk)); (case aO => exact (by (with_reducible repeat (first | apply Kd.S_alloc | apply Kd.S_drewN | apply Kd.S_drew)); exact Kd.S_mono HO_5.out (fun k_ hk => ⟨hk.2, fun e_ => hk.1 e_⟩))); (case aS => exact (below_size (by repeat (first | (with_reducible first | exact HB.out | apply below_alloc | apply pw_below_drewN | apply below_drew1 | refine below_set ?_ GE260.out) | exact HB.out)))); (case aL => have := LMc27.out; omega); intro v270 w37 ho hb hg hat; rw [← Ny269.out] at ho; have n0_ := Aside0.mk (blk_grown (g := gb260) (o := .cells #[.int .u64 t259, .int .i64 x261001_12, .slice Ao33 y266.length co33, .int .i64 0] 39 (0, 0)) (by (with_reducible repeat (first | refine blk_drewN ?_ _ | refine blk_drew ?_ | refine blk_alloc ?_ _)); exact BK260.out) hg (Kd.S_away HO_5.out (fun _ hk => hk.2))); have n1_ := Aside0.mk (hb); have n2_ := Aside0.mk (ho); clear BK260; clear HB; clear HO_5; clear HO268; have BK260 := n0_; have HB := n1_; have HO271 := n2_; clear n0_ n1_ n2_; clear ho hb hg hat))
                  go_roundg kj12
                  case measure => have := HK1.out; have := HJ4.out; have := HJ12.out; omega
                  case rel => exact ⟨(y269), (ji22), (wrap64 (x7_1 + 1)), (by first | rfl | (simp; done) | (simp only [← hji22] <;> (first | rfl | simp)) | (simp [*]; done)), (by first | rfl | (simp; done) | (simp [*]; done)), H', ⟨by have := HK1.out; have := HJ4.out; have := HJ12.out; omega⟩, ⟨by (with_reducible repeat (first | apply Kd.S_alloc | apply Kd.S_drewN | apply Kd.S_drew)); exact Kd.S_mono HO271.out (fun _ hk => trivial)⟩, ⟨by repeat (first | (with_reducible first | exact HB.out | apply below_alloc | apply pw_below_drewN | apply below_drew1 | refine below_set ?_ GE260.out) | exact HB.out)⟩⟩
                 ·rw [if_neg c27] at H
                  exact absurd H (by simp)
                ·rw [if_neg c26] at H
                 exact absurd H (by simp)
               ·rw [if_neg c25] at H
                exact absurd H (by simp)
              ·rw [if_neg c24] at H
               exact absurd H (by simp)
             ·rw [if_neg c23] at H
              exact absurd H (by simp)
            ·rw [if_neg c21] at H
             have c21b0 : decide (x261001_12 ≤ 40) = false := decide_eq_false c21
             clear c21
             replace H := Option.bind_eq_some_iff.mp H
             obtain ⟨t272, A380, H⟩ := H
             replace H : (if x5_1.length < 2932031007402 then (marginaliaref20_items.l0 kj12 l0 true (x5_1 ++ [(⟨t259, x261001_12, ([] : List Int), t272⟩ : S39)]) (wrap64 (x6_12 + 4)) (wrap64 (x7_1 + 1))) else (none)) = some r := H
             have A38 := Aside0.mk A380
             clear A380
             by_cases c39 : x5_1.length < 2932031007402
             ·rw [if_pos c39] at H
              have LMc39 := Aside0.mk c39
              clear c39
              obtain ⟨y273, hy273⟩ : ∃ y_ : List (S39), y_ = (x5_1 ++ [(⟨t259, x261001_12, ([] : List Int), t272⟩ : S39)]) := ⟨_, rfl⟩
              replace H : (marginaliaref20_items.l0 kj12 l0 true y273 (wrap64 (x6_12 + 4)) (wrap64 (x7_1 + 1))) = some r := by first | (rw [hy273]; with_reducible exact H) | (have H2_ := (Option.bind_some _ _).symm.trans H; rw [hy273]; with_reducible exact H2_) | (have H2_ := (Option.bind_some _ _).symm.trans H; with_reducible exact H2_) | with_reducible exact H | (rw [hy273]; exact H) | exact H
              have Ny273 := Aside0.mk hy273
              clear hy273
              have H' := Aside0.mk H
              clear H
              have hcz40_0 : wc.cell? ⟨gb260, 0, none⟩ = some (.int .u64 t259) := (blk_cell BK260.out 0).trans rfl
              have hcz40_1 : wc.cell? ⟨gb260, 1, none⟩ = some (.int .i64 x261001_12) := (blk_cell BK260.out 1).trans rfl
              have hcz40_2 : wc.cell? ⟨gb260, 2, none⟩ = some (.slice none 0 0) := (blk_cell BK260.out 2).trans rfl
              have hcz40_3 : wc.cell? ⟨gb260, 3, none⟩ = some (.int .i64 0) := (blk_cell BK260.out 3).trans rfl
              have hfz40_0 := blk_frozen BK260.out 0
              have hfz40_1 := blk_frozen BK260.out 1
              have hfz40_2 := blk_frozen BK260.out 2
              have hfz40_3 := blk_frozen BK260.out 3
              go_wp2_with (first | ((with_reducible refine gate_callee (f := 61) rfl ?_); refine goesL_ (some 63) rfl rfl Try.func61 (by kernel_rfl) rfl #[.slice A0 l0.length c0, .int .i64 x6_12, .int .i64 4] rfl (by (try simp only [List.map_toArray, List.map_cons, List.map_nil]); first | done | rfl | (simp only [List.length_drop, List.length_take]; rfl)) ?_; (with_reducible refine (marginaliaref20_number.calls kj12 _ _ l0 x6_12 4 t272 _ ?side1 ?side2 A38.out).mono ?_); (case side1 => repeat (first | exact (Kd.C_below HR0.out HB.out) | (with_reducible refine Kd.C_alloc ?_ _) | (with_reducible refine Kd.C_drewN ?_ _) | (with_reducible refine Kd.C_drew ?_))); (case side2 => exact HC0.out); rintro e w' ⟨rfl, ⟨nd, rfl⟩⟩; refine ⟨_, rfl, ?_⟩; (try (rw [drewN_self wc]; generalize hq_ : World.drewN wc _ = wc; have n0_ : Aside0 (Kd.S k39 39 wc w.heap.size (fun k_ => k_ ≠ gb260) u5 x5_1) := ⟨by rw [← hq_]; exact (by (with_reducible repeat (first | apply Kd.S_alloc | apply Kd.S_drewN | apply Kd.S_drew)); exact HO_5.out)⟩; have n1_ : Aside0 (wc.heap[gb260]? = some (.cells #[.int .u64 t259, .int .i64 x261001_12, .slice none 0 0, .int .i64 0] 39 (0, 0))) := ⟨by rw [← hq_]; exact (by (with_reducible repeat (first | refine blk_drewN ?_ _ | refine blk_drew ?_ | refine blk_alloc ?_ _)); exact BK260.out)⟩; have n2_ : Aside0 (Below w.heap.size w wc) := ⟨by rw [← hq_]; exact (by repeat (first | (with_reducible first | exact HB.out | apply below_alloc | apply pw_below_drewN | apply below_drew1 | refine below_set ?_ GE260.out) | exact HB.out))⟩; clear HO_5 BK260 HB hq_; have HO_5 := n0_; have BK260 := n1_; have HB := n2_; clear n0_ n1_ n2_; have hcy_0 : wc.cell? ⟨gb260, 0, none⟩ = some (.int .u64 t259) := (blk_cell BK260.out 0).trans rfl; have hfy_0 := blk_frozen BK260.out 0; have hcy_1 : wc.cell? ⟨gb260, 1, none⟩ = some (.int .i64 x261001_12) := (blk_cell BK260.out 1).trans rfl; have hfy_1 := blk_frozen BK260.out 1; have hcy_2 : wc.cell? ⟨gb260, 2, none⟩ = some (.slice none 0 0) := (blk_cell BK260.out 2).trans rfl; have hfy_2 := blk_frozen BK260.out 2; have hcy_3 : wc.cell? ⟨gb260, 3, none⟩ = some (.int .i64 0) := (blk_cell BK260.out 3).trans rfl; have hfy_3 := blk_frozen BK260.out 3))) | ((with_reducible refine gate_builtin (b := .append) (xs := #[.tmp 67, .tmp 69]) rfl ?_); (try (refine gate_guard (by rfl) ?_; dsimp only)); at_builtin; refine Kd.S_append k39 (w0 := w) w.heap.size rfl (.tmp 67) (.tmp 69) 23 39 (.agg #[(.int .u64 0), (.int .i64 0), (.slice none 0 0), (.int .i64 0)]) 48 rfl Try.underlying23 info39 rfl (by decide) (by omega) u5 x5_1 (⟨t259, x261001_12, ([] : List Int), t272⟩ : S39) [.int .u64 t259, .int .i64 x261001_12, .slice none 0 0, .int .i64 t272] (fun k_ => k_ ≠ gb260) (fun _ => False) rfl (by first | (go_simp; done) | (go_simp; rfl)) ?aP (fun k_ hk_ => hk_.elim) ?aF ?aO ?aB ?aS ?aL ?_; (case aP => exact k39_mkM _ _ _ (⟨t259, x261001_12, ([] : List Int), t272⟩ : S39) (Kd.R_nil _ _ _ _ _)); (case aB => exact (by repeat (first | (with_reducible first | exact HB.out | apply below_alloc | apply pw_below_drewN | apply below_drew1 | refine below_set ?_ GE260.out) | exact HB.out))); (case aF => exact (fun k_ hk => Kd.freshB (g := gb260) (o := .cells #[.int .u64 t259, .int .i64 x261001_12, .slice none 0 0, .int .i64 t272] 39 (0, 0)) (by (with_reducible repeat (first | refine blk_drewN ?_ _ | refine blk_drew ?_ | refine blk_alloc ?_ _)); refine blk_put (cs := #[.int .u64 t259, .int .i64 x261001_12, .slice none 0 0, .int .i64 0]) ?_ 3 _ rfl; (with_reducible repeat (first | refine blk_drewN ?_ _ | refine blk_drew ?_ | refine blk_alloc ?_ _)); exact BK260.out) k_ hk)); (case aO => exact (by (with_reducible repeat (first | apply Kd.S_alloc | apply Kd.S_drewN | apply Kd.S_drew)); exact Kd.S_mono (Kd.S_far (p := ⟨gb260, 3, none⟩) (Kd.S_mono HO_5.out (fun k_ hk => (⟨hk, hk⟩ : _ ∧ k_ ≠ gb260))) (fun _ hk => hk.2) (.int .i64 t272)) (fun k_ hk => ⟨hk.1, fun e_ => e_⟩))); (case aS => exact (below_size (by repeat (first | (with_reducible first | exact HB.out | apply below_alloc | apply pw_below_drewN | apply below_drew1 | refine below_set ?_ GE260.out) | exact HB.out)))); (case aL => have := LMc39.out; omega); intro v274 w41 ho hb hg hat; rw [← Ny273.out] at ho; have n0_ := Aside0.mk (blk_grown (g := gb260) (o := .cells #[.int .u64 t259, .int .i64 x261001_12, .slice none 0 0, .int .i64 t272] 39 (0, 0)) (by (with_reducible repeat (first | refine blk_drewN ?_ _ | refine blk_drew ?_ | refine blk_alloc ?_ _)); refine blk_put (cs := #[.int .u64 t259, .int .i64 x261001_12, .slice none 0 0, .int .i64 0]) ?_ 3 _ rfl; (with_reducible repeat (first | refine blk_drewN ?_ _ | refine blk_drew ?_ | refine blk_alloc ?_ _)); exact BK260.out) hg (Kd.S_away HO_5.out (fun _ hk => hk))); have n1_ := Aside0.mk (hb); have n2_ := Aside0.mk (ho); clear BK260; clear HB; clear HO_5; have BK260 := n0_; have HB := n1_; have HO275 := n2_; clear n0_ n1_ n2_; clear ho hb hg hat))
              go_roundg kj12
              case measure => have := HK1.out; have := HJ4.out; have := HJ12.out; omega
              case rel => exact ⟨(y273), (wrap64 (x6_12 + 4)), (wrap64 (x7_1 + 1)), (by first | rfl | (simp; done) | (simp [*]; done)), (by first | rfl | (simp; done) | (simp [*]; done)), H', ⟨by have := HK1.out; have := HJ4.out; have := HJ12.out; omega⟩, ⟨by (with_reducible repeat (first | apply Kd.S_alloc | apply Kd.S_drewN | apply Kd.S_drew)); exact Kd.S_mono HO275.out (fun _ hk => trivial)⟩, ⟨by repeat (first | (with_reducible first | exact HB.out | apply below_alloc | apply pw_below_drewN | apply below_drew1 | refine below_set ?_ GE260.out) | exact HB.out)⟩⟩
             ·rw [if_neg c39] at H
              exact absurd H (by simp)
           ·replace c20 := Bool.eq_false_iff.mpr c20
            subst c20
            have H1 : ((marginaliaref20_number.f kj12 l0 x6_12 4).bind fun t276 => (if x5_1.length < 2932031007402 then (marginaliaref20_items.l0 kj12 l0 false (x5_1 ++ [(⟨t259, x261001_12, ([] : List Int), t276⟩ : S39)]) (wrap64 (x6_12 + 4)) (wrap64 (x7_1 + 1))) else (none))) = some r := by rw [if_neg (show ¬ (false = true) by decide)] at H; exact H
            clear H
            have H := H1
            clear H1
            replace H := Option.bind_eq_some_iff.mp H
            obtain ⟨t276, A420, H⟩ := H
            replace H : (if x5_1.length < 2932031007402 then (marginaliaref20_items.l0 kj12 l0 false (x5_1 ++ [(⟨t259, x261001_12, ([] : List Int), t276⟩ : S39)]) (wrap64 (x6_12 + 4)) (wrap64 (x7_1 + 1))) else (none)) = some r := H
            have A42 := Aside0.mk A420
            clear A420
            by_cases c43 : x5_1.length < 2932031007402
            ·rw [if_pos c43] at H
             have LMc43 := Aside0.mk c43
             clear c43
             obtain ⟨y277, hy277⟩ : ∃ y_ : List (S39), y_ = (x5_1 ++ [(⟨t259, x261001_12, ([] : List Int), t276⟩ : S39)]) := ⟨_, rfl⟩
             replace H : (marginaliaref20_items.l0 kj12 l0 false y277 (wrap64 (x6_12 + 4)) (wrap64 (x7_1 + 1))) = some r := by first | (rw [hy277]; with_reducible exact H) | (have H2_ := (Option.bind_some _ _).symm.trans H; rw [hy277]; with_reducible exact H2_) | (have H2_ := (Option.bind_some _ _).symm.trans H; with_reducible exact H2_) | with_reducible exact H | (rw [hy277]; exact H) | exact H
             have Ny277 := Aside0.mk hy277
             clear hy277
             have H' := Aside0.mk H
             clear H
             go_wp2_with (first | ((with_reducible refine gate_callee (f := 61) rfl ?_); refine goesL_ (some 63) rfl rfl Try.func61 (by kernel_rfl) rfl #[.slice A0 l0.length c0, .int .i64 x6_12, .int .i64 4] rfl (by (try simp only [List.map_toArray, List.map_cons, List.map_nil]); first | done | rfl | (simp only [List.length_drop, List.length_take]; rfl)) ?_; (with_reducible refine (marginaliaref20_number.calls kj12 _ _ l0 x6_12 4 t276 _ ?side1 ?side2 A42.out).mono ?_); (case side1 => repeat (first | exact (Kd.C_below HR0.out HB.out) | (with_reducible refine Kd.C_alloc ?_ _) | (with_reducible refine Kd.C_drewN ?_ _) | (with_reducible refine Kd.C_drew ?_))); (case side2 => exact HC0.out); rintro e w' ⟨rfl, ⟨nd, rfl⟩⟩; refine ⟨_, rfl, ?_⟩; (try (rw [drewN_self wc]; generalize hq_ : World.drewN wc _ = wc; have n0_ : Aside0 (Kd.S k39 39 wc w.heap.size (fun k_ => k_ ≠ gb260) u5 x5_1) := ⟨by rw [← hq_]; exact (by (with_reducible repeat (first | apply Kd.S_alloc | apply Kd.S_drewN | apply Kd.S_drew)); exact HO_5.out)⟩; have n1_ : Aside0 (wc.heap[gb260]? = some (.cells #[.int .u64 t259, .int .i64 x261001_12, .slice none 0 0, .int .i64 0] 39 (0, 0))) := ⟨by rw [← hq_]; exact (by (with_reducible repeat (first | refine blk_drewN ?_ _ | refine blk_drew ?_ | refine blk_alloc ?_ _)); exact BK260.out)⟩; have n2_ : Aside0 (Below w.heap.size w wc) := ⟨by rw [← hq_]; exact (by repeat (first | (with_reducible first | exact HB.out | apply below_alloc | apply pw_below_drewN | apply below_drew1 | refine below_set ?_ GE260.out) | exact HB.out))⟩; clear HO_5 BK260 HB hq_; have HO_5 := n0_; have BK260 := n1_; have HB := n2_; clear n0_ n1_ n2_; have hcy_0 : wc.cell? ⟨gb260, 0, none⟩ = some (.int .u64 t259) := (blk_cell BK260.out 0).trans rfl; have hfy_0 := blk_frozen BK260.out 0; have hcy_1 : wc.cell? ⟨gb260, 1, none⟩ = some (.int .i64 x261001_12) := (blk_cell BK260.out 1).trans rfl; have hfy_1 := blk_frozen BK260.out 1; have hcy_2 : wc.cell? ⟨gb260, 2, none⟩ = some (.slice none 0 0) := (blk_cell BK260.out 2).trans rfl; have hfy_2 := blk_frozen BK260.out 2; have hcy_3 : wc.cell? ⟨gb260, 3, none⟩ = some (.int .i64 0) := (blk_cell BK260.out 3).trans rfl; have hfy_3 := blk_frozen BK260.out 3)); have hcz44_0 : wc.cell? ⟨gb260, 0, none⟩ = some (.int .u64 t259) := (blk_cell BK260.out 0).trans rfl; have hcz44_1 : wc.cell? ⟨gb260, 1, none⟩ = some (.int .i64 x261001_12) := (blk_cell BK260.out 1).trans rfl; have hcz44_2 : wc.cell? ⟨gb260, 2, none⟩ = some (.slice none 0 0) := (blk_cell BK260.out 2).trans rfl; have hcz44_3 : wc.cell? ⟨gb260, 3, none⟩ = some (.int .i64 0) := (blk_cell BK260.out 3).trans rfl; have hfz44_0 := blk_frozen BK260.out 0; have hfz44_1 := blk_frozen BK260.out 1; have hfz44_2 := blk_frozen BK260.out 2; have hfz44_3 := blk_frozen BK260.out 3) | ((with_reducible refine gate_builtin (b := .append) (xs := #[.tmp 67, .tmp 69]) rfl ?_); (try (refine gate_guard (by rfl) ?_; dsimp only)); at_builtin; refine Kd.S_append k39 (w0 := w) w.heap.size rfl (.tmp 67) (.tmp 69) 23 39 (.agg #[(.int .u64 0), (.int .i64 0), (.slice none 0 0), (.int .i64 0)]) 48 rfl Try.underlying23 info39 rfl (by decide) (by omega) u5 x5_1 (⟨t259, x261001_12, ([] : List Int), t276⟩ : S39) [.int .u64 t259, .int .i64 x261001_12, .slice none 0 0, .int .i64 t276] (fun k_ => k_ ≠ gb260) (fun _ => False) rfl (by first | (go_simp; done) | (go_simp; rfl)) ?aP (fun k_ hk_ => hk_.elim) ?aF ?aO ?aB ?aS ?aL ?_; (case aP => exact k39_mkM _ _ _ (⟨t259, x261001_12, ([] : List Int), t276⟩ : S39) (Kd.R_nil _ _ _ _ _)); (case aB => exact (by repeat (first | (with_reducible first | exact HB.out | apply below_alloc | apply pw_below_drewN | apply below_drew1 | refine below_set ?_ GE260.out) | exact HB.out))); (case aF => exact (fun k_ hk => Kd.freshB (g := gb260) (o := .cells #[.int .u64 t259, .int .i64 x261001_12, .slice none 0 0, .int .i64 t276] 39 (0, 0)) (by (with_reducible repeat (first | refine blk_drewN ?_ _ | refine blk_drew ?_ | refine blk_alloc ?_ _)); refine blk_put (cs := #[.int .u64 t259, .int .i64 x261001_12, .slice none 0 0, .int .i64 0]) ?_ 3 _ rfl; (with_reducible repeat (first | refine blk_drewN ?_ _ | refine blk_drew ?_ | refine blk_alloc ?_ _)); exact BK260.out) k_ hk)); (case aO => exact (by (with_reducible repeat (first | apply Kd.S_alloc | apply Kd.S_drewN | apply Kd.S_drew)); exact Kd.S_mono (Kd.S_far (p := ⟨gb260, 3, none⟩) (Kd.S_mono HO_5.out (fun k_ hk => (⟨hk, hk⟩ : _ ∧ k_ ≠ gb260))) (fun _ hk => hk.2) (.int .i64 t276)) (fun k_ hk => ⟨hk.1, fun e_ => e_⟩))); (case aS => exact (below_size (by repeat (first | (with_reducible first | exact HB.out | apply below_alloc | apply pw_below_drewN | apply below_drew1 | refine below_set ?_ GE260.out) | exact HB.out)))); (case aL => have := LMc43.out; omega); intro v278 w45 ho hb hg hat; rw [← Ny277.out] at ho; have n0_ := Aside0.mk (blk_grown (g := gb260) (o := .cells #[.int .u64 t259, .int .i64 x261001_12, .slice none 0 0, .int .i64 t276] 39 (0, 0)) (by (with_reducible repeat (first | refine blk_drewN ?_ _ | refine blk_drew ?_ | refine blk_alloc ?_ _)); refine blk_put (cs := #[.int .u64 t259, .int .i64 x261001_12, .slice none 0 0, .int .i64 0]) ?_ 3 _ rfl; (with_reducible repeat (first | refine blk_drewN ?_ _ | refine blk_drew ?_ | refine blk_alloc ?_ _)); exact BK260.out) hg (Kd.S_away HO_5.out (fun _ hk => hk))); have n1_ := Aside0.mk (hb); have n2_ := Aside0.mk (ho); clear BK260; clear HB; clear HO_5; have BK260 := n0_; have HB := n1_; have HO279 := n2_; clear n0_ n1_ n2_; clear ho hb hg hat))
             go_roundg kj12
             case measure => have := HK1.out; have := HJ4.out; have := HJ12.out; omega
             case rel => exact ⟨(y277), (wrap64 (x6_12 + 4)), (wrap64 (x7_1 + 1)), (by first | rfl | (simp; done) | (simp [*]; done)), (by first | rfl | (simp; done) | (simp [*]; done)), H', ⟨by have := HK1.out; have := HJ4.out; have := HJ12.out; omega⟩, ⟨by (with_reducible repeat (first | apply Kd.S_alloc | apply Kd.S_drewN | apply Kd.S_drew)); exact Kd.S_mono HO279.out (fun _ hk => trivial)⟩, ⟨by repeat (first | (with_reducible first | exact HB.out | apply below_alloc | apply pw_below_drewN | apply below_drew1 | refine below_set ?_ GE260.out) | exact HB.out)⟩⟩
            ·rw [if_neg c43] at H
             exact absurd H (by simp)
        ·rw [if_neg c11] at H
         exact absurd H (by simp)
       ·rw [if_neg c10] at H
        exact absurd H (by simp)
      ·rw [if_neg c9] at H
       exact absurd H (by simp)
     ·replace c8 := Bool.eq_false_iff.mpr c8
      subst c8
      have H1 : (some x5_1) = some r := by rw [if_neg (show ¬ (false = true) by decide)] at H; exact H
      clear H
      have H := H1
      clear H1
      obtain rfl := Option.some.inj H
      go_wp2
      go_ret
      exact ⟨_, by first | rfl | (simp [errW_none, errW_some] <;> rfl) | (simp [*, errW_none, errW_some] <;> rfl), by (with_reducible repeat (first | apply Kd.S_alloc | apply Kd.S_drewN | apply Kd.S_drew)); exact HO_5.out, by repeat (first | (with_reducible first | exact HB.out | apply below_alloc | apply pw_below_drewN | apply below_drew1) | exact HB.out)⟩

end Go.Proofs.Ytnkaidaflegnlaa.G
