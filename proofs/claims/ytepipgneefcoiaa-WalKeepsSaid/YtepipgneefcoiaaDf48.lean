/- The functions of the program that these laws reach, each as a plain Lean function, and the proof that the machine's call comes to it; no condition beyond those that each theorem names. Made by wip/xprint.py. -/
import Derived.Test.YtepipgneefcoiaaDx0
import Derived.Test.YtepipgneefcoiaaDf38
import Derived.Test.YtepipgneefcoiaaDh
namespace Go.Proofs.Ytepipgneefcoiaa.D
open Go.RowKit Go.Proofs.YtepipgneefcoiaaW.PrintWords Go.Proofs.YtepipgneefcoiaaW.PrintLast Go.Proofs.YtepipgneefcoiaaW.PrintMore
attribute [local go_sem] max2_int min2_int max_two min_two max_three min_three max_four min_four   -- for this text's walks alone
set_option linter.unusedVariables false
set_option linter.unusedSimpArgs false

/-! ### marginalialaw17_begins: function 48 -/
def marginalialaw17_begins.f (k : Nat) (l0 : List (List Int)) (l1 : List (List Int)) : Option (Bool) := if (l0.length : Int) ≤ (l1.length : Int) then (if 0 ≤ (l0.length : Int) then ((marginaliaref17_Same.f k l0 (l1.take ((l0.length : Int) : Int).toNat)).bind fun t360 => (some t360)) else (none)) else (some false)
theorem marginalialaw17_begins.mono : ∀ a0 a1 k, LeO (marginalialaw17_begins.f k a0 a1) (marginalialaw17_begins.f (k + 1) a0 a1) := by
  intro a0 a1 k
  unfold marginalialaw17_begins.f
  repeat' first
      | (with_reducible exact marginaliaref17_Same.mono _ _ _)
      | (with_reducible exact LeO.refl _)
      | (with_reducible exact LeO.none _)
      | (with_reducible refine LeO.ite ?_ ?_)
      | (with_reducible refine LeO.bind ?_ (fun _ => ?_))
      | exact marginaliaref17_Same.mono _ _ _
      | exact LeO.none _
      | refine LeO.ite ?_ ?_
      | refine LeO.bind ?_ (fun _ => ?_)
set_option maxHeartbeats 8000000 in
set_option maxRecDepth 100000 in
theorem marginalialaw17_begins.calls (k : Nat) (A0 : Option Addr) (c0 : Nat) (l0 : List (List Int)) (A1 : Option Addr) (c1 : Nat) (l1 : List (List Int)) (r : Bool) (w : World) (hr0 : Kd.C (Kd.slice 5 (Kd.int .u8)) w A0 l0.length l0) (hc0 : l0.length ≤ c0) (hr1 : Kd.C (Kd.slice 5 (Kd.int .u8)) w A1 l1.length l1) (hc1 : l1.length ≤ c1) (h : marginalialaw17_begins.f k l0 l1 = some r) :
    Calls Try.prog 48 #[.slice A0 l0.length c0, .slice A1 l1.length c1] w fun e w' => e = .returned (.bool r) ∧ Drawn0 w w' := by
  have HR0 := Aside0.mk hr0
  have HC0 := Aside0.mk hc0
  clear hr0 hc0
  have HR1 := Aside0.mk hr1
  have HC1 := Aside0.mk hc1
  clear hr1 hc1
  have H : (if (l0.length : Int) ≤ (l1.length : Int) then (if 0 ≤ (l0.length : Int) then ((marginaliaref17_Same.f k l0 (l1.take ((l0.length : Int) : Int).toNat)).bind fun t360 => (some t360)) else (none)) else (some false)) = some r := h
  clear h
  by_cases c3 : (l0.length : Int) ≤ (l1.length : Int)
  · rw [if_pos c3] at H
    have c3b0 : decide ((l0.length : Int) ≤ (l1.length : Int)) = true := decide_eq_true c3
    have c3b1 : decide (l0.length ≤ l1.length) = true := decide_eq_true (Int.ofNat_le.mp c3)
    clear c3
    by_cases c4 : 0 ≤ (l0.length : Int)
    · rw [if_pos c4] at H
      have c4b0 := eq_true c4
      have c4b1 : decide (0 ≤ (l0.length : Int)) = true := decide_eq_true c4
      clear c4
      have c5b0 := eq_true (of_decide_eq_true (by first | (with_reducible assumption) | assumption) : (l0.length : Int) ≤ (l1.length : Int))
      obtain ⟨y356, hy356⟩ : ∃ y_ : List (List Int), y_ = (l1.take ((l0.length : Int) : Int).toNat) := ⟨_, rfl⟩
      replace H : ((marginaliaref17_Same.f k l0 y356).bind fun t360 => (some t360)) = some r := by first | (rw [hy356]; with_reducible exact H) | (have H2_ := (Option.bind_some _ _).symm.trans H; rw [hy356]; with_reducible exact H2_) | (have H2_ := (Option.bind_some _ _).symm.trans H; with_reducible exact H2_) | with_reducible exact H | (rw [hy356]; exact H) | exact H
      have Ny356 := Aside0.mk hy356
      clear hy356
      replace H := Option.bind_eq_some_iff.mp H
      obtain ⟨t360, A60, H⟩ := H
      replace H : (some t360) = some r := H
      have A6 := Aside0.mk A60
      clear A60
      obtain rfl := Option.some.inj H
      have q7 : ((l0.length : Int) : Int) ≤ ((l1.length : Int) : Int) := of_decide_eq_true (by first | (with_reducible assumption) | assumption)
      obtain ⟨i07, hi07, _, hsz7, _⟩ := info_parts info27
      have hroom7 : l1.length ≤ c1 := HC1.out
      have hC7 : Kd.C (Kd.slice 5 (Kd.int .u8)) _ A1 l1.length l1 := HR1.out
      have hcut7 := cut_to (P := Try.prog) 46 27 .i64 Try.underlying46 hi07 A1 l1.length c1 (l0.length : Int) (of_decide_eq_true (by first | (with_reducible assumption) | assumption)) q7 hroom7
      have hr7 := Kd.C_take (m := ((l0.length : Int) : Int).toNat) hC7 (by omega)
      have hy7 : y356.length = ((l0.length : Int) : Int).toNat := (by rw [Ny356.out, List.length_take]; omega)
      rw [← Ny356.out] at hr7
      rw [← hy7] at hcut7
      have HR359 := Aside0.mk hr7
      have HC359 := Aside0.mk (show y356.length ≤ c1 from by omega)
      clear hr7 hC7 hroom7 hi07 hsz7
      have KY7 := Aside0.mk hy7
      clear hy7
      replace q7 := eq_true q7
      go_enter Try.func48, Try.ntmps48
      go_wp2_with (first | (go_at_call 38; (with_reducible refine (marginaliaref17_Same.calls k _ _ l0 _ _ y356 t360 _ ?side1 ?side2 ?side3 ?side4 A6.out).mono ?_); (case side1 => repeat (first | exact HR0.out | (with_reducible refine Kd.C_alloc ?_ _) | (with_reducible refine Kd.C_drewN ?_ _) | (with_reducible refine Kd.C_drew ?_))); (case side2 => exact HC0.out); (case side3 => repeat (first | exact HR359.out | (with_reducible refine Kd.C_alloc ?_ _) | (with_reducible refine Kd.C_drewN ?_ _) | (with_reducible refine Kd.C_drew ?_))); (case side4 => exact HC359.out); rintro e w' ⟨rfl, ⟨nd, rfl⟩⟩))
      go_ret
      exact ⟨by first | rfl | (simp; done) | (simp [*]; done), by repeat (first | exact Drawn0.refl _ | apply Drawn0.step)⟩
    · rw [if_neg c4] at H
      exact absurd H (by simp)
  · rw [if_neg c3] at H
    have c3b0 : decide ((l0.length : Int) ≤ (l1.length : Int)) = false := decide_eq_false c3
    have c3b1 : decide (l0.length ≤ l1.length) = false := decide_eq_false (fun h => c3 (Int.ofNat_le.mpr h))
    clear c3
    obtain rfl := Option.some.inj H
    go_enter Try.func48, Try.ntmps48
    go_wp2
    go_ret
    exact ⟨by first | rfl | (simp; done) | (simp [*]; done), by repeat (first | exact Drawn0.refl _ | apply Drawn0.step)⟩

end Go.Proofs.Ytepipgneefcoiaa.D
