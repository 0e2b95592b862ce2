/- The functions of the program that these laws reach, each as a plain Lean function, and the proof that the machine's call comes to it; no condition beyond those that each theorem names. Made by wip/xprint.py. -/
import Derived.Test.YtmdmoohkdkooaaaMx0
import Derived.Test.YtmdmoohkdkooaaaMe1
import Derived.Test.YtmdmoohkdkooaaaMh
namespace Go.Proofs.Ytmdmoohkdkooaaa.M
open Go.RowKit Go.Proofs.YtmdmoohkdkooaaaW.PrintWords Go.Proofs.YtmdmoohkdkooaaaW.PrintLast Go.Proofs.YtmdmoohkdkooaaaW.PrintMore
attribute [local go_sem] max2_int min2_int max_two min_two max_three min_three max_four min_four   -- for this text's walks alone
set_option linter.unusedVariables false
set_option linter.unusedSimpArgs false
attribute [local go_sem high] eqA70

/-! ### marginalialaw07_small: function 16 -/
def marginalialaw07_small.l0 : Nat → List (S27) → Int → Option (Bool)
  | 0, _, _ => none
  | k + 1, x0, x3 => if x3 < (x0.length : Int) then (if x3 = 40 then (some false) else (if 0 ≤ x3 then (if (((rd_T27 x0 x3).f2).length : Int) > 6 then (some false) else (marginalialaw07_small.l0 k x0 (wrap64 (x3 + 1)))) else (none))) else (some true)
def marginalialaw07_small.f (k : Nat) (l0 : List (S27)) : Option (Bool) := marginalialaw07_small.l0 k l0 0
theorem marginalialaw07_small.mono_l : ∀ k, (∀ y0 y1, LeO (marginalialaw07_small.l0 k y0 y1) (marginalialaw07_small.l0 (k + 1) y0 y1))
  | 0 => fun _ _ r h => by simp [marginalialaw07_small.l0] at h
  | k + 1 => by
    have ih0 := marginalialaw07_small.mono_l k
    · intro y0 y1
      unfold marginalialaw07_small.l0
      repeat' first
      | (with_reducible exact ih0 _ _)
      | (with_reducible exact LeO.refl _)
      | (with_reducible exact LeO.none _)
      | (with_reducible refine LeO.ite ?_ ?_)
      | (with_reducible refine LeO.bind ?_ (fun _ => ?_))
      | exact ih0 _ _
      | exact LeO.none _
      | refine LeO.ite ?_ ?_
      | refine LeO.bind ?_ (fun _ => ?_)
theorem marginalialaw07_small.mono : ∀ a0 k, LeO (marginalialaw07_small.f k a0) (marginalialaw07_small.f (k + 1) a0) := by
  intro a0 k
  have ih0 := marginalialaw07_small.mono_l k
  unfold marginalialaw07_small.f
  repeat' first
      | (with_reducible exact ih0 _ _)
      | (with_reducible exact LeO.refl _)
      | (with_reducible exact LeO.none _)
      | (with_reducible refine LeO.ite ?_ ?_)
      | (with_reducible refine LeO.bind ?_ (fun _ => ?_))
      | exact ih0 _ _
      | exact LeO.none _
      | refine LeO.ite ?_ ?_
      | refine LeO.bind ?_ (fun _ => ?_)
set_option maxHeartbeats 8000000 in
set_option maxRecDepth 100000 in
theorem marginalialaw07_small.calls (k : Nat) (A0 : Option Addr) (c0 : Nat) (l0 : List (S27)) (r : Bool) (w : World) (hr0 : Kd.C k27 w A0 l0.length l0) (hc0 : l0.length ≤ c0) (h : marginalialaw07_small.f k l0 = some r) :
    Calls Try.prog 16 #[.slice A0 l0.length c0] w fun e w' => e = .returned (.bool r) ∧ Drawn0 w w' := by
  have HR0 := Aside0.mk hr0
  have HC0 := Aside0.mk hc0
  clear hr0 hc0
  have H : (marginalialaw07_small.l0 k l0 0) = some r := h
  clear h
  have H' := Aside0.mk H
  clear H
  go_enter Try.func16, Try.ntmps16
  go_wp2
  go_loopg [3] k (fun kq v3 w' => ∃ (x3_1 : Int), v3 = .int .i64 x3_1 ∧ Aside0 (marginalialaw07_small.l0 kq l0 x3_1 = some r) ∧ Aside0 (kq ≤ k) ∧ Drawn0 w w')
  case atStart => exact ⟨(0), (by first | rfl | (simp; done) | (simp [*]; done)), H', ⟨Nat.le_refl _⟩, by repeat (first | exact Drawn0.refl _ | apply Drawn0.step)⟩
  case round =>
    clear H'
    try clear c1
    obtain ⟨x3_1, rfl, HA, HK1, ⟨m1, rfl⟩⟩ := hrel
    cases gk with
    | zero => exact absurd HA.out (by simp [marginalialaw07_small.l0])
    | succ k1 =>
      have H := HA.out
      clear HA
      simp only [marginalialaw07_small.l0] at H
      by_cases c2 : x3_1 < (l0.length : Int)
      · rw [if_pos c2] at H
        have c2b0 : decide (x3_1 < (l0.length : Int)) = true := decide_eq_true c2
        clear c2
        by_cases c3 : x3_1 = 40
        · rw [if_pos c3] at H
          have c3b0 : (x3_1 == 40) = true := beq_iff_eq.mpr c3
          have c3b1 : (x3_1 != 40) = false := bne_eq_false_iff_eq.mpr c3
          clear c3
          obtain rfl := Option.some.inj H
          go_wp2
          go_ret
          exact ⟨by first | rfl | (simp; done) | (simp [*]; done), by repeat (first | exact Drawn0.refl _ | apply Drawn0.step)⟩
        · rw [if_neg c3] at H
          have c3b0 : (x3_1 == 40) = false := beq_eq_false_iff_ne.mpr c3
          have c3b1 : (x3_1 != 40) = true := bne_iff_ne.mpr c3
          by_cases c4 : 0 ≤ x3_1
          · rw [if_pos c4] at H
            have c4b0 : decide (0 ≤ x3_1) = true := decide_eq_true c4
            clear c4
            by_cases c5 : (((rd_T27 l0 x3_1).f2).length : Int) > 6
            · rw [if_pos c5] at H
              have c5b0 : decide (6 < (((rd_T27 l0 x3_1).f2).length : Int)) = true := decide_eq_true c5
              have c5b1 : decide (6 < ((rd_T27 l0 x3_1).f2).length) = true := decide_eq_true (by omega)
              clear c5
              obtain rfl := Option.some.inj H
              have p199 : 0 ≤ (x3_1 : Int) := of_decide_eq_true (by first | (with_reducible assumption) | assumption)
              have q199 : x3_1 < (l0.length : Int) := of_decide_eq_true (by first | (with_reducible assumption) | assumption)
              obtain ⟨ad199, A199_2, c199_2, e199, hx199_0, hx199_1, hx199_2, hl199_2, hi199_2⟩ := at_T27 HR0.out x3_1 p199 q199
              cases e199
              have HR199_2 := Aside0.mk hi199_2
              have HC199_2 := Aside0.mk hl199_2
              clear hi199_2 hl199_2
              replace p199 := eq_true p199
              replace q199 := eq_true q199
              go_wp2
              go_ret
              exact ⟨by first | rfl | (simp; done) | (simp [*]; done), by repeat (first | exact Drawn0.refl _ | apply Drawn0.step)⟩
            · rw [if_neg c5] at H
              have c5b0 : decide (6 < (((rd_T27 l0 x3_1).f2).length : Int)) = false := decide_eq_false c5
              have c5b1 : decide (6 < ((rd_T27 l0 x3_1).f2).length) = false := decide_eq_false (by omega)
              clear c5
              have H' := Aside0.mk H
              clear H
              have p199 : 0 ≤ (x3_1 : Int) := of_decide_eq_true (by first | (with_reducible assumption) | assumption)
              have q199 : x3_1 < (l0.length : Int) := of_decide_eq_true (by first | (with_reducible assumption) | assumption)
              obtain ⟨ad199, A199_2, c199_2, e199, hx199_0, hx199_1, hx199_2, hl199_2, hi199_2⟩ := at_T27 HR0.out x3_1 p199 q199
              cases e199
              have HR199_2 := Aside0.mk hi199_2
              have HC199_2 := Aside0.mk hl199_2
              clear hi199_2 hl199_2
              replace p199 := eq_true p199
              replace q199 := eq_true q199
              go_wp2
              go_roundg k1
              case measure => have := HK1.out; omega
              case rel => exact ⟨(wrap64 (x3_1 + 1)), (by first | rfl | (simp; done) | (simp [*]; done)), H', ⟨by have := HK1.out; omega⟩, by repeat (first | exact Drawn0.refl _ | apply Drawn0.step)⟩
          · rw [if_neg c4] at H
            exact absurd H (by simp)
      · rw [if_neg c2] at H
        have c2b0 : decide (x3_1 < (l0.length : Int)) = false := decide_eq_false c2
        clear c2
        obtain rfl := Option.some.inj H
        go_wp2
        go_ret
        exact ⟨by first | rfl | (simp; done) | (simp [*]; done), by repeat (first | exact Drawn0.refl _ | apply Drawn0.step)⟩

end Go.Proofs.Ytmdmoohkdkooaaa.M
