/- The functions of the program that these laws reach, each as a plain Lean function, and the proof that the machine's call comes to it; no condition beyond those that each theorem names. Made by wip/xprint.py. -/
import Derived.Test.YtepipgneefcoiaaTW13
import Derived.Test.YtepipgneefcoiaaDx0
namespace Go.Proofs.Ytepipgneefcoiaa.D
open Go.RowKit Go.Proofs.YtepipgneefcoiaaW.PrintWords Go.Proofs.YtepipgneefcoiaaW.PrintLast Go.Proofs.YtepipgneefcoiaaW.PrintMore
attribute [local go_sem] max2_int min2_int max_two min_two max_three min_three max_four min_four
set_option linter.unusedVariables false
set_option linter.unusedSimpArgs false
/- WalNil. -/
set_option maxRecDepth 20000 in
set_option maxHeartbeats 40000000 in
theorem law_WNil (A0 : Option Addr) (c0 : Nat) (l0 : List Int) (a1 a2 : Int) (h1 : -9223372036854775808 ≤ a1 ∧ a1 ≤ 9223372036854775807) (h2 : -9223372036854775808 ≤ a2 ∧ a2 ≤ 9223372036854775807) (w : World) : Calls Try.prog 11 #[.slice A0 l0.length c0, .int .i64 a1, .int .i64 a2] w fun e w' => e = .returned (.bool true) ∧ Below w.heap.size w w' := by
  by_cases hok : 0 ≤ a1 ∧ 1 ≤ a2 ∧ a2 ≤ 4 ∧ a1 ≤ 4 - a2
  · obtain ⟨k1, k2, k3, k4⟩ := hok
    have d1 : decide (a1 ≥ 0) = true := decide_eq_true k1
    have d2 : decide (a1 < 4) = true := decide_eq_true (by omega)
    have d3 : decide (a2 ≥ 1) = true := decide_eq_true k2
    have d4 : decide (a2 ≤ 4) = true := decide_eq_true k3
    have d5 : wrap64 (4 - a2) = 4 - a2 := by unfold wrap64; omega
    have d6 : decide (a1 ≤ 4 - a2) = true := decide_eq_true k4
    have HF := Aside0.mk (show a1.toNat + a2.toNat ≤ 4 by omega)
    have HA := Aside0.mk (show a1 = (a1.toNat : Int) by omega)
    have HB := Aside0.mk (show a2 = (a2.toNat : Int) by omega)
    have HS := Aside0.mk (show 1 ≤ a2.toNat ∧ a2.toNat ≤ 200 by omega)
    clear k1 k2 k3 k4 h1 h2
    go_enter Try.func11, Try.ntmps11
    go_upto_region 4 with (first
      | (go_at_call 14; refine (Z_New _ 4 (by omega) (by omega) 4 rfl).mono ?_; rintro e w1 ⟨q, rfl, hj⟩; have J1 := Aside0.mk hj; clear hj)
      | (go_at_call 35; refine (Z_Open J1.out a1.toNat a2.toNat HS.out.1 HS.out.2 HF.out a1 a2 1 HA.out HB.out).mono ?_; rintro e w2 ⟨p, rfl, hg, hb⟩; have B2 := Aside0.mk (JO_below (LG_JO hg)); clear hg hb))
    go_upto_region 5 with (first
      | (go_at_call 35; refine (N_Open _).mono ?_; rintro e w3 ⟨rfl, hb⟩; have B3 := Aside0.mk (below_step B2.out hb); clear hb))
    go_upto_region 8 with (fail)
    go_wp2_with (first
      | (go_at_call 37; refine (L_alive _).mono ?_; rintro e w4 ⟨rfl, hb⟩; have B4 := Aside0.mk (below_step B3.out hb); clear hb)
      | (go_at_call 39; refine (N_Records _).mono ?_; rintro e w5 ⟨rfl, hb⟩; have B5 := Aside0.mk (below_step B4.out hb); clear hb)
      | (go_at_call 45; refine (N_Append _ _ _ _).mono ?_; rintro e w6 ⟨rfl, hb⟩; have B6 := Aside0.mk (below_step B5.out hb); clear hb)
      | (go_at_call 46; refine (N_Sync _).mono ?_; rintro e w7 ⟨rfl, hb⟩; have B7 := Aside0.mk (below_step B6.out hb); clear hb)
      | (go_at_call 47; refine (N_Reset _ _).mono ?_; rintro e w8 ⟨rfl, hb⟩; have B8 := Aside0.mk (below_step B7.out hb); clear hb)
      | (go_at_call 40; refine (N_Room _).mono ?_; rintro e w9 ⟨rfl, hb⟩; have B9 := Aside0.mk (below_step B8.out hb); clear hb)
      | (go_at_call 43; refine (N_Epoch _).mono ?_; rintro e w10 ⟨rfl, hb⟩; have B10 := Aside0.mk (below_step B9.out hb); clear hb)
      | (go_at_call 42; refine (N_Life _).mono ?_; rintro e w11 ⟨rfl, hb⟩; have B11 := Aside0.mk (below_step B10.out hb); clear hb))
    go_ret
    exact ⟨rfl, B11.out⟩
  · have H1 := Aside0.mk h1
    have H2 := Aside0.mk h2
    have HX := Aside0.mk (show a1 < 0 ∨ a2 < 1 ∨ a2 > (((new8 4).nb : Nat) : Int) ∨ a1 > (((new8 4).nb : Nat) : Int) - a2 by show a1 < 0 ∨ a2 < 1 ∨ a2 > 4 ∨ a1 > 4 - a2; omega)
    by_cases k1 : 0 ≤ a1
    · have d1 : decide (a1 ≥ 0) = true := decide_eq_true k1
      by_cases k2 : a1 < 4
      · have d2 : decide (a1 < 4) = true := decide_eq_true k2
        by_cases k3 : 1 ≤ a2
        · have d3 : decide (a2 ≥ 1) = true := decide_eq_true k3
          by_cases k4 : a2 ≤ 4
          · have d4 : decide (a2 ≤ 4) = true := decide_eq_true k4
            have d5 : wrap64 (4 - a2) = 4 - a2 := by unfold wrap64; omega
            have d6 : decide (a1 ≤ 4 - a2) = false := decide_eq_false (by omega)
            clear k1 k2 k3 k4 h1 h2 hok
            go_enter Try.func11, Try.ntmps11
            go_upto_region 4 with (first
              | (go_at_call 14; refine (Z_New _ 4 (by omega) (by omega) 4 rfl).mono ?_; rintro e w1 ⟨q, rfl, hj⟩; have J1 := Aside0.mk hj; clear hj)
              | (go_at_call 35; refine (L_OpenArg J1.out (by decide) a1 a2 1 H1.out H2.out HX.out).mono ?_; rintro e w2 ⟨rfl, hb⟩; have B2 := Aside0.mk (below_step (JO_below J1.out) hb); clear hb))
            go_upto_region 5 with (first
              | (go_at_call 35; refine (N_Open _).mono ?_; rintro e w3 ⟨rfl, hb⟩; have B3 := Aside0.mk (below_step B2.out hb); clear hb))
            go_upto_region 8 with (fail)
            go_wp2_with (first
              | (go_at_call 37; refine (L_alive _).mono ?_; rintro e w4 ⟨rfl, hb⟩; have B4 := Aside0.mk (below_step B3.out hb); clear hb)
              | (go_at_call 39; refine (N_Records _).mono ?_; rintro e w5 ⟨rfl, hb⟩; have B5 := Aside0.mk (below_step B4.out hb); clear hb)
              | (go_at_call 45; refine (N_Append _ _ _ _).mono ?_; rintro e w6 ⟨rfl, hb⟩; have B6 := Aside0.mk (below_step B5.out hb); clear hb)
              | (go_at_call 46; refine (N_Sync _).mono ?_; rintro e w7 ⟨rfl, hb⟩; have B7 := Aside0.mk (below_step B6.out hb); clear hb)
              | (go_at_call 47; refine (N_Reset _ _).mono ?_; rintro e w8 ⟨rfl, hb⟩; have B8 := Aside0.mk (below_step B7.out hb); clear hb)
              | (go_at_call 40; refine (N_Room _).mono ?_; rintro e w9 ⟨rfl, hb⟩; have B9 := Aside0.mk (below_step B8.out hb); clear hb)
              | (go_at_call 43; refine (N_Epoch _).mono ?_; rintro e w10 ⟨rfl, hb⟩; have B10 := Aside0.mk (below_step B9.out hb); clear hb)
              | (go_at_call 42; refine (N_Life _).mono ?_; rintro e w11 ⟨rfl, hb⟩; have B11 := Aside0.mk (below_step B10.out hb); clear hb))
            go_ret
            exact ⟨rfl, B11.out⟩
          · have d4 : decide (a2 ≤ 4) = false := decide_eq_false k4
            clear k1 k2 k3 k4 h1 h2 hok
            go_enter Try.func11, Try.ntmps11
            go_upto_region 4 with (first
              | (go_at_call 14; refine (Z_New _ 4 (by omega) (by omega) 4 rfl).mono ?_; rintro e w1 ⟨q, rfl, hj⟩; have J1 := Aside0.mk hj; clear hj)
              | (go_at_call 35; refine (L_OpenArg J1.out (by decide) a1 a2 1 H1.out H2.out HX.out).mono ?_; rintro e w2 ⟨rfl, hb⟩; have B2 := Aside0.mk (below_step (JO_below J1.out) hb); clear hb))
            go_upto_region 5 with (first
              | (go_at_call 35; refine (N_Open _).mono ?_; rintro e w3 ⟨rfl, hb⟩; have B3 := Aside0.mk (below_step B2.out hb); clear hb))
            go_upto_region 8 with (fail)
            go_wp2_with (first
              | (go_at_call 37; refine (L_alive _).mono ?_; rintro e w4 ⟨rfl, hb⟩; have B4 := Aside0.mk (below_step B3.out hb); clear hb)
              | (go_at_call 39; refine (N_Records _).mono ?_; rintro e w5 ⟨rfl, hb⟩; have B5 := Aside0.mk (below_step B4.out hb); clear hb)
              | (go_at_call 45; refine (N_Append _ _ _ _).mono ?_; rintro e w6 ⟨rfl, hb⟩; have B6 := Aside0.mk (below_step B5.out hb); clear hb)
              | (go_at_call 46; refine (N_Sync _).mono ?_; rintro e w7 ⟨rfl, hb⟩; have B7 := Aside0.mk (below_step B6.out hb); clear hb)
              | (go_at_call 47; refine (N_Reset _ _).mono ?_; rintro e w8 ⟨rfl, hb⟩; have B8 := Aside0.mk (below_step B7.out hb); clear hb)
              | (go_at_call 40; refine (N_Room _).mono ?_; rintro e w9 ⟨rfl, hb⟩; have B9 := Aside0.mk (below_step B8.out hb); clear hb)
              | (go_at_call 43; refine (N_Epoch _).mono ?_; rintro e w10 ⟨rfl, hb⟩; have B10 := Aside0.mk (below_step B9.out hb); clear hb)
              | (go_at_call 42; refine (N_Life _).mono ?_; rintro e w11 ⟨rfl, hb⟩; have B11 := Aside0.mk (below_step B10.out hb); clear hb))
            go_ret
            exact ⟨rfl, B11.out⟩
        · have d3 : decide (a2 ≥ 1) = false := decide_eq_false k3
          clear k1 k2 k3 h1 h2 hok
          go_enter Try.func11, Try.ntmps11
          go_upto_region 4 with (first
            | (go_at_call 14; refine (Z_New _ 4 (by omega) (by omega) 4 rfl).mono ?_; rintro e w1 ⟨q, rfl, hj⟩; have J1 := Aside0.mk hj; clear hj)
            | (go_at_call 35; refine (L_OpenArg J1.out (by decide) a1 a2 1 H1.out H2.out HX.out).mono ?_; rintro e w2 ⟨rfl, hb⟩; have B2 := Aside0.mk (below_step (JO_below J1.out) hb); clear hb))
          go_upto_region 5 with (first
            | (go_at_call 35; refine (N_Open _).mono ?_; rintro e w3 ⟨rfl, hb⟩; have B3 := Aside0.mk (below_step B2.out hb); clear hb))
          go_upto_region 8 with (fail)
          go_wp2_with (first
            | (go_at_call 37; refine (L_alive _).mono ?_; rintro e w4 ⟨rfl, hb⟩; have B4 := Aside0.mk (below_step B3.out hb); clear hb)
            | (go_at_call 39; refine (N_Records _).mono ?_; rintro e w5 ⟨rfl, hb⟩; have B5 := Aside0.mk (below_step B4.out hb); clear hb)
            | (go_at_call 45; refine (N_Append _ _ _ _).mono ?_; rintro e w6 ⟨rfl, hb⟩; have B6 := Aside0.mk (below_step B5.out hb); clear hb)
            | (go_at_call 46; refine (N_Sync _).mono ?_; rintro e w7 ⟨rfl, hb⟩; have B7 := Aside0.mk (below_step B6.out hb); clear hb)
            | (go_at_call 47; refine (N_Reset _ _).mono ?_; rintro e w8 ⟨rfl, hb⟩; have B8 := Aside0.mk (below_step B7.out hb); clear hb)
            | (go_at_call 40; refine (N_Room _).mono ?_; rintro e w9 ⟨rfl, hb⟩; have B9 := Aside0.mk (below_step B8.out hb); clear hb)
            | (go_at_call 43; refine (N_Epoch _).mono ?_; rintro e w10 ⟨rfl, hb⟩; have B10 := Aside0.mk (below_step B9.out hb); clear hb)
            | (go_at_call 42; refine (N_Life _).mono ?_; rintro e w11 ⟨rfl, hb⟩; have B11 := Aside0.mk (below_step B10.out hb); clear hb))
          go_ret
          exact ⟨rfl, B11.out⟩
      · have d2 : decide (a1 < 4) = false := decide_eq_false k2
        clear k1 k2 h1 h2 hok
        go_enter Try.func11, Try.ntmps11
        go_upto_region 4 with (first
          | (go_at_call 14; refine (Z_New _ 4 (by omega) (by omega) 4 rfl).mono ?_; rintro e w1 ⟨q, rfl, hj⟩; have J1 := Aside0.mk hj; clear hj)
          | (go_at_call 35; refine (L_OpenArg J1.out (by decide) a1 a2 1 H1.out H2.out HX.out).mono ?_; rintro e w2 ⟨rfl, hb⟩; have B2 := Aside0.mk (below_step (JO_below J1.out) hb); clear hb))
        go_upto_region 5 with (first
          | (go_at_call 35; refine (N_Open _).mono ?_; rintro e w3 ⟨rfl, hb⟩; have B3 := Aside0.mk (below_step B2.out hb); clear hb))
        go_upto_region 8 with (fail)
        go_wp2_with (first
          | (go_at_call 37; refine (L_alive _).mono ?_; rintro e w4 ⟨rfl, hb⟩; have B4 := Aside0.mk (below_step B3.out hb); clear hb)
          | (go_at_call 39; refine (N_Records _).mono ?_; rintro e w5 ⟨rfl, hb⟩; have B5 := Aside0.mk (below_step B4.out hb); clear hb)
          | (go_at_call 45; refine (N_Append _ _ _ _).mono ?_; rintro e w6 ⟨rfl, hb⟩; have B6 := Aside0.mk (below_step B5.out hb); clear hb)
          | (go_at_call 46; refine (N_Sync _).mono ?_; rintro e w7 ⟨rfl, hb⟩; have B7 := Aside0.mk (below_step B6.out hb); clear hb)
          | (go_at_call 47; refine (N_Reset _ _).mono ?_; rintro e w8 ⟨rfl, hb⟩; have B8 := Aside0.mk (below_step B7.out hb); clear hb)
          | (go_at_call 40; refine (N_Room _).mono ?_; rintro e w9 ⟨rfl, hb⟩; have B9 := Aside0.mk (below_step B8.out hb); clear hb)
          | (go_at_call 43; refine (N_Epoch _).mono ?_; rintro e w10 ⟨rfl, hb⟩; have B10 := Aside0.mk (below_step B9.out hb); clear hb)
          | (go_at_call 42; refine (N_Life _).mono ?_; rintro e w11 ⟨rfl, hb⟩; have B11 := Aside0.mk (below_step B10.out hb); clear hb))
        go_ret
        exact ⟨rfl, B11.out⟩
    · have d1 : decide (a1 ≥ 0) = false := decide_eq_false k1
      clear k1 h1 h2 hok
      go_enter Try.func11, Try.ntmps11
      go_upto_region 4 with (first
        | (go_at_call 14; refine (Z_New _ 4 (by omega) (by omega) 4 rfl).mono ?_; rintro e w1 ⟨q, rfl, hj⟩; have J1 := Aside0.mk hj; clear hj)
        | (go_at_call 35; refine (L_OpenArg J1.out (by decide) a1 a2 1 H1.out H2.out HX.out).mono ?_; rintro e w2 ⟨rfl, hb⟩; have B2 := Aside0.mk (below_step (JO_below J1.out) hb); clear hb))
      go_upto_region 5 with (first
        | (go_at_call 35; refine (N_Open _).mono ?_; rintro e w3 ⟨rfl, hb⟩; have B3 := Aside0.mk (below_step B2.out hb); clear hb))
      go_upto_region 8 with (fail)
      go_wp2_with (first
        | (go_at_call 37; refine (L_alive _).mono ?_; rintro e w4 ⟨rfl, hb⟩; have B4 := Aside0.mk (below_step B3.out hb); clear hb)
        | (go_at_call 39; refine (N_Records _).mono ?_; rintro e w5 ⟨rfl, hb⟩; have B5 := Aside0.mk (below_step B4.out hb); clear hb)
        | (go_at_call 45; refine (N_Append _ _ _ _).mono ?_; rintro e w6 ⟨rfl, hb⟩; have B6 := Aside0.mk (below_step B5.out hb); clear hb)
        | (go_at_call 46; refine (N_Sync _).mono ?_; rintro e w7 ⟨rfl, hb⟩; have B7 := Aside0.mk (below_step B6.out hb); clear hb)
        | (go_at_call 47; refine (N_Reset _ _).mono ?_; rintro e w8 ⟨rfl, hb⟩; have B8 := Aside0.mk (below_step B7.out hb); clear hb)
        | (go_at_call 40; refine (N_Room _).mono ?_; rintro e w9 ⟨rfl, hb⟩; have B9 := Aside0.mk (below_step B8.out hb); clear hb)
        | (go_at_call 43; refine (N_Epoch _).mono ?_; rintro e w10 ⟨rfl, hb⟩; have B10 := Aside0.mk (below_step B9.out hb); clear hb)
        | (go_at_call 42; refine (N_Life _).mono ?_; rintro e w11 ⟨rfl, hb⟩; have B11 := Aside0.mk (below_step B10.out hb); clear hb))
      go_ret
      exact ⟨rfl, B11.out⟩
end Go.Proofs.Ytepipgneefcoiaa.D
