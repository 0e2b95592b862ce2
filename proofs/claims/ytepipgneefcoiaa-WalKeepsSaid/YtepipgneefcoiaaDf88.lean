/- The functions of the program that these laws reach, each as a plain Lean function, and the proof that the machine's call comes to it; no condition beyond those that each theorem names. Made by wip/xprint.py. -/
import Derived.Test.YtepipgneefcoiaaDx0
import Derived.Test.YtepipgneefcoiaaDh
namespace Go.Proofs.Ytepipgneefcoiaa.D
open Go.RowKit Go.Proofs.YtepipgneefcoiaaW.PrintWords Go.Proofs.YtepipgneefcoiaaW.PrintLast Go.Proofs.YtepipgneefcoiaaW.PrintMore
attribute [local go_sem] max2_int min2_int max_two min_two max_three min_three max_four min_four   -- for this text's walks alone
set_option linter.unusedVariables false
set_option linter.unusedSimpArgs false
-- NOT PRINTED: function 26 (disk_Disk_Fuse)
-- NOT PRINTED: function 27 (disk_Disk_Dump)

/-! ### slices_ContainsFunc_byte_byte: function 88: by hand -/
theorem contains_clos (x : Int) (w : World) : Calls Try.prog 89 #[.int .u8 x] w fun e w' => e = .returned (.bool (x != 0)) ∧ w = w' := by
  go_enter Try.func89, Try.ntmps89
  go_wp2
  go_ret
  exact ⟨rfl, rfl⟩
def idxNon (l : List Int) : Int := if l.any (fun x => x != 0) = true then (l.findIdx (fun x => x != 0) : Int) else -1
theorem idxNon_at {l : List Int} {k : Nat} (hk : k < l.length) (h0 : ∀ j, j < k → rd l (j : Int) = 0) (h1 : rd l (k : Int) ≠ 0) : idxNon l = k := by
  have e : ∀ j, (hj : j < l.length) → rd l (j : Int) = l[j] := fun j hj => by simp [rd, List.getD_eq_getElem?_getD, List.getElem?_eq_getElem hj]
  have ha : l.any (fun x => x != 0) = true := by
    rw [List.any_eq_true]
    exact ⟨l[k], List.getElem_mem _, by rw [← e k hk]; simpa using h1⟩
  unfold idxNon
  rw [if_pos ha]
  congr 1
  rw [List.findIdx_eq hk]
  refine ⟨by rw [← e k hk]; simpa using h1, fun j hj => ?_⟩
  have := h0 j hj
  rw [e j (by omega)] at this
  simp [this]
theorem idxNon_none {l : List Int} (h0 : ∀ j, j < l.length → rd l (j : Int) = 0) : idxNon l = -1 ∧ l.any (fun x => x != 0) = false := by
  have ha : l.any (fun x => x != 0) = false := by
    rw [List.any_eq_false]
    intro x hx
    obtain ⟨j, hj, rfl⟩ := List.mem_iff_getElem.1 hx
    have := h0 j hj
    simp [rd, List.getD_eq_getElem?_getD, List.getElem?_eq_getElem hj] at this
    simp [this]
  unfold idxNon
  rw [ha]
  simp
set_option maxHeartbeats 1000000 in
theorem contains_index (A0 : Option Addr) (c0 : Nat) (l0 : List Int) (w : World) (hr0 : Kd.C (Kd.int .u8) w A0 l0.length l0) :
    Calls Try.prog 95 #[.slice A0 l0.length c0, .func (.func 89) #[] #[]] w fun e w' => e = .returned (.int .i64 (idxNon l0)) ∧ w = w' := by
  have HR0 := Aside0.mk hr0
  have hm := Kd.C_max hr0
  clear hr0
  go_enter Try.func95, Try.ntmps95
  go_wp2
  go_loop [8] (fun v8 => ∃ k : Nat, k ≤ l0.length ∧ v8 = .int .i64 k ∧ Aside0 (∀ j, j < k → rd l0 (j : Int) = 0)) (fun v8 => l0.length - (intOf v8).toNat)
  case atStart => exact ⟨0, Nat.zero_le _, rfl, ⟨fun j hj => absurd hj (Nat.not_lt_zero _)⟩⟩
  case round =>
    obtain ⟨k, hk, rfl, H0⟩ := hrel
    by_cases hlt : k < l0.length
    · obtain ⟨ad, ea, hx⟩ := Kd.at_int HR0.out (k : Int) (by omega) (by omega)
      cases ea
      simp only [Int.toNat_natCast] at hx
      have hlt' : decide (k < l0.length) = true := decide_eq_true hlt
      by_cases hz : rd l0 (k : Int) = 0
      · have hzb : (rd l0 (k : Int) != 0) = false := by simp [hz]
        have H1 : Aside0 (∀ j, j < k + 1 → rd l0 (j : Int) = 0) := ⟨fun j hj => by
          by_cases e : j = k
          · subst e; exact hz
          · exact H0.out j (by omega)⟩
        clear hz
        go_wp2_with (go_at_call 89; refine (contains_clos _ _).mono ?_; rintro e w' ⟨rfl, rfl⟩)
        go_round
        case rel => exact ⟨k + 1, by omega, by go_num, H1⟩
        case measure => simp [intOf]; omega
      · have hzb : (rd l0 (k : Int) != 0) = true := by simp [hz]
        have H1 := Aside0.mk (idxNon_at hlt H0.out hz)
        clear hz
        go_wp2_with (go_at_call 89; refine (contains_clos _ _).mono ?_; rintro e w' ⟨rfl, rfl⟩)
        go_ret
        exact ⟨by rw [H1.out]; rfl, rfl⟩
    · have hlt' : decide (k < l0.length) = false := decide_eq_false hlt
      have H1 := Aside0.mk (idxNon_none (l := l0) (fun j hj => H0.out j (by omega))).1
      go_wp2
      go_ret
      exact ⟨by rw [H1.out]; rfl, rfl⟩
def slices_ContainsFunc_byte_byte.f (l0 : List Int) : Option Bool := some (l0.any fun x => x != 0)
set_option maxHeartbeats 1000000 in
theorem slices_ContainsFunc_byte_byte.calls (A0 : Option Addr) (c0 : Nat) (l0 : List Int) (r : Bool) (w : World) (hr0 : Kd.C (Kd.int .u8) w A0 l0.length l0) (hc0 : l0.length ≤ c0) (h : slices_ContainsFunc_byte_byte.f l0 = some r) :
    Calls Try.prog 88 #[.slice A0 l0.length c0, .func (.func 89) #[] #[]] w fun e w' => e = .returned (.bool r) ∧ Drawn0 w w' := by
  have hr : decide (0 ≤ idxNon l0) = r := by
    obtain rfl := Option.some.inj h
    unfold idxNon
    split
    · rename_i h; rw [h]; simp
    · rename_i h; simp only [Bool.not_eq_true] at h; rw [h]; rfl
  have HR0 := Aside0.mk hr0
  have Hr := Aside0.mk hr
  clear hr0 hr h
  go_enter Try.func88, Try.ntmps88
  go_wp2_with (go_at_call 95; refine (contains_index _ _ l0 _ HR0.out).mono ?_; rintro e w' ⟨rfl, rfl⟩)
  go_ret
  exact ⟨by rw [← Hr.out]; rfl, Drawn0.refl _⟩

end Go.Proofs.Ytepipgneefcoiaa.D
