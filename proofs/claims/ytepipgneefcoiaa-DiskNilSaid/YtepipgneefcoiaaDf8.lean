/- The functions of the program that these laws reach, each as a plain Lean function, and the proof that the machine's call comes to it; no condition beyond those that each theorem names. Made by wip/xprint.py. -/
import Derived.Test.YtepipgneefcoiaaDx0
import Derived.Test.YtepipgneefcoiaaDf15
import Derived.Test.YtepipgneefcoiaaDh
namespace Go.Proofs.Ytepipgneefcoiaa.D
open Go.RowKit Go.Proofs.YtepipgneefcoiaaW.PrintWords Go.Proofs.YtepipgneefcoiaaW.PrintLast Go.Proofs.YtepipgneefcoiaaW.PrintMore
attribute [local go_sem] max2_int min2_int max_two min_two max_three min_three max_four min_four   -- for this text's walks alone
set_option linter.unusedVariables false
set_option linter.unusedSimpArgs false
-- NOT PRINTED: function 26 (disk_Disk_Fuse)
-- NOT PRINTED: function 27 (disk_Disk_Dump)

/-! ### marginalialaw14_DiskNil: function 8: by hand -/
theorem bw {w w1 w2 : World} (h : Below w.heap.size w w1) (hd : Drawn0 w1 w2) : Below w.heap.size w w2 := below_step h (drawn_below hd)
set_option maxRecDepth 20000 in
set_option maxHeartbeats 8000000 in
theorem law_Nil (a0 : Int) (A1 : Option Addr) (m1 c1 : Nat) (w : World) : Calls Try.prog 8 #[.int .i64 a0, .slice A1 m1 c1] w fun e w' => e = .returned (.bool true) ∧ Below w.heap.size w w' := by
  have B0 := Aside0.mk (Below.refl w.heap.size w)
  go_enter Try.func8, Try.ntmps8
  go_wp2_with (first | (go_at_call 16; refine (nl_Read _ _).mono ?_; rintro e w1 ⟨rfl, hd⟩; have n_ := Aside0.mk (bw B0.out hd); clear hd B0; have B0 := n_; clear n_) | (go_at_call 26; refine (nl_Fuse _ _).mono ?_; rintro e w2 ⟨rfl, hd⟩; have n_ := Aside0.mk (bw B0.out hd); clear hd B0; have B0 := n_; clear n_) | (go_at_call 21; refine (nl_Crash _ _ _ _).mono ?_; rintro e w3 ⟨rfl, hd⟩; have n_ := Aside0.mk (below_step B0.out hd); clear hd B0; have B0 := n_; clear n_) | (go_at_call 15; refine (disk_alive _).mono ?_; rintro e w3 ⟨rfl, hd⟩; have n_ := Aside0.mk (below_step B0.out hd); clear hd B0; have B0 := n_; clear n_) | (go_at_call 22; refine (nl_Write _ _ _ _ _).mono ?_; rintro e w2 ⟨rfl, hd⟩; have n_ := Aside0.mk (bw B0.out hd); clear hd B0; have B0 := n_; clear n_) | (go_at_call 24; refine (nl_Flush _).mono ?_; rintro e w2 ⟨rfl, hd⟩; have n_ := Aside0.mk (bw B0.out hd); clear hd B0; have B0 := n_; clear n_) | (go_at_call 18; refine (nl_Pending _).mono ?_; rintro e w2 ⟨rfl, hd⟩; have n_ := Aside0.mk (bw B0.out hd); clear hd B0; have B0 := n_; clear n_) | (go_at_call 17; refine (nl_Blocks _).mono ?_; rintro e w2 ⟨rfl, hd⟩; have n_ := Aside0.mk (bw B0.out hd); clear hd B0; have B0 := n_; clear n_) | (go_at_call 27; refine (nl_Dump _).mono ?_; rintro e w2 ⟨rfl, hd⟩; have n_ := Aside0.mk (bw B0.out hd); clear hd B0; have B0 := n_; clear n_))
  go_ret
  exact ⟨by simp, B0.out⟩
def marginalialaw14_DiskNil.f (a0 : Int) (l1 : List Int) : Option (Bool) := some true
theorem marginalialaw14_DiskNil.calls (a0 : Int) (A1 : Option Addr) (c1 : Nat) (l1 : List Int) (r : Bool) (w : World) (hr1 : Kd.C (Kd.int .u8) w A1 l1.length l1) (hc1 : l1.length ≤ c1) (h : marginalialaw14_DiskNil.f a0 l1 = some r) :
    Calls Try.prog 8 #[.int .i64 a0, .slice A1 l1.length c1] w fun e w' => e = .returned (.bool r) ∧ Below w.heap.size w w' := by
  obtain rfl := Option.some.inj h
  exact law_Nil a0 _ _ _ w

end Go.Proofs.Ytepipgneefcoiaa.D
