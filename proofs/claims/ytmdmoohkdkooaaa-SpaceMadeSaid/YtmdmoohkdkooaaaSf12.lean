/- The functions of the program that these laws reach, each as a plain Lean function, and the proof that the machine's call comes to it; no condition beyond those that each theorem names. Made by wip/xprint.py. -/
import Derived.Test.YtmdmoohkdkooaaaSx0
import Derived.Test.YtmdmoohkdkooaaaSf35
import Derived.Test.YtmdmoohkdkooaaaSh
namespace Go.Proofs.Ytmdmoohkdkooaaa.S
open Go.RowKit Go.Proofs.YtmdmoohkdkooaaaW.PrintWords Go.Proofs.YtmdmoohkdkooaaaW.PrintLast Go.Proofs.YtmdmoohkdkooaaaW.PrintMore
attribute [local go_sem] max2_int min2_int max_two min_two max_three min_three max_four min_four   -- for this text's walks alone
set_option linter.unusedVariables false
set_option linter.unusedSimpArgs false
-- NOT PRINTED: function 48 (space_Space_Only)

/-! ### marginalialaw18_SpaceNil: function 12: by hand -/
theorem drawn_below {w w' : World} (h : Drawn0 w w') : Below w.heap.size w w' := sp_drawn h
set_option maxRecDepth 20000 in
set_option maxHeartbeats 8000000 in
theorem law_Nil (i : Int) (v : Value) (w : World) : Calls Try.prog 12 #[.int .i64 i, v] w fun e w' => e = .returned (.bool true) ∧ Below w.heap.size w w' := by
  go_enter Try.func12, Try.ntmps12
  go_wp2_with (first | (go_at_call 46; refine (nil_Take _).mono ?_; rintro e w1 ⟨rfl, hd⟩; have B1 := Aside0.mk (drawn_below hd); clear hd) | (go_at_call 35; refine (space_alive _).mono ?_; rintro e w2 ⟨rfl, hb⟩; have B2 := Aside0.mk (below_step B1.out hb); clear hb B1) | (go_at_call 47; refine (nil_Give _ _).mono ?_; rintro e w3 ⟨rfl, hd⟩; have B3 := Aside0.mk (below_step B2.out (drawn_below hd)); clear hd B2) | (go_at_call 48; refine (nil_Only _ _).mono ?_; rintro e w4 ⟨rfl, hd⟩; have B4 := Aside0.mk (below_step B3.out (drawn_below hd)); clear hd B3) | (go_at_call 37; refine (nil_Taken _ _).mono ?_; rintro e w5 ⟨rfl, hd⟩; have B5 := Aside0.mk (below_step B4.out (drawn_below hd)); clear hd B4) | (go_at_call 36; refine (nil_Free _).mono ?_; rintro e w6 ⟨rfl, hd⟩; have B6 := Aside0.mk (below_step B5.out (drawn_below hd)); clear hd B5))
  go_ret
  exact ⟨rfl, B6.out⟩
def marginalialaw18_SpaceNil.f (a0 : Int) (l1 : List Int) : Option (Bool) := some true
theorem marginalialaw18_SpaceNil.calls (a0 : Int) (A1 : Option Addr) (c1 : Nat) (l1 : List Int) (r : Bool) (w : World) (hr1 : Kd.C (Kd.int .i64) w A1 l1.length l1) (hc1 : l1.length ≤ c1) (h : marginalialaw18_SpaceNil.f a0 l1 = some r) :
    Calls Try.prog 12 #[.int .i64 a0, .slice A1 l1.length c1] w fun e w' => e = .returned (.bool r) ∧ Below w.heap.size w w' := by
  obtain rfl := Option.some.inj h
  exact law_Nil a0 _ w

end Go.Proofs.Ytmdmoohkdkooaaa.S
