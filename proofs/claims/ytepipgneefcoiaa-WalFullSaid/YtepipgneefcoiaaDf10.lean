/- The functions of the program that these laws reach, each as a plain Lean function, and the proof that the machine's call comes to it; no condition beyond those that each theorem names. Made by wip/xprint.py. -/
import Derived.Test.YtepipgneefcoiaaTW15b
import Derived.Test.YtepipgneefcoiaaDx0
import Derived.Test.YtepipgneefcoiaaDh
namespace Go.Proofs.Ytepipgneefcoiaa.D
open Go.RowKit Go.Proofs.YtepipgneefcoiaaW.PrintWords Go.Proofs.YtepipgneefcoiaaW.PrintLast Go.Proofs.YtepipgneefcoiaaW.PrintMore
attribute [local go_sem] max2_int min2_int max_two min_two max_three min_three max_four min_four   -- for this text's walks alone
set_option linter.unusedVariables false
set_option linter.unusedSimpArgs false

/-! ### marginalialaw17_WalFull: function 10: by hand -/
open Classical in
noncomputable def marginalialaw17_WalFull.f (a0 : Int) (l1 : List S79) : Option (Bool) := if (∀ x ∈ l1, (∀ b ∈ x.f2, 0 ≤ b ∧ b < 256) ∧ (-9223372036854775808 ≤ x.f1 ∧ x.f1 ≤ 9223372036854775807)) then some true else none
theorem marginalialaw17_WalFull.calls (a0 : Int) (A1 : Option Addr) (c1 : Nat) (l1 : List S79) (r : Bool) (w : World) (hr1 : Kd.C k79 w A1 l1.length l1) (hc1 : l1.length ≤ c1) (h : marginalialaw17_WalFull.f a0 l1 = some r) :
    Calls Try.prog 10 #[.int .i64 a0, .slice A1 l1.length c1] w fun e w' => e = .returned (.bool r) ∧ Below w.heap.size w w' := by
  unfold marginalialaw17_WalFull.f at h
  split at h
  · rename_i hb
    obtain rfl := Option.some.inj h
    exact law_WFull a0 A1 c1 l1 w hr1 hc1 hb
  · cases h

end Go.Proofs.Ytepipgneefcoiaa.D
