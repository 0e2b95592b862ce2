/- The functions of the program that these laws reach, each as a plain Lean function, and the proof that the machine's call comes to it; no condition beyond those that each theorem names. Made by wip/xprint.py. -/
import Derived.Test.YtepipgneefcoiaaTWI
import Derived.Test.YtepipgneefcoiaaDx0
import Derived.Test.YtepipgneefcoiaaDh
namespace Go.Proofs.Ytepipgneefcoiaa.D
open Go.RowKit Go.Proofs.YtepipgneefcoiaaW.PrintWords Go.Proofs.YtepipgneefcoiaaW.PrintLast Go.Proofs.YtepipgneefcoiaaW.PrintMore
attribute [local go_sem] max2_int min2_int max_two min_two max_three min_three max_four min_four   -- for this text's walks alone
set_option linter.unusedVariables false
set_option linter.unusedSimpArgs false

/-! ### marginalialaw17_WalKeeps: function 12: by hand -/
open Classical in
noncomputable def marginalialaw17_WalKeeps.f (l0 : List S79) : Option (Bool) := if (∀ x ∈ l0, (∀ b ∈ x.f2, 0 ≤ b ∧ b < 256) ∧ (-9223372036854775808 ≤ x.f1 ∧ x.f1 ≤ 9223372036854775807)) then some true else none
theorem marginalialaw17_WalKeeps.calls (A0 : Option Addr) (c0 : Nat) (l0 : List S79) (r : Bool) (w : World) (hr0 : Kd.C k79 w A0 l0.length l0) (hc0 : l0.length ≤ c0) (h : marginalialaw17_WalKeeps.f l0 = some r) :
    Calls Try.prog 12 #[.slice A0 l0.length c0] w fun e w' => e = .returned (.bool r) ∧ Below w.heap.size w w' := by
  unfold marginalialaw17_WalKeeps.f at h
  split at h
  · rename_i hb
    obtain rfl := Option.some.inj h
    exact law_WKeeps A0 c0 l0 w hr0 hc0 hb
  · cases h

end Go.Proofs.Ytepipgneefcoiaa.D
