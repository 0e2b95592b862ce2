/- The functions of the program that these laws reach, each as a plain Lean function, and the proof that the machine's call comes to it; no condition beyond those that each theorem names. Made by wip/xprint.py. -/
import Derived.Test.YtepipgneefcoiaaOpensD
import Derived.Test.YtepipgneefcoiaaDf11
namespace Go.Proofs.Ytepipgneefcoiaa.D.walNilOpen
open Go.RowKit Go.Proofs.YtepipgneefcoiaaW.PrintWords Go.Proofs.YtepipgneefcoiaaW.PrintLast Go.Proofs.YtepipgneefcoiaaW.PrintMore
open Go.Proofs.Ytepipgneefcoiaa.D
set_option linter.unusedVariables false
def Pure : Prop := ∀ (x0 : List Int) (x1 : Int) (x2 : Int), x0.length ≤ maxLen → x0.length * 1 ≤ 140737488351232 → (∀ z ∈ x0, (Lit.int .u8 z).wf = true) → (Lit.int .i64 x1).wf = true → (Lit.int .i64 x2).wf = true → marginalialaw17_WalNil.f x0 x1 x2 = some true
end Go.Proofs.Ytepipgneefcoiaa.D.walNilOpen
