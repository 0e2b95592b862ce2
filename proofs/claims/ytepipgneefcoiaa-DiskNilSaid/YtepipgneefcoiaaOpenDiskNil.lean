/- The functions of the program that these laws reach, each as a plain Lean function, and the proof that the machine's call comes to it; no condition beyond those that each theorem names. Made by wip/xprint.py. -/
import Derived.Test.YtepipgneefcoiaaOpensD
import Derived.Test.YtepipgneefcoiaaDf8
namespace Go.Proofs.Ytepipgneefcoiaa.D.diskNilOpen
open Go.RowKit Go.Proofs.YtepipgneefcoiaaW.PrintWords Go.Proofs.YtepipgneefcoiaaW.PrintLast Go.Proofs.YtepipgneefcoiaaW.PrintMore
open Go.Proofs.Ytepipgneefcoiaa.D
set_option linter.unusedVariables false
def Pure : Prop := ∀ (x0 : Int) (x1 : List Int), (Lit.int .i64 x0).wf = true → x1.length ≤ maxLen → x1.length * 1 ≤ 140737488351232 → (∀ z ∈ x1, (Lit.int .u8 z).wf = true) → marginalialaw14_DiskNil.f x0 x1 = some true
end Go.Proofs.Ytepipgneefcoiaa.D.diskNilOpen
