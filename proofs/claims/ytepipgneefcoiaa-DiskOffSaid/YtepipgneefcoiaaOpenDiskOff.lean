/- The functions of the program that these laws reach, each as a plain Lean function, and the proof that the machine's call comes to it; no condition beyond those that each theorem names. Made by wip/xprint.py. -/
import Derived.Test.YtepipgneefcoiaaOpensD
import Derived.Test.YtepipgneefcoiaaDf5
namespace Go.Proofs.Ytepipgneefcoiaa.D.diskOffOpen
open Go.RowKit Go.Proofs.YtepipgneefcoiaaW.PrintWords Go.Proofs.YtepipgneefcoiaaW.PrintLast Go.Proofs.YtepipgneefcoiaaW.PrintMore
open Go.Proofs.Ytepipgneefcoiaa.D
set_option linter.unusedVariables false
def Pure : Prop := ∀ (x0 : Int) (x1 : Int), (Lit.int .i64 x0).wf = true → (Lit.int .i64 x1).wf = true → marginalialaw14_DiskOff.f x0 x1 = some true
end Go.Proofs.Ytepipgneefcoiaa.D.diskOffOpen
