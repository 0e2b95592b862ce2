/- The functions of the program that these laws reach, each as a plain Lean function, and the proof that the machine's call comes to it; no condition beyond those that each theorem names. Made by wip/xprint.py. -/
import Derived.Test.YtepipgneefcoiaaOpensD
import Derived.Test.YtepipgneefcoiaaDf3
namespace Go.Proofs.Ytepipgneefcoiaa.D.diskMadeOpen
open Go.RowKit Go.Proofs.YtepipgneefcoiaaW.PrintWords Go.Proofs.YtepipgneefcoiaaW.PrintLast Go.Proofs.YtepipgneefcoiaaW.PrintMore
open Go.Proofs.Ytepipgneefcoiaa.D
set_option linter.unusedVariables false
def Pure : Prop := ∀ (x0 : Int), (Lit.int .i64 x0).wf = true → marginalialaw14_DiskMade.f x0 = some true
end Go.Proofs.Ytepipgneefcoiaa.D.diskMadeOpen
