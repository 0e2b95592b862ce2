/- The functions of the program that these laws reach, each as a plain Lean function, and the proof that the machine's call comes to it; no condition beyond those that each theorem names. Made by wip/xprint.py. -/
import Derived.Test.YtmdmoohkdkooaaaOpensS
import Derived.Test.YtmdmoohkdkooaaaSf9
namespace Go.Proofs.Ytmdmoohkdkooaaa.S.spaceMadeOpen
open Go.RowKit Go.Proofs.YtmdmoohkdkooaaaW.PrintWords Go.Proofs.YtmdmoohkdkooaaaW.PrintLast Go.Proofs.YtmdmoohkdkooaaaW.PrintMore
open Go.Proofs.Ytmdmoohkdkooaaa.S
set_option linter.unusedVariables false
def Pure : Prop := ∀ (x0 : Int), (Lit.int .i64 x0).wf = true → marginalialaw18_SpaceMade.f x0 = some true
end Go.Proofs.Ytmdmoohkdkooaaa.S.spaceMadeOpen
