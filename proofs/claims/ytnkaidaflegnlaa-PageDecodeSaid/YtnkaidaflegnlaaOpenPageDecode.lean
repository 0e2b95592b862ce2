/- The functions of the program that these laws reach, each as a plain Lean function, and the proof that the machine's call comes to it; no condition beyond those that each theorem names. Made by wip/xprint.py. -/
import Derived.Test.YtnkaidaflegnlaaOpensG
import Derived.Test.YtnkaidaflegnlaaGf5
namespace Go.Proofs.Ytnkaidaflegnlaa.G.pageDecodeOpen
open Go.RowKit Go.Proofs.YtnkaidaflegnlaaW.PrintWords Go.Proofs.YtnkaidaflegnlaaW.PrintLast Go.Proofs.YtnkaidaflegnlaaW.PrintMore
open Go.Proofs.Ytnkaidaflegnlaa.G
set_option linter.unusedVariables false
def Pure : Prop := ∀ (x0 : List Int), x0.length ≤ maxLen → x0.length * 1 ≤ 140737488351232 → (∀ z ∈ x0, (Lit.int .u8 z).wf = true) → marginalialaw20_PageDecode.f x0 = some true
end Go.Proofs.Ytnkaidaflegnlaa.G.pageDecodeOpen
