/- The functions of the program that these laws reach, each as a plain Lean function, and the proof that the machine's call comes to it; no condition beyond those that each theorem names. Made by wip/xprint.py. -/
import Derived.Test.YtnkaidaflegnlaaOpensA
import Derived.Test.YtnkaidaflegnlaaAf13
namespace Go.Proofs.Ytnkaidaflegnlaa.A.arenaNilOpen
open Go.RowKit Go.Proofs.YtnkaidaflegnlaaW.PrintWords Go.Proofs.YtnkaidaflegnlaaW.PrintLast Go.Proofs.YtnkaidaflegnlaaW.PrintMore
open Go.Proofs.Ytnkaidaflegnlaa.A
set_option linter.unusedVariables false
def Pure : Prop := ∀ (x0 : ByteArray) (x1 : Int) (x2 : Int), x0.size ≤ 140737488351232 → (Lit.int .i64 x1).wf = true → (Lit.int .i64 x2).wf = true → marginalialaw05_ArenaNil.f x0 x1 x2 = some true
end Go.Proofs.Ytnkaidaflegnlaa.A.arenaNilOpen
