/- The functions of the program that these laws reach, each as a plain Lean function, and the proof that the machine's call comes to it; no condition beyond those that each theorem names. Made by wip/xprint.py. -/
import Derived.Test.YtnmopjmlilekjaaProg
import Derived.Below
import Derived.Deep.Draws
import Derived.Deep.AppendLies
import Derived.Maps.AppendAt
import Derived.OwnWalk
import Derived.Laws.BytesArg
import Derived.Laws.MakeOwn
import Derived.Laws.OwnMore
import Derived.Deep.OwnRows
import Derived.Tactics
import Derived.Lib.ConvBytes
import Derived.Laws.Slices
import Derived.WalkKit
import Derived.KernelRfl
import Derived.RowKit3
import Derived.Deep.LoopGhost
import Derived.Deep.QuietTactic
import Derived.BigQuiet
import Derived.WideLaws
import Derived.Deep.DeepCutAuto
import Derived.Deep.CutBlock
import Derived.Deep.RegionHeld3
import Derived.Laws.Rows
import Derived.Lib.AppendStr
import Derived.ArgAppend
import Derived.Laws.IdiomCopy
import Derived.OrdersHeld
import Derived.Laws.BitsLemmas
import Derived.RowKit
import Derived.Lib.SlBytesConst
import Derived.Test.YtnmopjmlilekjaaWWords
import Derived.Test.YtnmopjmlilekjaaWLast
import Derived.Test.YtnmopjmlilekjaaWTab
import Derived.Test.YtnmopjmlilekjaaWFour
import Derived.Test.YtnmopjmlilekjaaWQPut
import Derived.Test.YtnmopjmlilekjaaWApart
import Derived.Test.YtnmopjmlilekjaaWArr
import Derived.Test.YtnmopjmlilekjaaWZeros
import Derived.Test.YtnmopjmlilekjaaWFoot
import Derived.Test.YtnmopjmlilekjaaWKept
import Derived.Test.YtnmopjmlilekjaaWShare
import Derived.Test.YtnmopjmlilekjaaWN
import Derived.Test.YtnmopjmlilekjaaWFootNe
import Derived.Test.YtnmopjmlilekjaaWAt
import Derived.Test.YtnmopjmlilekjaaWEqStruct
import Derived.Test.YtnmopjmlilekjaaWRepsOne
import Derived.Test.YtnmopjmlilekjaaWInv
import Derived.Test.YtnmopjmlilekjaaWInvWords
import Derived.Test.YtnmopjmlilekjaaWGuard
import Derived.Test.YtnmopjmlilekjaaWNEv
import Derived.Test.YtnmopjmlilekjaaWMore
namespace Go.Proofs.Ytnmopjmlilekjaa.C
open Go.RowKit Go.Proofs.YtnmopjmlilekjaaW.PrintWords Go.Proofs.YtnmopjmlilekjaaW.PrintLast Go.Proofs.YtnmopjmlilekjaaW.PrintMore
attribute [local go_sem] max2_int min2_int max_two min_two max_three min_three max_four min_four   -- for this text's walks alone
set_option linter.unusedVariables false
set_option linter.unusedSimpArgs false



def errW : Option Int → Value
  | none => .nilIface
  | some c => .iface 0 (.int .i64 c)
theorem errW_none : errW none = .nilIface := rfl
theorem errW_some (c : Int) : errW (some c) = .iface 0 (.int .i64 c) := rfl

theorem info5 : (Try.prog.info? 5).map (fun i => (i.zero, i.size, i.bytes)) = some (some (.int .u8 0), 1, 1) := by kernel_rfl
-- the values' own types

end Go.Proofs.Ytnmopjmlilekjaa.C
