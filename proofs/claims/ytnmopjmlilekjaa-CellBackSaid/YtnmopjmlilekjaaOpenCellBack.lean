/- The functions of the program that these laws reach, each as a plain Lean function, and the proof that the machine's call comes to it; no condition beyond those that each theorem names. Made by wip/xprint.py. -/
import Derived.Test.YtnmopjmlilekjaaOpensK
import Derived.Test.YtnmopjmlilekjaaKf13
namespace Go.Proofs.Ytnmopjmlilekjaa.K.cellBackOpen
open Go.RowKit Go.Proofs.YtnmopjmlilekjaaW.PrintWords Go.Proofs.YtnmopjmlilekjaaW.PrintLast Go.Proofs.YtnmopjmlilekjaaW.PrintMore
open Go.Proofs.Ytnmopjmlilekjaa.K
set_option linter.unusedVariables false
def wf34 (x : S34) : Prop := (Lit.int .u64 x.f0).wf = true ∧ (Lit.int .u64 x.f1).wf = true ∧ (Lit.int .i64 x.f2).wf = true ∧ (Lit.int .i64 x.f3).wf = true ∧ WfL (fun z => (Lit.int .u8 z).wf = true) x.f4
theorem opens34 {H : Type} {enc : TypeId × Value → H} {w : World} : Opens enc Try.prog w 34 k34 wf34 :=
  opens_struct (wf := fun (a : Int × Int × Int × Int × (List Int)) => (Lit.int .u64 a.1).wf = true ∧ (Lit.int .u64 a.2.1).wf = true ∧ (Lit.int .i64 a.2.2.1).wf = true ∧ (Lit.int .i64 a.2.2.2.1).wf = true ∧ WfL (fun z => (Lit.int .u8 z).wf = true) a.2.2.2.2) (g := fun (a : Int × Int × Int × Int × (List Int)) => (⟨a.1, a.2.1, a.2.2.1, a.2.2.2.1, a.2.2.2.2⟩ : S34)) Try.underlying34 (by kernel_rfl) (fun _ => rfl) (opensF_cons rfl (by kernel_rfl) (opens_int Try.underlying32) (opensF_cons rfl (by kernel_rfl) (opens_int Try.underlying32) (opensF_cons rfl (by kernel_rfl) (opens_int Try.underlying3) (opensF_cons rfl (by kernel_rfl) (opens_int Try.underlying3) (opensF_one rfl (by kernel_rfl) (opens_slice Try.underlying22 (by kernel_rfl) (opens_int Try.underlying5)))))))
def Pure : Prop := ∀ (x0 : S34) (x1 : List Int), wf34 x0 → x1.length ≤ maxLen → x1.length * 1 ≤ 140737488351232 → (∀ z ∈ x1, (Lit.int .u8 z).wf = true) → ∃ k, marginalialaw16_CellBack.f k x0.f0 x0.f1 x0.f2 x0.f3 x0.f4 x1 = some true
end Go.Proofs.Ytnmopjmlilekjaa.K.cellBackOpen
