/- The functions of the program that these laws reach, each as a plain Lean function, and the proof that the machine's call comes to it; no condition beyond those that each theorem names. Made by wip/xprint.py. -/
import Derived.Test.YtepipgneefcoiaaOpensD
import Derived.Test.YtepipgneefcoiaaDf12
namespace Go.Proofs.Ytepipgneefcoiaa.D.walKeepsOpen
open Go.RowKit Go.Proofs.YtepipgneefcoiaaW.PrintWords Go.Proofs.YtepipgneefcoiaaW.PrintLast Go.Proofs.YtepipgneefcoiaaW.PrintMore
open Go.Proofs.Ytepipgneefcoiaa.D
set_option linter.unusedVariables false
def wf79 (x : S79) : Prop := (Lit.int .i64 x.f0).wf = true ∧ (Lit.int .i64 x.f1).wf = true ∧ WfL (fun z => (Lit.int .u8 z).wf = true) x.f2 ∧ WfL (fun z => True) x.f3
set_option maxRecDepth 20000 in
theorem opens79 {H : Type} {enc : TypeId × Value → H} {w : World} : Opens enc Try.prog w 79 k79 wf79 :=
  opens_struct (wf := fun (a : Int × Int × (List Int) × (List Bool)) => (Lit.int .i64 a.1).wf = true ∧ (Lit.int .i64 a.2.1).wf = true ∧ WfL (fun z => (Lit.int .u8 z).wf = true) a.2.2.1 ∧ WfL (fun z => True) a.2.2.2) (g := fun (a : Int × Int × (List Int) × (List Bool)) => (⟨a.1, a.2.1, a.2.2.1, a.2.2.2⟩ : S79)) Try.underlying79 (by kernel_rfl) (fun _ => rfl) (opensF_cons rfl (by kernel_rfl) (opens_int Try.underlying3) (opensF_cons rfl (by kernel_rfl) (opens_int Try.underlying3) (opensF_cons rfl (by kernel_rfl) (opens_slice Try.underlying27 (by kernel_rfl) (opens_int Try.underlying5)) (opensF_one rfl (by kernel_rfl) (opens_slice Try.underlying33 (by kernel_rfl) (opens_bool Try.underlying4))))))
def Pure : Prop := ∀ (x0 : List (S79)), WfL (fun z => wf79 z) x0 → marginalialaw17_WalKeeps.f x0 = some true
end Go.Proofs.Ytepipgneefcoiaa.D.walKeepsOpen
