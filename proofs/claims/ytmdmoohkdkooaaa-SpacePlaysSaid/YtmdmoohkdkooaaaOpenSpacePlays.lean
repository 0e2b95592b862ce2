/- The functions of the program that these laws reach, each as a plain Lean function, and the proof that the machine's call comes to it; no condition beyond those that each theorem names. Made by wip/xprint.py. -/
import Derived.Test.YtmdmoohkdkooaaaOpensS
import Derived.Test.YtmdmoohkdkooaaaSf10
namespace Go.Proofs.Ytmdmoohkdkooaaa.S.spacePlaysOpen
open Go.RowKit Go.Proofs.YtmdmoohkdkooaaaW.PrintWords Go.Proofs.YtmdmoohkdkooaaaW.PrintLast Go.Proofs.YtmdmoohkdkooaaaW.PrintMore
open Go.Proofs.Ytmdmoohkdkooaaa.S
set_option linter.unusedVariables false
def wf54 (x : S54) : Prop := (Lit.int .i64 x.f0).wf = true ∧ (Lit.int .i64 x.f1).wf = true ∧ WfL (fun z => (Lit.int .i64 z).wf = true) x.f2
set_option maxRecDepth 20000 in
theorem opens54 {H : Type} {enc : TypeId × Value → H} {w : World} : Opens enc Try.prog w 54 k54 wf54 :=
  opens_struct (wf := fun (a : Int × Int × (List Int)) => (Lit.int .i64 a.1).wf = true ∧ (Lit.int .i64 a.2.1).wf = true ∧ WfL (fun z => (Lit.int .i64 z).wf = true) a.2.2) (g := fun (a : Int × Int × (List Int)) => (⟨a.1, a.2.1, a.2.2⟩ : S54)) Try.underlying54 (by kernel_rfl) (fun _ => rfl) (opensF_cons rfl (by kernel_rfl) (opens_int Try.underlying3) (opensF_cons rfl (by kernel_rfl) (opens_int Try.underlying3) (opensF_one rfl (by kernel_rfl) (opens_slice Try.underlying33 (by kernel_rfl) (opens_int Try.underlying3)))))
def Pure : Prop := ∀ (x0 : Int) (x1 : List (S54)), (Lit.int .i64 x0).wf = true → WfL (fun z => wf54 z) x1 → marginalialaw18_SpacePlays.f x0 x1 = some true
end Go.Proofs.Ytmdmoohkdkooaaa.S.spacePlaysOpen
