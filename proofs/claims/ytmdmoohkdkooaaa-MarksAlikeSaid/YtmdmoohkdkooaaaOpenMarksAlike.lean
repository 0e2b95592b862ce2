/- The functions of the program that these laws reach, each as a plain Lean function, and the proof that the machine's call comes to it; no condition beyond those that each theorem names. Made by wip/xprint.py. -/
import Derived.Test.YtmdmoohkdkooaaaOpensM
import Derived.Test.YtmdmoohkdkooaaaMf3
namespace Go.Proofs.Ytmdmoohkdkooaaa.M.marksAlikeOpen
open Go.RowKit Go.Proofs.YtmdmoohkdkooaaaW.PrintWords Go.Proofs.YtmdmoohkdkooaaaW.PrintLast Go.Proofs.YtmdmoohkdkooaaaW.PrintMore
open Go.Proofs.Ytmdmoohkdkooaaa.M
set_option linter.unusedVariables false
def wf70 (x : S70) : Prop := x.f0.size ≤ maxLen ∧ x.f1.size ≤ maxLen
theorem opens70 {H : Type} {enc : TypeId × Value → H} {w : World} : Opens enc Try.prog w 70 k70 wf70 :=
  opens_struct (wf := fun (a : ByteArray × ByteArray) => a.1.size ≤ maxLen ∧ a.2.size ≤ maxLen) (g := fun (a : ByteArray × ByteArray) => (⟨a.1, a.2⟩ : S70)) Try.underlying70 (by kernel_rfl) (fun _ => rfl) (opensF_cons rfl (by kernel_rfl) (opens_string Try.underlying9) (opensF_one rfl (by kernel_rfl) (opens_string Try.underlying9)))
def Pure : Prop := ∀ (x0 : List (S70)) (x1 : List (S70)), WfL (fun z => wf70 z) x0 → WfL (fun z => wf70 z) x1 → ∃ k, marginalialaw07_MarksAlike.f k x0 x1 = some true
end Go.Proofs.Ytmdmoohkdkooaaa.M.marksAlikeOpen
