/- The functions of the program that these laws reach, each as a plain Lean function, and the proof that the machine's call comes to it; no condition beyond those that each theorem names. Made by wip/xprint.py. -/
import Derived.Test.YtmdmoohkdkooaaaOpensM
import Derived.Test.YtmdmoohkdkooaaaMf7
namespace Go.Proofs.Ytmdmoohkdkooaaa.M.marksTurnsOpen
open Go.RowKit Go.Proofs.YtmdmoohkdkooaaaW.PrintWords Go.Proofs.YtmdmoohkdkooaaaW.PrintLast Go.Proofs.YtmdmoohkdkooaaaW.PrintMore
open Go.Proofs.Ytmdmoohkdkooaaa.M
set_option linter.unusedVariables false
def wf70 (x : S70) : Prop := x.f0.size ≤ maxLen ∧ x.f1.size ≤ maxLen
theorem opens70 {H : Type} {enc : TypeId × Value → H} {w : World} : Opens enc Try.prog w 70 k70 wf70 :=
  opens_struct (wf := fun (a : ByteArray × ByteArray) => a.1.size ≤ maxLen ∧ a.2.size ≤ maxLen) (g := fun (a : ByteArray × ByteArray) => (⟨a.1, a.2⟩ : S70)) Try.underlying70 (by kernel_rfl) (fun _ => rfl) (opensF_cons rfl (by kernel_rfl) (opens_string Try.underlying9) (opensF_one rfl (by kernel_rfl) (opens_string Try.underlying9)))
def wf27 (x : S27) : Prop := (Lit.int .i64 x.f0).wf = true ∧ x.f1.size ≤ maxLen ∧ WfL (fun z => wf70 z) x.f2
theorem opens27 {H : Type} {enc : TypeId × Value → H} {w : World} : Opens enc Try.prog w 27 k27 wf27 :=
  opens_struct (wf := fun (a : Int × ByteArray × (List (S70))) => (Lit.int .i64 a.1).wf = true ∧ a.2.1.size ≤ maxLen ∧ WfL (fun z => wf70 z) a.2.2) (g := fun (a : Int × ByteArray × (List (S70))) => (⟨a.1, a.2.1, a.2.2⟩ : S27)) Try.underlying27 (by kernel_rfl) (fun _ => rfl) (opensF_cons rfl (by kernel_rfl) (opens_int Try.underlying3) (opensF_cons rfl (by kernel_rfl) (opens_string Try.underlying9) (opensF_one rfl (by kernel_rfl) (opens_slice Try.underlying22 (by kernel_rfl) opens70))))
def Pure : Prop := ∀ (x0 : List (S27)) (x1 : Int) (x2 : S27), WfL (fun z => wf27 z) x0 → (Lit.int .i64 x1).wf = true → wf27 x2 → ∃ k, marginalialaw07_MarksTurns.f k x0 x1 x2.f0 x2.f1 x2.f2 = some true
end Go.Proofs.Ytmdmoohkdkooaaa.M.marksTurnsOpen
