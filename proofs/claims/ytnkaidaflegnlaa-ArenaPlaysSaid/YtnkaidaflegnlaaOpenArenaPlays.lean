/- The functions of the program that these laws reach, each as a plain Lean function, and the proof that the machine's call comes to it; no condition beyond those that each theorem names. Made by wip/xprint.py. -/
import Derived.Test.YtnkaidaflegnlaaOpensA
import Derived.Test.YtnkaidaflegnlaaAf11
namespace Go.Proofs.Ytnkaidaflegnlaa.A.arenaPlaysOpen
open Go.RowKit Go.Proofs.YtnkaidaflegnlaaW.PrintWords Go.Proofs.YtnkaidaflegnlaaW.PrintLast Go.Proofs.YtnkaidaflegnlaaW.PrintMore
open Go.Proofs.Ytnkaidaflegnlaa.A
set_option linter.unusedVariables false
def wf103 (x : S103) : Prop := x.f0.size ≤ maxLen ∧ x.f1.size ≤ maxLen
set_option maxRecDepth 20000 in
theorem opens103 {H : Type} {enc : TypeId × Value → H} {w : World} : Opens enc Try.prog w 103 k103 wf103 :=
  opens_struct (wf := fun (a : ByteArray × ByteArray) => a.1.size ≤ maxLen ∧ a.2.size ≤ maxLen) (g := fun (a : ByteArray × ByteArray) => (⟨a.1, a.2⟩ : S103)) Try.underlying103 (by kernel_rfl) (fun _ => rfl) (opensF_cons rfl (by kernel_rfl) (opens_string Try.underlying9) (opensF_one rfl (by kernel_rfl) (opens_string Try.underlying9)))
def wf54 (x : S54) : Prop := (Lit.int .i64 x.f0).wf = true ∧ (Lit.int .i64 x.f1).wf = true ∧ (Lit.int .i64 x.f2).wf = true ∧ (Lit.int .i64 x.f3).wf = true ∧ x.f4.size ≤ maxLen ∧ WfL (fun z => wf103 z) x.f5
set_option maxRecDepth 20000 in
theorem opens54 {H : Type} {enc : TypeId × Value → H} {w : World} : Opens enc Try.prog w 54 k54 wf54 :=
  opens_struct (wf := fun (a : Int × Int × Int × Int × ByteArray × (List (S103))) => (Lit.int .i64 a.1).wf = true ∧ (Lit.int .i64 a.2.1).wf = true ∧ (Lit.int .i64 a.2.2.1).wf = true ∧ (Lit.int .i64 a.2.2.2.1).wf = true ∧ a.2.2.2.2.1.size ≤ maxLen ∧ WfL (fun z => wf103 z) a.2.2.2.2.2) (g := fun (a : Int × Int × Int × Int × ByteArray × (List (S103))) => (⟨a.1, a.2.1, a.2.2.1, a.2.2.2.1, a.2.2.2.2.1, a.2.2.2.2.2⟩ : S54)) Try.underlying54 (by kernel_rfl) (fun _ => rfl) (opensF_cons rfl (by kernel_rfl) (opens_int Try.underlying3) (opensF_cons rfl (by kernel_rfl) (opens_int Try.underlying3) (opensF_cons rfl (by kernel_rfl) (opens_int Try.underlying3) (opensF_cons rfl (by kernel_rfl) (opens_int Try.underlying45) (opensF_cons rfl (by kernel_rfl) (opens_string Try.underlying9) (opensF_one rfl (by kernel_rfl) (opens_slice Try.underlying52 (by kernel_rfl) opens103)))))))
def Pure : Prop := ∀ (x0 : List (S54)) (x1 : Int), WfL (fun z => wf54 z) x0 → (Lit.int .i64 x1).wf = true → marginalialaw05_ArenaPlays.f x0 x1 = some true
end Go.Proofs.Ytnkaidaflegnlaa.A.arenaPlaysOpen
