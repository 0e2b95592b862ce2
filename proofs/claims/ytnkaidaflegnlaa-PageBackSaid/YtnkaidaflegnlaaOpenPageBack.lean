/- The functions of the program that these laws reach, each as a plain Lean function, and the proof that the machine's call comes to it; no condition beyond those that each theorem names. Made by wip/xprint.py. -/
import Derived.Test.YtnkaidaflegnlaaOpensG
import Derived.Test.YtnkaidaflegnlaaGf6
namespace Go.Proofs.Ytnkaidaflegnlaa.G.pageBackOpen
open Go.RowKit Go.Proofs.YtnkaidaflegnlaaW.PrintWords Go.Proofs.YtnkaidaflegnlaaW.PrintLast Go.Proofs.YtnkaidaflegnlaaW.PrintMore
open Go.Proofs.Ytnkaidaflegnlaa.G
set_option linter.unusedVariables false
def wf39 (x : S39) : Prop := (Lit.int .u64 x.f0).wf = true ∧ (Lit.int .i64 x.f1).wf = true ∧ WfL (fun z => (Lit.int .u8 z).wf = true) x.f2 ∧ (Lit.int .i64 x.f3).wf = true
set_option maxRecDepth 20000 in
theorem opens39 {H : Type} {enc : TypeId × Value → H} {w : World} : Opens enc Try.prog w 39 k39 wf39 :=
  opens_struct (wf := fun (a : Int × Int × (List Int) × Int) => (Lit.int .u64 a.1).wf = true ∧ (Lit.int .i64 a.2.1).wf = true ∧ WfL (fun z => (Lit.int .u8 z).wf = true) a.2.2.1 ∧ (Lit.int .i64 a.2.2.2).wf = true) (g := fun (a : Int × Int × (List Int) × Int) => (⟨a.1, a.2.1, a.2.2.1, a.2.2.2⟩ : S39)) Try.underlying39 (by kernel_rfl) (fun _ => rfl) (opensF_cons rfl (by kernel_rfl) (opens_int Try.underlying37) (opensF_cons rfl (by kernel_rfl) (opens_int Try.underlying3) (opensF_cons rfl (by kernel_rfl) (opens_slice Try.underlying24 (by kernel_rfl) (opens_int Try.underlying5)) (opensF_one rfl (by kernel_rfl) (opens_int Try.underlying3)))))
def wf26 (x : S26) : Prop := (Lit.int .i64 x.f0).wf = true ∧ WfL (fun z => wf39 z) x.f1 ∧ (Lit.int .i64 x.f2).wf = true ∧ WfL (fun z => (Lit.int .u8 z).wf = true) x.f3
set_option maxRecDepth 20000 in
theorem opens26 {H : Type} {enc : TypeId × Value → H} {w : World} : Opens enc Try.prog w 26 k26 wf26 :=
  opens_struct (wf := fun (a : Int × (List (S39)) × Int × (List Int)) => (Lit.int .i64 a.1).wf = true ∧ WfL (fun z => wf39 z) a.2.1 ∧ (Lit.int .i64 a.2.2.1).wf = true ∧ WfL (fun z => (Lit.int .u8 z).wf = true) a.2.2.2) (g := fun (a : Int × (List (S39)) × Int × (List Int)) => (⟨a.1, a.2.1, a.2.2.1, a.2.2.2⟩ : S26)) Try.underlying26 (by kernel_rfl) (fun _ => rfl) (opensF_cons rfl (by kernel_rfl) (opens_int Try.underlying22) (opensF_cons rfl (by kernel_rfl) (opens_slice Try.underlying23 (by kernel_rfl) opens39) (opensF_cons rfl (by kernel_rfl) (opens_int Try.underlying3) (opensF_one rfl (by kernel_rfl) (opens_slice Try.underlying24 (by kernel_rfl) (opens_int Try.underlying5))))))
def Pure : Prop := ∀ (x0 : S26), wf26 x0 → ∃ k, marginalialaw20_PageBack.f k x0.f0 x0.f1 x0.f2 x0.f3 = some true
end Go.Proofs.Ytnkaidaflegnlaa.G.pageBackOpen
