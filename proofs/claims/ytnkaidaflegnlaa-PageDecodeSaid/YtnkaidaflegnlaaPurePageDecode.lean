/- PageDecode: the page of any bytes, or that there is none, is as the document says. No condition beyond those that each theorem names. -/
import Derived.Test.YtnkaidaflegnlaaOpenPageDecode
namespace Go.Proofs.Ytnkaidaflegnlaa.Pure
open Go.RowKit Go.Proofs.YtnkaidaflegnlaaW.PrintWords Go.Proofs.YtnkaidaflegnlaaW.PrintLast Go.Proofs.YtnkaidaflegnlaaW.PrintMore
open Go.Proofs.Ytnkaidaflegnlaa.G Go.Proofs.Ytnkaidaflegnlaa.G.pageDecodeOpen
/-- YOURS: ∀ (x0 : List Int), x0.length ≤ maxLen → x0.length * 1 ≤ 140737488351232 → (∀ z ∈ x0, (Lit.int .u8 z).wf = true) → marginalialaw20_PageDecode.f x0 = some true -/
theorem PageDecode : pageDecodeOpen.Pure := by
  intro l0 _ _ hwf
  unfold marginalialaw20_PageDecode.f
  rw [if_pos (List.all_eq_true.2 fun x hx => by
    have h1 := hwf x hx
    simp [Lit.wf, IntKind.min, IntKind.max, IntKind.bits, IntKind.signed] at h1
    simp only [decide_eq_true_eq]
    omega)]
end Go.Proofs.Ytnkaidaflegnlaa.Pure
