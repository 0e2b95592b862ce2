/- PageEncode: a page's bytes are as the document says. No condition beyond those that each theorem names. -/
import Derived.Test.YtnkaidaflegnlaaOpenPageEncode
import Derived.Test.YtnkaidaflegnlaaPageEncRef
namespace Go.Proofs.Ytnkaidaflegnlaa.Pure
open Go.RowKit Go.Proofs.Ytnkaidaflegnlaa Go.Proofs.Ytnkaidaflegnlaa.G Go.Proofs.Ytnkaidaflegnlaa.G.pageEncodeOpen Go.Proofs.Ytnkaidaflegnlaa.PageLaws Go.Proofs.YtnkaidaflegnlaaW.PrintWords Go.Proofs.YtnkaidaflegnlaaW.PrintLast Go.Proofs.YtnkaidaflegnlaaW.PrintMore
set_option linter.unusedVariables false
theorem PageEncode : pageEncodeOpen.Pure := by
  rintro ⟨a, x, y, d⟩ _
  show ∃ k, marginalialaw20_PageEncode.f k a x y d = some true
  have r0 : marginalialaw20_alive.f = some true := rfl
  rcases small_ev a x y d with ⟨⟨K1, q1⟩, hx, hd, _⟩ | ⟨K1, q1⟩
  · obtain ⟨K2, q2⟩ := encode_ev (a := a) (x := x) (y := y) (d := d) (by omega) (by omega)
    obtain ⟨K3, q3⟩ := refEncode_ev (a := a) (x := x) (y := y) (d := d) (by omega) (by omega)
    obtain ⟨k, hk⟩ : ∃ k, k = K1 + K2 + K3 := ⟨_, rfl⟩
    have r1 : marginalialaw20_small.f k a x y d = some true := q1 k (by omega)
    have r2 : page_Encode.f k a x y d = some _ := q2 k (by omega)
    have r3 : marginaliaref20_Encode.f k a x y d = some _ := q3 k (by omega)
    exact ⟨k, by rw [marginalialaw20_PageEncode.f, r1, Option.bind_some, if_pos rfl, r2, Option.bind_some, r3, Option.bind_some, r0, Option.bind_some, if_pos rfl, if_pos rfl, beq_self_eq_true]⟩
  · have r1 : marginalialaw20_small.f K1 a x y d = some false := q1 K1 (Nat.le_refl _)
    exact ⟨K1, by rw [marginalialaw20_PageEncode.f, r1, Option.bind_some, if_neg (by decide), r0, Option.bind_some]⟩
end Go.Proofs.Ytnkaidaflegnlaa.Pure
