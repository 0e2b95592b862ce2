/- PageCheck: why a page may not be, and how many bytes it has, is as the document says. No condition beyond those that each theorem names. -/
import Derived.Test.YtnkaidaflegnlaaOpenPageCheck
import Derived.Test.YtnkaidaflegnlaaPageRefs
namespace Go.Proofs.Ytnkaidaflegnlaa.Pure
open Go.RowKit Go.Proofs.Ytnkaidaflegnlaa Go.Proofs.Ytnkaidaflegnlaa.G Go.Proofs.Ytnkaidaflegnlaa.G.pageCheckOpen Go.Proofs.Ytnkaidaflegnlaa.PageLaws Go.Proofs.YtnkaidaflegnlaaW.PrintWords Go.Proofs.YtnkaidaflegnlaaW.PrintLast Go.Proofs.YtnkaidaflegnlaaW.PrintMore
set_option linter.unusedVariables false
theorem PageCheck : pageCheckOpen.Pure := by
  rintro ⟨a, x, y, d⟩ _
  show ∃ k, marginalialaw20_PageCheck.f k a x y d = some true
  have r0 : marginalialaw20_alive.f = some true := rfl
  rcases small_ev a x y d with ⟨⟨K1, q1⟩, hx, hd, _⟩ | ⟨K1, q1⟩
  · obtain ⟨K2, q2⟩ := check_ev (a := a) (x := x) (y := y) (d := d) (by omega) (by omega)
    obtain ⟨K3, q3⟩ := refCheck_ev (a := a) (x := x) (y := y) (d := d) (by omega) (by omega)
    obtain ⟨K4, q4⟩ := size_ev (a := a) (x := x) (y := y) (d := d) (by omega) (by omega)
    obtain ⟨K5, q5⟩ := refSize_ev (a := a) (x := x) (y := y) (d := d) (by omega) (by omega)
    obtain ⟨k, hk⟩ : ∃ k, k = K1 + K2 + K3 + K4 + K5 := ⟨_, rfl⟩
    have r1 : marginalialaw20_small.f k a x y d = some true := q1 k (by omega)
    have r2 : page_Check.f k a x y d = some _ := q2 k (by omega)
    have r3 : marginaliaref20_Check.f k a x y d = some _ := q3 k (by omega)
    have r4 : page_Size.f k a x y d = some _ := q4 k (by omega)
    have r5 : marginaliaref20_Size.f k a x y d = some _ := q5 k (by omega)
    exact ⟨k, by rw [marginalialaw20_PageCheck.f, r1, Option.bind_some, if_pos rfl, r0, Option.bind_some, if_pos rfl, r2, Option.bind_some, r3, Option.bind_some, if_pos rfl, r4, Option.bind_some, r5, Option.bind_some, beq_self_eq_true]⟩
  · have r1 : marginalialaw20_small.f K1 a x y d = some false := q1 K1 (Nat.le_refl _)
    exact ⟨K1, by rw [marginalialaw20_PageCheck.f, r1, Option.bind_some, if_neg (by decide), r0, Option.bind_some]⟩
end Go.Proofs.Ytnkaidaflegnlaa.Pure
