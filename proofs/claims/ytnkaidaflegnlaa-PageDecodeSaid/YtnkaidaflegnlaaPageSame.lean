/- A page is alike itself. No condition beyond those that each theorem names. -/
import Derived.Test.YtnkaidaflegnlaaPageLaws
import Derived.Test.YtnkaidaflegnlaaGf24
namespace Go.Proofs.Ytnkaidaflegnlaa.PageLaws
open Go.RowKit Go.Proofs.Ytnkaidaflegnlaa Go.Proofs.Ytnkaidaflegnlaa.G Go.Proofs.YtnkaidaflegnlaaW.PrintWords Go.Proofs.YtnkaidaflegnlaaW.PrintLast Go.Proofs.YtnkaidaflegnlaaW.PrintMore
set_option linter.unusedVariables false
theorem same_ev {a : Int} {x : List S39} {y : Int} {d : List Int} (hx : x.length ≤ 1000) : Ev (fun k => marginaliaref20_Same.f k a x y d a x y d) true := by
  have h : ∀ n j : Nat, j + n = x.length → Ev (fun k => marginaliaref20_Same.l0 k (j : Int) a x y d a x y d) true := by
    intro n
    induction n with
    | zero =>
      intro j hj
      refine Ev.step (f := fun _ => some _) (fun k => ?_) (Ev.now _)
      rw [marginaliaref20_Same.l0, if_neg (by omega)]
    | succ n ih =>
      intro j hj
      refine Ev.step (f := fun k => marginaliaref20_Same.j2 k (j : Int) false a x y d a x y d) (fun k => ?_) (Ev.step (fun k => ?_) (ih (j + 1) (by omega)))
      · rw [marginaliaref20_Same.l0, if_pos (by omega), if_pos (by omega), if_pos (by omega), if_pos rfl, if_pos rfl, if_pos rfl, bne_self_eq_false]
      · rw [marginaliaref20_Same.j2, if_neg (by decide), w64 (by omega) (by omega)]
        rfl
  refine Ev.congr (f := fun k => marginaliaref20_Same.j0 k false a x y d a x y d) (fun k => ?_) (Ev.step (fun k => ?_) (h x.length 0 (by omega)))
  · show marginaliaref20_Same.f k a x y d a x y d = _
    rw [marginaliaref20_Same.f, if_pos rfl, if_pos rfl, if_pos rfl, bne_self_eq_false]
  · rw [marginaliaref20_Same.j0, if_neg (by decide)]
    rfl
end Go.Proofs.Ytnkaidaflegnlaa.PageLaws
