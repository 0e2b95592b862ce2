/- MarksAlike: the document calls lists of attributes alike as the program does. No condition beyond those that each theorem names. -/
import Derived.Test.YtmdmoohkdkooaaaOpenMarksAlike
import Derived.Test.YtmdmoohkdkooaaaMarkLaws
namespace Go.Proofs.Ytmdmoohkdkooaaa.Pure
open Go.RowKit Go.Proofs.Ytmdmoohkdkooaaa Go.Proofs.Ytmdmoohkdkooaaa.M Go.Proofs.Ytmdmoohkdkooaaa.M.marksAlikeOpen Go.Proofs.Ytmdmoohkdkooaaa.MarkLaws Go.Proofs.YtmdmoohkdkooaaaW.PrintWords Go.Proofs.YtmdmoohkdkooaaaW.PrintLast Go.Proofs.YtmdmoohkdkooaaaW.PrintMore
set_option linter.unusedVariables false
theorem MarksAlike : marksAlikeOpen.Pure := by
  intro a b _ _
  obtain ⟨K0, q0⟩ := alive_ev
  have hj : ∀ c : Bool, c = true → marginalialaw07_MarksAlike.j0 (K0 + 1) a b c = some true := fun c hc => by
    have r0 : marginalialaw07_alive.f K0 = some true := q0 _ (by omega)
    rw [marginalialaw07_MarksAlike.j0, if_pos hc, r0, Option.bind_some]
  by_cases c1 : (a.length : Int) > 6
  · exact ⟨K0 + 1, by rw [marginalialaw07_MarksAlike.f, if_pos c1, hj _ rfl]⟩
  by_cases c2 : (b.length : Int) > 6
  · exact ⟨K0 + 1, by rw [marginalialaw07_MarksAlike.f, if_neg c1, hj _ (decide_eq_true c2)]⟩
  obtain ⟨K1, q1⟩ := alike_ev (a := a) (b := b) (by omega) (by omega)
  obtain ⟨K2, q2⟩ := refAlike_ev (a := a) (b := b) (by omega) (by omega)
  refine ⟨K0 + K1 + K2 + 1, ?_⟩
  have r0 : marginalialaw07_alive.f (K0 + K1 + K2) = some true := q0 _ (by omega)
  have r1 : marks_Alike.f (K0 + K1 + K2) a b = some _ := q1 _ (by omega)
  have r2 : marginaliaref07_Alike.f (K0 + K1 + K2) a b = some _ := q2 _ (by omega)
  rw [marginalialaw07_MarksAlike.f, if_neg c1, decide_eq_false c2, marginalialaw07_MarksAlike.j0, if_neg (by decide), r0, Option.bind_some, if_pos rfl, r1, Option.bind_some, r2, Option.bind_some]
  simp
end Go.Proofs.Ytmdmoohkdkooaaa.Pure
