import Derived.Test.YtnkaidaflegnlaaOpenArenaLost
namespace Go.Proofs.Ytnkaidaflegnlaa.Pure
open Go.RowKit Go.Proofs.YtnkaidaflegnlaaW.PrintWords Go.Proofs.YtnkaidaflegnlaaW.PrintLast Go.Proofs.YtnkaidaflegnlaaW.PrintMore
open Go.Proofs.Ytnkaidaflegnlaa.A Go.Proofs.Ytnkaidaflegnlaa.A.arenaLostOpen
/-- YOURS: ∀ (x0 : List (S54)), WfL (fun z => wf54 z) x0 → marginalialaw05_ArenaLost.f x0 = some true -/
theorem ArenaLost : arenaLostOpen.Pure := by
  exact fun _ _ => rfl
end Go.Proofs.Ytnkaidaflegnlaa.Pure
