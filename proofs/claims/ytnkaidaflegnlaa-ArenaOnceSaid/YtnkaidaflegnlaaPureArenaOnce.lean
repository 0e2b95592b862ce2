import Derived.Test.YtnkaidaflegnlaaOpenArenaOnce
namespace Go.Proofs.Ytnkaidaflegnlaa.Pure
open Go.RowKit Go.Proofs.YtnkaidaflegnlaaW.PrintWords Go.Proofs.YtnkaidaflegnlaaW.PrintLast Go.Proofs.YtnkaidaflegnlaaW.PrintMore
open Go.Proofs.Ytnkaidaflegnlaa.A Go.Proofs.Ytnkaidaflegnlaa.A.arenaOnceOpen
/-- YOURS: ∀ (x0 : List (S54)), WfL (fun z => wf54 z) x0 → marginalialaw05_ArenaOnce.f x0 = some true -/
theorem ArenaOnce : arenaOnceOpen.Pure := by
  exact fun _ _ => rfl
end Go.Proofs.Ytnkaidaflegnlaa.Pure
