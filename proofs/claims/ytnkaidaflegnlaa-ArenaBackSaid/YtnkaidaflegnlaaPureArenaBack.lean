import Derived.Test.YtnkaidaflegnlaaOpenArenaBack
namespace Go.Proofs.Ytnkaidaflegnlaa.Pure
open Go.RowKit Go.Proofs.YtnkaidaflegnlaaW.PrintWords Go.Proofs.YtnkaidaflegnlaaW.PrintLast Go.Proofs.YtnkaidaflegnlaaW.PrintMore
open Go.Proofs.Ytnkaidaflegnlaa.A Go.Proofs.Ytnkaidaflegnlaa.A.arenaBackOpen
/-- YOURS: ∀ (x0 : List (S54)) (x1 : Int), WfL (fun z => wf54 z) x0 → (Lit.int .i64 x1).wf = true → marginalialaw05_ArenaBack.f x0 x1 = some true -/
theorem ArenaBack : arenaBackOpen.Pure := by
  exact fun _ _ _ _ => rfl
end Go.Proofs.Ytnkaidaflegnlaa.Pure
