import Derived.Test.YtnkaidaflegnlaaOpenArenaFull
namespace Go.Proofs.Ytnkaidaflegnlaa.Pure
open Go.RowKit Go.Proofs.YtnkaidaflegnlaaW.PrintWords Go.Proofs.YtnkaidaflegnlaaW.PrintLast Go.Proofs.YtnkaidaflegnlaaW.PrintMore
open Go.Proofs.Ytnkaidaflegnlaa.A Go.Proofs.Ytnkaidaflegnlaa.A.arenaFullOpen
/-- YOURS: ∀ (x0 : ByteArray) (x1 : Int), x0.size ≤ 140737488351232 → (Lit.int .i64 x1).wf = true → marginalialaw05_ArenaFull.f x0 x1 = some true -/
theorem ArenaFull : arenaFullOpen.Pure := by
  exact fun _ _ _ _ => rfl
end Go.Proofs.Ytnkaidaflegnlaa.Pure
