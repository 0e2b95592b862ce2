import Derived.Test.YtnkaidaflegnlaaOpenArenaNil
namespace Go.Proofs.Ytnkaidaflegnlaa.Pure
open Go.RowKit Go.Proofs.YtnkaidaflegnlaaW.PrintWords Go.Proofs.YtnkaidaflegnlaaW.PrintLast Go.Proofs.YtnkaidaflegnlaaW.PrintMore
open Go.Proofs.Ytnkaidaflegnlaa.A Go.Proofs.Ytnkaidaflegnlaa.A.arenaNilOpen
/-- YOURS: ∀ (x0 : ByteArray) (x1 : Int) (x2 : Int), x0.size ≤ 140737488351232 → (Lit.int .i64 x1).wf = true → (Lit.int .i64 x2).wf = true → marginalialaw05_ArenaNil.f x0 x1 x2 = some true -/
theorem ArenaNil : arenaNilOpen.Pure := by
  exact fun _ _ _ _ _ _ => rfl
end Go.Proofs.Ytnkaidaflegnlaa.Pure
