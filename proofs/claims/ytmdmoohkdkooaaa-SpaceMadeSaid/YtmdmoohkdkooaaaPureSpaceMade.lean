import Derived.Test.YtmdmoohkdkooaaaOpenSpaceMade
namespace Go.Proofs.Ytmdmoohkdkooaaa.Pure
open Go.RowKit Go.Proofs.YtmdmoohkdkooaaaW.PrintWords Go.Proofs.YtmdmoohkdkooaaaW.PrintLast Go.Proofs.YtmdmoohkdkooaaaW.PrintMore
open Go.Proofs.Ytmdmoohkdkooaaa.S Go.Proofs.Ytmdmoohkdkooaaa.S.spaceMadeOpen
/-- YOURS: ∀ (x0 : Int), (Lit.int .i64 x0).wf = true → marginalialaw18_SpaceMade.f x0 = some true -/
theorem SpaceMade : spaceMadeOpen.Pure := by
  exact fun _ _ => rfl
end Go.Proofs.Ytmdmoohkdkooaaa.Pure
