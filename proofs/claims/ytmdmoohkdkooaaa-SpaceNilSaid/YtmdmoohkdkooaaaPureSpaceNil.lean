import Derived.Test.YtmdmoohkdkooaaaOpenSpaceNil
namespace Go.Proofs.Ytmdmoohkdkooaaa.Pure
open Go.RowKit Go.Proofs.YtmdmoohkdkooaaaW.PrintWords Go.Proofs.YtmdmoohkdkooaaaW.PrintLast Go.Proofs.YtmdmoohkdkooaaaW.PrintMore
open Go.Proofs.Ytmdmoohkdkooaaa.S Go.Proofs.Ytmdmoohkdkooaaa.S.spaceNilOpen
/-- YOURS: ∀ (x0 : Int) (x1 : List Int), (Lit.int .i64 x0).wf = true → x1.length ≤ maxLen → x1.length * 8 ≤ 140737488351232 → (∀ z ∈ x1, (Lit.int .i64 z).wf = true) → marginalialaw18_SpaceNil.f x0 x1 = some true -/
theorem SpaceNil : spaceNilOpen.Pure := by
  exact fun _ _ _ _ _ _ => rfl
end Go.Proofs.Ytmdmoohkdkooaaa.Pure
