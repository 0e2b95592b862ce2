import Derived.Test.YtmdmoohkdkooaaaOpenSpacePlays
namespace Go.Proofs.Ytmdmoohkdkooaaa.Pure
open Go.RowKit Go.Proofs.YtmdmoohkdkooaaaW.PrintWords Go.Proofs.YtmdmoohkdkooaaaW.PrintLast Go.Proofs.YtmdmoohkdkooaaaW.PrintMore
open Go.Proofs.Ytmdmoohkdkooaaa.S Go.Proofs.Ytmdmoohkdkooaaa.S.spacePlaysOpen
/-- YOURS: ∀ (x0 : Int) (x1 : List (S54)), (Lit.int .i64 x0).wf = true → WfL (fun z => wf54 z) x1 → marginalialaw18_SpacePlays.f x0 x1 = some true -/
theorem SpacePlays : spacePlaysOpen.Pure := by
  exact fun _ _ _ _ => rfl
end Go.Proofs.Ytmdmoohkdkooaaa.Pure
