import Derived.Test.YtepipgneefcoiaaOpenDiskPlays
namespace Go.Proofs.Ytepipgneefcoiaa.Pure
open Go.RowKit Go.Proofs.YtepipgneefcoiaaW.PrintWords Go.Proofs.YtepipgneefcoiaaW.PrintLast Go.Proofs.YtepipgneefcoiaaW.PrintMore
open Go.Proofs.Ytepipgneefcoiaa.D Go.Proofs.Ytepipgneefcoiaa.D.diskPlaysOpen
/-- YOURS: ∀ (x0 : Int) (x1 : List (S35)), (Lit.int .i64 x0).wf = true → WfL (fun z => wf35 z) x1 → marginalialaw14_DiskPlays.f x0 x1 = some true -/
theorem DiskPlays : diskPlaysOpen.Pure := by
  exact fun _ _ _ _ => rfl
end Go.Proofs.Ytepipgneefcoiaa.Pure
