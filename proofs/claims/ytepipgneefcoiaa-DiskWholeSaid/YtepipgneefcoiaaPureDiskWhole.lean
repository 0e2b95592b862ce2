import Derived.Test.YtepipgneefcoiaaOpenDiskWhole
namespace Go.Proofs.Ytepipgneefcoiaa.Pure
open Go.RowKit Go.Proofs.YtepipgneefcoiaaW.PrintWords Go.Proofs.YtepipgneefcoiaaW.PrintLast Go.Proofs.YtepipgneefcoiaaW.PrintMore
open Go.Proofs.Ytepipgneefcoiaa.D Go.Proofs.Ytepipgneefcoiaa.D.diskWholeOpen
/-- YOURS: ∀ (x0 : List (S35)) (x1 : List Bool), WfL (fun z => wf35 z) x0 → WfL (fun z => True) x1 → marginalialaw14_DiskWhole.f x0 x1 = some true -/
theorem DiskWhole : diskWholeOpen.Pure := by
  exact fun _ _ _ _ => rfl
end Go.Proofs.Ytepipgneefcoiaa.Pure
