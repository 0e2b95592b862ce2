import Derived.Test.YtepipgneefcoiaaOpenDiskMade
namespace Go.Proofs.Ytepipgneefcoiaa.Pure
open Go.RowKit Go.Proofs.YtepipgneefcoiaaW.PrintWords Go.Proofs.YtepipgneefcoiaaW.PrintLast Go.Proofs.YtepipgneefcoiaaW.PrintMore
open Go.Proofs.Ytepipgneefcoiaa.D Go.Proofs.Ytepipgneefcoiaa.D.diskMadeOpen
/-- YOURS: ∀ (x0 : Int), (Lit.int .i64 x0).wf = true → marginalialaw14_DiskMade.f x0 = some true -/
theorem DiskMade : diskMadeOpen.Pure := by
  exact fun _ _ => rfl
end Go.Proofs.Ytepipgneefcoiaa.Pure
