import Derived.Test.YtepipgneefcoiaaOpenDiskOff
namespace Go.Proofs.Ytepipgneefcoiaa.Pure
open Go.RowKit Go.Proofs.YtepipgneefcoiaaW.PrintWords Go.Proofs.YtepipgneefcoiaaW.PrintLast Go.Proofs.YtepipgneefcoiaaW.PrintMore
open Go.Proofs.Ytepipgneefcoiaa.D Go.Proofs.Ytepipgneefcoiaa.D.diskOffOpen
/-- YOURS: ∀ (x0 : Int) (x1 : Int), (Lit.int .i64 x0).wf = true → (Lit.int .i64 x1).wf = true → marginalialaw14_DiskOff.f x0 x1 = some true -/
theorem DiskOff : diskOffOpen.Pure := by
  exact fun _ _ _ _ => rfl
end Go.Proofs.Ytepipgneefcoiaa.Pure
