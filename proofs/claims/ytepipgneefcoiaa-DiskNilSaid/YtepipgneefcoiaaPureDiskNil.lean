import Derived.Test.YtepipgneefcoiaaOpenDiskNil
namespace Go.Proofs.Ytepipgneefcoiaa.Pure
open Go.RowKit Go.Proofs.YtepipgneefcoiaaW.PrintWords Go.Proofs.YtepipgneefcoiaaW.PrintLast Go.Proofs.YtepipgneefcoiaaW.PrintMore
open Go.Proofs.Ytepipgneefcoiaa.D Go.Proofs.Ytepipgneefcoiaa.D.diskNilOpen
/-- YOURS: ∀ (x0 : Int) (x1 : List Int), (Lit.int .i64 x0).wf = true → x1.length ≤ maxLen → x1.length * 1 ≤ 140737488351232 → (∀ z ∈ x1, (Lit.int .u8 z).wf = true) → marginalialaw14_DiskNil.f x0 x1 = some true -/
theorem DiskNil : diskNilOpen.Pure := by
  exact fun _ _ _ _ _ _ => rfl
end Go.Proofs.Ytepipgneefcoiaa.Pure
