import Derived.Test.YtepipgneefcoiaaOpenDiskSafe
namespace Go.Proofs.Ytepipgneefcoiaa.Pure
open Go.RowKit Go.Proofs.YtepipgneefcoiaaW.PrintWords Go.Proofs.YtepipgneefcoiaaW.PrintLast Go.Proofs.YtepipgneefcoiaaW.PrintMore
open Go.Proofs.Ytepipgneefcoiaa.D Go.Proofs.Ytepipgneefcoiaa.D.diskSafeOpen
/-- YOURS: ∀ (x0 : List (S35)) (x1 : List Int) (x2 : List (S35)), WfL (fun z => wf35 z) x0 → x1.length ≤ maxLen → x1.length * 1 ≤ 140737488351232 → (∀ z ∈ x1, (Lit.int .u8 z).wf = true) → WfL (fun z => wf35 z) x2 → marginalialaw14_DiskSafe.f x0 x1 x2 = some true -/
theorem DiskSafe : diskSafeOpen.Pure := by
  exact fun _ _ _ _ _ _ _ _ => rfl
end Go.Proofs.Ytepipgneefcoiaa.Pure
