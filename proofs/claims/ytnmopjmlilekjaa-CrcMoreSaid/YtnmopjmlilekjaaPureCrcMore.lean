/- CrcMore, as a statement on lists of numbers; no further condition. -/
import Derived.Test.YtnmopjmlilekjaaCrcLaws
namespace Go.Proofs.Ytnmopjmlilekjaa.Pure
open Go.RowKit Go.Proofs.Ytnmopjmlilekjaa.C Go.Proofs.YtnmopjmlilekjaaW.PrintWords Go.Proofs.YtnmopjmlilekjaaW.PrintLast
theorem CrcMore : marginalialaw15_CrcMore.Pure := CrcLaws.CrcMore
end Go.Proofs.Ytnmopjmlilekjaa.Pure
