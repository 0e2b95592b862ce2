/- CrcSum, as a statement on lists of numbers; no further condition. -/
import Derived.Test.YtnmopjmlilekjaaCrcLaws
namespace Go.Proofs.Ytnmopjmlilekjaa.Pure
open Go.RowKit Go.Proofs.Ytnmopjmlilekjaa.C Go.Proofs.YtnmopjmlilekjaaW.PrintWords Go.Proofs.YtnmopjmlilekjaaW.PrintLast
theorem CrcSum : marginalialaw15_CrcSum.Pure := CrcLaws.CrcSum
end Go.Proofs.Ytnmopjmlilekjaa.Pure
