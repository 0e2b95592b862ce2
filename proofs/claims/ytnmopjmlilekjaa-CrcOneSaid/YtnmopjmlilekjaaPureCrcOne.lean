/- CrcOne, as a statement on lists of numbers; no further condition. -/
import Derived.Test.YtnmopjmlilekjaaCrcLaws
namespace Go.Proofs.Ytnmopjmlilekjaa.Pure
open Go.RowKit Go.Proofs.Ytnmopjmlilekjaa.C Go.Proofs.YtnmopjmlilekjaaW.PrintWords Go.Proofs.YtnmopjmlilekjaaW.PrintLast
theorem CrcOne : marginalialaw15_CrcOne.Pure := CrcLaws.CrcOne
end Go.Proofs.Ytnmopjmlilekjaa.Pure
