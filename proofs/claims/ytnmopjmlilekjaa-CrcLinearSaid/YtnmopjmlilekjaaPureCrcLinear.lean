/- CrcLinear, as a statement on lists of numbers; no further condition. -/
import Derived.Test.YtnmopjmlilekjaaCrcLaws
namespace Go.Proofs.Ytnmopjmlilekjaa.Pure
open Go.RowKit Go.Proofs.Ytnmopjmlilekjaa.C Go.Proofs.YtnmopjmlilekjaaW.PrintWords Go.Proofs.YtnmopjmlilekjaaW.PrintLast
theorem CrcLinear : marginalialaw15_CrcLinear.Pure := CrcLaws.CrcLinear
end Go.Proofs.Ytnmopjmlilekjaa.Pure
