/- CrcPieces, as a statement on lists of numbers; no further condition. -/
import Derived.Test.YtnmopjmlilekjaaCrcLaws
namespace Go.Proofs.Ytnmopjmlilekjaa.Pure
open Go.RowKit Go.Proofs.Ytnmopjmlilekjaa.C Go.Proofs.YtnmopjmlilekjaaW.PrintWords Go.Proofs.YtnmopjmlilekjaaW.PrintLast
theorem CrcPieces : marginalialaw15_CrcPieces.Pure := CrcLaws.CrcPieces
end Go.Proofs.Ytnmopjmlilekjaa.Pure
