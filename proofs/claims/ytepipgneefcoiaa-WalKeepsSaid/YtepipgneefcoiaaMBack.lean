/- CellBack: a cell that is encoded is decoded as it was; a record that is cut is joined as it was. No condition beyond those that each theorem names. -/
import Derived.Test.YtepipgneefcoiaaDf79
import Derived.Test.YtepipgneefcoiaaMPut
import Derived.Test.YtepipgneefcoiaaMJoins
import Derived.Test.YtepipgneefcoiaaDx0
namespace Go.Proofs.Ytepipgneefcoiaa.CellLaws
open Go.RowKit Go.Proofs.Ytepipgneefcoiaa Go.Proofs.Ytepipgneefcoiaa.D Go.Proofs.YtepipgneefcoiaaW.PrintWords Go.Proofs.YtepipgneefcoiaaW.PrintLast Go.Proofs.YtepipgneefcoiaaW.PrintMore
open Go.Proofs.Ytepipgneefcoiaa.CrcK (Bytes u32 more sum_ev refsum_ev bytes_rd u32_lt bytes_wf)
set_option linter.unusedVariables false
theorem wf_u64 {x : Int} (h : (Lit.int .u64 x).wf = true) : 0 ≤ x ∧ x < 18446744073709551616 := by
  have := bounds_u64 h
  omega
/-- A cell that may be encoded is decoded as it was. -/
theorem there_back {a0 a1 a2 a3 : Int} {l : List Int} (h0 : 0 ≤ a0 ∧ a0 < 18446744073709551616) (h1 : 0 ≤ a1 ∧ a1 < 18446744073709551616) (hb : Bytes l) (hm : May a2 a3 l) : Ev (fun k => cell_Decode.f k (enc a0 a1 a2 a3 l)) (a0, a1, a2, a3, l, 0) := by
  obtain ⟨g, g0, g1, g2, g3, g4⟩ := enc_good (l := l) h0 h1 hm
  have := decode_good (enc_bytes hm.2.2.2 hb) g
  rwa [g0, g1, g2, g3, g4] at this
