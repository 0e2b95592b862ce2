/- CellEncode: the document encodes as the program does. No condition beyond those that each theorem names. -/
import Derived.Test.YtnmopjmlilekjaaOpenCellEncode
import Derived.Test.YtnmopjmlilekjaaCellPut
namespace Go.Proofs.Ytnmopjmlilekjaa.Pure
open Go.RowKit Go.Proofs.Ytnmopjmlilekjaa Go.Proofs.Ytnmopjmlilekjaa.K Go.Proofs.Ytnmopjmlilekjaa.K.cellEncodeOpen Go.Proofs.Ytnmopjmlilekjaa.CellLaws Go.Proofs.YtnmopjmlilekjaaW.PrintWords Go.Proofs.YtnmopjmlilekjaaW.PrintLast Go.Proofs.YtnmopjmlilekjaaW.PrintMore
open Go.Proofs.Ytnmopjmlilekjaa.CrcK (Bytes u32 more sum_ev refsum_ev bytes_rd u32_lt bytes_wf)
set_option linter.unusedVariables false
theorem CellEncode : cellEncodeOpen.Pure := by
  rintro ⟨a0, a1, a2, a3, l⟩ ⟨_, _, _, _, _, hw⟩
  have hb : Bytes l := bytes_wf hw
  obtain ⟨K0, q0⟩ := alive_ev
  by_cases c : (l.length : Int) > 300
  · have r0 : marginalialaw16_alive.f K0 = some true := q0 _ (by omega)
    refine ⟨K0, ?_⟩
    show marginalialaw16_CellEncode.f K0 a0 a1 a2 a3 l = _
    rw [marginalialaw16_CellEncode.f, if_pos c, r0, Option.bind_some]
  · have fin : ∀ (e : List Int) (n : Int), Ev (fun k => cell_Encode.f k a0 a1 a2 a3 l) (e, n) → Ev (fun k => marginaliaref16_Encode.f k a0 a1 a2 a3 l) (e, n) → ∃ k, marginalialaw16_CellEncode.f k a0 a1 a2 a3 l = some true := by
      rintro e n ⟨K1, q1⟩ ⟨K2, q2⟩
      have r0 : marginalialaw16_alive.f (K0 + K1 + K2) = some true := q0 _ (by omega)
      have r1 : cell_Encode.f (K0 + K1 + K2) a0 a1 a2 a3 l = some (e, n) := q1 _ (by omega)
      have r2 : marginaliaref16_Encode.f (K0 + K1 + K2) a0 a1 a2 a3 l = some (e, n) := q2 _ (by omega)
      refine ⟨K0 + K1 + K2, ?_⟩
      rw [marginalialaw16_CellEncode.f, if_neg c, Option.bind_some, if_pos (by simp; omega), Option.bind_some, List.nil_append, r1, Option.bind_some, r2, Option.bind_some, r0, Option.bind_some, if_pos rfl, if_pos rfl, if_pos rfl, same_refl, Option.bind_some]
    by_cases hm : May a2 a3 l
    · exact fin _ _ (encode_ev hb hm) (refEncode_ev hb hm)
    · exact fin _ _ ⟨0, fun k _ => encode_bad hm k⟩ ⟨0, fun k _ => refEncode_bad hm k⟩
end Go.Proofs.Ytnmopjmlilekjaa.Pure
