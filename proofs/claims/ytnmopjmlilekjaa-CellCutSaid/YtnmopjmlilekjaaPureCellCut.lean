/- CellCut: the document cuts as the program does. No condition beyond those that each theorem names. -/
import Derived.Test.YtnmopjmlilekjaaCellSames
import Derived.Test.YtnmopjmlilekjaaKf9
namespace Go.Proofs.Ytnmopjmlilekjaa.Pure
open Go.RowKit Go.Proofs.Ytnmopjmlilekjaa Go.Proofs.Ytnmopjmlilekjaa.K Go.Proofs.Ytnmopjmlilekjaa.CellLaws Go.Proofs.YtnmopjmlilekjaaW.PrintWords Go.Proofs.YtnmopjmlilekjaaW.PrintLast Go.Proofs.YtnmopjmlilekjaaW.PrintMore
open Go.Proofs.Ytnmopjmlilekjaa.CrcK (Bytes u32 more sum_ev refsum_ev bytes_rd u32_lt bytes_wf)
theorem CellCut : marginalialaw16_CellCut.Pure := by
  intro l a b _ _ hw _ _
  have hb := bytes_wf hw
  obtain ⟨K0, q0⟩ := alive_ev
  by_cases c : (l.length : Int) > 300
  · have r0 : marginalialaw16_alive.f K0 = some true := q0 _ (by omega)
    refine ⟨K0, ?_⟩
    rw [marginalialaw16_CellCut.f, if_pos c, r0, Option.bind_some]
  · obtain ⟨K1, q1⟩ := cut_ev (l := l) a b (by omega)
    obtain ⟨K2, q2⟩ := refCut_ev (l := l) a b (by omega)
    obtain ⟨N, hN⟩ : ∃ N, N = many l.length := ⟨_, rfl⟩
    rw [← hN] at q1 q2
    have hm : many l.length = (l.length + 38) / 39 := rfl
    have hcb := cutn_bytes hb a b (N : Int) N
    obtain ⟨K3, q3⟩ := sames_refl hcb (by rw [cutn_length]; omega)
    refine ⟨K0 + K1 + K2 + K3, ?_⟩
    have r0 : marginalialaw16_alive.f (K0 + K1 + K2 + K3) = some true := q0 _ (by omega)
    have r1 : cell_Cut.f (K0 + K1 + K2 + K3) l a b = some (cutn l a b (N : Int) N) := q1 _ (by omega)
    have r2 : marginaliaref16_Cut.f (K0 + K1 + K2 + K3) l a b = some (cutn l a b (N : Int) N) := q2 _ (by omega)
    have r3 : marginaliaref16_Sames.f (K0 + K1 + K2 + K3) (cutn l a b (N : Int) N) (cutn l a b (N : Int) N) = some true := q3 _ (by omega)
    rw [marginalialaw16_CellCut.f, if_neg c, r0, Option.bind_some, if_pos rfl, r1, Option.bind_some, r2, Option.bind_some, r3, Option.bind_some]
end Go.Proofs.Ytnmopjmlilekjaa.Pure
