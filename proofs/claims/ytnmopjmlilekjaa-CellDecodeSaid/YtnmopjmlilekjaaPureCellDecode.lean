/- CellDecode: the document decodes as the program does. No condition beyond those that each theorem names. -/
import Derived.Test.YtnmopjmlilekjaaCellCuts
import Derived.Test.YtnmopjmlilekjaaKx5
namespace Go.Proofs.Ytnmopjmlilekjaa.CellLaws
open Go.RowKit Go.Proofs.Ytnmopjmlilekjaa Go.Proofs.Ytnmopjmlilekjaa.K Go.Proofs.Ytnmopjmlilekjaa.CellLaws Go.Proofs.YtnmopjmlilekjaaW.PrintWords Go.Proofs.YtnmopjmlilekjaaW.PrintLast Go.Proofs.YtnmopjmlilekjaaW.PrintMore
open Go.Proofs.Ytnmopjmlilekjaa.CrcK (Bytes u32 more sum_ev refsum_ev bytes_rd u32_lt bytes_wf)
set_option linter.unusedVariables false
theorem refNumbers {l : List Int} (hb : Bytes l) (hl : l.length = 64) : ∃ K, ∀ k, K ≤ k → marginaliaref16_Number.f k (l.take 8) = some (e0 l) ∧ marginaliaref16_Number.f k ((l.take 16).drop 8) = some (e1 l) ∧ marginaliaref16_Number.f k ((l.take 18).drop 16) = some (pt l) ∧ marginaliaref16_Number.f k ((l.take 20).drop 18) = some (ofs l) := by
  obtain ⟨K1, q1⟩ := refNumber_ev (l := l.take 8) (by_take hb _) (by simp; omega)
  obtain ⟨K2, q2⟩ := refNumber_ev (l := (l.take 16).drop 8) (by_drop (by_take hb _) _) (by simp; omega)
  obtain ⟨K3, q3⟩ := refNumber_ev (l := (l.take 18).drop 16) (by_drop (by_take hb _) _) (by simp; omega)
  obtain ⟨K4, q4⟩ := refNumber_ev (l := (l.take 20).drop 18) (by_drop (by_take hb _) _) (by simp; omega)
  exact ⟨K1 + K2 + K3 + K4, fun k hk => ⟨q1 k (by omega), q2 k (by omega), q3 k (by omega), q4 k (by omega)⟩⟩
theorem refDecode_long {l : List Int} (hl : l.length = 64) (hb : Bytes l) (hn : nn l ≤ 39) (r : List Int × Int)
    (he : Ev (fun k => marginaliaref16_Encode.f k (e0 l) (e1 l) (pt l) (ofs l) (dat l)) r) :
    Ev (fun k => marginaliaref16_Decode.f k l) (if r.2 = 0 then (if (strOfNums r.1).toList = (strOfNums l).toList then (e0 l, e1 l, pt l, ofs l, dat l, 0) else (0, 0, 0, 0, [], 8)) else (0, 0, 0, 0, [], 8)) := by
  obtain ⟨K1, q1⟩ := refNumbers hb hl
  obtain ⟨K2, q2⟩ := he
  have h20 := nn_at hb hl
  have ho := ofs_le hb hl
  refine ⟨K1 + K2 + 1, fun k hk => ?_⟩
  obtain ⟨m, rfl⟩ : ∃ m, k = m + 1 := ⟨k - 1, by omega⟩
  obtain ⟨a1, a2, a3, a4⟩ := q1 m (by omega)
  have he : marginaliaref16_Encode.f m (e0 l) (e1 l) (pt l) (ofs l) (dat l) = some r := q2 m (by omega)
  show marginaliaref16_Decode.f (m + 1) l = _
  have e21 : wrap64 (21 + (nn l : Int)) = ((21 + nn l : Nat) : Int) := by rw [w64 (by omega) (by omega)]; omega
  have hd := dat_length hl hn
  rw [marginaliaref16_Decode.f, if_pos (by omega), if_pos (by omega), decide_eq_false (by omega), marginaliaref16_Decode.j0, if_neg (by decide), if_pos (by omega), a1, Option.bind_some, if_pos (by decide), if_pos (by omega), a2, Option.bind_some, if_pos (by decide), if_pos (by omega), a3, Option.bind_some, if_pos (by decide), if_pos (by omega), a4, Option.bind_some, Option.bind_some, if_pos (by omega), rd20_nn hb hl, e21, if_pos (by omega), if_pos (by omega), Int.toNat_natCast, show (l.take (21 + nn l)).drop 21 = dat l from rfl, if_pos (by simp; omega), Option.bind_some, List.nil_append, w64 (n := pt l) (by omega) (by omega), w64 (n := ofs l) (by omega) (by omega), he, Option.bind_some]
  by_cases c : r.2 = 0
  · by_cases c2 : (strOfNums r.1).toList = (strOfNums l).toList
    · rw [if_pos c, if_pos c, if_pos c2, if_pos c2]
    · rw [if_pos c, if_pos c, if_neg c2, if_neg c2]
  · rw [if_neg c, if_neg c]
theorem refDecode_good {l : List Int} (hb : Bytes l) (h : CellLaws.Good l) : Ev (fun k => marginaliaref16_Decode.f k l) (e0 l, e1 l, pt l, ofs l, dat l, 0) := by
  obtain ⟨hl, hn, hp, ht, hs⟩ := h
  have ho := ofs_le hb hl
  have hd := dat_length hl hn
  have := refDecode_long hl hb hn _ (refEncode_ev (dat_bytes hb) ⟨ho.1, hp, ho.2.2.2, by omega⟩)
  rw [(good_iff hb hl hn).2 ⟨ht, hs⟩, if_pos rfl, if_pos rfl] at this
  exact this
theorem refDecode_bad {l : List Int} (hb : Bytes l) (h : ¬ CellLaws.Good l) : Ev (fun k => marginaliaref16_Decode.f k l) (0, 0, 0, 0, [], 8) := by
  have hbad : ∀ c : Bool, c = true → Ev (fun k => marginaliaref16_Decode.j0 k l c) (0, 0, 0, 0, [], 8) := fun c hc => by
    refine Ev.step (f := fun _ => some _) (fun k => ?_) (Ev.now _)
    rw [marginaliaref16_Decode.j0, if_pos hc]
  by_cases hl : l.length = 64
  · have h20 := nn_at hb hl
    have ho := ofs_le hb hl
    by_cases hn : nn l ≤ 39
    · have hd := dat_length hl hn
      by_cases hp : pt l < ofs l
      · have h1 := refDecode_long hl hb hn _ (refEncode_ev (dat_bytes hb) ⟨ho.1, hp, ho.2.2.2, by omega⟩)
        rw [if_pos rfl, if_neg (fun e => h ⟨hl, hn, hp, (good_iff hb hl hn).1 ((strs_iff (enc_bytes (by omega) (dat_bytes hb)) hb).1 e)⟩)] at h1
        exact h1
      · have h1 := refDecode_long hl hb hn _ ⟨0, fun k _ => refEncode_bad (a0 := e0 l) (a1 := e1 l) (fun hm : May (pt l) (ofs l) (dat l) => hp hm.2.1) k⟩
        rw [if_neg (by decide)] at h1
        exact h1
    · refine Ev.congr (fun k => ?_) (hbad true rfl)
      show marginaliaref16_Decode.f k l = _
      rw [marginaliaref16_Decode.f, if_pos (by omega), if_pos (by omega), decide_eq_true (by omega)]
  · refine Ev.congr (fun k => ?_) (hbad true rfl)
    show marginaliaref16_Decode.f k l = _
    rw [marginaliaref16_Decode.f, if_neg (by omega)]
end Go.Proofs.Ytnmopjmlilekjaa.CellLaws
namespace Go.Proofs.Ytnmopjmlilekjaa.Pure
open Go.RowKit Go.Proofs.Ytnmopjmlilekjaa Go.Proofs.Ytnmopjmlilekjaa.K Go.Proofs.Ytnmopjmlilekjaa.CellLaws Go.Proofs.YtnmopjmlilekjaaW.PrintWords Go.Proofs.YtnmopjmlilekjaaW.PrintLast Go.Proofs.YtnmopjmlilekjaaW.PrintMore
open Go.Proofs.Ytnmopjmlilekjaa.CrcK (Bytes u32 more sum_ev refsum_ev bytes_rd u32_lt bytes_wf)
set_option linter.unusedVariables false
theorem CellDecode : marginalialaw16_CellDecode.Pure := by
  intro l _ _ hw
  have hb := bytes_wf hw
  obtain ⟨K0, q0⟩ := alive_ev
  have fin : ∀ (a0 a1 a2 a3 : Int) (d : List Int) (e : Int), Ev (fun k => cell_Decode.f k l) (a0, a1, a2, a3, d, e) → Ev (fun k => marginaliaref16_Decode.f k l) (a0, a1, a2, a3, d, e) → ¬ (l.length : Int) > 300 → ∃ k, marginalialaw16_CellDecode.f k l = some true := by
    rintro a0 a1 a2 a3 d e ⟨K1, q1⟩ ⟨K2, q2⟩ c
    have r0 : marginalialaw16_alive.f (K0 + K1 + K2) = some true := q0 _ (by omega)
    have r1 : cell_Decode.f (K0 + K1 + K2) l = some (a0, a1, a2, a3, d, e) := q1 _ (by omega)
    have r2 : marginaliaref16_Decode.f (K0 + K1 + K2) l = some (a0, a1, a2, a3, d, e) := q2 _ (by omega)
    refine ⟨K0 + K1 + K2, ?_⟩
    rw [marginalialaw16_CellDecode.f, if_neg c, r1, Option.bind_some, r2, Option.bind_some, r0, Option.bind_some, if_pos rfl, same_refl, Option.bind_some, if_pos rfl]
    simp
  by_cases c : (l.length : Int) > 300
  · have r0 : marginalialaw16_alive.f K0 = some true := q0 _ (by omega)
    refine ⟨K0, ?_⟩
    rw [marginalialaw16_CellDecode.f, if_pos c, r0, Option.bind_some]
  · by_cases hg : CellLaws.Good l
    · exact fin _ _ _ _ _ _ (decode_good hb hg) (refDecode_good hb hg) c
    · exact fin _ _ _ _ _ _ (decode_bad hb hg) (refDecode_bad hb hg) c
end Go.Proofs.Ytnmopjmlilekjaa.Pure
