/- CellJoin: the document joins as the program does. No condition beyond those that each theorem names. -/
import Derived.Test.YtnmopjmlilekjaaOpenCellJoin
import Derived.Test.YtnmopjmlilekjaaCellSames
import Derived.Test.YtnmopjmlilekjaaCellJoins
namespace Go.Proofs.Ytnmopjmlilekjaa.CellLaws
open Go.RowKit Go.Proofs.Ytnmopjmlilekjaa Go.Proofs.Ytnmopjmlilekjaa.K Go.Proofs.Ytnmopjmlilekjaa.K.cellJoinOpen Go.Proofs.YtnmopjmlilekjaaW.PrintWords Go.Proofs.YtnmopjmlilekjaaW.PrintLast Go.Proofs.YtnmopjmlilekjaaW.PrintMore
open Go.Proofs.Ytnmopjmlilekjaa.CrcK (Bytes u32 more sum_ev refsum_ev bytes_rd u32_lt bytes_wf)
set_option linter.unusedVariables false
theorem cat_bytes {l : List S34} (h : AllBytes l) : Bytes (cat l) := fun x hx => by
  obtain ⟨c, hc, hxc⟩ := List.mem_flatMap.1 hx
  obtain ⟨i, hi, rfl⟩ := List.getElem_of_mem hc
  exact h i hi x hxc
open Classical in
theorem refJoin_ev {l : List S34} (hn : l.length ≤ 20) (hd : ∀ j (hj : j < l.length), l[j].f4.length ≤ 300) (hb : AllBytes l) : Ev (fun k => marginaliaref16_Join.f k l) (if Row l ∧ l ≠ [] then (cat l, true) else ([], false)) := by
  by_cases h0 : l = []
  · subst h0
    rw [if_neg (fun h => h.2 rfl)]
    refine Ev.congr (fun k => rfl) (Ev.step (g := fun k => marginaliaref16_Join.l0 k [] [] 0) (f := fun _ => some ([], false)) (fun k => ?_) (Ev.now _))
    rw [marginaliaref16_Join.l0]
    rfl
  have hl : 0 < l.length := List.length_pos_iff.2 h0
  have hcat : (cat l).length ≤ 6000 := by have := cat_length hd; omega
  obtain ⟨N, hN⟩ : ∃ N, N = many (cat l).length := ⟨_, rfl⟩
  have hN' : many (cat l).length = ((cat l).length + 38) / 39 := rfl
  have hend : Ev (fun k => (marginaliaref16_Cut.f k (cat l) l[0].f0 l[0].f1).bind fun t287 => ((marginaliaref16_Sames.f k t287 l).bind fun t290 => (if t290 = true then (some (cat l, true)) else (some (([] : List Int), false))))) (if Row l ∧ l ≠ [] then (cat l, true) else ([], false)) := by
    obtain ⟨K1, q1⟩ := refCut_ev (l := cat l) l[0].f0 l[0].f1 (by omega)
    by_cases hr : Row l
    · rw [if_pos ⟨hr, h0⟩]
      have he := (cutn_iff hl).2 hr
      rw [he] at q1
      obtain ⟨K2, q2⟩ := sames_refl hb (by omega)
      refine ⟨K1 + K2, fun k hk => ?_⟩
      have r1 : marginaliaref16_Cut.f k (cat l) l[0].f0 l[0].f1 = some l := q1 k (by omega)
      have r2 : marginaliaref16_Sames.f k l l = some true := q2 k (by omega)
      show (marginaliaref16_Cut.f k (cat l) l[0].f0 l[0].f1).bind _ = _
      rw [r1, Option.bind_some, r2, Option.bind_some, if_pos rfl]
    · rw [if_neg (fun h => hr h.1)]
      obtain ⟨K2, q2⟩ := sames_ne (cutn_bytes (cat_bytes hb) l[0].f0 l[0].f1 (many (cat l).length : Int) (many (cat l).length)) hb (by rw [cutn_length]; omega) (fun e => hr ((cutn_iff hl).1 e))
      refine ⟨K1 + K2, fun k hk => ?_⟩
      have r1 : marginaliaref16_Cut.f k (cat l) l[0].f0 l[0].f1 = some _ := q1 k (by omega)
      have r2 : marginaliaref16_Sames.f k (cutn (cat l) l[0].f0 l[0].f1 (many (cat l).length : Int) (many (cat l).length)) l = some false := q2 k (by omega)
      show (marginaliaref16_Cut.f k (cat l) l[0].f0 l[0].f1).bind _ = _
      rw [r1, Option.bind_some, r2, Option.bind_some, if_neg (by decide)]
  have h : ∀ n j : Nat, j + n = l.length → Ev (fun k => marginaliaref16_Join.l0 k l (cat (l.take j)) (j : Int)) (if Row l ∧ l ≠ [] then (cat l, true) else ([], false)) := by
    intro n
    induction n with
    | zero =>
      intro j hj
      refine Ev.step (fun k => ?_) hend
      rw [marginaliaref16_Join.l0, if_neg (by omega), if_neg (by omega), if_pos (by omega), List.take_of_length_le (by omega), show rd_T34 l 0 = l[0] from rd34_at hl]
    | succ n ih =>
      intro j hj
      have hj' : j < l.length := by omega
      have hcl := cat_take_length hd j
      have hdj := hd j hj'
      refine Ev.step (fun k => ?_) (ih (j + 1) (by omega))
      rw [marginaliaref16_Join.l0, if_pos (by omega), if_pos (by omega), rd34_at hj', if_pos (by omega), ← cat_take_succ hj', w64 (by omega) (by omega)]
      rfl
  exact Ev.congr (fun k => rfl) (h l.length 0 (by omega))
open Classical in
theorem few_ev {l : List S34} : Ev (fun k => marginalialaw16_few.f k l) (decide (l.length ≤ 20 ∧ ∀ j (hj : j < l.length), l[j].f4.length ≤ 300)) := by
  by_cases hl : l.length ≤ 20
  · have h : ∀ n j : Nat, j + n = l.length → (∀ i (h : i < l.length), i < j → l[i].f4.length ≤ 300) → Ev (fun k => marginalialaw16_few.l0 k l (j : Int)) (decide (l.length ≤ 20 ∧ ∀ j (hj : j < l.length), l[j].f4.length ≤ 300)) := by
      intro n
      induction n with
      | zero =>
        intro j hj hs
        refine Ev.step (f := fun _ => some _) (fun k => ?_) (Ev.now _)
        rw [marginalialaw16_few.l0, if_neg (by omega), decide_eq_true ⟨hl, fun i h => hs i h (by omega)⟩]
      | succ n ih =>
        intro j hj hs
        have hj' : j < l.length := by omega
        by_cases hq : l[j].f4.length ≤ 300
        · refine Ev.step (fun k => ?_) (ih (j + 1) (by omega) fun i h1 hi => ?_)
          · rw [marginalialaw16_few.l0, if_pos (by omega), if_pos (by omega), rd34_at hj', if_neg (by omega), w64 (by omega) (by omega)]
            rfl
          · by_cases e : i = j
            · subst e; exact hq
            · exact hs i h1 (by omega)
        · refine Ev.step (f := fun _ => some _) (fun k => ?_) (Ev.now _)
          rw [marginalialaw16_few.l0, if_pos (by omega), if_pos (by omega), rd34_at hj', if_pos (by omega), decide_eq_false fun h => hq (h.2 j hj')]
    refine Ev.congr (fun k => ?_) (h l.length 0 (by omega) (fun i _ hi => absurd hi (Nat.not_lt_zero _)))
    show marginalialaw16_few.f k l = _
    rw [marginalialaw16_few.f, if_neg (by omega)]
    rfl
  · refine ⟨0, fun k _ => ?_⟩
    show marginalialaw16_few.f k l = _
    rw [marginalialaw16_few.f, if_pos (by omega), decide_eq_false fun h => hl h.1]
end Go.Proofs.Ytnmopjmlilekjaa.CellLaws
namespace Go.Proofs.Ytnmopjmlilekjaa.Pure
open Go.RowKit Go.Proofs.Ytnmopjmlilekjaa Go.Proofs.Ytnmopjmlilekjaa.K Go.Proofs.Ytnmopjmlilekjaa.K.cellJoinOpen Go.Proofs.Ytnmopjmlilekjaa.CellLaws Go.Proofs.YtnmopjmlilekjaaW.PrintWords Go.Proofs.YtnmopjmlilekjaaW.PrintLast Go.Proofs.YtnmopjmlilekjaaW.PrintMore
open Go.Proofs.Ytnmopjmlilekjaa.CrcK (Bytes u32 more sum_ev refsum_ev bytes_rd u32_lt bytes_wf bv)
open Classical in
theorem CellJoin : cellJoinOpen.Pure := by
  rintro l ⟨_, hw⟩
  have hb : AllBytes l := fun j hj => bytes_wf (hw _ (List.getElem_mem hj)).2.2.2.2.2
  obtain ⟨K0, q0⟩ := alive_ev
  obtain ⟨K1, q1⟩ := few_ev (l := l)
  by_cases hf : l.length ≤ 20 ∧ ∀ j (hj : j < l.length), l[j].f4.length ≤ 300
  · rw [decide_eq_true hf] at q1
    obtain ⟨K2, q2⟩ := join_ev (l := l) (by omega) (fun j hj => by have := hf.2 j hj; omega)
    obtain ⟨K3, q3⟩ := refJoin_ev hf.1 hf.2 hb
    refine ⟨K0 + K1 + K2 + K3, ?_⟩
    have r0 : marginalialaw16_alive.f (K0 + K1 + K2 + K3) = some true := q0 _ (by omega)
    have r1 : marginalialaw16_few.f (K0 + K1 + K2 + K3) l = some true := q1 _ (by omega)
    have r2 : cell_Join.f (K0 + K1 + K2 + K3) l = some _ := q2 _ (by omega)
    have r3 : marginaliaref16_Join.f (K0 + K1 + K2 + K3) l = some _ := q3 _ (by omega)
    rw [marginalialaw16_CellJoin.f, r1, Option.bind_some, if_pos rfl, r2, Option.bind_some, r3, Option.bind_some, r0, Option.bind_some, if_pos rfl, if_pos rfl]
    simp
  · rw [decide_eq_false hf] at q1
    refine ⟨K0 + K1, ?_⟩
    have r0 : marginalialaw16_alive.f (K0 + K1) = some true := q0 _ (by omega)
    have r1 : marginalialaw16_few.f (K0 + K1) l = some false := q1 _ (by omega)
    rw [marginalialaw16_CellJoin.f, r1, Option.bind_some, if_neg (by decide), r0, Option.bind_some]
end Go.Proofs.Ytnmopjmlilekjaa.Pure
