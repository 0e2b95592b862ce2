/- The document's cut, and its test that cells are the same. No condition beyond those that each theorem names. -/
import Derived.Test.YtnmopjmlilekjaaCellCuts
import Derived.Test.YtnmopjmlilekjaaKf23
import Derived.Test.YtnmopjmlilekjaaKf25
import Derived.Test.YtnmopjmlilekjaaKf37
namespace Go.Proofs.Ytnmopjmlilekjaa.CellLaws
open Go.RowKit Go.Proofs.Ytnmopjmlilekjaa Go.Proofs.Ytnmopjmlilekjaa.K Go.Proofs.YtnmopjmlilekjaaW.PrintWords Go.Proofs.YtnmopjmlilekjaaW.PrintLast Go.Proofs.YtnmopjmlilekjaaW.PrintMore
open Go.Proofs.Ytnmopjmlilekjaa.CrcK (Bytes u32 more sum_ev refsum_ev bytes_rd u32_lt bytes_wf)
set_option linter.unusedVariables false
theorem many_of {n : Nat} (h : n ≤ 100000) : marginaliaref16_Many.f (n : Int) = some (many n : Int) := by
  rw [marginaliaref16_Many.f, many_ev h]
theorem refCut_ev {l : List Int} (a b : Int) (hl : l.length ≤ 100000) : Ev (fun k => marginaliaref16_Cut.f k l a b) (cutn l a b (many l.length : Int) (many l.length)) := by
  have hN : many l.length = (l.length + 38) / 39 := rfl
  obtain ⟨N, hN'⟩ : ∃ N, N = many l.length := ⟨_, rfl⟩
  rw [← hN'] at hN ⊢
  have h : ∀ n j : Nat, j + n = N → Ev (fun k => marginaliaref16_Cut.l0 k l a b (cutn l a b (N : Int) j) ((j * 39 : Nat) : Int)) (cutn l a b (N : Int) N) := by
    intro n
    induction n with
    | zero =>
      intro j hj
      refine Ev.step (f := fun _ => some _) (fun k => ?_) (Ev.now _)
      rw [marginaliaref16_Cut.l0, if_neg (by omega), show j = N by omega]
    | succ n ih =>
      intro j hj
      refine Ev.step (fun k => ?_) (ih (j + 1) (by omega))
      have e39 : wrap64 (((j * 39 : Nat) : Int) + 39) = (((j + 1) * 39 : Nat) : Int) := by rw [w64 (by omega) (by omega)]; omega
      have hmn : mn (((j + 1) * 39 : Nat) : Int) (l.length : Int) = ((min ((j + 1) * 39) l.length : Nat) : Int) := by rw [mn_eq]; omega
      rw [marginaliaref16_Cut.l0, if_pos (by omega), many_of hl, Option.bind_some, Option.bind_some, e39, hmn, Int.toNat_natCast, Int.toNat_natCast, if_pos (by omega), if_pos (by omega), if_pos (by omega), if_pos (by simp; omega), if_pos (by rw [cutn_length]; omega), List.nil_append, cutn_length, ← hN']
      have ht : (l.take (min ((j + 1) * 39) l.length)).drop (j * 39) = part l j := by
        unfold part
        rw [← List.take_take, List.take_length, List.drop_take, show (j + 1) * 39 - j * 39 = 39 by omega]
      rw [ht, ← cutn_succ]
  refine Ev.congr (fun k => ?_) (h N 0 (by omega))
  show marginaliaref16_Cut.f k l a b = _
  rw [marginaliaref16_Cut.f, if_neg (by omega)]
  rfl
theorem s34_ext {x y : S34} (h0 : x.f0 = y.f0) (h1 : x.f1 = y.f1) (h2 : x.f2 = y.f2) (h3 : x.f3 = y.f3) (h4 : x.f4 = y.f4) : x = y := by
  cases x; cases y; simp at *; exact ⟨h0, h1, h2, h3, h4⟩
/-- All cells' bytes are bytes. -/
def AllBytes (x : List S34) : Prop := ∀ j (h : j < x.length), Bytes x[j].f4
theorem cutn_bytes {l : List Int} (hb : Bytes l) (a b m : Int) (n : Nat) : AllBytes (cutn l a b m n) := by
  intro j h
  simp only [cutn, List.getElem_map]
  exact part_bytes hb _
open Classical in
theorem sames_ev {x y : List S34} (hx : AllBytes x) (hy : AllBytes y) (hl : x.length ≤ 100000) : Ev (fun k => marginaliaref16_Sames.f k x y) (decide (x = y)) := by
  by_cases he : x.length = y.length
  · have h : ∀ n j : Nat, j + n = x.length → (∀ i (h1 : i < x.length) (h2 : i < y.length), i < j → x[i] = y[i]) → Ev (fun k => marginaliaref16_Sames.l0 k x y (j : Int)) (decide (x = y)) := by
      intro n
      induction n with
      | zero =>
        intro j hj hs
        refine Ev.step (f := fun _ => some _) (fun k => ?_) (Ev.now _)
        rw [marginaliaref16_Sames.l0, if_neg (by omega), decide_eq_true (List.ext_getElem he fun i h1 h2 => hs i h1 h2 (by omega))]
      | succ n ih =>
        intro j hj hs
        have j1 : j < x.length := by omega
        have j2 : j < y.length := by omega
        by_cases hq : x[j] = y[j]
        · refine Ev.step (fun k => ?_) (ih (j + 1) (by omega) fun i h1 h2 hi => ?_)
          · rw [marginaliaref16_Sames.l0, if_pos (by omega), if_pos (by omega), if_pos (by omega), rd34_at j1, rd34_at j2, hq, same_refl, Option.bind_some, if_pos rfl, w64 (by omega) (by omega)]
            rfl
          · by_cases e : i = j
            · subst e; exact hq
            · exact hs i h1 h2 (by omega)
        · refine Ev.step (f := fun _ => some _) (fun k => ?_) (Ev.now _)
          have hf : decide (x[j].f0 = y[j].f0 ∧ x[j].f1 = y[j].f1 ∧ x[j].f2 = y[j].f2 ∧ x[j].f3 = y[j].f3 ∧ x[j].f4 = y[j].f4) = false := decide_eq_false fun ⟨g0, g1, g2, g3, g4⟩ => hq (s34_ext g0 g1 g2 g3 g4)
          rw [marginaliaref16_Sames.l0, if_pos (by omega), if_pos (by omega), if_pos (by omega), rd34_at j1, rd34_at j2, same_eq (hx j j1) (hy j j2), hf, Option.bind_some, if_neg (by decide), decide_eq_false]
          intro e
          subst e
          exact hq rfl
    refine Ev.congr (fun k => ?_) (h x.length 0 (by omega) (fun i _ _ hi => absurd hi (Nat.not_lt_zero _)))
    show marginaliaref16_Sames.f k x y = _
    rw [marginaliaref16_Sames.f, if_pos (by omega)]
    rfl
  · refine ⟨0, fun k _ => ?_⟩
    show marginaliaref16_Sames.f k x y = _
    rw [marginaliaref16_Sames.f, if_neg (by omega), decide_eq_false]
    intro e
    subst e
    exact he rfl
open Classical in
theorem sames_refl {x : List S34} (hx : AllBytes x) (hl : x.length ≤ 100000) : Ev (fun k => marginaliaref16_Sames.f k x x) true := by
  have h := sames_ev hx hx hl
  rwa [decide_eq_true rfl] at h
open Classical in
theorem sames_ne {x y : List S34} (hx : AllBytes x) (hy : AllBytes y) (hl : x.length ≤ 100000) (hn : x ≠ y) : Ev (fun k => marginaliaref16_Sames.f k x y) false := by
  have h := sames_ev hx hy hl
  rwa [decide_eq_false hn] at h
end Go.Proofs.Ytnmopjmlilekjaa.CellLaws
