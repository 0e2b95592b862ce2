/- What the program joins cells to. No condition beyond those that each theorem names. -/
import Derived.Test.YtepipgneefcoiaaDf80
import Derived.Test.YtepipgneefcoiaaDf90
import Derived.Test.YtepipgneefcoiaaMCuts
import Derived.Test.YtepipgneefcoiaaDx0
namespace Go.Proofs.Ytepipgneefcoiaa.CellLaws
open Go.RowKit Go.Proofs.Ytepipgneefcoiaa Go.Proofs.Ytepipgneefcoiaa.D Go.Proofs.YtepipgneefcoiaaW.PrintWords Go.Proofs.YtepipgneefcoiaaW.PrintLast Go.Proofs.YtepipgneefcoiaaW.PrintMore
open Go.Proofs.Ytepipgneefcoiaa.CrcK (Bytes u32 more sum_ev refsum_ev bytes_rd u32_lt bytes_wf)
set_option linter.unusedVariables false
/-- The bytes of all cells. -/
def cat (l : List S106) : List Int := l.flatMap S106.f4
/-- A cell that stands in its place: of the numbers e and f, one of n, in the place j. -/
def Sits (e f : Int) (n j : Nat) (x : S106) : Prop := x.f0 = e ∧ x.f1 = f ∧ x.f2 = (j : Int) ∧ x.f3 = (n : Int) ∧ x.f4.length ≠ 0 ∧ x.f4.length ≤ 39 ∧ (j + 1 < n → x.f4.length = 39)
/-- All cells stand in their places. -/
def Row (l : List S106) : Prop := ∀ j (h : j < l.length), Sits (l[0]'(by omega)).f0 (l[0]'(by omega)).f1 l.length j l[j]
theorem cat_take_succ {l : List S106} {j : Nat} (h : j < l.length) : cat (l.take (j + 1)) = cat (l.take j) ++ l[j].f4 := by
  unfold cat
  rw [List.take_succ_eq_append_getElem h, List.flatMap_append]
  simp only [List.flatMap_cons, List.flatMap_nil, List.append_nil]
theorem goesOn_iff {a0 a1 a2 a3 b0 b1 b2 b3 : Int} {l m : List Int} {n j : Nat} (hj : j < n) (hn : n ≤ 1000) : cell_goesOn.f a0 a1 a2 a3 l b0 b1 b2 b3 m (j : Int) (n : Int) = some (decide (a0 = b0 ∧ a1 = b1 ∧ a2 = (j : Int) ∧ a3 = (n : Int) ∧ (j + 1 < n → l.length = 39))) := by
  unfold cell_goesOn.f
  rw [w64 (by omega) (by omega)]
  by_cases c : (j : Int) = (n : Int) - 1
  · rw [if_pos c]
    have e : ¬ j + 1 < n := by omega
    by_cases c0 : a0 = b0
    · by_cases c1 : a1 = b1
      · by_cases c2 : a2 = (j : Int)
        · by_cases c3 : a3 = (n : Int)
          · rw [if_pos c0, if_pos c1, if_pos c2, if_pos c3, decide_eq_true ⟨c0, c1, c2, c3, fun h => absurd h e⟩]
          · rw [if_pos c0, if_pos c1, if_pos c2, if_neg c3, decide_eq_false fun h => c3 h.2.2.2.1]
        · rw [if_pos c0, if_pos c1, if_neg c2, decide_eq_false fun h => c2 h.2.2.1]
      · rw [if_pos c0, if_neg c1, decide_eq_false fun h => c1 h.2.1]
    · rw [if_neg c0, decide_eq_false fun h => c0 h.1]
  · rw [if_neg c]
    have e : j + 1 < n := by omega
    by_cases c0 : a0 = b0
    · by_cases c1 : a1 = b1
      · by_cases c2 : a2 = (j : Int)
        · by_cases c3 : a3 = (n : Int)
          · rw [if_pos c0, if_pos c1, if_pos c2, if_pos c3]
            congr 1
            rw [Bool.eq_iff_iff, beq_iff_eq, decide_eq_true_eq]
            exact ⟨fun h => ⟨c0, c1, c2, c3, fun _ => by omega⟩, fun h => by have := h.2.2.2.2 e; omega⟩
          · rw [if_pos c0, if_pos c1, if_pos c2, if_neg c3, decide_eq_false fun h => c3 h.2.2.2.1]
        · rw [if_pos c0, if_pos c1, if_neg c2, decide_eq_false fun h => c2 h.2.2.1]
      · rw [if_pos c0, if_neg c1, decide_eq_false fun h => c1 h.2.1]
    · rw [if_neg c0, decide_eq_false fun h => c0 h.1]
theorem cat_cons (x : S106) (l : List S106) : cat (x :: l) = x.f4 ++ cat l := by simp [cat]
theorem cat_length {l : List S106} {c : Nat} (h : ∀ j (hj : j < l.length), l[j].f4.length ≤ c) : (cat l).length ≤ l.length * c := by
  induction l with
  | nil => simp [cat]
  | cons x l ih =>
    rw [cat_cons, List.length_append, List.length_cons, Nat.add_mul]
    have h0 := h 0 (by simp)
    simp only [List.getElem_cons_zero] at h0
    have := ih fun j hj => by have := h (j + 1) (by simp; omega); simpa using this
    omega
theorem cat_take_length {l : List S106} {c : Nat} (h : ∀ j (hj : j < l.length), l[j].f4.length ≤ c) (i : Nat) : (cat (l.take i)).length ≤ l.length * c := by
  have h1 := cat_length (l := l.take i) (c := c) fun j hj => by
    rw [List.getElem_take]; exact h _ _
  have h2 : (l.take i).length * c ≤ l.length * c := Nat.mul_le_mul_right _ (by rw [List.length_take]; omega)
  omega
theorem join_bad {x34 : Bool} (h : x34 = true) (x0 : List S106) (x4 : List Int) (x7 : List S106) (x8 x9 y0 y1 y2 y3 : Int) (y4 : List Int) : Ev (fun k => cell_Join.j1 k x0 x4 x7 x8 x9 x34 y0 y1 y2 y3 y4) ([], false) := by
  refine Ev.step (f := fun _ => some _) (fun k => ?_) (Ev.now _)
  rw [cell_Join.j1, if_pos h]
open Classical in
theorem join_ev {l : List S106} (hn : l.length ≤ 1000) (hd : ∀ j (hj : j < l.length), l[j].f4.length ≤ 1000) : Ev (fun k => cell_Join.f k l) (if Row l ∧ l ≠ [] then (cat l, true) else ([], false)) := by
  by_cases h0 : l = []
  · subst h0
    rw [if_neg (fun h => h.2 rfl)]
    refine Ev.congr (fun k => rfl) (Ev.step (g := fun k => cell_Join.l0 k [] [] [] 0 0) (f := fun _ => some ([], false)) (fun k => ?_) (Ev.now _))
    rw [cell_Join.l0]
    rfl
  have hl : 0 < l.length := List.length_pos_iff.2 h0
  have h : ∀ n j : Nat, j + n = l.length → (∀ i (h : i < l.length), i < j → Sits l[0].f0 l[0].f1 l.length i l[i]) → Ev (fun k => cell_Join.l0 k l (cat (l.take j)) l (l.length : Int) (j : Int)) (if Row l ∧ l ≠ [] then (cat l, true) else ([], false)) := by
    intro n
    induction n with
    | zero =>
      intro j hj hs
      refine Ev.step (f := fun _ => some _) (fun k => ?_) (Ev.now _)
      rw [cell_Join.l0, if_neg (by omega), if_neg (by omega), if_pos ⟨fun i h => hs i h (by omega), h0⟩, decide_eq_true (by omega), List.take_of_length_le (by omega)]
    | succ n ih =>
      intro j hj hs
      have hj' : j < l.length := by omega
      have r0 : rd_T106 l 0 = l[0] := rd106_at hl
      have hcl := cat_take_length hd j
      have hmul : l.length * 1000 ≤ 1000000 := by omega
      have hdj := hd j hj'
      by_cases hq : Sits l[0].f0 l[0].f1 l.length j l[j]
      · have hih := ih (j + 1) (by omega) fun i h1 hi => by
          by_cases e : i = j
          · subst e; exact hq
          · exact hs i h1 (by omega)
        obtain ⟨s0, s1, s2, s3, s4, s5, s6⟩ := hq
        have hj1 : Ev (fun k => cell_Join.j1 k l (cat (l.take j)) l (l.length : Int) (j : Int) false l[j].f0 l[j].f1 l[j].f2 l[j].f3 l[j].f4) (if Row l ∧ l ≠ [] then (cat l, true) else ([], false)) := by
          refine Ev.step (fun k => ?_) hih
          rw [cell_Join.j1, if_neg (by decide), if_pos (by omega), ← cat_take_succ hj', w64 (by omega) (by omega)]
          rfl
        refine Ev.step (fun k => ?_) hj1
        rw [cell_Join.l0, if_pos (by omega), if_pos (by omega), if_pos (by omega), if_pos (by omega), rd106_at hj', r0, goesOn_iff hj' hn, decide_eq_true ⟨s0, s1, s2, s3, s6⟩, Option.bind_some, if_pos rfl, if_neg (by omega), decide_eq_false (by omega)]
      · have hbad : ¬ (Row l ∧ l ≠ []) := fun h => hq (h.1 j hj')
        rw [if_neg hbad]
        by_cases hg : l[j].f0 = l[0].f0 ∧ l[j].f1 = l[0].f1 ∧ l[j].f2 = (j : Int) ∧ l[j].f3 = (l.length : Int) ∧ (j + 1 < l.length → l[j].f4.length = 39)
        · by_cases hz : l[j].f4.length = 0
          · refine Ev.step (fun k => ?_) (join_bad rfl l (cat (l.take j)) l (l.length : Int) (j : Int) l[j].f0 l[j].f1 l[j].f2 l[j].f3 l[j].f4)
            rw [cell_Join.l0, if_pos (by omega), if_pos (by omega), if_pos (by omega), if_pos (by omega), rd106_at hj', r0, goesOn_iff hj' hn, decide_eq_true hg, Option.bind_some, if_pos rfl, if_pos (by omega)]
          · have h39 : (l[j].f4.length : Int) > 39 := by
              refine Classical.byContradiction fun h39 => hq ⟨hg.1, hg.2.1, hg.2.2.1, hg.2.2.2.1, hz, by omega, hg.2.2.2.2⟩
            refine Ev.step (fun k => ?_) (join_bad (decide_eq_true h39) l (cat (l.take j)) l (l.length : Int) (j : Int) l[j].f0 l[j].f1 l[j].f2 l[j].f3 l[j].f4)
            rw [cell_Join.l0, if_pos (by omega), if_pos (by omega), if_pos (by omega), if_pos (by omega), rd106_at hj', r0, goesOn_iff hj' hn, decide_eq_true hg, Option.bind_some, if_pos rfl, if_neg (by omega)]
        · refine Ev.step (fun k => ?_) (join_bad rfl l (cat (l.take j)) l (l.length : Int) (j : Int) l[j].f0 l[j].f1 l[j].f2 l[j].f3 l[j].f4)
          rw [cell_Join.l0, if_pos (by omega), if_pos (by omega), if_pos (by omega), if_pos (by omega), rd106_at hj', r0, goesOn_iff hj' hn, decide_eq_false hg, Option.bind_some, if_neg (by decide)]
  exact Ev.congr (fun k => rfl) (h l.length 0 (by omega) (fun i _ hi => absurd hi (Nat.not_lt_zero _)))
/-- The bytes of cells that all hold 39, but the last one. -/
theorem cat_part {l : List S106} (h : ∀ j (hj : j < l.length), l[j].f4.length ≤ 39 ∧ (j + 1 < l.length → l[j].f4.length = 39)) :
    ∀ j (hj : j < l.length), part (cat l) j = l[j].f4 := by
  induction l with
  | nil => intro j hj; cases hj
  | cons x l ih =>
    have ih := ih fun j hj => by
      have := h (j + 1) (by simp; omega)
      simpa using this
    intro j hj
    have hx := h 0 (by simp)
    simp only [List.getElem_cons_zero, List.length_cons] at hx
    rw [cat_cons]
    cases j with
    | zero =>
      show ((x.f4 ++ cat l).drop (0 * 39)).take 39 = x.f4
      by_cases c : l = []
      · subst c
        simp [cat]
        exact List.take_of_length_le hx.1
      · have : x.f4.length = 39 := hx.2 (by have := List.length_pos_iff.2 c; omega)
        rw [Nat.zero_mul, List.drop_zero, List.take_left' this]
    | succ j =>
      have hj' : j < l.length := by simpa using hj
      have : x.f4.length = 39 := hx.2 (by omega)
      show ((x.f4 ++ cat l).drop ((j + 1) * 39)).take 39 = _
      rw [show (j + 1) * 39 = x.f4.length + j * 39 by omega, ← List.drop_drop, List.drop_left' rfl]
      simp only [List.getElem_cons_succ]
      exact ih j hj'
theorem cat_many {l : List S106} (h : ∀ j (hj : j < l.length), l[j].f4.length ≠ 0 ∧ l[j].f4.length ≤ 39 ∧ (j + 1 < l.length → l[j].f4.length = 39)) : many (cat l).length = l.length := by
  induction l with
  | nil => rfl
  | cons x l ih =>
    have ih := ih fun j hj => by
      have := h (j + 1) (by simp; omega)
      simpa using this
    have hx := h 0 (by simp)
    simp only [List.getElem_cons_zero, List.length_cons] at hx
    rw [cat_cons, List.length_append, List.length_cons]
    unfold many at *
    by_cases c : l = []
    · subst c
      simp [cat]
      omega
    · have : x.f4.length = 39 := hx.2.2 (by have := List.length_pos_iff.2 c; omega)
      omega
/-- A record's cells stand in their places, and their bytes are the record. -/
theorem cutn_row (l : List Int) (a b : Int) : Row (cutn l a b (many l.length : Int) (many l.length)) := by
  intro j h
  have hN : many l.length = (l.length + 38) / 39 := rfl
  rw [cutn_length] at h
  have hp := part_length l j
  simp only [cutn, List.getElem_map, List.getElem_range, List.length_map, List.length_range]
  refine ⟨rfl, rfl, rfl, rfl, ?_, ?_, fun h2 => ?_⟩ <;> simp only [hp] <;> omega
theorem cat_cutn (l : List Int) (a b m : Int) (n : Nat) : cat (cutn l a b m n) = l.take (n * 39) := by
  induction n with
  | zero => simp [cat, cutn]
  | succ n ih =>
    rw [cutn_succ]
    unfold cat at *
    rw [List.flatMap_append, ih]
    simp only [List.flatMap_cons, List.flatMap_nil, List.append_nil]
    show l.take (n * 39) ++ (l.drop (n * 39)).take 39 = _
    rw [show (n + 1) * 39 = n * 39 + 39 by omega, List.take_add]
theorem cat_cutn_all (l : List Int) (a b m : Int) : cat (cutn l a b m (many l.length)) = l := by
  rw [cat_cutn, List.take_of_length_le (by unfold many; omega)]
/-- Cells are a record's cut exactly where they stand in their places. -/
theorem cutn_iff {l : List S106} (h0 : 0 < l.length) : cutn (cat l) l[0].f0 l[0].f1 (many (cat l).length : Int) (many (cat l).length) = l ↔ Row l := by
  constructor
  · intro h
    have := cutn_row (cat l) l[0].f0 l[0].f1
    rwa [h] at this
  · intro h
    have hm : many (cat l).length = l.length := cat_many fun j hj => ⟨(h j hj).2.2.2.2.1, (h j hj).2.2.2.2.2⟩
    have hp := cat_part (l := l) fun j hj => (h j hj).2.2.2.2.2
    rw [hm]
    refine List.ext_getElem (cutn_length ..) fun j h1 h2 => ?_
    have hj := h j h2
    simp only [cutn, List.getElem_map, List.getElem_range, hp j h2]
    obtain ⟨s0, s1, s2, s3, _⟩ := hj
    rw [← s0, ← s1, ← s2, ← s3]
end Go.Proofs.Ytepipgneefcoiaa.CellLaws
