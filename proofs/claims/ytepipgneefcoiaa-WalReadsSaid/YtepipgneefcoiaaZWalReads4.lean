/- What the law WalReads rests on, part 4: words on memory, the functions that it reaches as plain Lean functions with the proofs that the machine's calls come to them, and the mathematics; no condition beyond those that each theorem names. -/
import Derived.Test.YtepipgneefcoiaaZWalReads3
set_option linter.unusedVariables false
set_option linter.unusedSimpArgs false
namespace Go.Proofs.Ytepipgneefcoiaa.CellLaws
open Go.RowKit Go.Proofs.Ytepipgneefcoiaa Go.Proofs.Ytepipgneefcoiaa.D Go.Proofs.YtepipgneefcoiaaW.PrintWords Go.Proofs.YtepipgneefcoiaaW.PrintLast Go.Proofs.YtepipgneefcoiaaW.PrintMore
open Go.Proofs.Ytepipgneefcoiaa.CrcK (Bytes u32 more sum_ev refsum_ev bytes_rd u32_lt bytes_wf)
def cat (l : List S106) : List Int := l.flatMap S106.f4
def Sits (e f : Int) (n j : Nat) (x : S106) : Prop := x.f0 = e ∧ x.f1 = f ∧ x.f2 = (j : Int) ∧ x.f3 = (n : Int) ∧ x.f4.length ≠ 0 ∧ x.f4.length ≤ 39 ∧ (j + 1 < n → x.f4.length = 39)
def Row (l : List S106) : Prop := ∀ j (h : j < l.length), Sits (l[0]'(by omega)).f0 (l[0]'(by omega)).f1 l.length j l[j]
theorem cat_take_succ {l : List S106} {j : Nat} (h : j < l.length) : cat (l.take (j + 1)) = cat (l.take j) ++ l[j].f4 := by
  unfold cat
  rw [List.take_succ_eq_append_getElem h, List.flatMap_append]
  simp only [List.flatMap_cons, List.flatMap_nil, List.append_nil]
theorem goesOn_iff {a0 a1 a2 a3 b0 b1 b2 b3 : Int} {l m : List Int} {n j : Nat} (hj : j < n) (hn : n ≤ 1000) : cell_goesOn.f a0 a1 a2 a3 l b0 b1 b2 b3 m (j : Int) (n : Int) = some (decide (a0 = b0 ∧ a1 = b1 ∧ a2 = (j : Int) ∧ a3 = (n : Int) ∧ (j + 1 < n → l.length = 39))) := by
  unfold cell_goesOn.f
  rw [w64 (by omega) (by omega)]
  by_cases c : (j : Int) = (n : Int) - 1
  · rw [if_pos c]
    have e : ¬ j + 1 < n := by omega
    by_cases c0 : a0 = b0
    · by_cases c1 : a1 = b1
      · by_cases c2 : a2 = (j : Int)
        · by_cases c3 : a3 = (n : Int)
          · rw [if_pos c0, if_pos c1, if_pos c2, if_pos c3, decide_eq_true ⟨c0, c1, c2, c3, fun h => absurd h e⟩]
          · rw [if_pos c0, if_pos c1, if_pos c2, if_neg c3, decide_eq_false fun h => c3 h.2.2.2.1]
        · rw [if_pos c0, if_pos c1, if_neg c2, decide_eq_false fun h => c2 h.2.2.1]
      · rw [if_pos c0, if_neg c1, decide_eq_false fun h => c1 h.2.1]
    · rw [if_neg c0, decide_eq_false fun h => c0 h.1]
  · rw [if_neg c]
    have e : j + 1 < n := by omega
    by_cases c0 : a0 = b0
    · by_cases c1 : a1 = b1
      · by_cases c2 : a2 = (j : Int)
        · by_cases c3 : a3 = (n : Int)
          · rw [if_pos c0, if_pos c1, if_pos c2, if_pos c3]
            congr 1
            rw [Bool.eq_iff_iff, beq_iff_eq, decide_eq_true_eq]
            exact ⟨fun h => ⟨c0, c1, c2, c3, fun _ => by omega⟩, fun h => by have := h.2.2.2.2 e; omega⟩
          · rw [if_pos c0, if_pos c1, if_pos c2, if_neg c3, decide_eq_false fun h => c3 h.2.2.2.1]
        · rw [if_pos c0, if_pos c1, if_neg c2, decide_eq_false fun h => c2 h.2.2.1]
      · rw [if_pos c0, if_neg c1, decide_eq_false fun h => c1 h.2.1]
    · rw [if_neg c0, decide_eq_false fun h => c0 h.1]
theorem cat_cons (x : S106) (l : List S106) : cat (x :: l) = x.f4 ++ cat l := by simp [cat]
theorem cat_length {l : List S106} {c : Nat} (h : ∀ j (hj : j < l.length), l[j].f4.length ≤ c) : (cat l).length ≤ l.length * c := by
  induction l with
  | nil => simp [cat]
  | cons x l ih =>
    rw [cat_cons, List.length_append, List.length_cons, Nat.add_mul]
    have h0 := h 0 (by simp)
    simp only [List.getElem_cons_zero] at h0
    have := ih fun j hj => by have := h (j + 1) (by simp; omega); simpa using this
    omega
theorem cat_take_length {l : List S106} {c : Nat} (h : ∀ j (hj : j < l.length), l[j].f4.length ≤ c) (i : Nat) : (cat (l.take i)).length ≤ l.length * c := by
  have h1 := cat_length (l := l.take i) (c := c) fun j hj => by
    rw [List.getElem_take]; exact h _ _
  have h2 : (l.take i).length * c ≤ l.length * c := Nat.mul_le_mul_right _ (by rw [List.length_take]; omega)
  omega
theorem join_bad {x34 : Bool} (h : x34 = true) (x0 : List S106) (x4 : List Int) (x7 : List S106) (x8 x9 y0 y1 y2 y3 : Int) (y4 : List Int) : Ev (fun k => cell_Join.j1 k x0 x4 x7 x8 x9 x34 y0 y1 y2 y3 y4) ([], false) := by
  refine Ev.step (f := fun _ => some _) (fun k => ?_) (Ev.now _)
  rw [cell_Join.j1, if_pos h]
open Classical in
theorem join_ev {l : List S106} (hn : l.length ≤ 1000) (hd : ∀ j (hj : j < l.length), l[j].f4.length ≤ 1000) : Ev (fun k => cell_Join.f k l) (if Row l ∧ l ≠ [] then (cat l, true) else ([], false)) := by
  by_cases h0 : l = []
  · subst h0
    rw [if_neg (fun h => h.2 rfl)]
    refine Ev.congr (fun k => rfl) (Ev.step (g := fun k => cell_Join.l0 k [] [] [] 0 0) (f := fun _ => some ([], false)) (fun k => ?_) (Ev.now _))
    rw [cell_Join.l0]
    rfl
  have hl : 0 < l.length := List.length_pos_iff.2 h0
  have h : ∀ n j : Nat, j + n = l.length → (∀ i (h : i < l.length), i < j → Sits l[0].f0 l[0].f1 l.length i l[i]) → Ev (fun k => cell_Join.l0 k l (cat (l.take j)) l (l.length : Int) (j : Int)) (if Row l ∧ l ≠ [] then (cat l, true) else ([], false)) := by
    intro n
    induction n with
    | zero =>
      intro j hj hs
      refine Ev.step (f := fun _ => some _) (fun k => ?_) (Ev.now _)
      rw [cell_Join.l0, if_neg (by omega), if_neg (by omega), if_pos ⟨fun i h => hs i h (by omega), h0⟩, decide_eq_true (by omega), List.take_of_length_le (by omega)]
    | succ n ih =>
      intro j hj hs
      have hj' : j < l.length := by omega
      have r0 : rd_T106 l 0 = l[0] := rd106_at hl
      have hcl := cat_take_length hd j
      have hmul : l.length * 1000 ≤ 1000000 := by omega
      have hdj := hd j hj'
      by_cases hq : Sits l[0].f0 l[0].f1 l.length j l[j]
      · have hih := ih (j + 1) (by omega) fun i h1 hi => by
          by_cases e : i = j
          · subst e; exact hq
          · exact hs i h1 (by omega)
        obtain ⟨s0, s1, s2, s3, s4, s5, s6⟩ := hq
        have hj1 : Ev (fun k => cell_Join.j1 k l (cat (l.take j)) l (l.length : Int) (j : Int) false l[j].f0 l[j].f1 l[j].f2 l[j].f3 l[j].f4) (if Row l ∧ l ≠ [] then (cat l, true) else ([], false)) := by
          refine Ev.step (fun k => ?_) hih
          rw [cell_Join.j1, if_neg (by decide), if_pos (by omega), ← cat_take_succ hj', w64 (by omega) (by omega)]
          rfl
        refine Ev.step (fun k => ?_) hj1
        rw [cell_Join.l0, if_pos (by omega), if_pos (by omega), if_pos (by omega), if_pos (by omega), rd106_at hj', r0, goesOn_iff hj' hn, decide_eq_true ⟨s0, s1, s2, s3, s6⟩, Option.bind_some, if_pos rfl, if_neg (by omega), decide_eq_false (by omega)]
      · have hbad : ¬ (Row l ∧ l ≠ []) := fun h => hq (h.1 j hj')
        rw [if_neg hbad]
        by_cases hg : l[j].f0 = l[0].f0 ∧ l[j].f1 = l[0].f1 ∧ l[j].f2 = (j : Int) ∧ l[j].f3 = (l.length : Int) ∧ (j + 1 < l.length → l[j].f4.length = 39)
        · by_cases hz : l[j].f4.length = 0
          · refine Ev.step (fun k => ?_) (join_bad rfl l (cat (l.take j)) l (l.length : Int) (j : Int) l[j].f0 l[j].f1 l[j].f2 l[j].f3 l[j].f4)
            rw [cell_Join.l0, if_pos (by omega), if_pos (by omega), if_pos (by omega), if_pos (by omega), rd106_at hj', r0, goesOn_iff hj' hn, decide_eq_true hg, Option.bind_some, if_pos rfl, if_pos (by omega)]
          · have h39 : (l[j].f4.length : Int) > 39 := by
              refine Classical.byContradiction fun h39 => hq ⟨hg.1, hg.2.1, hg.2.2.1, hg.2.2.2.1, hz, by omega, hg.2.2.2.2⟩
            refine Ev.step (fun k => ?_) (join_bad (decide_eq_true h39) l (cat (l.take j)) l (l.length : Int) (j : Int) l[j].f0 l[j].f1 l[j].f2 l[j].f3 l[j].f4)
            rw [cell_Join.l0, if_pos (by omega), if_pos (by omega), if_pos (by omega), if_pos (by omega), rd106_at hj', r0, goesOn_iff hj' hn, decide_eq_true hg, Option.bind_some, if_pos rfl, if_neg (by omega)]
        · refine Ev.step (fun k => ?_) (join_bad rfl l (cat (l.take j)) l (l.length : Int) (j : Int) l[j].f0 l[j].f1 l[j].f2 l[j].f3 l[j].f4)
          rw [cell_Join.l0, if_pos (by omega), if_pos (by omega), if_pos (by omega), if_pos (by omega), rd106_at hj', r0, goesOn_iff hj' hn, decide_eq_false hg, Option.bind_some, if_neg (by decide)]
  exact Ev.congr (fun k => rfl) (h l.length 0 (by omega) (fun i _ hi => absurd hi (Nat.not_lt_zero _)))
theorem cat_part {l : List S106} (h : ∀ j (hj : j < l.length), l[j].f4.length ≤ 39 ∧ (j + 1 < l.length → l[j].f4.length = 39)) :
    ∀ j (hj : j < l.length), part (cat l) j = l[j].f4 := by
  induction l with
  | nil => intro j hj; cases hj
  | cons x l ih =>
    have ih := ih fun j hj => by
      have := h (j + 1) (by simp; omega)
      simpa using this
    intro j hj
    have hx := h 0 (by simp)
    simp only [List.getElem_cons_zero, List.length_cons] at hx
    rw [cat_cons]
    cases j with
    | zero =>
      show ((x.f4 ++ cat l).drop (0 * 39)).take 39 = x.f4
      by_cases c : l = []
      · subst c
        simp [cat]
        exact List.take_of_length_le hx.1
      · have : x.f4.length = 39 := hx.2 (by have := List.length_pos_iff.2 c; omega)
        rw [Nat.zero_mul, List.drop_zero, List.take_left' this]
    | succ j =>
      have hj' : j < l.length := by simpa using hj
      have : x.f4.length = 39 := hx.2 (by omega)
      show ((x.f4 ++ cat l).drop ((j + 1) * 39)).take 39 = _
      rw [show (j + 1) * 39 = x.f4.length + j * 39 by omega, ← List.drop_drop, List.drop_left' rfl]
      simp only [List.getElem_cons_succ]
      exact ih j hj'
theorem cat_many {l : List S106} (h : ∀ j (hj : j < l.length), l[j].f4.length ≠ 0 ∧ l[j].f4.length ≤ 39 ∧ (j + 1 < l.length → l[j].f4.length = 39)) : many (cat l).length = l.length := by
  induction l with
  | nil => rfl
  | cons x l ih =>
    have ih := ih fun j hj => by
      have := h (j + 1) (by simp; omega)
      simpa using this
    have hx := h 0 (by simp)
    simp only [List.getElem_cons_zero, List.length_cons] at hx
    rw [cat_cons, List.length_append, List.length_cons]
    unfold many at *
    by_cases c : l = []
    · subst c
      simp [cat]
      omega
    · have : x.f4.length = 39 := hx.2.2 (by have := List.length_pos_iff.2 c; omega)
      omega
theorem cutn_row (l : List Int) (a b : Int) : Row (cutn l a b (many l.length : Int) (many l.length)) := by
  intro j h
  have hN : many l.length = (l.length + 38) / 39 := rfl
  rw [cutn_length] at h
  have hp := part_length l j
  simp only [cutn, List.getElem_map, List.getElem_range, List.length_map, List.length_range]
  refine ⟨rfl, rfl, rfl, rfl, ?_, ?_, fun h2 => ?_⟩ <;> simp only [hp] <;> omega
theorem cutn_iff {l : List S106} (h0 : 0 < l.length) : cutn (cat l) l[0].f0 l[0].f1 (many (cat l).length : Int) (many (cat l).length) = l ↔ Row l := by
  constructor
  · intro h
    have := cutn_row (cat l) l[0].f0 l[0].f1
    rwa [h] at this
  · intro h
    have hm : many (cat l).length = l.length := cat_many fun j hj => ⟨(h j hj).2.2.2.2.1, (h j hj).2.2.2.2.2⟩
    have hp := cat_part (l := l) fun j hj => (h j hj).2.2.2.2.2
    rw [hm]
    refine List.ext_getElem (cutn_length ..) fun j h1 h2 => ?_
    have hj := h j h2
    simp only [cutn, List.getElem_map, List.getElem_range, hp j h2]
    obtain ⟨s0, s1, s2, s3, _⟩ := hj
    rw [← s0, ← s1, ← s2, ← s3]
end Go.Proofs.Ytepipgneefcoiaa.CellLaws
namespace Go.Proofs.Ytepipgneefcoiaa.D
open Go.RowKit Go.Proofs.YtepipgneefcoiaaW.PrintWords Go.Proofs.YtepipgneefcoiaaW.PrintLast Go.Proofs.YtepipgneefcoiaaW.PrintMore
open Classical in
noncomputable def decZ (b : List Int) : S106 := if CellLaws.Good b then ⟨CellLaws.e0 b, CellLaws.e1 b, CellLaws.pt b, CellLaws.ofs b, CellLaws.dat b⟩ else ⟨0, 0, 0, 0, []⟩
theorem dec_ev {b : List Int} (hb : CrcK.Bytes b) : ∃ r6, Ev (fun k => cell_Decode.f k b) ((decZ b).f0, (decZ b).f1, (decZ b).f2, (decZ b).f3, (decZ b).f4, r6) := by
 unfold decZ
 by_cases c : CellLaws.Good b
 rotate_left
 · rw [if_neg c]; exact ⟨8, CellLaws.decode_bad hb c⟩
 rw [if_pos c]; exact ⟨0, CellLaws.decode_good hb c⟩
structure CellOk (c : S106) : Prop where
  f0 : 0 ≤ c.f0 ∧ c.f0 < 18446744073709551616
  f1 : 0 ≤ c.f1 ∧ c.f1 < 18446744073709551616
  f3 : 0 ≤ c.f3
  f4 : c.f4.length ≤ 39
theorem num8 {l : List Int} (hb : CrcK.Bytes l) (h : l.length = 8) : 0 ≤ CellLaws.num l ∧ CellLaws.num l < 18446744073709551616 := by
 have := CellLaws.num_range l hb
 rw [h] at this
 exact ⟨this.1, by have := this.2; omega⟩
theorem decZ_ok {b : List Int} (hb : CrcK.Bytes b) : CellOk (decZ b) := by
 unfold decZ
 by_cases c : CellLaws.Good b
 rotate_left
 · rw [if_neg c]
   exact ⟨⟨by decide, by decide⟩, ⟨by decide, by decide⟩, by decide, by decide⟩
 rw [if_pos c]
 have hl := c.1
 have ho := CellLaws.ofs_le hb hl
 refine ⟨num8 (CellLaws.by_take hb _) (by rw [List.length_take]; omega), num8 (CellLaws.by_drop (CellLaws.by_take hb _) _) (by rw [List.length_drop, List.length_take]; omega), ho.2.2.1, ?_⟩
 show (CellLaws.dat b).length ≤ 39
 rw [CellLaws.dat_length hl c.2.1]
 exact c.2.1
theorem cells_ev (rows : List (List Int)) (hb : ∀ b ∈ rows, CrcK.Bytes b) (hl : rows.length ≤ 100000) : Ev (fun k => wal_cells.f k rows) (rows.map decZ) := by
 have key : ∀ (m j : Nat), j + m = rows.length → Ev (fun k => wal_cells.l0 k ((rows.take j).map decZ) rows (rows.length : Int) (j : Int)) (rows.map decZ) := by
   intro m
   induction m with
   | zero =>
     intro j hj
     refine Ev.step (f := fun _ => some (rows.map decZ)) (fun k => ?_) (Ev.now _)
     rw [wal_cells.l0, if_neg (by omega), List.take_of_length_le (by omega)]
   | succ m ih =>
     intro j hj
     have hjl : j < rows.length := by omega
     obtain ⟨r6, hd⟩ := dec_ev (hb _ (List.getElem_mem hjl))
     have hrd : rd_L3 rows (j : Int) = rows[j] := by
       unfold rd_L3
       rw [Int.toNat_natCast, List.getD_eq_getElem?_getD, List.getElem?_eq_getElem hjl]; rfl
     refine Ev.step (f := fun k => (cell_Decode.f k (rd_L3 rows (j : Int))).bind fun bt => wal_cells.l0 k ((rows.take j).map decZ ++ [(⟨bt.1, bt.2.1, bt.2.2.1, bt.2.2.2.1, bt.2.2.2.2.1⟩ : S106)]) rows (rows.length : Int) (wrap64 ((j : Int) + 1))) (fun k => ?_) ?_
     · rw [wal_cells.l0, if_pos (by omega), if_pos (by omega), if_pos (by omega)]
       congr 1
       funext bt
       rw [if_pos (by rw [List.length_map, List.length_take]; omega)]
     · rw [hrd]
       refine Ev.bind hd ?_
       have h1 : (rows.take j).map decZ ++ [decZ rows[j]] = (rows.take (j + 1)).map decZ := by rw [List.take_succ_eq_append_getElem hjl, List.map_append]; rfl
       show Ev (fun k => wal_cells.l0 k ((rows.take j).map decZ ++ [decZ rows[j]]) rows (rows.length : Int) (wrap64 ((j : Int) + 1))) _
       rw [h1, show wrap64 ((j : Int) + 1) = ((j + 1 : Nat) : Int) by unfold wrap64; omega]
       exact ih (j + 1) (by omega)
 exact key rows.length 0 (by omega)
open Classical in
noncomputable def rec1 (cs : List S106) (ep : Int) : Option (List Int × Int × Nat) :=
  if cs.length = 0 then none else if (rd_T106 cs 0).f3 = 0 then none else if (rd_T106 cs 0).f3 > (cs.length : Int) then none else if (rd_T106 cs 0).f0 ≠ ep then none
  else if CellLaws.Row (cs.take (rd_T106 cs 0).f3.toNat) then some (CellLaws.cat (cs.take (rd_T106 cs 0).f3.toNat), (rd_T106 cs 0).f1, (rd_T106 cs 0).f3.toNat) else none
def RecIs (o : Option (List Int × Int × Nat)) (b : List Int) (li of : Int) (ok : Bool) : Prop := (o = none ∧ ok = false) ∨ ∃ n : Nat, o = some (b, li, n) ∧ ok = true ∧ of = (n : Int) ∧ 0 < n
noncomputable def prs (ep : Int) : Nat → List S106 → Int → List (List Int) × Nat
  | 0, _, _ => ([], 0)
  | k + 1, cs, least => match rec1 cs ep with
    | none => ([], 0)
    | some (b, li, n) => if li < least then ([], 0) else (b :: (prs ep k (cs.drop n) li).1, n + (prs ep k (cs.drop n) li).2)
def lmax (cs : List S106) : Int := cs.foldl (fun m c => if m < c.f1 then c.f1 else m) 0
theorem join_at {w : World} {A : Option Addr} {m c : Nat} {l : List S106} {b : List Int} {ok : Bool} {j : Nat} (hm : m = l.length) (hc : m ≤ c) (hC : Kd.C k106 w A l.length l) (h : cell_Join.f j l = some (b, ok)) :
    Calls Try.prog 80 #[.slice A m c] w fun e w' => ∃ (A' : Option Addr) (m' c' : Nat), e = .returned (.tuple #[.slice A' m' c', .bool ok]) ∧ Kd.R (Kd.int .u8) 5 w' w.heap.size (fun _ => True) (.slice A' m' c') b ∧ Below w.heap.size w w' := by
 subst hm
 refine (cell_Join.calls j A c l b ok w hC hc h).mono ?_
 rintro e w' ⟨v, rfl, hR, hb⟩
 obtain ⟨A', c', rfl⟩ := Kd.R_slice hR
 exact ⟨A', _, c', rfl, hR, hb⟩
theorem ad_zero (ad : Addr) : ad.add 0 = ad := by cases ad; unfold Addr.add; split <;> simp_all
def RecOut (w : World) (cs : List S106) (ep : Int) (e : Ending) (w' : World) : Prop := ∃ (A2 : Option Addr) (m2 c2 : Nat) (b : List Int) (r2 r3 r4 r5 : Int) (A5 : Option Addr) (m5 c5 : Nat) (ok : Bool), e = .returned (.tuple #[.slice A2 m2 c2, .agg #[.int .u64 r2, .int .u64 r3, .int .i64 r4, .int .i64 r5, .slice A5 m5 c5], .bool ok]) ∧ RecIs (rec1 cs ep) b r3 r5 ok ∧ Kd.R (Kd.int .u8) 5 w' w.heap.size (fun _ => True) (.slice A2 m2 c2) b ∧ Below w.heap.size w w'
set_option maxRecDepth 20000 in
set_option maxHeartbeats 16000000 in
theorem L_record {w : World} {A : Option Addr} {n c : Nat} {cs : List S106} (hn : n = cs.length) (hc : n ≤ c) (hC : Kd.C k106 w A n cs) (ep : Int) (hl : cs.length ≤ 1000) (ho : ∀ c ∈ cs, CellOk c) :
    Calls Try.prog 68 #[.slice A n c, .int .u64 ep] w (RecOut w cs ep) := by
 have HN := Aside0.mk hn
 have HCC := Aside0.mk hc
 have HC := Aside0.mk hC
 have HL := Aside0.mk hl
 have HO := Aside0.mk ho
 have nb : n ≤ 1000 := by omega
 clear hC hc hl ho
 go_enter Try.func68, Try.ntmps68
 go_upto_region 1 with (fail)
 obtain ⟨g5, hg5⟩ : ∃ g5, g5 = w.heap.size := ⟨_, rfl⟩
 obtain ⟨W0, hW0⟩ : ∃ W0, W0 = w.alloc (.cells #[.int .u64 0, .int .u64 0, .int .i64 0, .int .i64 0, .slice none 0 0] 106) := ⟨_, rfl⟩
 have B0 := Aside0.mk (show Below w.heap.size w W0 by rw [hW0]; exact below_alloc (Below.refl _ _) _)
 have K5 := Aside0.mk (show W0.heap[g5]? = some (.cells #[.int .u64 0, .int .u64 0, .int .i64 0, .int .i64 0, .slice none 0 0] 106 (0, 0)) by rw [hW0, hg5]; exact blk_new _ _)
 have L5 := Aside0.mk (show w.heap.size ≤ g5 by omega)
 rw [← hW0, ← hg5]
 clear hW0 hg5 hn
 have fz := fun i => blk_frozen K5.out i
 have z0 := (blk_cell K5.out 0).trans (rfl : (#[.int .u64 0, .int .u64 0, .int .i64 0, .int .i64 0, .slice none 0 0] : Array Value)[0]? = some (.int .u64 0))
 have z1 := (blk_cell K5.out 1).trans (rfl : (#[.int .u64 0, .int .u64 0, .int .i64 0, .int .i64 0, .slice none 0 0] : Array Value)[1]? = some (.int .u64 0))
 have z2 := (blk_cell K5.out 2).trans (rfl : (#[.int .u64 0, .int .u64 0, .int .i64 0, .int .i64 0, .slice none 0 0] : Array Value)[2]? = some (.int .i64 0))
 have z3 := (blk_cell K5.out 3).trans (rfl : (#[.int .u64 0, .int .u64 0, .int .i64 0, .int .i64 0, .slice none 0 0] : Array Value)[3]? = some (.int .i64 0))
 have z4 := (blk_cell K5.out 4).trans (rfl : (#[.int .u64 0, .int .u64 0, .int .i64 0, .int .i64 0, .slice none 0 0] : Array Value)[4]? = some (.slice none 0 0))
 by_cases c1 : n = 0
 · have c1b : ((n : Int) == 0) = true := by simp [c1]
   have HR := Aside0.mk (show RecIs (rec1 cs ep) [] 0 0 false from .inl ⟨by unfold rec1; rw [if_pos (by rw [← HN.out]; exact c1)], rfl⟩)
   subst c1
   go_wp2
   refine bodyPost_ret (results_list (rs := [.tmp 4, .cell 5 106, .tmp 6]) rfl (by simp) (.tmp (.cell g5 106 #[.int .u64 0, .int .u64 0, .int .i64 0, .int .i64 0, .slice none 0 0] (0, 0) _ rfl (by exact blk_put (cs := #[.int .u64 0, .int .u64 0, .int .i64 0, .int .i64 0, .slice none 0 0]) (blk_put (cs := #[.int .u64 0, .int .u64 0, .int .i64 0, .int .i64 0, .slice none 0 0]) (blk_put (cs := #[.int .u64 0, .int .u64 0, .int .i64 0, .int .i64 0, .slice none 0 0]) (blk_put (cs := #[.int .u64 0, .int .u64 0, .int .i64 0, .int .i64 0, .slice none 0 0]) (blk_put (cs := #[.int .u64 0, .int .u64 0, .int .i64 0, .int .i64 0, .slice none 0 0]) K5.out 0 _ rfl) 1 _ rfl) 2 _ rfl) 3 _ rfl) 4 _ rfl) Try.underlying106 rfl (by kernel_rfl) (.tmp .nil)))) rfl ?_
   exact ⟨_, _, _, [], _, _, _, _, _, _, _, _, rfl, HR.out, Kd.R_nil _ _ _ _ _, below_set (below_set (below_set (below_set (below_set B0.out L5.out) L5.out) L5.out) L5.out) L5.out⟩
 have c1b : ((n : Int) == 0) = false := by simp [c1]
 have npos : (0 : Int) < (n : Int) := by omega
 have npos2 : 0 < n := by omega
 obtain ⟨ad, A4, c4, rfl, y0, y1, y2, y3, y4, l4, C4⟩ := at_T106 HC.out 0 (by omega) (by omega)
 rw [show (0 : Int).toNat * 5 = 0 from rfl, ad_zero] at y0 y1 y2 y3 y4
 obtain ⟨x, hx⟩ : ∃ x, x = rd_T106 cs 0 := ⟨_, rfl⟩
 have HX := Aside0.mk hx
 rw [← hx] at y0 y1 y2 y3 y4 l4 C4
 have XO := Aside0.mk (show CellOk x from HO.out x (by rw [hx]; unfold rd_T106; rw [show (0 : Int).toNat = 0 from rfl, List.getD_eq_getElem?_getD, List.getElem?_eq_getElem (by rw [← HN.out]; omega)]; exact List.getElem_mem _))
 obtain ⟨x0, x1, x2, x3, x4⟩ := x
 dsimp only at y0 y1 y2 y3 y4 l4 C4
 obtain ⟨m4, hm4⟩ : ∃ m4, m4 = x4.length := ⟨_, rfl⟩
 rw [← hm4] at y4
 have Y := Aside0.mk (show w.cell? ad = some (.int .u64 x0) ∧ w.cell? ⟨ad.block, ad.off + 1, none⟩ = some (.int .u64 x1) ∧ w.cell? ⟨ad.block, ad.off + 2, none⟩ = some (.int .i64 x2) ∧ w.cell? ⟨ad.block, ad.off + 3, none⟩ = some (.int .i64 x3) ∧ w.cell? ⟨ad.block, ad.off + 4, none⟩ = some (.slice A4 m4 c4) from ⟨y0, y1, y2, y3, y4⟩)
 have y0 := pw_cell_below B0.out Y.out.1
 have y3 := pw_cell_below B0.out Y.out.2.2.2.1
 have HCL := Aside0.mk (show cs.length ≠ 0 by rw [← HN.out]; exact c1)
 clear hx y1 y2 y4 l4 C4 hm4 c1
 by_cases c2 : x3 = 0
 · have c2b : (x3 == 0) = true := by simp [c2]
   have HR := Aside0.mk (show RecIs (rec1 cs ep) [] 0 0 false from .inl ⟨by unfold rec1; rw [if_neg HCL.out, if_pos (by rw [← HX.out]; exact c2)], rfl⟩)
   subst c2
   go_wp2
   refine bodyPost_ret (results_list (rs := [.tmp 4, .cell 5 106, .tmp 6]) rfl (by simp) (.tmp (.cell g5 106 #[.int .u64 0, .int .u64 0, .int .i64 0, .int .i64 0, .slice none 0 0] (0, 0) _ rfl (by exact blk_put (cs := #[.int .u64 0, .int .u64 0, .int .i64 0, .int .i64 0, .slice none 0 0]) (blk_put (cs := #[.int .u64 0, .int .u64 0, .int .i64 0, .int .i64 0, .slice none 0 0]) (blk_put (cs := #[.int .u64 0, .int .u64 0, .int .i64 0, .int .i64 0, .slice none 0 0]) (blk_put (cs := #[.int .u64 0, .int .u64 0, .int .i64 0, .int .i64 0, .slice none 0 0]) (blk_put (cs := #[.int .u64 0, .int .u64 0, .int .i64 0, .int .i64 0, .slice none 0 0]) K5.out 0 _ rfl) 1 _ rfl) 2 _ rfl) 3 _ rfl) 4 _ rfl) Try.underlying106 rfl (by kernel_rfl) (.tmp .nil)))) rfl ?_
   exact ⟨_, _, _, [], _, _, _, _, _, _, _, _, rfl, HR.out, Kd.R_nil _ _ _ _ _, below_set (below_set (below_set (below_set (below_set B0.out L5.out) L5.out) L5.out) L5.out) L5.out⟩
 have c2b : (x3 == 0) = false := by simp [c2]
 by_cases c3 : x3 > (n : Int)
 · have c3b : decide (x3 > (n : Int)) = true := decide_eq_true c3
   have c3c : (n : Int) < x3 := c3
   have c3d : decide ((n : Int) < x3) = true := decide_eq_true c3
   have HR := Aside0.mk (show RecIs (rec1 cs ep) [] 0 0 false from .inl ⟨by unfold rec1; rw [if_neg HCL.out, if_neg (by rw [← HX.out]; exact c2), if_pos (by rw [← HX.out, ← HN.out]; exact c3)], rfl⟩)
   clear c2 c3
   go_wp2
   refine bodyPost_ret (results_list (rs := [.tmp 4, .cell 5 106, .tmp 6]) rfl (by simp) (.tmp (.cell g5 106 #[.int .u64 0, .int .u64 0, .int .i64 0, .int .i64 0, .slice none 0 0] (0, 0) _ rfl (by exact blk_put (cs := #[.int .u64 0, .int .u64 0, .int .i64 0, .int .i64 0, .slice none 0 0]) (blk_put (cs := #[.int .u64 0, .int .u64 0, .int .i64 0, .int .i64 0, .slice none 0 0]) (blk_put (cs := #[.int .u64 0, .int .u64 0, .int .i64 0, .int .i64 0, .slice none 0 0]) (blk_put (cs := #[.int .u64 0, .int .u64 0, .int .i64 0, .int .i64 0, .slice none 0 0]) (blk_put (cs := #[.int .u64 0, .int .u64 0, .int .i64 0, .int .i64 0, .slice none 0 0]) K5.out 0 _ rfl) 1 _ rfl) 2 _ rfl) 3 _ rfl) 4 _ rfl) Try.underlying106 rfl (by kernel_rfl) (.tmp .nil)))) rfl ?_
   exact ⟨_, _, _, [], _, _, _, _, _, _, _, _, rfl, HR.out, Kd.R_nil _ _ _ _ _, below_set (below_set (below_set (below_set (below_set B0.out L5.out) L5.out) L5.out) L5.out) L5.out⟩
 have c3b : decide (x3 > (n : Int)) = false := decide_eq_false c3
 have c3d : decide ((n : Int) < x3) = false := decide_eq_false c3
 by_cases c4 : x0 = ep
 rotate_left
 · have c4b : (x0 != ep) = true := by simp [c4]
   have HR := Aside0.mk (show RecIs (rec1 cs ep) [] 0 0 false from .inl ⟨by unfold rec1; rw [if_neg HCL.out, if_neg (by rw [← HX.out]; exact c2), if_neg (by rw [← HX.out, ← HN.out]; exact c3), if_pos (by rw [← HX.out]; exact c4)], rfl⟩)
   clear c2 c3 c4
   go_wp2
   refine bodyPost_ret (results_list (rs := [.tmp 4, .cell 5 106, .tmp 6]) rfl (by simp) (.tmp (.cell g5 106 #[.int .u64 0, .int .u64 0, .int .i64 0, .int .i64 0, .slice none 0 0] (0, 0) _ rfl (by exact blk_put (cs := #[.int .u64 0, .int .u64 0, .int .i64 0, .int .i64 0, .slice none 0 0]) (blk_put (cs := #[.int .u64 0, .int .u64 0, .int .i64 0, .int .i64 0, .slice none 0 0]) (blk_put (cs := #[.int .u64 0, .int .u64 0, .int .i64 0, .int .i64 0, .slice none 0 0]) (blk_put (cs := #[.int .u64 0, .int .u64 0, .int .i64 0, .int .i64 0, .slice none 0 0]) (blk_put (cs := #[.int .u64 0, .int .u64 0, .int .i64 0, .int .i64 0, .slice none 0 0]) K5.out 0 _ rfl) 1 _ rfl) 2 _ rfl) 3 _ rfl) 4 _ rfl) Try.underlying106 rfl (by kernel_rfl) (.tmp .nil)))) rfl ?_
   exact ⟨_, _, _, [], _, _, _, _, _, _, _, _, rfl, HR.out, Kd.R_nil _ _ _ _ _, below_set (below_set (below_set (below_set (below_set B0.out L5.out) L5.out) L5.out) L5.out) L5.out⟩
 have c4b : (x0 != ep) = false := by simp [c4]
 obtain ⟨k, rfl⟩ : ∃ k : Nat, x3 = (k : Int) := ⟨x3.toNat, by have := XO.out.f3; dsimp only at this; omega⟩
 have k0 : 0 < k := by omega
 have kn : k ≤ n := by omega
 have kc : k ≤ c := by have := HCC.out; omega
 have kn1 : (k : Int) ≤ (n : Int) := by omega
 have kc1 : (k : Int) ≤ (c : Int) := by omega
 obtain ⟨b, ok, hj, hrec⟩ : ∃ b ok, Ev (fun j => cell_Join.f j (cs.take k)) (b, ok) ∧ RecIs (rec1 cs ep) b x1 (k : Int) ok := by
   have hne : cs.take k ≠ [] := by
     intro e
     have h1 : (cs.take k).length = 0 := by rw [e]; rfl
     rw [List.length_take] at h1
     have h2 := HN.out
     omega
   have hj := CellLaws.join_ev (l := cs.take k) (by rw [List.length_take]; have := HL.out; omega) (fun j hj => by
     have := (HO.out _ (List.mem_of_mem_take (List.getElem_mem hj))).f4
     omega)
   unfold rec1
   rw [if_neg HCL.out, if_neg (by rw [← HX.out]; exact c2), if_neg (by rw [← HX.out, ← HN.out]; exact c3), if_neg (by rw [← HX.out]; simpa using c4), ← HX.out]
   dsimp only
   rw [Int.toNat_natCast]
   by_cases c5 : CellLaws.Row (cs.take k)
   · rw [if_pos c5]
     rw [if_pos ⟨c5, hne⟩] at hj
     exact ⟨_, _, hj, .inr ⟨k, rfl, rfl, rfl, k0⟩⟩
   · rw [if_neg c5]
     rw [if_neg (fun h => c5 h.1)] at hj
     exact ⟨_, _, hj, .inl ⟨rfl, rfl⟩⟩
 obtain ⟨j, hj⟩ := Ev.rounds hj
 have EJ := Aside0.mk hj
 have HR := Aside0.mk hrec
 have KT := Aside0.mk (show k = (cs.take k).length by rw [List.length_take, ← HN.out]; omega)
 have CT := Aside0.mk (show Kd.C k106 w (some ad) (cs.take k).length (cs.take k) from Kd.C_take (by rw [← HN.out]; exact HC.out) (by rw [← HN.out]; exact kn))
 clear c2 c3 c4 hj hrec
 go_upto_region 4 with (go_at_call 80; refine (join_at KT.out kc (Kd.C_below CT.out B0.out) EJ.out).mono ?_; rintro e w2 ⟨A2, m2, c2', rfl, hR, hb⟩; have R2 := Aside0.mk hR; have B2 := Aside0.mk (below_step B0.out hb); have D5 := Aside0.mk (blk_below K5.out hb); clear hR hb)
 have BX := Aside0.mk (below_step B2.out (below_drew (Below.refl _ w2)))
 have DX := Aside0.mk (blk_below D5.out (below_drew (Below.refl _ w2)))
 have RX := Aside0.mk (Kd.R_below R2.out (below_drew (Below.refl _ w2)))
 refine start_ (n := 8) (S := fun w' => w'.cell? ad = some (.int .u64 x0) ∧ w'.cell? ⟨ad.block, ad.off + 1, none⟩ = some (.int .u64 x1) ∧ w'.cell? ⟨ad.block, ad.off + 2, none⟩ = some (.int .i64 x2) ∧ w'.cell? ⟨ad.block, ad.off + 3, none⟩ = some (.int .i64 (k : Int)) ∧ w'.cell? ⟨ad.block, ad.off + 4, none⟩ = some (.slice A4 m4 c4)) (ds := [6]) #[false, false, false, false, false, false, false, false] (by kernel_rfl) rfl rfl ⟨(pw_cell_below (below_step B2.out (below_drew (Below.refl _ _))) Y.out.1), (pw_cell_below (below_step B2.out (below_drew (Below.refl _ _))) Y.out.2.1), (pw_cell_below (below_step B2.out (below_drew (Below.refl _ _))) Y.out.2.2.1), (pw_cell_below (below_step B2.out (below_drew (Below.refl _ _))) Y.out.2.2.2.1), (pw_cell_below (below_step B2.out (below_drew (Below.refl _ _))) Y.out.2.2.2.2)⟩ (fun hHeld => ?_)
 generalize w2.drew = W1 at hHeld BX DX RX ⊢
 have fz := fun i => blk_frozen DX.out i
 have z0 := (blk_cell DX.out 0).trans (rfl : (#[.int .u64 0, .int .u64 0, .int .i64 0, .int .i64 0, .slice none 0 0] : Array Value)[0]? = some (.int .u64 0))
 have z1 := (blk_cell DX.out 1).trans (rfl : (#[.int .u64 0, .int .u64 0, .int .i64 0, .int .i64 0, .slice none 0 0] : Array Value)[1]? = some (.int .u64 0))
 have z2 := (blk_cell DX.out 2).trans (rfl : (#[.int .u64 0, .int .u64 0, .int .i64 0, .int .i64 0, .slice none 0 0] : Array Value)[2]? = some (.int .i64 0))
 have z3 := (blk_cell DX.out 3).trans (rfl : (#[.int .u64 0, .int .u64 0, .int .i64 0, .int .i64 0, .slice none 0 0] : Array Value)[3]? = some (.int .i64 0))
 have z4 := (blk_cell DX.out 4).trans (rfl : (#[.int .u64 0, .int .u64 0, .int .i64 0, .int .i64 0, .slice none 0 0] : Array Value)[4]? = some (.slice none 0 0))
 refine pu 0 (some 47) (bm 8 1) ?_
 refine pu 1 (some 48) (bm 8 3) ?_
 refine pu 2 (some 49) (bm 8 7) ?_
 refine pu 4 (some 51) (bm 8 23) ?_
 refine pu 5 (some 4) (bm 8 55) ?_
 refine take_ (i := 3) (N := some 50) (v := ?_) (a' := ?_) #[true, true, true, true, true, true, false, false] rfl rfl (by kernel_rfl) (fun _ _ _ h => h) (Or.inl ⟨by rfl, ?_⟩) hHeld ?_ ?_
 rotate_left
 · rintro w' ⟨s0, s1, s2, s3, s4⟩
   go_simp
   with_reducible rfl
 rotate_left
 · simp only [Act.put, List.setIfInBounds_toArray, List.set_cons_zero, List.set_cons_succ, i64_w, i32_w]
   rfl
 refine last_ (i := 6) (N := none) #[true, true, true, true, true, true, true, false] rfl rfl (by kernel_rfl) (by decide) (fun K hK => ?_)
 refine skip_ (w1 := ?_) (by rfl) rfl ?_ ?_
 rotate_left
 · go_simp
   rfl
 refine hK.out _ _ ?_
 clear hK K
 refine pu 7 (some 6) (bm 8 255) ?_
 refine done_ (by kernel_rfl) ?_
 go_wp2
 have hD := DX.out
 refine bodyPost_ret (results_list (rs := [.tmp 4, .cell 5 106, .tmp 6]) rfl (by simp) (.tmp (.cell g5 106 #[.int .u64 x0, .int .u64 x1, .int .i64 x2, .int .i64 (k : Int), .slice A4 m4 c4] (0, 0) _ rfl (by exact blk_put (blk_put (blk_put (blk_put (blk_put (cs := #[.int .u64 0, .int .u64 0, .int .i64 0, .int .i64 0, .slice none 0 0]) hD 0 (.int .u64 x0) rfl) 1 (.int .u64 x1) rfl) 2 (.int .i64 x2) rfl) 3 (.int .i64 (k : Int)) rfl) 4 (.slice A4 m4 c4) rfl) Try.underlying106 rfl (by kernel_rfl) (.tmp .nil)))) rfl ?_
 have hb5 : ∀ v, Below w.heap.size w _ := fun v => below_set (j := 4) (v := v) (below_set (j := 3) (v := .int .i64 (k : Int)) (below_set (j := 2) (v := .int .i64 x2) (below_set (j := 1) (v := .int .u64 x1) (below_set (j := 0) (v := .int .u64 x0) BX.out L5.out) L5.out) L5.out) L5.out) L5.out
 refine ⟨_, _, _, b, _, _, _, _, _, _, _, ok, rfl, HR.out, ?_, hb5 _⟩
 have far : ∀ q, q ≠ g5 → (((((W1.setCell ⟨g5, 0, none⟩ (.int .u64 x0)).setCell ⟨g5, 1, none⟩ (.int .u64 x1)).setCell ⟨g5, 2, none⟩ (.int .i64 x2)).setCell ⟨g5, 3, none⟩ (.int .i64 (k : Int))).setCell ⟨g5, 4, none⟩ (.slice A4 m4 c4)).heap[q]? = W1.heap[q]? := fun q hq => (Below.heap_setCell _ ⟨g5, 4, none⟩ _ q hq).trans ((Below.heap_setCell _ ⟨g5, 3, none⟩ _ q hq).trans ((Below.heap_setCell _ ⟨g5, 2, none⟩ _ q hq).trans ((Below.heap_setCell _ ⟨g5, 1, none⟩ _ q hq).trans (Below.heap_setCell _ ⟨g5, 0, none⟩ _ q hq))))
 refine Kd.R_mono (Kd.R_move (Kd.R_tight rfl (Kd.R_lower RX.out B0.out.size)) (fun q hq => far q (fun e => ?_))) (fun _ _ => trivial)
 obtain ⟨cc, hcc⟩ := Kd.R_typed RX.out q hq.symm
 rw [e] at hcc
 exact absurd rfl (blk_ne hcc DX.out (by decide))
theorem L_OpenArg {w0 w : World} {q : Nat} {s : Dk} {O : Nat → Prop} (h : JO w0 w q s O) (hnb : s.nb ≤ 4096) (fi si ep : Int) (hi : -9223372036854775808 ≤ fi ∧ fi ≤ 9223372036854775807) (hs : -9223372036854775808 ≤ si ∧ si ≤ 9223372036854775807) (hx : fi < 0 ∨ si < 1 ∨ si > (s.nb : Int) ∨ fi > (s.nb : Int) - si) :
    Calls Try.prog 35 #[.pointer (some ⟨q, 0, none⟩), .int .i64 fi, .int .i64 si, .int .u64 ep] w fun e w' => e = .returned (.tuple #[.pointer none, .int .i64 1]) ∧ Below w.heap.size w w' := by
 have H := Aside0.mk h
 clear h
 obtain ⟨nb, hnb'⟩ : ∃ nb, nb = s.nb := ⟨_, rfl⟩
 rw [← hnb'] at hx hnb
 have HB := Aside0.mk hnb'
 clear hnb'
 have BL := Aside0.mk (fun (e : Ending) (w' : World) (he : e = .returned (.int .i64 (s.nb : Int)) ∧ Below w.heap.size w w') => (by rw [← HB.out] at he; exact he : e = .returned (.int .i64 (nb : Int)) ∧ Below w.heap.size w w'))
 by_cases c1 : fi < 0
 · have c1b : decide (fi < 0) = true := decide_eq_true c1
   clear hx
   go_enter Try.func35, Try.ntmps35
   go_wp2_with (go_at_call 17; refine ((JO_Blocks H.out).mono BL.out).mono ?_; rintro e w1 ⟨rfl, hb⟩; have B1 := Aside0.mk hb; clear hb)
   go_ret2
   exact ⟨rfl, B1.out⟩
 have c1b : decide (fi < 0) = false := decide_eq_false c1
 by_cases c2 : si < 1
 · have c2b : decide (si < 1) = true := decide_eq_true c2
   clear hx
   go_enter Try.func35, Try.ntmps35
   go_wp2_with (go_at_call 17; refine ((JO_Blocks H.out).mono BL.out).mono ?_; rintro e w1 ⟨rfl, hb⟩; have B1 := Aside0.mk hb; clear hb)
   go_ret2
   exact ⟨rfl, B1.out⟩
 have c2b : decide (si < 1) = false := decide_eq_false c2
 by_cases c3 : si > (nb : Int)
 · have c3b : decide (si > (nb : Int)) = true := decide_eq_true c3
   have c3c : decide ((nb : Int) < si) = true := decide_eq_true c3
   clear hx
   go_enter Try.func35, Try.ntmps35
   go_wp2_with (go_at_call 17; refine ((JO_Blocks H.out).mono BL.out).mono ?_; rintro e w1 ⟨rfl, hb⟩; have B1 := Aside0.mk hb; clear hb)
   go_ret2
   exact ⟨rfl, B1.out⟩
 have c3b : decide (si > (nb : Int)) = false := decide_eq_false c3
 have c3c : decide ((nb : Int) < si) = false := decide_eq_false c3
 have c4 : fi > (nb : Int) - si := by omega
 have wq : wrap64 ((nb : Int) - si) = (nb : Int) - si := by unfold wrap64; omega
 have c4b : decide (fi > (nb : Int) - si) = true := decide_eq_true c4
 have c4c : decide ((nb : Int) - si < fi) = true := decide_eq_true c4
 clear hx
 go_enter Try.func35, Try.ntmps35
 go_wp2_with (go_at_call 17; refine ((JO_Blocks H.out).mono BL.out).mono ?_; rintro e w1 ⟨rfl, hb⟩; have B1 := Aside0.mk hb; clear hb)
 go_ret2
 exact ⟨rfl, B1.out⟩
theorem rec1_le {cs : List S106} {ep : Int} {b : List Int} {li : Int} {n : Nat} (h : rec1 cs ep = some (b, li, n)) : n ≤ cs.length := by
 unfold rec1 at h
 split at h
 · cases h
 split at h
 · cases h
 split at h
 · cases h
 split at h
 · cases h
 split at h
 · rename_i c3 _ _
   injection h with h
   injection h with h1 h
   injection h with h2 h
   omega
 cases h
theorem from106 (A : Option Addr) (n c en : Nat) (h : en ≤ n) (W : World) : (Instr.slice 62 (.slice A n c) (some (.int .i64 (en : Int))) none none).run Try.prog W = .ok (.slice (if c = en then A else A.map (·.add (en * 5))) (n - en) (c - en)) W := by
 obtain ⟨i, hi, he⟩ := Option.map_eq_some_iff.1 info106
 have h5 : i.size = 5 := congrArg (fun x => x.2.1) he
 have := cut_from (P := Try.prog) 62 106 .i64 Try.underlying62 hi 5 h5 A n c (en : Int) (by omega) (by omega) W
 rwa [Int.toNat_natCast] at this
def enOf (w : World) (p : Nat) : Nat := match w.cell? ⟨p, 5, none⟩ with | some v => (intOf v).toNat | none => 0
def opc (q fi si : Nat) (ep m : Int) (en : Nat) (v : Value) : Array Value := #[.pointer (some ⟨q, 0, none⟩), .int .i64 (fi : Int), .int .i64 (si : Int), .int .u64 ep, .int .u64 m, .int .i64 (en : Int), v, .bool false]
theorem lmax_succ (cs : List S106) {j : Nat} (hj : j < cs.length) : lmax (cs.take (j + 1)) = (if lmax (cs.take j) < cs[j].f1 then cs[j].f1 else lmax (cs.take j)) := by
 unfold lmax
 rw [List.take_succ_eq_append_getElem hj, List.foldl_append]
 rfl
theorem lmax_range {cs : List S106} (h : ∀ c ∈ cs, CellOk c) : 0 ≤ lmax cs ∧ lmax cs < 18446744073709551616 := by
 have : ∀ (l : List S106) (a : Int), (∀ c ∈ l, CellOk c) → 0 ≤ a → a < 18446744073709551616 → 0 ≤ l.foldl (fun m (c : S106) => if m < c.f1 then c.f1 else m) a ∧ l.foldl (fun m (c : S106) => if m < c.f1 then c.f1 else m) a < 18446744073709551616 := by
   intro l
   induction l with
   | nil => intro a _ h0 h1; exact ⟨h0, h1⟩
   | cons x l ih =>
     intro a hl h0 h1
     have hx := (hl x List.mem_cons_self).f1
     refine ih _ (fun c hc => hl c (List.mem_cons_of_mem _ hc)) ?_ ?_ <;> (dsimp only; split <;> omega)
 exact this cs 0 h (by decide) (by decide)
theorem rd106_at {cs : List S106} {j : Nat} (hj : j < cs.length) : rd_T106 cs (j : Int) = cs[j] := by
 unfold rd_T106
 rw [Int.toNat_natCast, List.getD_eq_getElem?_getD, List.getElem?_eq_getElem hj]; rfl
theorem cells_at {w : World} {OK : Nat → Prop} {A : Option Addr} {m c : Nat} {rows : List (List Int)} {cs : List S106} {k : Nat} (hm : m = rows.length) (hV : Kd.V kL 27 w 0 OK (.slice A m c) rows) (h : wal_cells.f k rows = some cs) :
    Calls Try.prog 67 #[.slice A m c] w fun e w' => ∃ (A' : Option Addr) (m' c' : Nat), e = .returned (.slice A' m' c') ∧ m' = cs.length ∧ Kd.V k106 106 w' 0 (fun k => w.heap.size ≤ k ∧ k < w'.heap.size) (.slice A' m' c') cs ∧ Below w.heap.size w w' := by
 subst hm
 obtain ⟨_, h2, h3⟩ := Kd.V_reads' hV
 refine (wal_cells.calls k A c rows cs w h3 h2 h).mono ?_
 rintro e w' ⟨v, rfl, hS, hb⟩
 obtain ⟨A', c', rfl⟩ := Kd.S_slice hS
 exact ⟨A', _, c', rfl, rfl, Kd.V_mono (Kd.R_V (Kd.R_bound (Kd.S_R hS))) (fun k hk => ⟨hk.2.1, hk.2.2.1⟩), hb⟩
set_option maxRecDepth 20000 in
set_option maxHeartbeats 40000000 in
theorem L_Open0 {w0 w : World} {q : Nat} {s : Dk} {O : Nat → Prop} (h : JO w0 w q s O) (X : Nat → Prop) (hX : ∀ k, X k → O k) (hby : CrcK.Bytes s.now) (ho : s.of = false) (fi si : Nat) (ep : Int) (h1 : 1 ≤ si) (h200 : si ≤ 200) (hf : fi + si ≤ s.nb) (cs : List S106) (hcs : cs = (secL s.now (fi * 4) (si * 4)).map decZ) (Q : Ending → World → Prop)
    (hbad : lmax cs = 18446744073709551615 → ∀ w', Below w.heap.size w w' → Q (.returned (.tuple #[.pointer none, .int .i64 8])) w')
    (hok : lmax cs < 18446744073709551615 → ∀ p w' l, l = (⟨fi, si, ep, lmax cs + 1, (prs ep (cs.length + 1) cs 0).2, (prs ep (cs.length + 1) cs 0).1, false, X⟩ : Wl) → LG w0 p q l s (fun k => O k ∨ (w.heap.size ≤ k ∧ k < w'.heap.size)) w' → w.heap.size ≤ p → Below w.heap.size w w' → Q (.returned (.tuple #[.pointer (some ⟨p, 0, none⟩), .int .i64 0])) w') :
    Calls Try.prog 35 #[.pointer (some ⟨q, 0, none⟩), .int .i64 (fi : Int), .int .i64 (si : Int), .int .u64 ep] w Q := by
 have H := Aside0.mk h
 have OKD := Aside0.mk (J_ok (JO_J h))
 have HO := Aside0.mk ho
 have HF := Aside0.mk hf
 have RB := Aside0.mk (show ∀ b ∈ secL s.now (fi * 4) (si * 4), CrcK.Bytes b from fun b hb => by
   unfold secL at hb
   obtain ⟨i, _, rfl⟩ := List.mem_map.1 hb
   exact CellLaws.by_take (CellLaws.by_drop hby _) _)
 have CL := Aside0.mk (show cs.length = si * 4 by rw [hcs, List.length_map, secL_len])
 have CO := Aside0.mk (show ∀ c ∈ cs, CellOk c from fun c hc => by
   rw [hcs] at hc
   obtain ⟨b, hb, rfl⟩ := List.mem_map.1 hc
   exact decZ_ok (RB.out b hb))
 have EV := Aside0.mk (show ∃ k, wal_cells.f k (secL s.now (fi * 4) (si * 4)) = some cs by rw [hcs]; exact (cells_ev _ RB.out (by rw [secL_len]; have := OKD.out.nb1; omega)).rounds)
 have HBAD := Aside0.mk hbad
 have HOK := Aside0.mk hok
 have HX0 := Aside0.mk hX
 obtain ⟨k0, hk0⟩ := EV.out
 have EV := Aside0.mk hk0
 obtain ⟨nb, hnb'⟩ : ∃ nb, nb = s.nb := ⟨_, rfl⟩
 have nb1 : nb ≤ 4096 := by rw [hnb']; exact OKD.out.nb1
 rw [← hnb'] at hf
 have HB := Aside0.mk hnb'
 have BL := Aside0.mk (fun (e : Ending) (w' : World) (he : e = .returned (.int .i64 (s.nb : Int)) ∧ Below w.heap.size w w') => (by rw [← HB.out] at he; exact he : e = .returned (.int .i64 (nb : Int)) ∧ Below w.heap.size w w'))
 have c1b : decide ((fi : Int) < 0) = false := decide_eq_false (by omega)
 have c2b : decide ((si : Int) < 1) = false := decide_eq_false (by omega)
 have c3b : decide ((si : Int) > (nb : Int)) = false := decide_eq_false (by omega)
 have c3c : decide ((nb : Int) < (si : Int)) = false := decide_eq_false (by omega)
 have c3d : decide (nb < si) = false := decide_eq_false (by omega)
 have wq : wrap64 ((nb : Int) - (si : Int)) = (nb : Int) - (si : Int) := by unfold wrap64; omega
 have c4b : decide ((fi : Int) > (nb : Int) - (si : Int)) = false := decide_eq_false (by omega)
 have c4c : decide ((nb : Int) - (si : Int) < (fi : Int)) = false := decide_eq_false (by omega)
 clear h ho hby hcs hbad hok hk0 hnb' hX
 go_enter Try.func35, Try.ntmps35
 go_upto_region 7 with (first | (go_at_call 17; refine ((JO_Blocks H.out).mono BL.out).mono ?_; rintro e w1 ⟨rfl, hb⟩; have B1 := Aside0.mk hb; clear hb) | (go_at_call 66; refine (L_read (JO_step H.out B1.out) HO.out fi si HF.out OKD.out.nb1 OKD.out.now).mono ?_; rintro e w2 ⟨AR, mR, cR, rfl, hm, hV, hb⟩; have MR := Aside0.mk hm; have VR := Aside0.mk hV; have B2 := Aside0.mk (below_step B1.out hb); clear hm hV hb))
 go_upto_region 8 with (fail)
 obtain ⟨p, hp⟩ : ∃ p, p = w2.heap.size := ⟨_, rfl⟩
 obtain ⟨W3, hW3⟩ : ∃ W3, W3 = w2.alloc (.cells (opc q fi si ep 0 0 (.slice none 0 0)) 115) := ⟨_, rfl⟩
 have P3 := Aside0.mk (show W3.heap[p]? = some (.cells (opc q fi si ep 0 0 (.slice none 0 0)) 115 (0, 0)) by rw [hW3, hp]; exact blk_new _ _)
 have B3 := Aside0.mk (show Below w.heap.size w W3 by rw [hW3]; exact below_step B2.out (below_alloc (Below.refl _ _) _))
 have LP := Aside0.mk (show w.heap.size ≤ p by rw [hp]; exact B2.out.size)
 have VR3 := Aside0.mk (show Kd.V kL 27 W3 0 (fun k => w1.heap.size ≤ k) (.slice AR mR cR) (secL s.now (fi * 4) (si * 4)) by rw [hW3]; exact Kd.V_below VR.out (below_alloc (Below.refl _ _) _))
 have MR2 := Aside0.mk (show mR = (secL s.now (fi * 4) (si * 4)).length by rw [secL_len]; exact MR.out)
 have eW : w2.alloc (.cells #[.pointer (some ⟨q, 0, none⟩), .int .i64 (fi : Int), .int .i64 (si : Int), .int .u64 ep, .int .u64 0, .int .i64 0, .slice none 0 0, .bool false] 115) = W3 := hW3.symm
 rw [eW, ← hp]
 clear hW3 hp eW VR
 go_upto_block 0 with (go_at_call 67; refine (cells_at MR2.out VR3.out EV.out).mono ?_; rintro e w4 ⟨AC, mC, cC, rfl, hm, hV, hb⟩; have MC := Aside0.mk hm; have VC := Aside0.mk hV; have B4 := Aside0.mk (below_step B3.out hb); have P4 := Aside0.mk (blk_below P3.out hb); have LT := Aside0.mk (show p < W3.heap.size from blk_lt P3.out); have S4 := Aside0.mk hb.size; clear hm hV hb)
 clear VR3 P3 B3 MR MR2
 obtain ⟨z0, hz0⟩ : ∃ z, z = W3.heap.size := ⟨_, rfl⟩
 obtain ⟨z1, hz1⟩ : ∃ z, z = w4.heap.size := ⟨_, rfl⟩
 rw [← hz0, ← hz1] at VC
 rw [← hz0] at LT
 have Z1 := Aside0.mk (show z1 ≤ w4.heap.size from Nat.le_of_eq hz1)
 have Z01 := Aside0.mk (show z0 ≤ z1 by rw [hz0, hz1]; exact S4.out)
 clear hz0 hz1 S4
 have mcb : mC ≤ 16384 := by have h1 := MC.out; have h2 := CL.out; omega
 go_wp2
 go_loopw [16, 61] (fun v16 v61 wr => ∃ (j : Nat) (m : Int), v61 = .int .i64 (j : Int) ∧ j ≤ mC ∧ Aside0 (m = lmax (cs.take j)) ∧ Aside0 (wr.heap[p]? = some (.cells (opc q fi si ep m 0 (.slice none 0 0)) 115 (0, 0))) ∧ Aside0 (Kd.V k106 106 wr 0 (fun k => z0 ≤ k ∧ k < z1) (.slice AC mC cC) cs) ∧ Aside0 (Below w.heap.size w wr) ∧ Aside0 (z1 ≤ wr.heap.size)) (fun v16 v61 _ => mC - (intOf v61).toNat)
 case atStart => exact ⟨0, 0, rfl, Nat.zero_le _, ⟨rfl⟩, P4, VC, B4, Z1⟩
 clear P4 VC B4 Z1
 obtain ⟨j, m, rfl, hj, HMX, PJ, VJ, BJ, ZJ⟩ := hrel
 by_cases d : j < mC
 · have d1 : (j : Int) < (mC : Int) := by omega
   have db : decide (j < mC) = true := decide_eq_true d
   have DD := Aside0.mk d
   have JL := Aside0.mk (show j < cs.length by rw [← MC.out]; exact d)
   obtain ⟨ad, A4, c4, eA, y0, y1, y2, y3, y4, l4, C4⟩ := at_T106 (show Kd.C k106 wr AC mC cs from by rw [MC.out]; exact (Kd.V_reads' VJ.out).2.2) (j : Int) (by omega) d1
   subst eA
   rw [rd106_at JL.out, Int.toNat_natCast] at y0 y1 y2 y3 y4
   obtain ⟨x, hx⟩ : ∃ x, x = cs[j]'JL.out := ⟨_, rfl⟩
   have MS := Aside0.mk (lmax_succ cs JL.out)
   have XO := Aside0.mk (show CellOk x by rw [hx]; exact CO.out _ (List.getElem_mem _))
   rw [← hx] at y0 y1 y2 y3 y4 MS
   rw [← HMX.out] at MS
   obtain ⟨x0, x1, x2, x3, x4⟩ := x
   dsimp only at y0 y1 y2 y3 y4 MS
   obtain ⟨m4, hm4⟩ : ∃ m4, m4 = x4.length := ⟨_, rfl⟩
   rw [← hm4] at y4
   have ZL := Aside0.mk (show p < z1 from Nat.lt_of_lt_of_le LT.out Z01.out)
   clear hx l4 C4 hm4 d
   go_upto_region 12 with (fail)
   obtain ⟨g, hg⟩ : ∃ g, g = wr.heap.size := ⟨_, rfl⟩
   obtain ⟨W1, hW1⟩ : ∃ W1, W1 = wr.alloc (.cells #[.int .u64 x0, .int .u64 x1, .int .i64 x2, .int .i64 x3, .slice A4 m4 c4] 106) := ⟨_, rfl⟩
   have hb1 := below_alloc (Below.refl wr.heap.size wr) (.cells #[.int .u64 x0, .int .u64 x1, .int .i64 x2, .int .i64 x3, .slice A4 m4 c4] 106)
   have GX := Aside0.mk (show W1.drew.heap[g]? = some (.cells #[.int .u64 x0, .int .u64 x1, .int .i64 x2, .int .i64 x3, .slice A4 m4 c4] 106 (0, 0)) by rw [hW1, hg]; exact blk_new _ _)
   have PX := Aside0.mk (show W1.drew.heap[p]? = some (.cells (opc q fi si ep m 0 (.slice none 0 0)) 115 (0, 0)) by rw [hW1]; exact blk_below PJ.out (below_step hb1 (below_drew (Below.refl _ _))))
   have BX := Aside0.mk (show Below w.heap.size w W1.drew by rw [hW1]; exact below_step BJ.out (below_step hb1 (below_drew (Below.refl _ _))))
   have VX := Aside0.mk (show Kd.V k106 106 W1.drew 0 (fun k => z0 ≤ k ∧ k < z1) (.slice (some ad) mC cC) cs by rw [hW1]; exact Kd.V_below VJ.out (below_step hb1 (below_drew (Below.refl _ _))))
   have ZX := Aside0.mk (show z1 ≤ W1.drew.heap.size by rw [hW1]; exact Nat.le_trans ZJ.out (below_step hb1 (below_drew (Below.refl _ _))).size)
   rw [← hW1, ← hg]
   clear hW1 hg hb1 y0 y1 y2 y3 y4 PJ BJ VJ ZJ
   by_cases lt : m < x1
   · have lt1 : decide (m < x1) = true := decide_eq_true lt
     have MS := Aside0.mk (show lmax (cs.take (j + 1)) = x1 by have := MS.out; rw [if_pos lt] at this; exact this)
     refine start_ (n := 11) (S := fun w' => w'.cell? ⟨p, 4, none⟩ = some (.int .u64 m) ∧ w'.cell? ⟨g, 1, none⟩ = some (.int .u64 x1)) (ds := [10]) #[false, false, false, false, false, false, false, false, false, false, false] (by kernel_rfl) rfl rfl ⟨((blk_cell PX.out 4).trans rfl), ((blk_cell GX.out 1).trans rfl)⟩ (fun hHeld => ?_)
     generalize W1.drew = W2 at hHeld BX PX GX VX ZX ⊢
     have fz := fun i => blk_frozen PX.out i
     have y4 : W2.cell? ⟨p, 4, none⟩ = some (.int .u64 m) := (blk_cell PX.out 4).trans rfl
     refine pu 0 (some 65) (bm 11 1) ?_
     refine pu 1 (some 66) (bm 11 3) ?_
     refine pu 2 (some 67) (bm 11 7) ?_
     refine pu 3 (some 68) (bm 11 15) ?_
     refine pu 5 (some 70) (bm 11 47) ?_
     refine take_ (i := 4) (N := some 69) (v := ?_) (a' := ?_) #[true, true, true, true, true, true, false, false, false, false, false] rfl rfl (by kernel_rfl) (fun _ _ _ h => h) (Or.inl ⟨by rfl, ?_⟩) hHeld ?_ ?_
     rotate_left
     · rintro w' ⟨s0, s1⟩
       go_simp
       with_reducible rfl
     rotate_left
     · simp only [Act.put, List.setIfInBounds_toArray, List.set_cons_zero, List.set_cons_succ, i64_w, i32_w]
       rfl
     refine take_ (i := 6) (N := some 71) (v := ?_) (a' := ?_) #[true, true, true, true, true, true, true, false, false, false, false] rfl rfl (by kernel_rfl) (fun _ _ _ h => h) (Or.inl ⟨by rfl, ?_⟩) hHeld ?_ ?_
     rotate_left
     · rintro w' ⟨s0, s1⟩
       go_simp
       with_reducible rfl
     rotate_left
     · simp only [Act.put, List.setIfInBounds_toArray, List.set_cons_zero, List.set_cons_succ, i64_w, i32_w]
       rfl
     refine pu 7 (some 72) (bm 11 255) ?_
     refine pu 8 (some 73) (bm 11 511) ?_
     refine pu 9 (some 74) (bm 11 1023) ?_
     refine last_ (i := 10) (N := none) #[true, true, true, true, true, true, true, true, true, true, true] rfl rfl (by kernel_rfl) (by decide) (fun K hK => ?_)
     refine skip_ (w1 := ?_) (by rfl) rfl ?_ ?_
     rotate_left
     · go_simp
       rfl
     refine hK.out _ _ ?_
     clear hK K
     refine done_ (by kernel_rfl) ?_
     go_wp2
     go_roundw
     case rel => exact ⟨j + 1, x1, by go_num, DD.out, ⟨MS.out.symm⟩, ⟨blk_put PX.out 4 _ rfl⟩, ⟨Kd.V_step VX.out (fun k hk _ => Below.heap_setCell W2 ⟨p, 4, none⟩ _ k (Nat.ne_of_gt (Nat.lt_of_lt_of_le LT.out hk.1)))⟩, ⟨below_set BX.out LP.out⟩, ⟨by have := ZX.out; simpa using this⟩⟩
     case measure => have := DD.out; simp [intOf]; omega
   have lt1 : decide (m < x1) = false := decide_eq_false lt
   have MS := Aside0.mk (show lmax (cs.take (j + 1)) = m by have := MS.out; rw [if_neg lt] at this; exact this)
   refine start_ (n := 11) (S := fun w' => w'.cell? ⟨p, 4, none⟩ = some (.int .u64 m) ∧ w'.cell? ⟨g, 1, none⟩ = some (.int .u64 x1)) (ds := [10]) #[false, false, false, false, false, false, false, false, false, false, false] (by kernel_rfl) rfl rfl ⟨((blk_cell PX.out 4).trans rfl), ((blk_cell GX.out 1).trans rfl)⟩ (fun hHeld => ?_)
   generalize W1.drew = W2 at hHeld BX PX GX VX ZX ⊢
   have fz := fun i => blk_frozen PX.out i
   have y4 : W2.cell? ⟨p, 4, none⟩ = some (.int .u64 m) := (blk_cell PX.out 4).trans rfl
   refine pu 0 (some 65) (bm 11 1) ?_
   refine pu 1 (some 66) (bm 11 3) ?_
   refine pu 2 (some 67) (bm 11 7) ?_
   refine pu 3 (some 68) (bm 11 15) ?_
   refine pu 5 (some 70) (bm 11 47) ?_
   refine take_ (i := 4) (N := some 69) (v := ?_) (a' := ?_) #[true, true, true, true, true, true, false, false, false, false, false] rfl rfl (by kernel_rfl) (fun _ _ _ h => h) (Or.inl ⟨by rfl, ?_⟩) hHeld ?_ ?_
   rotate_left
   · rintro w' ⟨s0, s1⟩
     go_simp
     with_reducible rfl
   rotate_left
   · simp only [Act.put, List.setIfInBounds_toArray, List.set_cons_zero, List.set_cons_succ, i64_w, i32_w]
     rfl
   refine take_ (i := 6) (N := some 71) (v := ?_) (a' := ?_) #[true, true, true, true, true, true, true, false, false, false, false] rfl rfl (by kernel_rfl) (fun _ _ _ h => h) (Or.inl ⟨by rfl, ?_⟩) hHeld ?_ ?_
   rotate_left
   · rintro w' ⟨s0, s1⟩
     go_simp
     with_reducible rfl
   rotate_left
   · simp only [Act.put, List.setIfInBounds_toArray, List.set_cons_zero, List.set_cons_succ, i64_w, i32_w]
     rfl
   refine pu 7 (some 72) (bm 11 255) ?_
   refine pu 8 (some 73) (bm 11 511) ?_
   refine pu 9 (some 74) (bm 11 1023) ?_
   refine last_ (i := 10) (N := none) #[true, true, true, true, true, true, true, true, true, true, true] rfl rfl (by kernel_rfl) (by decide) (fun K hK => ?_)
   refine skip_ (w1 := ?_) (by rfl) rfl ?_ ?_
   rotate_left
   · go_simp
     rfl
   refine hK.out _ _ ?_
   clear hK K
   refine done_ (by kernel_rfl) ?_
   go_wp2
   go_roundw
   case rel => exact ⟨j + 1, m, by go_num, DD.out, ⟨MS.out.symm⟩, ⟨blk_put PX.out 4 _ rfl⟩, ⟨Kd.V_step VX.out (fun k hk _ => Below.heap_setCell W2 ⟨p, 4, none⟩ _ k (Nat.ne_of_gt (Nat.lt_of_lt_of_le LT.out hk.1)))⟩, ⟨below_set BX.out LP.out⟩, ⟨by have := ZX.out; simpa using this⟩⟩
   case measure => have := DD.out; simp [intOf]; omega
 have d1 : ¬ (j : Int) < (mC : Int) := by omega
 have db : decide (j < mC) = false := decide_eq_false d
 have MM := Aside0.mk (show m = lmax cs by have := HMX.out; rw [List.take_of_length_le (by rw [← MC.out]; omega)] at this; exact this)
 have MRG := Aside0.mk (show 0 ≤ m ∧ m < 18446744073709551616 by rw [MM.out]; exact lmax_range CO.out)
 have y4 : wr.cell? ⟨p, 4, none⟩ = some (.int .u64 m) := (blk_cell PJ.out 4).trans rfl
 have fz := fun i => blk_frozen PJ.out i
 clear d hj HMX
 by_cases big : m = 18446744073709551615
 · have BG := Aside0.mk big
   have wq2 : IntKind.u64.wrap (m + 1) = 0 := by rw [big]; decide
   have KB : Aside0 ((wr.setCell ⟨p, 4, none⟩ (.int .u64 0)).heap[p]? = some (.cells (opc q fi si ep 0 0 (.slice none 0 0)) 115 (0, 0))) := ⟨blk_put PJ.out 4 _ rfl⟩
   have x4 : (wr.setCell ⟨p, 4, none⟩ (.int .u64 0)).cell? ⟨p, 4, none⟩ = some (.int .u64 0) := (blk_cell KB.out 4).trans rfl
   clear big
   go_wp2
   exact HBAD.out (by rw [← MM.out]; exact BG.out) _ (below_set BJ.out LP.out)
 have LT2 := Aside0.mk (show lmax cs < 18446744073709551615 by rw [← MM.out]; have := MRG.out; omega)
 have wq2 : IntKind.u64.wrap (m + 1) = m + 1 := CellLaws.u64w (by have h1 := MRG.out; omega) (by have h1 := MRG.out; omega)
 have nz : ((m + 1 : Int) == 0) = false := by have h1 := MRG.out; simp; omega
 obtain ⟨W5, hW5⟩ : ∃ W5, W5 = wr.setCell ⟨p, 4, none⟩ (.int .u64 (m + 1)) := ⟨_, rfl⟩
 have P5 := Aside0.mk (show W5.heap[p]? = some (.cells (opc q fi si ep (m + 1) 0 (.slice none 0 0)) 115 (0, 0)) by rw [hW5]; exact blk_put PJ.out 4 _ rfl)
 have B5 := Aside0.mk (show Below w.heap.size w W5 by rw [hW5]; exact below_set BJ.out LP.out)
 have V5 := Aside0.mk (show Kd.V k106 106 W5 0 (fun k => z0 ≤ k ∧ k < z1) (.slice AC mC cC) cs by rw [hW5]; exact Kd.V_step VJ.out (fun k hk _ => Below.heap_setCell wr ⟨p, 4, none⟩ _ k (Nat.ne_of_gt (Nat.lt_of_lt_of_le LT.out hk.1))))
 have Z5 := Aside0.mk (show z1 ≤ W5.heap.size by rw [hW5]; simpa using ZJ.out)
 have x4 : W5.cell? ⟨p, 4, none⟩ = some (.int .u64 (m + 1)) := (blk_cell P5.out 4).trans rfl
 have HM1 := Aside0.mk (show m + 1 = lmax cs + 1 by rw [MM.out])
 clear big MM
 go_upto_region 15 with (fail)
 rw [← hW5]
 clear hW5 y4 fz PJ BJ VJ ZJ
 go_upto_region 17 with (fail)
 clear x4 nz wq2 c1b c2b c3b c3c c3d c4b c4c wq
 have FIN := Aside0.mk (show ∃ k, cs.length < 0 + k ∧ [] ++ (prs ep k (cs.drop 0) 0).1 = (prs ep (cs.length + 1) cs 0).1 ∧ 0 + (prs ep k (cs.drop 0) 0).2 = (prs ep (cs.length + 1) cs 0).2 from ⟨cs.length + 1, by omega, by simp, by simp⟩)
 obtain ⟨RS, hRS⟩ : ∃ RS, RS = (prs ep (cs.length + 1) cs 0).1 := ⟨_, rfl⟩
 obtain ⟨EN, hEN⟩ : ∃ EN, EN = (prs ep (cs.length + 1) cs 0).2 := ⟨_, rfl⟩
 rw [← hRS, ← hEN] at FIN HOK
 obtain ⟨mm, hmm⟩ : ∃ mm, mm = m + 1 := ⟨_, rfl⟩
 rw [← hmm] at P5 HM1
 clear hRS hEN hmm MRG
 go_wp2
 go_loopw [17, 18, 19, 20] (fun v17 v18 v19 v20 wr => ∃ (en : Nat) (rs : List (List Int)) (least : Int) (AV : Option Addr) (mV cV : Nat), v17 = .int .u64 least ∧ Aside0 (en ≤ mC ∧ rs.length ≤ en) ∧ Aside0 (∃ k, cs.length < en + k ∧ rs ++ (prs ep k (cs.drop en) least).1 = RS ∧ en + (prs ep k (cs.drop en) least).2 = EN) ∧ Aside0 (wr.heap[p]? = some (.cells (opc q fi si ep mm en (.slice AV mV cV)) 115 (0, 0))) ∧ Aside0 (mV = rs.length) ∧ Aside0 (Kd.N kL 27 wr w.heap.size (fun k => z1 ≤ k) (.slice AV mV cV) rs) ∧ Aside0 (Kd.V k106 106 wr 0 (fun k => z0 ≤ k ∧ k < z1) (.slice AC mC cC) cs) ∧ Aside0 (Below w.heap.size w wr) ∧ Aside0 (z1 ≤ wr.heap.size)) (fun v17 v18 v19 v20 wr => mC - enOf wr p)
 case atStart => exact ⟨0, [], 0, none, 0, 0, rfl, ⟨Nat.zero_le _, Nat.le_refl _⟩, FIN, P5, ⟨rfl⟩, ⟨Kd.N_nil _ _ _ _ _⟩, V5, B5, Z5⟩
 clear FIN P5 B5 V5 Z5
 obtain ⟨en, rs, least, AV, mV, cV, rfl, EL, FIN, PJ, MV, NJ, VJ, BJ, ZJ⟩ := hrel
 have y5 : wr.cell? ⟨p, 5, none⟩ = some (.int .i64 (en : Int)) := (blk_cell PJ.out 5).trans rfl
 have emc : en ≤ mC := EL.out.1
 have cC1 : mC ≤ cC := (Kd.V_reads' VJ.out).2.1
 obtain ⟨AX, hAX⟩ : ∃ AX, AX = (if cC = en then AC else AC.map (·.add (en * 5))) := ⟨_, rfl⟩
 have kc : ∀ W : World, (Instr.slice 62 (.slice AC mC cC) (some (.int .i64 (en : Int))) none none).run Try.prog W = .ok (.slice AX (mC - en) (cC - en)) W := fun W => by
   rw [hAX]; exact from106 AC mC cC en emc W
 have DL := Aside0.mk (show mC - en = (cs.drop en).length by rw [List.length_drop, ← MC.out])
 have CX := Aside0.mk (show Kd.C k106 wr AX (mC - en) (cs.drop en) by
   have h1 := (Kd.V_at VJ.out).2.2
   have h2 := Kd.F_now (Kd.F_cut (m := en) (c := cC) h1 (by rw [← MC.out]; exact emc) (by rw [← MC.out]; exact cC1))
   rw [DL.out, hAX]
   exact h2)
 clear hAX
 go_upto_region 19 with (go_at_call 68; refine (L_record DL.out (by omega) CX.out ep (by rw [List.length_drop]; have := CL.out; omega) (fun c hc => CO.out c (List.mem_of_mem_drop hc))).mono ?_; rintro e w6 ⟨A2, m2, c2, b, r2, r3, r4, r5, A5, m5, c5, ok, rfl, hrc, hR, hb⟩; have RC := Aside0.mk hrc; have R6 := Aside0.mk hR; have B6 := Aside0.mk (below_step BJ.out hb); have HB6 := Aside0.mk hb; clear hrc hR hb)
 obtain ⟨g, hg⟩ : ∃ g, g = w6.heap.size := ⟨_, rfl⟩
 obtain ⟨W7, hW7⟩ : ∃ W7, W7 = w6.alloc (.cells #[.int .u64 r2, .int .u64 r3, .int .i64 r4, .int .i64 r5, .slice A5 m5 c5] 106) := ⟨_, rfl⟩
 have hb67 := below_alloc (Below.refl w6.heap.size w6) (.cells #[.int .u64 r2, .int .u64 r3, .int .i64 r4, .int .i64 r5, .slice A5 m5 c5] 106)
 have hb7 := below_step HB6.out hb67
 have GX := Aside0.mk (show W7.heap[g]? = some (.cells #[.int .u64 r2, .int .u64 r3, .int .i64 r4, .int .i64 r5, .slice A5 m5 c5] 106 (0, 0)) by rw [hW7, hg]; exact blk_new _ _)
 have P7 := Aside0.mk (show W7.heap[p]? = some (.cells (opc q fi si ep mm en (.slice AV mV cV)) 115 (0, 0)) by rw [hW7]; exact blk_below PJ.out hb7)
 have B7 := Aside0.mk (show Below w.heap.size w W7 by rw [hW7]; exact below_step BJ.out hb7)
 have V7 := Aside0.mk (show Kd.V k106 106 W7 0 (fun k => z0 ≤ k ∧ k < z1) (.slice AC mC cC) cs by rw [hW7]; exact Kd.V_below VJ.out hb7)
 have N7 := Aside0.mk (show Kd.N kL 27 W7 w.heap.size (fun k => z1 ≤ k) (.slice AV mV cV) rs by rw [hW7]; exact Kd.N_below NJ.out hb7)
 have Z7 := Aside0.mk (show z1 ≤ W7.heap.size by rw [hW7]; exact Nat.le_trans ZJ.out hb7.size)
 have R7 := Aside0.mk (show Kd.R (Kd.int .u8) 5 W7 z1 (fun k => k < g) (.slice A2 m2 c2) b by rw [hW7, hg]; exact Kd.R_lower (Kd.R_mono (Kd.R_bound (Kd.R_below (Kd.R_mono (Kd.R_bound R6.out) (fun k hk => hk.2.2.1)) hb67)) (fun k hk => hk.1)) ZJ.out)
 have G7 := Aside0.mk (show g < W7.heap.size ∧ z1 ≤ g from ⟨blk_lt GX.out, by rw [hg]; exact Nat.le_trans ZJ.out HB6.out.size⟩)
 have x1 : W7.cell? ⟨g, 1, none⟩ = some (.int .u64 r3) := (blk_cell GX.out 1).trans rfl
 have EM := Aside0.mk (show enOf wr p = en by have y : wr.cell? ⟨p, 5, none⟩ = some (.int .i64 (en : Int)) := (blk_cell PJ.out 5).trans rfl; unfold enOf; rw [y]; exact Int.toNat_natCast en)
 rw [← hW7, ← hg]
 clear hW7 hg hb67 hb7 PJ NJ VJ BJ ZJ R6 B6 HB6 kc y5 CX DL emc cC1
 rcases RC.out with ⟨hr, rfl⟩ | ⟨nn, hr, rfl, rfl, hn0⟩
 · have HRN := Aside0.mk hr
   clear hr
   have FIN2 := Aside0.mk (show rs = RS ∧ en = EN from by
     obtain ⟨k, h1, h2, h3⟩ := FIN.out
     obtain ⟨k, rfl⟩ : ∃ k', k = k' + 1 := ⟨k - 1, by have := EL.out.1; have := MC.out; omega⟩
     have hp : prs ep (k + 1) (cs.drop en) least = ([], 0) := by rw [prs, HRN.out]
     rw [hp] at h2 h3
     exact ⟨by simpa using h2, by simpa using h3⟩)
   clear FIN
   go_wp2
   exact HOK.out LT2.out p W7 _ rfl ⟨AV, mV, cV, fun k => z1 ≤ k ∧ k < W7.heap.size, JO_deep H.out B7.out, by rw [← FIN2.out.1, ← FIN2.out.2, ← HM1.out]; exact P7.out, .inr ⟨LP.out, blk_lt P7.out⟩, Nat.le_trans (JO_below H.out).size LP.out, fun k hk => ⟨.inr ⟨Nat.le_trans LP.out (Nat.le_of_lt (Nat.lt_of_lt_of_le (Nat.lt_of_lt_of_le LT.out Z01.out) hk.1)), hk.2⟩, Nat.ne_of_gt (Nat.lt_of_lt_of_le (Nat.lt_of_lt_of_le LT.out Z01.out) hk.1), fun hx => Nat.lt_irrefl k (Nat.lt_of_lt_of_le (JO_O H.out (HX0.out k hx)) (Nat.le_trans LP.out (Nat.le_of_lt (Nat.lt_of_lt_of_le (Nat.lt_of_lt_of_le LT.out Z01.out) hk.1))))⟩, by rw [← FIN2.out.1]; exact Kd.V_bound (Kd.N_V N7.out), by rw [← FIN2.out.1]; exact MV.out, fun k hk => .inl (HX0.out k hk)⟩ LP.out B7.out
 by_cases lt : r3 < least
 · have lt1 : decide (r3 < least) = true := decide_eq_true lt
   have HRN := Aside0.mk hr
   have LTT := Aside0.mk lt
   clear hr lt hn0
   have FIN2 := Aside0.mk (show rs = RS ∧ en = EN from by
     obtain ⟨k, h1, h2, h3⟩ := FIN.out
     obtain ⟨k, rfl⟩ : ∃ k', k = k' + 1 := ⟨k - 1, by have := EL.out.1; have := MC.out; omega⟩
     have hp : prs ep (k + 1) (cs.drop en) least = ([], 0) := by rw [prs, HRN.out]; exact if_pos LTT.out
     rw [hp] at h2 h3
     exact ⟨by simpa using h2, by simpa using h3⟩)
   clear FIN
   go_wp2
   exact HOK.out LT2.out p W7 _ rfl ⟨AV, mV, cV, fun k => z1 ≤ k ∧ k < W7.heap.size, JO_deep H.out B7.out, by rw [← FIN2.out.1, ← FIN2.out.2, ← HM1.out]; exact P7.out, .inr ⟨LP.out, blk_lt P7.out⟩, Nat.le_trans (JO_below H.out).size LP.out, fun k hk => ⟨.inr ⟨Nat.le_trans LP.out (Nat.le_of_lt (Nat.lt_of_lt_of_le (Nat.lt_of_lt_of_le LT.out Z01.out) hk.1)), hk.2⟩, Nat.ne_of_gt (Nat.lt_of_lt_of_le (Nat.lt_of_lt_of_le LT.out Z01.out) hk.1), fun hx => Nat.lt_irrefl k (Nat.lt_of_lt_of_le (JO_O H.out (HX0.out k hx)) (Nat.le_trans LP.out (Nat.le_of_lt (Nat.lt_of_lt_of_le (Nat.lt_of_lt_of_le LT.out Z01.out) hk.1))))⟩, by rw [← FIN2.out.1]; exact Kd.V_bound (Kd.N_V N7.out), by rw [← FIN2.out.1]; exact MV.out, fun k hk => .inl (HX0.out k hk)⟩ LP.out B7.out
 have lt1 : decide (r3 < least) = false := decide_eq_false lt
 have HRN := Aside0.mk hr
 have LTT := Aside0.mk lt
 have NN0 := Aside0.mk hn0
 clear hr lt hn0
 obtain ⟨e2, _, _⟩ := Kd.R_reads' R7.out
 have FKb := Aside0.mk (show Kd.FK kL W7 (fun k => some k = (Value.slice A2 m2 c2).ownBlock) b [.slice A2 m2 c2] from by
   have h1 := Kd.R_reads' R7.out
   have h2 := Kd.R_F (Kd.R_tight rfl R7.out)
   rw [e2] at h2 ⊢
   exact Kd.FK_slice_mk (by rw [← e2]; exact h1.2.1) h2)
 clear e2
 have y6 : W7.cell? ⟨p, 6, none⟩ = some (.slice AV mV cV) := (blk_cell P7.out 6).trans rfl
 have NP := Aside0.mk (fun (e : some p = (Value.slice AV mV cV).ownBlock) => (by obtain ⟨cc, hc⟩ := Kd.N_typed N7.out p e.symm; exact absurd rfl (blk_ne P7.out hc (by decide)) : False))
 have NG := Aside0.mk (fun (e : some g = (Value.slice AV mV cV).ownBlock) => (by obtain ⟨cc, hc⟩ := Kd.N_typed N7.out g e.symm; exact absurd rfl (blk_ne GX.out hc (by decide)) : False))
 have RSL := Aside0.mk (show rs.length ≤ 16384 by have h1 := EL.out; omega)
 have VN := Aside0.mk (show ∀ k, some k = (Value.slice AV mV cV).ownBlock → ¬ (z0 ≤ k ∧ k < z1) from fun k e hk => by
   rcases Nat.eq_zero_or_pos mV with h0 | h0
   · exact absurd hk.2 (by have := (show z1 ≤ k from N7.out.1 k e.symm); omega)
   · exact absurd hk.2 (by have := (show z1 ≤ k from N7.out.1 k e.symm); omega))
 go_upto_region 23 with ((with_reducible refine gate_builtin (b := .append) (xs := #[.tmp 115, .tmp 117]) rfl ?_); at_builtin; refine Kd.N_append kL (w0 := w) w.heap.size rfl (.tmp 115) (.tmp 117) 46 27 (.slice none 0 0) 24 rfl Try.underlying46 info27w rfl (by decide) (by omega) (.slice AV mV cV) rs b _ (fun k => z1 ≤ k) (fun k => some k = (Value.slice A2 m2 c2).ownBlock) rfl rfl FKb.out ?aK ?aF N7.out B7.out B7.out.size ?aL ?_; (case aK => exact fun k hk => ⟨Kd.R_base R7.out k hk.symm, fun e => by obtain ⟨c5', h5'⟩ := Kd.R_typed R7.out k hk.symm; obtain ⟨c6', h6'⟩ := Kd.N_typed N7.out k e.symm; exact absurd rfl (blk_ne h5' h6' (by decide))⟩); (case aF => exact fun k hk => Nat.le_trans Z7.out hk); (case aL => have h1 := RSL.out; omega); intro v9 w8 hN hb hg hat; have N8 := Aside0.mk hN; have B8 := Aside0.mk hb; have P8 := Aside0.mk (blk_grown P7.out hg (fun e => NP.out e)); have G8 := Aside0.mk (blk_grown GX.out hg (fun e => NG.out e)); have V8 := Aside0.mk (Kd.V_step V7.out (fun k hk hl => hg.block k hl (fun e => VN.out k e hk))); have Z8 := Aside0.mk (Nat.le_trans Z7.out hg.size); obtain ⟨A9, c9, e9⟩ := Kd.N_slice hN; obtain ⟨m9, hm9⟩ : ∃ m9, m9 = (rs ++ [b]).length := ⟨_, rfl⟩; have M9 := Aside0.mk hm9; rw [← hm9] at e9; subst e9; have f6 := blk_frozen P8.out 6; have u6 : w8.cell? ⟨p, 6, none⟩ = some (.slice AV mV cV) := (blk_cell P8.out 6).trans rfl; clear hN hb hg hat hm9 y6)
 clear f6 u6 x1
 obtain ⟨W1, hW1⟩ : ∃ W1, W1 = w8.setCell ⟨p, 6, none⟩ (.slice A9 m9 c9) := ⟨_, rfl⟩
 have PX := Aside0.mk (show W1.drew.heap[p]? = some (.cells (opc q fi si ep mm en (.slice A9 m9 c9)) 115 (0, 0)) by rw [hW1]; exact blk_put P8.out 6 _ rfl)
 have pg : g ≠ p := fun e => by have h1 := G7.out.2; have h2 := LT.out; have h3 := Z01.out; omega
 have GX2 := Aside0.mk (show W1.drew.heap[g]? = some (.cells #[.int .u64 r2, .int .u64 r3, .int .i64 r4, .int .i64 (nn : Int), .slice A5 m5 c5] 106 (0, 0)) by rw [hW1]; exact blk_far (p := ⟨p, 6, none⟩) G8.out pg _)
 have BX := Aside0.mk (show Below w.heap.size w W1.drew by rw [hW1]; exact below_step (below_set B8.out LP.out) (below_drew (Below.refl _ _)))
 have VX := Aside0.mk (show Kd.V k106 106 W1.drew 0 (fun k => z0 ≤ k ∧ k < z1) (.slice AC mC cC) cs by rw [hW1]; exact Kd.V_step V8.out (fun k hk _ => Below.heap_setCell w8 ⟨p, 6, none⟩ _ k (Nat.ne_of_gt (Nat.lt_of_lt_of_le LT.out hk.1))))
 have NX := Aside0.mk (show Kd.N kL 27 W1.drew w.heap.size (fun k => z1 ≤ k) (.slice A9 m9 c9) (rs ++ [b]) by rw [hW1]; exact Kd.N_below (Kd.N_step N8.out (fun k hk _ => Below.heap_setCell w8 ⟨p, 6, none⟩ _ k (Nat.ne_of_gt (Nat.lt_of_lt_of_le (Nat.lt_of_lt_of_le LT.out Z01.out) hk)))) (below_drew (Below.refl _ _)))
 have ZX := Aside0.mk (show z1 ≤ W1.drew.heap.size by rw [hW1]; simpa using Z8.out)
 have NNB := Aside0.mk (show en + nn ≤ mC ∧ 0 < nn from by
   have h1 := rec1_le HRN.out
   rw [List.length_drop, ← MC.out] at h1
   have := EL.out.1
   have h3 := NN0.out
   omega)
 have wen : wrap64 ((en : Int) + (nn : Int)) = ((en + nn : Nat) : Int) := by have h1 := NNB.out; unfold wrap64; omega
 rw [← hW1]
 clear hW1 P8 G8 B8 V8 N8 Z8 P7 B7 V7 N7 Z7 R7 GX pg FKb NP NG VN
 refine start_ (n := 10) (S := fun w' => w'.cell? ⟨p, 5, none⟩ = some (.int .i64 (en : Int)) ∧ w'.cell? ⟨g, 3, none⟩ = some (.int .i64 (nn : Int))) (ds := [9]) #[false, false, false, false, false, false, false, false, false, false] (by kernel_rfl) rfl rfl ⟨((blk_cell PX.out 5).trans rfl), ((blk_cell GX2.out 3).trans rfl)⟩ (fun hHeld => ?_)
 generalize W1.drew = W2 at hHeld BX PX GX2 VX NX ZX ⊢
 have fz := fun i => blk_frozen PX.out i
 have y5 : W2.cell? ⟨p, 5, none⟩ = some (.int .i64 (en : Int)) := (blk_cell PX.out 5).trans rfl
 refine pu 0 (some 121) (bm 10 1) ?_
 refine pu 1 (some 122) (bm 10 3) ?_
 refine pu 2 (some 123) (bm 10 7) ?_
 refine pu 4 (some 125) (bm 10 23) ?_
 refine take_ (i := 3) (N := some 124) (v := ?_) (a' := ?_) #[true, true, true, true, true, false, false, false, false, false] rfl rfl (by kernel_rfl) (fun _ _ _ h => h) (Or.inl ⟨by rfl, ?_⟩) hHeld ?_ ?_
 rotate_left
 · rintro w' ⟨s0, s1⟩
   go_simp
   with_reducible rfl
 rotate_left
 · simp only [Act.put, List.setIfInBounds_toArray, List.set_cons_zero, List.set_cons_succ, i64_w, i32_w]
   rfl
 refine take_ (i := 5) (N := some 126) (v := ?_) (a' := ?_) #[true, true, true, true, true, true, false, false, false, false] rfl rfl (by kernel_rfl) (fun _ _ _ h => h) (Or.inl ⟨by rfl, ?_⟩) hHeld ?_ ?_
 rotate_left
 · rintro w' ⟨s0, s1⟩
   go_simp
   with_reducible rfl
 rotate_left
 · simp only [Act.put, List.setIfInBounds_toArray, List.set_cons_zero, List.set_cons_succ, i64_w, i32_w]
   rfl
 refine pu 6 (some 127) (bm 10 127) ?_
 refine pu 7 (some 128) (bm 10 255) ?_
 refine pu 8 (some 129) (bm 10 511) ?_
 refine last_ (i := 9) (N := none) #[true, true, true, true, true, true, true, true, true, true] rfl rfl (by kernel_rfl) (by decide) (fun K hK => ?_)
 refine skip_ (w1 := ?_) (by rfl) rfl ?_ ?_
 rotate_left
 · go_simp
   rfl
 refine hK.out _ _ ?_
 clear hK K
 refine done_ (by kernel_rfl) ?_
 have FIN2 := Aside0.mk (show ∃ k, cs.length < en + nn + k ∧ (rs ++ [b]) ++ (prs ep k (cs.drop (en + nn)) r3).1 = RS ∧ en + nn + (prs ep k (cs.drop (en + nn)) r3).2 = EN from by
   obtain ⟨k, h1, h2, h3⟩ := FIN.out
   obtain ⟨k, rfl⟩ : ∃ k', k = k' + 1 := ⟨k - 1, by have := EL.out.1; have := MC.out; omega⟩
   have hp : prs ep (k + 1) (cs.drop en) least = (b :: (prs ep k ((cs.drop en).drop nn) r3).1, nn + (prs ep k ((cs.drop en).drop nn) r3).2) := by rw [prs, HRN.out]; exact if_neg LTT.out
   rw [hp, List.drop_drop] at h2 h3
   exact ⟨k, by have := NNB.out; omega, by rw [← h2, List.append_assoc]; rfl, by rw [← h3, Nat.add_assoc]⟩)
 have P9 : Aside0 ((W2.setCell ⟨p, 5, none⟩ (.int .i64 ((en + nn : Nat) : Int))).heap[p]? = some (.cells (opc q fi si ep mm (en + nn) (.slice A9 m9 c9)) 115 (0, 0))) := ⟨blk_put PX.out 5 _ rfl⟩
 have E9 := Aside0.mk (show enOf (W2.setCell ⟨p, 5, none⟩ (.int .i64 ((en + nn : Nat) : Int))) p = en + nn by have y : (W2.setCell ⟨p, 5, none⟩ (.int .i64 ((en + nn : Nat) : Int))).cell? ⟨p, 5, none⟩ = some (.int .i64 ((en + nn : Nat) : Int)) := (blk_cell P9.out 5).trans rfl; unfold enOf; rw [y]; exact Int.toNat_natCast _)
 clear y5 fz
 go_wp2
 go_roundw
 case rel => exact ⟨en + nn, rs ++ [b], r3, A9, m9, c9, rfl, ⟨NNB.out.1, by rw [List.length_append]; have h1 := EL.out.2; have h2 := NNB.out.2; simp; omega⟩, FIN2, P9, M9, ⟨Kd.N_step NX.out (fun k hk _ => Below.heap_setCell W2 ⟨p, 5, none⟩ _ k (Nat.ne_of_gt (Nat.lt_of_lt_of_le (Nat.lt_of_lt_of_le LT.out Z01.out) hk)))⟩, ⟨Kd.V_step VX.out (fun k hk _ => Below.heap_setCell W2 ⟨p, 5, none⟩ _ k (Nat.ne_of_gt (Nat.lt_of_lt_of_le LT.out hk.1)))⟩, ⟨below_set BX.out LP.out⟩, ⟨by have := ZX.out; simpa using this⟩⟩
 case measure => have e9 := E9.out; push_cast at e9; rw [e9, EM.out]; have := NNB.out; omega
end Go.Proofs.Ytepipgneefcoiaa.D
namespace Go.Proofs.Ytepipgneefcoiaa.D
open Go.RowKit Go.Proofs.YtepipgneefcoiaaW.PrintWords Go.Proofs.YtepipgneefcoiaaW.PrintLast Go.Proofs.YtepipgneefcoiaaW.PrintMore
def be : Nat → Int → List Int
  | 0, _ => []
  | n + 1, x => (x / 256 ^ n) % 256 :: be n x
theorem be_length (n : Nat) (x : Int) : (be n x).length = n := by
 induction n with
 | zero => rfl
 | succ n ih => simp [be, ih]
def bys (l : List Int) : List Value := l.map (Value.int .u8)
def spl (L : List Value) (p : Nat) (xs : List Value) : List Value := L.take p ++ xs ++ L.drop (p + xs.length)
theorem spl_length {L : List Value} {p : Nat} {xs : List Value} (h : p + xs.length ≤ L.length) : (spl L p xs).length = L.length := by
 simp [spl]; omega
theorem spl_cons {L : List Value} {p : Nat} {v : Value} {xs : List Value} (h : p + 1 + xs.length ≤ L.length) : spl L p (v :: xs) = (spl L (p + 1) xs).set p v := by
 have h1 : L.take (p + 1) = L.take p ++ [L[p]] := by rw [List.take_succ_eq_append_getElem (by omega)]
 have hl : (L.take p).length = p := by rw [List.length_take]; omega
 have h2 : spl L (p + 1) xs = L.take p ++ (L[p] :: (xs ++ L.drop (p + 1 + xs.length))) := by unfold spl; rw [h1]; simp only [List.append_assoc, List.cons_append, List.nil_append]
 rw [h2, List.set_append_right _ _ (by omega), hl, Nat.sub_self]
 have e : p + (v :: xs).length = p + 1 + xs.length := by rw [List.length_cons]; omega
 unfold spl
 rw [e]
 simp only [List.set_cons_zero, List.append_assoc, List.cons_append]
theorem spl_nil (L : List Value) (p : Nat) : spl L p [] = L := by simp [spl]
theorem grownBy_set {w : World} {g p : Nat} {v : Value} : w.grownBy (w.setCell ⟨g, p, none⟩ v) (some g) := by
 refine ⟨rfl, rfl, rfl, by simp [World.setCell], fun i hi hne => ?_⟩
 have : i ≠ g := fun e => hne (by rw [e])
 simp only [World.setCell]
 rw [Array.getElem?_modify, if_neg (Ne.symm this)]
theorem grownBy_trans {w w1 w2 : World} {row : Option Nat} (h : w.grownBy w1 row) (k : w1.grownBy w2 row) : w.grownBy w2 row :=
  ⟨k.os.trans h.os, k.tape.trans h.tape, k.output.trans h.output, Nat.le_trans h.size k.size, fun i hi hne => (k.block i (Nat.lt_of_lt_of_le hi h.size) hne).trans (h.block i hi hne)⟩
theorem grownBy_refl (w : World) (row : Option Nat) : w.grownBy w row := ⟨rfl, rfl, rfl, Nat.le_refl _, fun _ _ _ => rfl⟩
theorem blk_set' {w : World} {g p : Nat} {e : TypeId} {L : List Value} {v : Value} (h : w.heap[g]? = some (.cells L.toArray e (0, 0))) : (w.setCell ⟨g, p, none⟩ v).heap[g]? = some (.cells (L.set p v).toArray e (0, 0)) := by
 rw [blk_set h, List.setIfInBounds_toArray]
theorem div_pow_succ (x : Int) (i : Nat) : x / 256 ^ i / 256 = x / 256 ^ (i + 1) := by
 rw [Int.pow_succ, Int.ediv_ediv_of_nonneg (by exact Int.le_of_lt (Int.pow_pos (by decide)))]
set_option maxHeartbeats 1000000 in
theorem put_calls (g off m c : Nat) (e : TypeId) (L : List Value) (n : Int) (w : World) (hb : w.heap[g]? = some (.cells L.toArray e (0, 0))) (hfit : off + m ≤ L.length) (hm : m ≤ 64) :
    Calls Try.prog 92 #[.slice (some ⟨g, off, none⟩) m c, .int .u64 n] w fun e' w' => e' = .returned (.tuple #[]) ∧ w.grownBy w' (some g) ∧ w'.heap[g]? = some (.cells (spl L off (bys (be m n))).toArray e (0, 0)) := by
 have HB := Aside0.mk hb
 clear hb
 go_enter Try.func92, Try.ntmps92
 go_wp2
 go_loopw [1, 7] (fun v1 v7 wr => ∃ i : Nat, i ≤ m ∧ v7 = .int .i64 i ∧ v1 = .int .u64 (n / 256 ^ i) ∧ w.grownBy wr (some g) ∧ Aside0 (wr.heap[g]? = some (.cells (spl L (off + (m - i)) (bys (be i n))).toArray e (0, 0)))) (fun _ v7 _ => m - (intOf v7).toNat)
 case atStart => exact ⟨0, Nat.zero_le _, rfl, by simp, grownBy_refl _ _, ⟨by simp only [be, bys, List.map_nil, spl_nil]; exact HB.out⟩⟩
 obtain ⟨i, hi, rfl, rfl, hg, HW⟩ := hrel
 by_cases hlt : i < m
 rotate_left
 · have hlt' : decide (i < m) = false := decide_eq_false hlt
   obtain rfl : i = m := by omega
   have HW' : wr.heap[g]? = some (.cells (spl L off (bys (be i n))).toArray e (0, 0)) := by
     have := HW.out
     rwa [Nat.sub_self, Nat.add_zero] at this
   go_wp2
   go_end0
   exact ⟨rfl, hg, HW'⟩
 have hlt' : decide (i < m) = true := decide_eq_true hlt
 have hp : off + (m - 1 - i) < (spl L (off + (m - i)) (bys (be i n))).length := by
   rw [spl_length (by simp [bys, be_length]; omega)]; omega
 have hc : wr.cell? ⟨g, off + (m - 1 - i), none⟩ = some ((spl L (off + (m - i)) (bys (be i n)))[off + (m - 1 - i)]) := by
   rw [blk_cell HW.out]; simp
 have hf := blk_frozen HW.out (off + (m - 1 - i))
 go_wp2
 go_roundw
 case rel => exact ⟨i + 1, by omega, by go_num, by rw [div_pow_succ], grownBy_trans hg grownBy_set, ⟨by
   have h := blk_set' (p := off + (m - 1 - i)) (v := .int .u8 ((n / 256 ^ i) % 256)) HW.out
   have e1 : off + (m - i) = off + (m - (i + 1)) + 1 := by omega
   have e2 : off + (m - 1 - i) = off + (m - (i + 1)) := by omega
   rw [e1, e2, ← spl_cons (by simp [bys, be_length]; omega)] at h
   rw [e2]
   exact h⟩⟩
 case measure => simp [intOf]; omega
theorem gen_world {P Q : World → Prop} {W : World} (h0 : P W) (h : ∀ W, P W → Q W) : Q W := h W h0
def Box5 (W : World) (b : Nat) (a0 a1 a2 a3 : Int) (v : Value) : Prop := W.heap[b]? = some (.cells #[.int .u64 a0, .int .u64 a1, .int .i64 a2, .int .i64 a3, v] 106 (0, 0))
theorem Box5.c0 {W : World} {b : Nat} {a0 a1 a2 a3 : Int} {v : Value} (h : Box5 W b a0 a1 a2 a3 v) : W.cell? ⟨b, 0, none⟩ = some (.int .u64 a0) := (blk_cell h 0).trans rfl
theorem Box5.c1 {W : World} {b : Nat} {a0 a1 a2 a3 : Int} {v : Value} (h : Box5 W b a0 a1 a2 a3 v) : W.cell? ⟨b, 1, none⟩ = some (.int .u64 a1) := (blk_cell h 1).trans rfl
theorem Box5.c2 {W : World} {b : Nat} {a0 a1 a2 a3 : Int} {v : Value} (h : Box5 W b a0 a1 a2 a3 v) : W.cell? ⟨b, 2, none⟩ = some (.int .i64 a2) := (blk_cell h 2).trans rfl
theorem Box5.c3 {W : World} {b : Nat} {a0 a1 a2 a3 : Int} {v : Value} (h : Box5 W b a0 a1 a2 a3 v) : W.cell? ⟨b, 3, none⟩ = some (.int .i64 a3) := (blk_cell h 3).trans rfl
theorem Box5.c4 {W : World} {b : Nat} {a0 a1 a2 a3 : Int} {v : Value} (h : Box5 W b a0 a1 a2 a3 v) : W.cell? ⟨b, 4, none⟩ = some v := (blk_cell h 4).trans rfl
structure Enc (w W : World) (a0 a1 a2 a3 : Int) (v : Value) (L : List Value) : Prop where
  below : Below w.heap.size w W
  box : Box5 W w.heap.size a0 a1 a2 a3 v
  arr : W.heap[w.heap.size + 1]? = some (.cells L.toArray 98 (0, 0))
theorem Enc.step {w W W' : World} {a0 a1 a2 a3 : Int} {v : Value} {L L' : List Value} (h : Enc w W a0 a1 a2 a3 v L) (hg : W.grownBy W' (some (w.heap.size + 1))) (ha : W'.heap[w.heap.size + 1]? = some (.cells L'.toArray 98 (0, 0))) : Enc w W' a0 a1 a2 a3 v L' :=
  ⟨pw_below_grown h.below _ h.below.size hg (fun k hk => by injection hk with hk; omega), (hg.block _ (blk_lt h.box) (by simp)).trans h.box, ha⟩
theorem Enc.drew {w W : World} {a0 a1 a2 a3 : Int} {v : Value} {L : List Value} (h : Enc w W a0 a1 a2 a3 v L) : Enc w W.drew a0 a1 a2 a3 v L := ⟨below_drew h.below, h.box, h.arr⟩
theorem grownBy_setRow {w : World} {g : Nat} {cur : Array Value} : w.grownBy (w.setRow g cur) (some g) := by
 refine ⟨rfl, rfl, rfl, by simp [World.setRow], fun i hi hne => ?_⟩
 have : i ≠ g := fun e => hne (by rw [e])
 simp only [World.setRow]
 rw [Array.getElem?_modify, if_neg (Ne.symm this)]
theorem wpList_copy_row {P : Program} {w : World} {ops : Array Oper} {rest : List Oper} {o : Oper} {a : Act} {Q : Exit → Act → World → Prop} (hgd : o.guard = none) (d s : Operand) (dT sT : TypeId)
    (ho : o.op = .call { callee := .builtin .copy, args := #[d, s], argTypes := #[dT, sT] }) (elem : TypeId) (hu : P.underlying dT = some (.slice elem)) (hsz : (P.info? elem).map (·.size) = some 1)
    (dp sp : Option Addr) (dLen dCap sLen sCap : Nat) (hd : a.eval d = .slice dp dLen dCap) (hs : a.eval s = .slice sp sLen sCap)
    (g off : Nat) (cur : List Value) (t : TypeId) (hg : w.heap[g]? = some (.cells cur.toArray t (0, 0))) (cs : List Value) (hn : cs.length = Nat.min sLen dLen)
    (hpos : 0 < cs.length → dp = some ⟨g, off, none⟩ ∧ ∃ ad, sp = some ad ∧ ∀ j v, cs[j]? = some v → w.cell? (ad.add j) = some v)
    (hfit : off + cs.length ≤ cur.length) (h1 : ∀ v ∈ cs, v.oneCell' = true)
    (h : ∀ w', Aside0 (w'.heap[g]? = some (.cells (spl cur off cs).toArray t (0, 0))) → w.grownBy w' (some g) → wpList P ops Q rest (a.put o.dst (goInt cs.length)) w') :
    wpList P ops Q (o :: rest) a w := by
  by_cases h0 : cs.length = 0
  · obtain rfl : cs = [] := List.eq_nil_of_length_eq_zero h0
    refine wpList_copy_nothing hgd d s dT sT ho elem hu hsz dp sp dLen dCap sLen sCap hd hs (by simpa using hn.symm) ?_
    exact h w ⟨by simpa [spl] using hg⟩ (grownBy_refl _ _)
  · obtain ⟨rfl, ad, rfl, hsrc⟩ := hpos (by omega)
    refine wpList_copy_own hgd d s dT sT ho elem hu hsz g off dLen dCap ad sLen sCap hd hs cur.toArray t hg cs hn hsrc (by simpa using hfit) h1 ?_
    exact h _ ⟨by simpa [spl] using setRow_heap w g _ _ t _ hg⟩ grownBy_setRow
theorem V_of_blk {W : World} {g base t e c : Nat} {ok : Nat → Prop} {xs : List Int} (h : W.heap[g]? = some (.cells (bys xs).toArray e (0, 0))) (hok : ok g) (hm : xs.length ≤ 9223372036854775807) (hc : xs.length ≤ c) :
    Kd.V (Kd.int .u8) t W base ok (.slice (some ⟨g, 0, none⟩) xs.length c) xs :=
  Kd.V_mk hc fun W' hW => C_lit_int xs hm fun j p hj => by
    have h' : W'.heap[g]? = some (.cells (bys xs).toArray e (0, 0)) := (hW g hok (blk_lt h)).trans h
    rw [blk_cell h']
    simp [bys, hj]
def cellHead (a0 a1 a2 a3 : Int) (l : List Int) : List Int := be 8 a0 ++ (be 8 a1 ++ (be 2 a2 ++ (be 2 a3 ++ ((l.length : Int) :: (l ++ List.replicate (39 - l.length) 0)))))
theorem cellHead_length {a0 a1 a2 a3 : Int} {l : List Int} (h : l.length ≤ 39) : (cellHead a0 a1 a2 a3 l).length = 60 := by
 simp [cellHead, be_length]; omega
theorem bys_append (a b : List Int) : bys (a ++ b) = bys a ++ bys b := by simp [bys]
theorem spl_at {X Y : List Int} {n : Nat} (h : Y.length ≤ n) : spl (bys X ++ List.replicate n (Value.int .u8 0)) X.length (bys Y) = bys (X ++ Y) ++ List.replicate (n - Y.length) (Value.int .u8 0) := by
 have hx : (bys X).length = X.length := by simp [bys]
 have hy : (bys Y).length = Y.length := by simp [bys]
 unfold spl
 rw [List.take_left' hx, List.drop_append, hx, hy, List.drop_of_length_le (by rw [hx]; omega), List.nil_append, bys_append, List.drop_replicate, show X.length + Y.length - X.length = Y.length by omega]
def cell_Encode.f (k : Nat) (a0_0 : Int) (a0_1 : Int) (a0_2 : Int) (a0_3 : Int) (l0_4 : List Int) : Option (List Int × Int) :=
  if a0_2 < 0 then some ([], 1) else if a0_2 ≥ a0_3 then some ([], 1) else if a0_3 > 65535 then some ([], 1) else if (l0_4.length : Int) > 39 then some ([], 1)
  else (crc_Sum.f k (cellHead a0_0 a0_1 a0_2 a0_3 l0_4)).bind fun s => some (cellHead a0_0 a0_1 a0_2 a0_3 l0_4 ++ be 4 (IntKind.u64.wrap s), 0)
theorem sum_at (k : Nat) (s : Int) (W : World) (b : Nat) (X Y : List Int) (h : W.heap[b]? = some (.cells (bys (X ++ Y)).toArray 98 (0, 0))) (hl : X.length = 60) (hs : crc_Sum.f k X = some s) :
    Calls Try.prog 86 #[.slice (some ⟨b, 0, none⟩) 60 64] W fun e w' => e = .returned (.int .u32 s) ∧ Drawn0 W w' := by
 have := crc_Sum.calls k (some ⟨b, 0, none⟩) 64 X s W (C_lit_int X (by omega) fun j p hj => by
   have hjl : j < X.length := (List.getElem?_eq_some_iff.1 hj).1
   rw [blk_cell h, List.getElem?_toArray, bys, List.getElem?_map, List.getElem?_append_left hjl, hj]; rfl) (by omega) hs
 rwa [hl] at this
theorem head_cells {a0 a1 a2 a3 : Int} {l : List Int} {L0 L1 L2 L3 L4 L5 L6 : List Value} (h4 : l.length ≤ 39) (h0 : L0 = List.replicate 64 (Value.int .u8 0)) (e1 : L1 = spl L0 0 (bys (be 8 a0))) (e2 : L2 = spl L1 8 (bys (be 8 a1))) (e3 : L3 = spl L2 16 (bys (be 2 a2))) (e4 : L4 = spl L3 18 (bys (be 2 a3)))
    (e5 : L5 = L4.set 20 (Value.int .u8 l.length)) (e6 : L6 = spl L5 21 (bys l)) : L6 = bys (cellHead a0 a1 a2 a3 l ++ List.replicate 4 0) := by
  have f1 : L1 = bys (be 8 a0) ++ List.replicate 56 (Value.int .u8 0) := by
    have := spl_at (X := []) (Y := be 8 a0) (n := 64) (by simp [be_length])
    simp only [be_length, List.length_nil, bys, List.map_nil, List.nil_append] at this
    rw [e1, h0]; exact this
  have f2 : L2 = bys (be 8 a0 ++ be 8 a1) ++ List.replicate 48 (Value.int .u8 0) := by
    have := spl_at (X := be 8 a0) (Y := be 8 a1) (n := 56) (by simp [be_length])
    simp only [be_length] at this
    rw [e2, f1]; exact this
  have f3 : L3 = bys (be 8 a0 ++ be 8 a1 ++ be 2 a2) ++ List.replicate 46 (Value.int .u8 0) := by
    have := spl_at (X := be 8 a0 ++ be 8 a1) (Y := be 2 a2) (n := 48) (by simp [be_length])
    simp only [be_length, List.length_append] at this
    rw [e3, f2]; exact this
  have f4 : L4 = bys (be 8 a0 ++ be 8 a1 ++ be 2 a2 ++ be 2 a3) ++ List.replicate 44 (Value.int .u8 0) := by
    have := spl_at (X := be 8 a0 ++ be 8 a1 ++ be 2 a2) (Y := be 2 a3) (n := 46) (by simp [be_length])
    simp only [be_length, List.length_append] at this
    rw [e4, f3]; exact this
  have f5 : L5 = bys (be 8 a0 ++ be 8 a1 ++ be 2 a2 ++ be 2 a3 ++ [(l.length : Int)]) ++ List.replicate 43 (Value.int .u8 0) := by
    have hx : (bys (be 8 a0 ++ be 8 a1 ++ be 2 a2 ++ be 2 a3)).length = 20 := by simp [bys, be_length]
    rw [e5, f4, List.set_append_right _ _ (by omega), hx, bys_append _ [_], List.append_assoc]
    rfl
  have f6 : L6 = bys (be 8 a0 ++ be 8 a1 ++ be 2 a2 ++ be 2 a3 ++ [(l.length : Int)] ++ l) ++ List.replicate (43 - l.length) (Value.int .u8 0) := by
    have := spl_at (X := be 8 a0 ++ be 8 a1 ++ be 2 a2 ++ be 2 a3 ++ [(l.length : Int)]) (Y := l) (n := 43) (by omega)
    simp only [be_length, List.length_append, List.length_singleton] at this
    rw [e6, f5]; exact this
  rw [f6]
  have hr : List.replicate (43 - l.length) (Value.int .u8 0) = bys (List.replicate (39 - l.length) 0 ++ List.replicate 4 0) := by
    rw [show 43 - l.length = (39 - l.length) + 4 by omega, ← List.replicate_append_replicate]
    simp [bys]
  rw [hr, ← bys_append]
  congr 1
  simp [cellHead]
set_option maxRecDepth 100000 in
set_option maxHeartbeats 4000000 in
theorem encode_good (k : Nat) (s : Int) (a0_0 a0_1 a0_2 a0_3 : Int) (A0_4 : Option Addr) (c0_4 : Nat) (l0_4 : List Int) (w : World) (hr : Kd.C (Kd.int .u8) w A0_4 l0_4.length l0_4) (hc : l0_4.length ≤ c0_4)
   (hs : crc_Sum.f k (cellHead a0_0 a0_1 a0_2 a0_3 l0_4) = some s) (h1 : 0 ≤ a0_2) (h2 : a0_2 < a0_3) (h3 : a0_3 ≤ 65535) (h4 : l0_4.length ≤ 39) :
    Calls Try.prog 83 #[.agg #[.int .u64 a0_0, .int .u64 a0_1, .int .i64 a0_2, .int .i64 a0_3, .slice A0_4 l0_4.length c0_4]] w fun e w' => ∃ v0_ : Value, e = .returned (.tuple #[v0_, .int .i64 0]) ∧ Kd.V (Kd.int .u8) 5 w' w.heap.size (fun k_ => (w.heap.size ≤ k_)) v0_ (cellHead a0_0 a0_1 a0_2 a0_3 l0_4 ++ be 4 (IntKind.u64.wrap s)) ∧ Below w.heap.size w w' := by
 have HS := Aside0.mk hs
 clear hs
 have HR := Aside0.mk hr
 clear hr
 have d1 : decide (a0_2 < 0) = false := decide_eq_false (by omega)
 have d2 : decide (a0_3 ≤ a0_2) = false := decide_eq_false (by omega)
 have d3 : decide (65535 < a0_3) = false := decide_eq_false (by omega)
 have d4 : decide (39 < l0_4.length) = false := decide_eq_false (by omega)
 have d5 : decide ((39 : Int) < l0_4.length) = false := decide_eq_false (by omega)
 go_enter Try.func83, Try.ntmps83
 go_wp2
 obtain ⟨L0, hL0⟩ : ∃ L, L = List.replicate 64 (Value.int .u8 0) := ⟨_, rfl⟩
 refine gen_world (P := fun W => Enc w W a0_0 a0_1 a0_2 a0_3 (.slice A0_4 l0_4.length c0_4) L0) (Q := fun W => Code.wp Try.prog _ _ _ W) ?_ ?_
 · subst hL0
   exact ⟨((Below.refl _ _).alloc (Nat.le_refl _) _).alloc (by simp) _, blk_alloc (blk_new _ _) _, by have := blk_new (w.alloc (Obj.cells #[.int .u64 a0_0, .int .u64 a0_1, .int .i64 a0_2, .int .i64 a0_3, .slice A0_4 l0_4.length c0_4] 106)) (.cells (List.replicate 64 (Value.int .u8 0)).toArray 98); simpa using this⟩
 have hn0 : L0.length = 64 := by rw [hL0]; simp
 have HL0 := Aside0.mk hL0
 have HN0 := Aside0.mk hn0
 clear hL0 hn0 d1 d2 d3 d4 d5
 intro W hE
 have HE := Aside0.mk hE
 clear hE
 have hcc := HE.out.box.c0
 go_still_tail 3, (by kernel_rfl)
 refine gen_world (P := fun V => Enc w V a0_0 a0_1 a0_2 a0_3 (.slice A0_4 l0_4.length c0_4) L0) (Q := fun V => wpList Try.prog _ _ _ _ V) HE.out.drew ?_
 clear HE hcc W
 intro W hE
 have HE := Aside0.mk hE
 clear hE
 have hcc := HE.out.box.c0
 go_wp2_with fail
 refine (put_calls (w.heap.size + 1) 0 8 64 98 L0 a0_0 W HE.out.arr (by rw [HN0.out]; decide) (by decide)).mono ?_
 rintro e W1 ⟨rfl, hg, ha⟩
 obtain ⟨L1, hL1⟩ : ∃ L, L = spl L0 0 (bys (be 8 a0_0)) := ⟨_, rfl⟩
 rw [← hL1] at ha
 have hn1 : L1.length = 64 := by rw [hL1, spl_length (by rw [HN0.out]; simp [bys, be_length])]; exact HN0.out
 have HL1 := Aside0.mk hL1
 have HN1 := Aside0.mk hn1
 have HE1 := Aside0.mk (HE.out.step hg ha)
 clear HE hcc hg ha hL1 hn1
 go_wp2
 refine gen_world (P := fun V => Enc w V a0_0 a0_1 a0_2 a0_3 (.slice A0_4 l0_4.length c0_4) L1) (Q := fun V => Code.wp Try.prog _ _ _ V) HE1.out ?_
 clear HE1 W1 W
 intro W hE
 have HE := Aside0.mk hE
 clear hE
 have hcc := HE.out.box.c1
 go_still_tail 3, (by kernel_rfl)
 refine gen_world (P := fun V => Enc w V a0_0 a0_1 a0_2 a0_3 (.slice A0_4 l0_4.length c0_4) L1) (Q := fun V => wpList Try.prog _ _ _ _ V) HE.out.drew ?_
 clear HE hcc W
 intro W hE
 have HE := Aside0.mk hE
 clear hE
 have hcc := HE.out.box.c1
 go_wp2_with fail
 refine (put_calls (w.heap.size + 1) 8 8 56 98 L1 a0_1 W HE.out.arr (by rw [HN1.out]; decide) (by decide)).mono ?_
 rintro e W1 ⟨rfl, hg, ha⟩
 obtain ⟨L2, hL2⟩ : ∃ L, L = spl L1 8 (bys (be 8 a0_1)) := ⟨_, rfl⟩
 rw [← hL2] at ha
 have hn2 : L2.length = 64 := by rw [hL2, spl_length (by rw [HN1.out]; simp [bys, be_length])]; exact HN1.out
 have HL2 := Aside0.mk hL2
 have HN2 := Aside0.mk hn2
 have HE1 := Aside0.mk (HE.out.step hg ha)
 clear HE hcc hg ha hL2 hn2
 go_wp2
 refine gen_world (P := fun V => Enc w V a0_0 a0_1 a0_2 a0_3 (.slice A0_4 l0_4.length c0_4) L2) (Q := fun V => Code.wp Try.prog _ _ _ V) HE1.out ?_
 clear HE1 W1 W
 intro W hE
 have HE := Aside0.mk hE
 clear hE
 have hcc := HE.out.box.c2
 go_still_tail 4, (by kernel_rfl)
 refine gen_world (P := fun V => Enc w V a0_0 a0_1 a0_2 a0_3 (.slice A0_4 l0_4.length c0_4) L2) (Q := fun V => wpList Try.prog _ _ _ _ V) HE.out.drew ?_
 clear HE hcc W
 intro W hE
 have HE := Aside0.mk hE
 clear hE
 have hcc := HE.out.box.c2
 go_wp2_with fail
 refine (put_calls (w.heap.size + 1) 16 2 48 98 L2 a0_2 W HE.out.arr (by rw [HN2.out]; decide) (by decide)).mono ?_
 rintro e W1 ⟨rfl, hg, ha⟩
 obtain ⟨L3, hL3⟩ : ∃ L, L = spl L2 16 (bys (be 2 a0_2)) := ⟨_, rfl⟩
 rw [← hL3] at ha
 have hn3 : L3.length = 64 := by rw [hL3, spl_length (by rw [HN2.out]; simp [bys, be_length])]; exact HN2.out
 have HL3 := Aside0.mk hL3
 have HN3 := Aside0.mk hn3
 have HE1 := Aside0.mk (HE.out.step hg ha)
 clear HE hcc hg ha hL3 hn3
 go_wp2
 refine gen_world (P := fun V => Enc w V a0_0 a0_1 a0_2 a0_3 (.slice A0_4 l0_4.length c0_4) L3) (Q := fun V => Code.wp Try.prog _ _ _ V) HE1.out ?_
 clear HE1 W1 W
 intro W hE
 have HE := Aside0.mk hE
 clear hE
 have hcc := HE.out.box.c3
 go_still_tail 4, (by kernel_rfl)
 refine gen_world (P := fun V => Enc w V a0_0 a0_1 a0_2 a0_3 (.slice A0_4 l0_4.length c0_4) L3) (Q := fun V => wpList Try.prog _ _ _ _ V) HE.out.drew ?_
 clear HE hcc W
 intro W hE
 have HE := Aside0.mk hE
 clear hE
 have hcc := HE.out.box.c3
 go_wp2_with fail
 refine (put_calls (w.heap.size + 1) 18 2 46 98 L3 a0_3 W HE.out.arr (by rw [HN3.out]; decide) (by decide)).mono ?_
 rintro e W1 ⟨rfl, hg, ha⟩
 obtain ⟨L4, hL4⟩ : ∃ L, L = spl L3 18 (bys (be 2 a0_3)) := ⟨_, rfl⟩
 rw [← hL4] at ha
 have hn4 : L4.length = 64 := by rw [hL4, spl_length (by rw [HN3.out]; simp [bys, be_length])]; exact HN3.out
 have HL4 := Aside0.mk hL4
 have HN4 := Aside0.mk hn4
 have HE1 := Aside0.mk (HE.out.step hg ha)
 clear HE hcc hg ha hL4 hn4
 have h4c := HE1.out.box.c4
 obtain ⟨u20, hu20⟩ : ∃ u, L4[20]? = some u := ⟨L4[20]'(by rw [HN4.out]; decide), List.getElem?_eq_getElem _⟩
 have h20 : W1.cell? ⟨w.heap.size + 1, 20, none⟩ = some u20 := by rw [blk_cell HE1.out.arr]; simpa using hu20
 have hf20 := blk_frozen HE1.out.arr 20
 clear hu20
 go_wp2
 obtain ⟨L5, hL5⟩ : ∃ L, L = L4.set 20 (Value.int .u8 l0_4.length) := ⟨_, rfl⟩
 refine gen_world (P := fun V => Enc w V a0_0 a0_1 a0_2 a0_3 (.slice A0_4 l0_4.length c0_4) L5) (Q := fun V => Code.wp Try.prog _ _ _ V) (by rw [hL5]; exact HE1.out.step grownBy_set (blk_set' HE1.out.arr)) ?_
 have HN5 : Aside0 (L5.length = 64) := ⟨by rw [hL5, List.length_set]; exact HN4.out⟩
 have HL5 := Aside0.mk hL5
 clear HE1 h4c h20 hf20 hL5 W1 W
 intro W hE
 have HE := Aside0.mk hE
 clear hE
 have hcc := HE.out.box.c4
 go_still_tail 3, (by kernel_rfl)
 refine gen_world (P := fun V => Enc w V a0_0 a0_1 a0_2 a0_3 (.slice A0_4 l0_4.length c0_4) L5) (Q := fun V => wpList Try.prog _ _ _ _ V) HE.out.drew ?_
 clear HE hcc W
 intro W hE
 have HE := Aside0.mk hE
 clear hE
 have hcc := HE.out.box.c4
 obtain ⟨L6, hL6⟩ : ∃ L, L = spl L5 21 (bys l0_4) := ⟨_, rfl⟩
 have HL6 := Aside0.mk hL6
 clear hL6
 go_wp2_with (refine wpList_copy_row rfl (.tmp 49) (.tmp 51) 27 27 rfl 5 Try.underlying27 (by kernel_rfl) _ _ 43 43 l0_4.length c0_4 rfl rfl (w.heap.size + 1) 21 L5 98 HE.out.arr (bys l0_4) ?_ ?_ ?_ ?_ ?_)
 · simp only [bys, List.length_map]
   exact (Nat.min_eq_left (by omega)).symm
 · intro hp
   have hC := Kd.C_below HR.out HE.out.below
   obtain ⟨ad, ea, hcell⟩ := hC.2.2 (by simpa [bys] using hp)
   refine ⟨ad, ea, fun j v hj => ?_⟩
   simp only [bys, List.getElem?_map, Option.map_eq_some_iff] at hj
   obtain ⟨p, hp, rfl⟩ := hj
   obtain ⟨cc, _, hK, hcs⟩ := hcell j p hp
   cases hK
   have := hcs 0 _ rfl
   rwa [show (Kd.int .u8).sz = 1 from rfl, Nat.mul_one, Nat.add_zero] at this
 · rw [HN5.out]; simp only [bys, List.length_map]; omega
 · intro v hv
   simp only [bys, List.mem_map] at hv
   obtain ⟨x, _, rfl⟩ := hv
   rfl
 intro W1 ha hg
 have HN6 : Aside0 (L6.length = 64) := ⟨by rw [HL6.out, spl_length (by rw [HN5.out]; simp only [bys, List.length_map]; omega)]; exact HN5.out⟩
 have HE1 := Aside0.mk (HE.out.step (L' := L6) hg (by rw [HL6.out]; exact ha.out))
 clear HE hcc ha hg
 go_wp2
 refine gen_world (P := fun V => Enc w V a0_0 a0_1 a0_2 a0_3 (.slice A0_4 l0_4.length c0_4) L6) (Q := fun V => Code.wp Try.prog _ _ _ V) HE1.out ?_
 clear HE1 W1 W
 intro W hE
 have HE := Aside0.mk hE
 clear hE
 have HX : Aside0 (L6 = bys (cellHead a0_0 a0_1 a0_2 a0_3 l0_4 ++ List.replicate 4 0)) := ⟨head_cells h4 HL0.out HL1.out HL2.out HL3.out HL4.out HL5.out HL6.out⟩
 have HA : Aside0 (W.heap[w.heap.size + 1]? = some (.cells (bys (cellHead a0_0 a0_1 a0_2 a0_3 l0_4 ++ List.replicate 4 0)).toArray 98 (0, 0))) := ⟨by rw [← HX.out]; exact HE.out.arr⟩
 go_region_with (first | (go_at_call 86; go_loud (refine (sum_at k s _ (w.heap.size + 1) (cellHead a0_0 a0_1 a0_2 a0_3 l0_4) (List.replicate 4 0) (by exact HA.out) (cellHead_length h4) HS.out).mono ?_; rintro e w' ⟨rfl, ⟨nd, rfl⟩⟩)) | (go_at_call 92; go_loud (refine (put_calls (w.heap.size + 1) 60 4 4 98 L6 (IntKind.u64.wrap s) _ (by exact HE.out.arr) (by rw [HN6.out]; decide) (by decide)).mono ?_; rintro e W1 ⟨rfl, hg, ha⟩)))
 have hfin : spl L6 60 (bys (be 4 (IntKind.u64.wrap s))) = bys (cellHead a0_0 a0_1 a0_2 a0_3 l0_4 ++ be 4 (IntKind.u64.wrap s)) := by
   have := spl_at (X := cellHead a0_0 a0_1 a0_2 a0_3 l0_4) (Y := be 4 (IntKind.u64.wrap s)) (n := 4) (by simp [be_length])
   rw [cellHead_length h4, be_length] at this
   rw [HX.out, bys_append]
   simpa [bys] using this
 rw [hfin] at ha
 have HB1 := Aside0.mk (pw_below_grown (pw_below_drewN HE.out.below (1 + nd)) _ HE.out.below.size hg (fun kk hk => by injection hk with hk; omega))
 have HAF := Aside0.mk ha
 clear ha hg hfin
 go_wp2
 go_ret2
 have hlen : (cellHead a0_0 a0_1 a0_2 a0_3 l0_4 ++ be 4 (IntKind.u64.wrap s)).length = 64 := by rw [List.length_append, cellHead_length h4, be_length]
 refine ⟨.slice (some ⟨w.heap.size + 1, 0, none⟩) 64 64, rfl, ?_, HB1.out⟩
 have := V_of_blk (base := w.heap.size) (t := 5) (c := 64) (ok := fun k_ => w.heap.size ≤ k_) HAF.out (by omega) (by omega) (by omega)
 rwa [hlen] at this
set_option maxRecDepth 100000 in
set_option maxHeartbeats 4000000 in
theorem encode_bad (a0_0 a0_1 a0_2 a0_3 : Int) (A0_4 : Option Addr) (c0_4 : Nat) (l0_4 : List Int) (w : World) (h : a0_2 < 0 ∨ a0_2 ≥ a0_3 ∨ a0_3 > 65535 ∨ (l0_4.length : Int) > 39) :
    Calls Try.prog 83 #[.agg #[.int .u64 a0_0, .int .u64 a0_1, .int .i64 a0_2, .int .i64 a0_3, .slice A0_4 l0_4.length c0_4]] w fun e w' => e = .returned (.tuple #[.slice none 0 0, .int .i64 1]) ∧ Below w.heap.size w w' := by
 by_cases c1 : a0_2 < 0
 · have d1 : decide (a0_2 < 0) = true := decide_eq_true c1
   clear h c1
   go_enter Try.func83, Try.ntmps83
   go_wp2
   go_ret2
   exact ⟨rfl, by repeat (first | exact Below.refl _ _ | apply below_alloc)⟩
 have d1 : decide (a0_2 < 0) = false := decide_eq_false c1
 by_cases c2 : a0_3 ≤ a0_2
 · have d2 : decide (a0_3 ≤ a0_2) = true := decide_eq_true c2
   clear h c1 c2
   go_enter Try.func83, Try.ntmps83
   go_wp2
   go_ret2
   exact ⟨rfl, by repeat (first | exact Below.refl _ _ | apply below_alloc)⟩
 have d2 : decide (a0_3 ≤ a0_2) = false := decide_eq_false c2
 by_cases c3 : 65535 < a0_3
 · have d3 : decide (65535 < a0_3) = true := decide_eq_true c3
   clear h c1 c2 c3
   go_enter Try.func83, Try.ntmps83
   go_wp2
   go_ret2
   exact ⟨rfl, by repeat (first | exact Below.refl _ _ | apply below_alloc)⟩
 have d3 : decide (65535 < a0_3) = false := decide_eq_false c3
 have c4 : 39 < l0_4.length := by omega
 have d4 : decide (39 < l0_4.length) = true := decide_eq_true c4
 have d5 : decide ((39 : Int) < l0_4.length) = true := decide_eq_true (by omega)
 clear h c1 c2 c3 c4
 go_enter Try.func83, Try.ntmps83
 go_wp2
 go_ret2
 exact ⟨rfl, by repeat (first | exact Below.refl _ _ | apply below_alloc)⟩
set_option maxRecDepth 100000 in
theorem cell_Encode.calls (k : Nat) (a0_0 : Int) (a0_1 : Int) (a0_2 : Int) (a0_3 : Int) (A0_4 : Option Addr) (c0_4 : Nat) (l0_4 : List Int) (r1 : List Int) (r2 : Int) (w : World) (hr0_4 : Kd.C (Kd.int .u8) w A0_4 l0_4.length l0_4) (hc0_4 : l0_4.length ≤ c0_4) (h : cell_Encode.f k a0_0 a0_1 a0_2 a0_3 l0_4 = some (r1, r2)) :
    Calls Try.prog 83 #[.agg #[.int .u64 a0_0, .int .u64 a0_1, .int .i64 a0_2, .int .i64 a0_3, .slice A0_4 l0_4.length c0_4]] w fun e w' => ∃ v0_ : Value, e = .returned (.tuple #[v0_, .int .i64 r2]) ∧ Kd.V (Kd.int .u8) 5 w' w.heap.size (fun k_ => (w.heap.size ≤ k_)) v0_ r1 ∧ Below w.heap.size w w' := by
 by_cases hb : a0_2 < 0 ∨ a0_2 ≥ a0_3 ∨ a0_3 > 65535 ∨ (l0_4.length : Int) > 39
 · have he : r1 = [] ∧ r2 = 1 := by
     unfold cell_Encode.f at h
     rcases hb with hb | hb | hb | hb
     all_goals
       repeat' split at h
       all_goals first | (simp only [Option.some.injEq, Prod.mk.injEq] at h; exact ⟨h.1.symm, h.2.symm⟩) | (exfalso; omega)
   obtain ⟨rfl, rfl⟩ := he
   refine (encode_bad a0_0 a0_1 a0_2 a0_3 A0_4 c0_4 l0_4 w hb).mono ?_
   rintro e w' ⟨rfl, hbl⟩
   exact ⟨_, rfl, Kd.V_nil _ _ _ _ _, hbl⟩
 have b1 : ¬ a0_2 < 0 := fun z => hb (.inl z)
 have b2 : ¬ a0_2 ≥ a0_3 := fun z => hb (.inr (.inl z))
 have b3 : ¬ a0_3 > 65535 := fun z => hb (.inr (.inr (.inl z)))
 have b4 : ¬ (l0_4.length : Int) > 39 := fun z => hb (.inr (.inr (.inr z)))
 unfold cell_Encode.f at h
 rw [if_neg b1, if_neg b2, if_neg b3, if_neg b4, Option.bind_eq_some_iff] at h
 obtain ⟨s, hs, h⟩ := h
 simp only [Option.some.injEq, Prod.mk.injEq] at h
 obtain ⟨rfl, rfl⟩ := h
 exact encode_good k s a0_0 a0_1 a0_2 a0_3 A0_4 c0_4 l0_4 w hr0_4 hc0_4 hs (by omega) (by omega) (by omega) (by omega)
end Go.Proofs.Ytepipgneefcoiaa.D
namespace Go.Proofs.Ytepipgneefcoiaa.CellLaws
open Go.RowKit Go.Proofs.Ytepipgneefcoiaa Go.Proofs.Ytepipgneefcoiaa.D Go.Proofs.YtepipgneefcoiaaW.PrintWords Go.Proofs.YtepipgneefcoiaaW.PrintLast Go.Proofs.YtepipgneefcoiaaW.PrintMore
open Go.Proofs.Ytepipgneefcoiaa.CrcK (Bytes u32 more sum_ev refsum_ev bytes_rd u32_lt bytes_wf)
theorem be_K (n : Nat) (x : Int) : D.be n x = be n x := by
  induction n with
  | zero => rfl
  | succ n ih => rw [D.be, be, ih]
theorem hd_K (a0 a1 a2 a3 : Int) (l : List Int) : cellHead a0 a1 a2 a3 l = hd a0 a1 a2 a3 l := by
  simp only [cellHead, hd, be_K]
theorem encode_ev {a0 a1 a2 a3 : Int} {l : List Int} (hb : Bytes l) (hm : May a2 a3 l) : Ev (fun k => cell_Encode.f k a0 a1 a2 a3 l) (enc a0 a1 a2 a3 l, 0) := by
  obtain ⟨m1, m2, m3, m4⟩ := hm
  obtain ⟨K1, q1⟩ := sum_ev (hd_bytes (a0 := a0) (a1 := a1) (a2 := a2) (a3 := a3) m4 hb) (by rw [hd_length m4]; omega)
  refine ⟨K1, fun k hk => ?_⟩
  have r1 : crc_Sum.f k (hd a0 a1 a2 a3 l) = some (sumv (hd a0 a1 a2 a3 l)) := q1 k hk
  have hr := sumv_range (hd a0 a1 a2 a3 l)
  show cell_Encode.f k a0 a1 a2 a3 l = _
  rw [cell_Encode.f, if_neg (by omega), if_neg (by omega), if_neg (by omega), if_neg (by omega), hd_K, r1, Option.bind_some, be_K, u64w hr.1 (by omega)]
  rfl
theorem encode_bad {a0 a1 a2 a3 : Int} {l : List Int} (hm : ¬ May a2 a3 l) (k : Nat) : cell_Encode.f k a0 a1 a2 a3 l = some ([], 1) := by
  unfold May at hm
  rw [cell_Encode.f]
  by_cases c0 : a2 < 0
  · rw [if_pos c0]
  rw [if_neg c0]
  by_cases c1 : a2 ≥ a3
  · rw [if_pos c1]
  rw [if_neg c1]
  by_cases c2 : a3 > 65535
  · rw [if_pos c2]
  rw [if_neg c2, if_pos (by omega)]
theorem enc_parts (a0 a1 a2 a3 : Int) (l : List Int) (hl : l.length ≤ 39) : (enc a0 a1 a2 a3 l).take 8 = be 8 a0 ∧ ((enc a0 a1 a2 a3 l).take 16).drop 8 = be 8 a1 ∧ ((enc a0 a1 a2 a3 l).take 18).drop 16 = be 2 a2 ∧ ((enc a0 a1 a2 a3 l).take 20).drop 18 = be 2 a3 ∧ rd (enc a0 a1 a2 a3 l) 20 = (l.length : Int) ∧ ((enc a0 a1 a2 a3 l).take (21 + l.length)).drop 21 = l ∧ (enc a0 a1 a2 a3 l).take 60 = hd a0 a1 a2 a3 l ∧ (enc a0 a1 a2 a3 l).drop 60 = be 4 (sumv (hd a0 a1 a2 a3 l)) ∧ (hd a0 a1 a2 a3 l).drop (21 + l.length) = List.replicate (39 - l.length) 0 := by
  have hdl := hd_length (a0 := a0) (a1 := a1) (a2 := a2) (a3 := a3) hl
  have g : ∀ (p q r : List Int) (m : Nat), p.length = m → (p ++ (q ++ r)).take (m + q.length) = p ++ q ∧ ((p ++ (q ++ r)).take (m + q.length)).drop m = q := by
    intro p q r m hm
    have h1 : (p ++ (q ++ r)).take (m + q.length) = p ++ q := by
      rw [← List.append_assoc, List.take_left' (by rw [List.length_append, hm])]
    refine ⟨h1, ?_⟩
    rw [h1, List.drop_left' hm]
  obtain ⟨R, hR⟩ : ∃ R, R = l ++ List.replicate (39 - l.length) 0 ++ be 4 (sumv (hd a0 a1 a2 a3 l)) := ⟨_, rfl⟩
  have he : enc a0 a1 a2 a3 l = be 8 a0 ++ (be 8 a1 ++ (be 2 a2 ++ (be 2 a3 ++ ([(l.length : Int)] ++ R)))) := by
    rw [hR]; unfold enc; rw [hd]; simp [List.append_assoc]
  have b0 : ∀ n x, (be n x).length = n := be_length
  refine ⟨?_, ?_, ?_, ?_, ?_, ?_, List.take_left' hdl, List.drop_left' hdl, ?_⟩
  · rw [he, List.take_left' (b0 _ _)]
  · have := (g (be 8 a0) (be 8 a1) (be 2 a2 ++ (be 2 a3 ++ ([(l.length : Int)] ++ R))) 8 (b0 _ _)).2
    rw [b0] at this
    rw [he]; exact this
  · have := (g (be 8 a0 ++ be 8 a1) (be 2 a2) (be 2 a3 ++ ([(l.length : Int)] ++ R)) 16 (by simp [b0])).2
    rw [b0, List.append_assoc] at this
    rw [he]; exact this
  · have := (g (be 8 a0 ++ be 8 a1 ++ be 2 a2) (be 2 a3) ([(l.length : Int)] ++ R) 18 (by simp [b0])).2
    rw [b0, List.append_assoc, List.append_assoc] at this
    rw [he]; exact this
  · have hh : (be 8 a0 ++ be 8 a1 ++ be 2 a2 ++ be 2 a3).length = 20 := by simp [b0]
    have he2 : enc a0 a1 a2 a3 l = (be 8 a0 ++ be 8 a1 ++ be 2 a2 ++ be 2 a3) ++ (l.length : Int) :: R := by rw [he]; simp [List.append_assoc]
    rw [he2]
    unfold rd
    rw [List.getD_eq_getElem?_getD, List.getElem?_append_right (by rw [hh]; decide), hh]
    rfl
  · have := (g (be 8 a0 ++ be 8 a1 ++ be 2 a2 ++ be 2 a3 ++ [(l.length : Int)]) l (List.replicate (39 - l.length) 0 ++ be 4 (sumv (hd a0 a1 a2 a3 l))) 21 (by simp [b0])).2
    rw [he, hR]
    simp only [List.append_assoc] at this ⊢
    exact this
  · unfold hd
    have h21 : (be 8 a0 ++ be 8 a1 ++ be 2 a2 ++ be 2 a3 ++ [(l.length : Int)] ++ l).length = 21 + l.length := by simp [b0]; omega
    have := List.drop_left' (l₂ := List.replicate (39 - l.length) (0 : Int)) h21
    simp only [List.append_assoc, List.cons_append, List.nil_append] at this ⊢
    exact this
theorem enc_good {a0 a1 a2 a3 : Int} {l : List Int} (h0 : 0 ≤ a0 ∧ a0 < 18446744073709551616) (h1 : 0 ≤ a1 ∧ a1 < 18446744073709551616) (hm : May a2 a3 l) :
    CellLaws.Good (enc a0 a1 a2 a3 l) ∧ e0 (enc a0 a1 a2 a3 l) = a0 ∧ e1 (enc a0 a1 a2 a3 l) = a1 ∧ pt (enc a0 a1 a2 a3 l) = a2 ∧ ofs (enc a0 a1 a2 a3 l) = a3 ∧ dat (enc a0 a1 a2 a3 l) = l := by
  obtain ⟨m1, m2, m3, m4⟩ := hm
  obtain ⟨p1, p2, p3, p4, p5, p6, p7, p8, p9⟩ := enc_parts a0 a1 a2 a3 l m4
  have hn : nn (enc a0 a1 a2 a3 l) = l.length := by unfold nn; rw [p5]; omega
  have q1 : e0 (enc a0 a1 a2 a3 l) = a0 := by unfold e0; rw [p1, num_be 8 _ h0.1 (by simpa using h0.2)]
  have q2 : e1 (enc a0 a1 a2 a3 l) = a1 := by unfold e1; rw [p2, num_be 8 _ h1.1 (by simpa using h1.2)]
  have q3 : pt (enc a0 a1 a2 a3 l) = a2 := by unfold pt; rw [p3, num_be 2 _ m1 (by simpa using (by omega : a2 < 65536))]
  have q4 : ofs (enc a0 a1 a2 a3 l) = a3 := by unfold ofs; rw [p4, num_be 2 _ (by omega) (by simpa using (by omega : a3 < 65536))]
  have q5 : dat (enc a0 a1 a2 a3 l) = l := by unfold dat; rw [hn]; exact p6
  refine ⟨⟨enc_length m4, by omega, by rw [q3, q4]; exact m2, ?_, ?_⟩, q1, q2, q3, q4, q5⟩
  · unfold tail
    rw [hn, p7, p9]
  · have hr := sumv_range (hd a0 a1 a2 a3 l)
    rw [p7, p8, num_be 4 _ hr.1 (by simpa using hr.2)]
end Go.Proofs.Ytepipgneefcoiaa.CellLaws
namespace Go.Proofs.Ytepipgneefcoiaa.D
open Go.RowKit Go.Proofs.YtepipgneefcoiaaW.PrintWords Go.Proofs.YtepipgneefcoiaaW.PrintLast Go.Proofs.YtepipgneefcoiaaW.PrintMore
theorem clone_ev {l : List Int} (h : l.length ≤ 100000) : slices_Clone_byte_byte.f l = some l := by
 unfold slices_Clone_byte_byte.f
 rw [Option.bind_some, if_pos (by simp; omega), List.nil_append]
theorem clone_at {w : World} {A : Option Addr} {m c : Nat} {l : List Int} (hm : m = l.length) (hc : m ≤ c) (hl : l.length ≤ 100000) (hC : Kd.C (Kd.int .u8) w A l.length l) :
    Calls Try.prog 72 #[.slice A m c] w fun e w' => ∃ (A' : Option Addr) (c' : Nat), e = .returned (.slice A' m c') ∧ Kd.R (Kd.int .u8) 5 w' w.heap.size (fun _ => True) (.slice A' m c') l ∧ Below w.heap.size w w' := by
 subst hm
 refine (slices_Clone_byte_byte.calls A c l l w hC hc (clone_ev hl)).mono ?_
 rintro e w' ⟨v, rfl, hR, hb⟩
 obtain ⟨A', c', rfl⟩ := Kd.R_slice hR
 exact ⟨A', c', rfl, hR, hb⟩
theorem kL_M {w : World} {base base' : Nat} {ok : Nat → Prop} {A : Option Addr} {m c : Nat} {l : List Int} (hm : m = l.length) (h : Kd.R (Kd.int .u8) 5 w base ok (.slice A m c) l) (hb : base' ≤ base) : kL.M w base' ok l [.slice A m c] := ⟨_, rfl, Kd.R_lower h hb⟩
set_option maxRecDepth 20000 in
set_option maxHeartbeats 16000000 in
theorem L_Records {w0 w : World} {p q : Nat} {l : Wl} {s : Dk} {O : Nat → Prop} (h : LG w0 p q l s O w) (hn : l.rs.length ≤ 16384) (hr : ∀ r ∈ l.rs, r.length ≤ 100000) :
    Calls Try.prog 39 #[.pointer (some ⟨p, 0, none⟩)] w fun e w' => ∃ (A : Option Addr) (n c : Nat), e = .returned (.slice A n c) ∧ n = l.rs.length ∧ Kd.R kL 27 w' w.heap.size (fun _ => True) (.slice A n c) l.rs ∧ Below w.heap.size w w' := by
 obtain ⟨A, n, c, OV, h⟩ := h
 have y6 : w.cell? ⟨p, 6, none⟩ = some (.slice A n c) := (blk_cell h.box 6).trans rfl
 have HV := Aside0.mk (show Kd.V kL 27 w 0 (fun k => k < w.heap.size) (.slice A n c) l.rs from Kd.V_mono (Kd.V_bound h.v) (fun k hk => hk.2))
 have HN := Aside0.mk h.hn
 have HL := Aside0.mk hn
 have HR := Aside0.mk hr
 have nb : n ≤ 16384 := by rw [h.hn]; exact hn
 obtain ⟨rs, hrs⟩ : ∃ rs, rs = l.rs := ⟨_, rfl⟩
 rw [← hrs] at HV HN HL HR ⊢
 clear h hn hr hrs
 go_enter Try.func39, Try.ntmps39
 go_wp2
 go_loopw [3, 5, 13] (fun v3 v5 v13 wr => ∃ (j m : Nat) (A' : Option Addr) (c' : Nat), v13 = .int .i64 (j : Int) ∧ v3 = .slice A' m c' ∧ j ≤ n ∧ Aside0 (m = j) ∧ Aside0 (Below w.heap.size w wr) ∧ Aside0 (Kd.R kL 27 wr w.heap.size (fun _ => True) (.slice A' m c') (rs.take j))) (fun v3 v5 v13 _ => n - (intOf v13).toNat)
 case atStart => exact ⟨0, 0, none, 0, rfl, rfl, Nat.zero_le _, ⟨rfl⟩, ⟨Below.refl _ _⟩, ⟨Kd.R_nil _ _ _ _ _⟩⟩
 obtain ⟨j, m, A', c', rfl, rfl, hj, HM, HB, HO⟩ := hrel
 by_cases d : j < n
 rotate_left
 · have d1 : ¬ (j : Int) < (n : Int) := by omega
   have db : decide (j < n) = false := decide_eq_false d
   obtain rfl : j = n := by omega
   go_wp2
   go_ret
   have hO := HO.out
   rw [List.take_of_length_le (by rw [← HN.out]; exact Nat.le_refl _)] at hO
   exact ⟨A', m, c', rfl, by rw [HM.out]; exact HN.out, hO, HB.out⟩
 have d1 : (j : Int) < (n : Int) := by omega
 have db : decide (j < n) = true := decide_eq_true d
 have DD := Aside0.mk d
 have JL := Aside0.mk (show j < rs.length by rw [← HN.out]; exact d)
 have VB := Kd.V_step HV.out (fun k hk _ => HB.out.block k hk)
 obtain ⟨hl1, hl2, hC⟩ := Kd.V_reads' VB
 obtain ⟨ad, AE, cE, eA, y, lE, CE⟩ := at_L3 hC (j : Int) (by omega) (by rw [← HN.out]; exact d1)
 subst eA
 rw [Int.toNat_natCast] at y
 obtain ⟨r, hrj⟩ : ∃ r, r = rd_L3 rs (j : Int) := ⟨_, rfl⟩
 have RJ := Aside0.mk (show rs.take (j + 1) = rs.take j ++ [r] by
   rw [List.take_succ_eq_append_getElem JL.out, hrj]
   unfold rd_L3
   rw [Int.toNat_natCast, List.getD_eq_getElem?_getD, List.getElem?_eq_getElem JL.out]; rfl)
 have RM := Aside0.mk (show r.length ≤ 100000 from HR.out r (by rw [hrj]; unfold rd_L3; rw [Int.toNat_natCast, List.getD_eq_getElem?_getD, List.getElem?_eq_getElem JL.out]; exact List.getElem_mem _))
 rw [← hrj] at y lE CE
 obtain ⟨mE, hmE⟩ : ∃ mE, mE = r.length := ⟨_, rfl⟩
 rw [← hmE] at y lE
 have ME := Aside0.mk hmE
 have LE_ := Aside0.mk lE
 have CE' := Aside0.mk CE
 clear hl1 hl2 hC VB hrj hmE lE CE d
 go_wp2_with (first | (go_at_call 72; refine (clone_at ME.out LE_.out RM.out CE'.out).mono ?_; rintro e w2 ⟨A2, c2, rfl, hR, hb⟩; have R2 := Aside0.mk hR; have B2 := Aside0.mk (below_step HB.out hb); have O2 := Aside0.mk (Kd.R_below HO.out hb); have S2 := Aside0.mk (Nat.le_trans HB.out.size (Nat.le_refl wr.heap.size)); clear hR hb) | ((with_reducible refine gate_builtin (b := .append) (xs := #[.tmp 17, .tmp 20]) rfl ?_); at_builtin; refine Kd.R_append kL (w0 := w) w.heap.size rfl (.tmp 17) (.tmp 20) 46 27 (.slice none 0 0) 24 rfl Try.underlying46 info27w rfl (by decide) (by omega) (.slice A' m c') (rs.take j) r _ (fun _ => True) (fun k => some k = (Value.slice A2 mE c2).ownBlock) rfl rfl ?aP ?aK (fun _ _ => trivial) O2.out B2.out B2.out.size ?aL ?_; (case aP => exact kL_M ME.out (Kd.R_tight rfl R2.out) HB.out.size); (case aL => rw [List.length_take]; have h1 := HL.out; omega); (case aK => intro k hk; refine ⟨trivial, fun e => ?_⟩; obtain ⟨q1, h1⟩ := Kd.R_typed R2.out k hk.symm; obtain ⟨q2, h2⟩ := Kd.R_typed O2.out k e.symm; exact absurd rfl (blk_ne h1 h2 (by decide))); intro v9 w5 hN hb hg hat; have N5 := Aside0.mk hN; have B5 := Aside0.mk hb; obtain ⟨A9, c9, e9⟩ := Kd.R_slice hN; obtain ⟨m9, hm9⟩ : ∃ m9, m9 = (rs.take j ++ [r]).length := ⟨_, rfl⟩; have M9 := Aside0.mk hm9; rw [← hm9] at e9; subst e9; clear hN hb hg hat hm9))
 go_roundw
 case rel => exact ⟨j + 1, m9, A9, c9, by go_num, rfl, DD.out, ⟨by rw [M9.out, List.length_append, List.length_take]; have := JL.out; simp; omega⟩, B5, ⟨by have := N5.out; rw [← RJ.out] at this; exact this⟩⟩
 case measure => have := DD.out; simp [intOf]; omega
def encC (c : S106) : List Int := CellLaws.enc c.f0 c.f1 c.f2 c.f3 c.f4
structure MayC (c : S106) : Prop where
  may : CellLaws.May c.f2 c.f3 c.f4
  by_ : CrcK.Bytes c.f4
def layx (fi : Nat) : Nat → Dk → Nat → List (List Int) → Dk × Int
  | 0, s, _, _ => (s, 0)
  | f + 1, s, a, ps => if ps.length = 0 then (s, 0) else if s.of = true then (s, 9) else
      if (wrx s ((fi + a / 4 : Nat) : Int) (sp8 (cut8 s.now ((fi + a / 4) * 256) 256) (a % 4 * 64) (ps.take (4 - a % 4)).flatten)).2 ≠ 0
      then wrx s ((fi + a / 4 : Nat) : Int) (sp8 (cut8 s.now ((fi + a / 4) * 256) 256) (a % 4 * 64) (ps.take (4 - a % 4)).flatten)
      else layx fi f (wrx s ((fi + a / 4 : Nat) : Int) (sp8 (cut8 s.now ((fi + a / 4) * 256) 256) (a % 4 * 64) (ps.take (4 - a % 4)).flatten)).1 (a + min (4 - a % 4) ps.length) (ps.drop (4 - a % 4))
theorem JO_grown {w0 w w' : World} {q g : Nat} {s : Dk} {O : Nat → Prop} (h : JO w0 w q s O) (hO : O g) (hg : w0.heap.size ≤ g) (hw : w.grownBy w' (some g)) : JO w0 w' q s O := by
 obtain ⟨a, b, v, h1, h2, h3⟩ := h
 have hn := (h3 g hO).2
 have far : ∀ k, k < w.heap.size → k ≠ g → w'.heap[k]? = w.heap[k]? := fun k hl hk => hw.block k hl (fun e => hk (by injection e))
 have hsz := hw.size
 refine ⟨a, b, v, ⟨(far q (blk_lt h1.box) (fun e => hn (.inl e.symm))).trans h1.box, (far a (blk_lt h1.now) (fun e => hn (.inr (.inl e.symm)))).trans h1.now, (far b (blk_lt h1.safe) (fun e => hn (.inr (.inr (.inl e.symm))))).trans h1.safe, Kd.R_mono (Kd.R_move (Kd.R_tight rfl h1.pend) (fun k hk => far k (dS_lt h1 (.inr (.inr (.inr hk)))) (fun e => hn (by rw [← e]; exact .inr (.inr (.inr hk)))))) (fun _ _ => trivial), h1.ne, h1.hp, h1.hn, h1.hf, h1.ok⟩, pw_below_grown h2 _ (below_size h2) hw (fun k e => by injection e with e; rw [← e]; exact hg), fun k hk => ⟨Nat.lt_of_lt_of_le (h3 k hk).1 hsz, (h3 k hk).2⟩⟩
theorem enc_at {w : World} {A : Option Addr} {m c : Nat} {x : S106} (hm : m = x.f4.length) (hc : m ≤ c) (hx : MayC x) (hC : Kd.C (Kd.int .u8) w A x.f4.length x.f4) :
    Calls Try.prog 83 #[.agg #[.int .u64 x.f0, .int .u64 x.f1, .int .i64 x.f2, .int .i64 x.f3, .slice A m c]] w fun e w' => ∃ (A' : Option Addr) (c' : Nat), e = .returned (.tuple #[.slice A' 64 c', .int .i64 0]) ∧ 64 ≤ c' ∧ Kd.C (Kd.int .u8) w' A' 64 (encC x) ∧ Below w.heap.size w w' := by
 subst hm
 obtain ⟨k, hk⟩ := (CellLaws.encode_ev (a0 := x.f0) (a1 := x.f1) hx.by_ hx.may).rounds
 have hl : (encC x).length = 64 := CellLaws.enc_length hx.may.2.2.2
 refine (cell_Encode.calls k x.f0 x.f1 x.f2 x.f3 A c x.f4 _ _ w hC hc hk).mono ?_
 rintro e w' ⟨v, rfl, hV, hb⟩
 obtain ⟨A', c', rfl⟩ := Kd.V_slice hV
 obtain ⟨h1, h2, h3⟩ := Kd.V_reads' hV
 have hl' : (CellLaws.enc x.f0 x.f1 x.f2 x.f3 x.f4).length = 64 := hl
 rw [hl'] at h2 h3 ⊢
 exact ⟨A', c', rfl, h2, h3, hb⟩
theorem flat_take {ps : List (List Int)} {j : Nat} (hj : j < ps.length) : (ps.take (j + 1)).flatten = (ps.take j).flatten ++ ps[j] := by
 rw [List.take_succ_eq_append_getElem hj, List.flatten_append]; simp
theorem flat_len64 {ps : List (List Int)} (h : ∀ x ∈ ps, x.length = 64) : ps.flatten.length = ps.length * 64 := by
 induction ps with
 | nil => rfl
 | cons x l ih => rw [List.flatten_cons, List.length_append, ih (fun y hy => h y (List.mem_cons_of_mem _ hy)), h x List.mem_cons_self, List.length_cons]; omega
theorem sp8_gt {L X : List Int} {o : Nat} (h : o + X.length ≤ L.length) (i : Nat) : (sp8 L o X)[i]? = if o ≤ i ∧ i < o + X.length then X[i - o]? else L[i]? := by
 unfold sp8
 by_cases c1 : i < o
 · rw [if_neg (by omega), List.append_assoc, List.getElem?_append_left (by rw [List.length_take]; omega), List.getElem?_take, if_pos c1]
 by_cases c2 : i < o + X.length
 rotate_left
 · rw [if_neg (by omega), List.getElem?_append_right (by rw [List.length_append, List.length_take]; omega), List.length_append, List.length_take, List.getElem?_drop]
   congr 1
   omega
 rw [if_pos ⟨by omega, c2⟩, List.getElem?_append_left (by rw [List.length_append, List.length_take]; omega), List.getElem?_append_right (by rw [List.length_take]; omega), List.length_take, Nat.min_eq_left (by omega)]
theorem sp8_app {L X Y : List Int} {o : Nat} (h : o + X.length + Y.length ≤ L.length) : sp8 (sp8 L o X) (o + X.length) Y = sp8 L o (X ++ Y) := by
 apply List.ext_getElem?
 intro i
 have hl := sp8_len (L := L) (X := X) (o := o) (by omega)
 rw [sp8_gt (by rw [hl]; omega), sp8_gt (by omega), sp8_gt (by rw [List.length_append]; omega), List.length_append]
 by_cases c1 : o ≤ i ∧ i < o + X.length
 · rw [if_neg (by omega), if_pos c1, if_pos (by omega), List.getElem?_append_left (by omega)]
 rw [if_neg c1]
 by_cases c2 : o + X.length ≤ i ∧ i < o + X.length + Y.length
 rotate_left
 · rw [if_neg c2, if_neg (by omega)]
 rw [if_pos c2, if_pos (by omega), List.getElem?_append_right (by omega)]
 congr 1; omega
theorem pwx_kp2 (s : Dk) : (pwx s).1.nb = s.nb ∧ (pwx s).1.pend = s.pend ∧ (pwx s).1.now = s.now ∧ (pwx s).1.safe = s.safe := by
 unfold pwx
 split <;> exact ⟨rfl, rfl, rfl, rfl⟩
theorem wrx_small (s : Dk) (i : Int) (b : List Int) : (wrx s i b).1.nb = s.nb ∧ (wrx s i b).1.pend.length ≤ s.pend.length + 4 := by
 obtain ⟨h1, h2, _⟩ := pwx_kp2 s
 unfold wrx
 split
 · split
   · refine ⟨h1, ?_⟩
     show ((pwx s).1.pend ++ pcs i b).length ≤ _
     rw [List.length_append, h2]
     exact Nat.le_refl _
   exact ⟨h1, by show (pwx s).1.pend.length ≤ _; rw [h2]; omega⟩
 exact ⟨rfl, Nat.le_add_right _ _⟩
theorem at106 {w : World} {A : Option Addr} {n : Nat} {cs : List S106} (hn : n = cs.length) (hV : Kd.C k106 w A n cs) (h0 : 0 < n) : ∃ (ad : Addr) (A4 : Option Addr) (m4 c4 : Nat) (x : S106), A = some ad ∧ cs[0]? = some x ∧ w.cell? ad = some (.int .u64 x.f0) ∧ w.cell? ⟨ad.block, ad.off + 1, none⟩ = some (.int .u64 x.f1) ∧ w.cell? ⟨ad.block, ad.off + 2, none⟩ = some (.int .i64 x.f2) ∧ w.cell? ⟨ad.block, ad.off + 3, none⟩ = some (.int .i64 x.f3) ∧ w.cell? ⟨ad.block, ad.off + 4, none⟩ = some (.slice A4 m4 c4) ∧ m4 = x.f4.length ∧ m4 ≤ c4 ∧ Kd.C (Kd.int .u8) w A4 x.f4.length x.f4 := by
 obtain ⟨ad, A4, c4, rfl, y0, y1, y2, y3, y4, l4, C4⟩ := at_T106 hV 0 (by omega) (by omega)
 rw [show (0 : Int).toNat * 5 = 0 from rfl, ad_zero] at y0 y1 y2 y3 y4
 have hx : cs[0]? = some (rd_T106 cs 0) := by
   have h1 : 0 < cs.length := by omega
   unfold rd_T106
   rw [show (0 : Int).toNat = 0 from rfl, List.getD_eq_getElem?_getD, List.getElem?_eq_getElem h1]; rfl
 exact ⟨ad, A4, _, c4, _, rfl, hx, y0, y1, y2, y3, y4, rfl, l4, C4⟩
set_option maxRecDepth 20000 in
set_option maxHeartbeats 40000000 in
theorem L_lay {w0 w : World} {p q : Nat} {l : Wl} {s : Dk} {O OC : Nat → Prop} {A : Option Addr} {n c : Nat} {cs : List S106} (h : LG w0 p q l s O w) (hV : Kd.V k106 106 w 0 OC (.slice A n c) cs) (hOC : ∀ k, OC k → O k ∧ k ≠ p) (hn : n = cs.length) (hm : ∀ x ∈ cs, MayC x) (hbd : l.fi * 4 + l.en + cs.length ≤ s.nb * 4) (hpd : s.pend.length + 4 * cs.length ≤ 90000) (s' : Dk) (e' : Int) (hx : layx l.fi (cs.length + 1) s l.en (cs.map encC) = (s', e')) :
    Calls Try.prog 74 #[.pointer (some ⟨p, 0, none⟩), .slice A n c] w fun e w' => e = .returned (.int .i64 e') ∧ LG w0 p q l s' O w' ∧ kO O w w' := by
 have HM := Aside0.mk hm
 have HOC := Aside0.mk hOC
 have NB := Aside0.mk (J_ok (JO_J (LG_d h))).nb1
 have HBD := Aside0.mk hbd
 have HPD := Aside0.mk hpd
 have H := Aside0.mk h
 have HV := Aside0.mk hV
 have HN := Aside0.mk hn
 obtain ⟨y0, y1, y5⟩ : w.cell? ⟨p, 0, none⟩ = some (.pointer (some ⟨q, 0, none⟩)) ∧ w.cell? ⟨p, 1, none⟩ = some (.int .i64 (l.fi : Int)) ∧ w.cell? ⟨p, 5, none⟩ = some (.int .i64 (l.en : Int)) := by
   obtain ⟨A, n, c, OV, h⟩ := h
   have := LX_cells h
   exact ⟨this.1, this.2.1, this.2.2.2.2.2.1⟩
 obtain ⟨fi, hfi⟩ : ∃ fi, fi = l.fi := ⟨_, rfl⟩
 obtain ⟨en, hen⟩ : ∃ en, en = l.en := ⟨_, rfl⟩
 have FIN := Aside0.mk (show ∃ f, cs.length - 0 < f ∧ layx fi f s (en + 0) ((cs.drop 0).map encC) = (s', e') from ⟨cs.length + 1, by omega, by rw [hfi, hen]; exact hx⟩)
 have FI := Aside0.mk hfi
 have EN := Aside0.mk hen
 rw [← hfi, ← hen] at HBD
 rw [← hfi] at y1
 rw [← hen] at y5
 clear h hV hm hOC hbd hpd hx hfi hen hn y0 y1
 go_enter Try.func74, Try.ntmps74
 go_wp2
 go_loopw [1, 5, 6, 7, 8, 9, 10, 11, 12] (fun v1 v5 v6 v7 v8 v9 v10 v11 v12 wr => ∃ (d : Nat) (s1 : Dk) (A : Option Addr) (n c x : Nat), v1 = .slice A n c ∧ v5 = .int .i64 (x : Int) ∧ Aside0 (x = en + d ∧ d + n = cs.length) ∧ Aside0 (Kd.V k106 106 wr 0 OC (.slice A n c) (cs.drop d)) ∧ Aside0 (LG w0 p q l s1 O wr) ∧ Aside0 (kO O w wr) ∧ Aside0 (∃ f, cs.length - d < f ∧ layx fi f s1 (en + d) ((cs.drop d).map encC) = (s', e')) ∧ Aside0 (s1.nb = s.nb ∧ s1.pend.length ≤ s.pend.length + 4 * d)) (fun v1 v5 v6 v7 v8 v9 v10 v11 v12 _ => match v1 with | .slice _ n _ => n | _ => 0)
 case atStart => exact ⟨0, s, A, n, c, en, rfl, rfl, ⟨rfl, by rw [HN.out]; omega⟩, HV, H, ⟨kO_refl _ _⟩, FIN, ⟨rfl, by omega⟩⟩
 clear H HV FIN HN y5
 obtain ⟨d, s1, A, n, c, x, rfl, rfl, HD, HV, HJ, HK, FIN, HP⟩ := hrel
 by_cases dn : 0 < n
 rotate_left
 · have dn1 : ¬ (n : Int) > 0 := by omega
   have dnb : decide ((n : Int) > 0) = false := decide_eq_false dn1
   have dnc : decide (0 < n) = false := decide_eq_false dn
   have N0 := Aside0.mk (show n = 0 by omega)
   clear dn
   go_wp2
   go_ret
   obtain ⟨f, h1, h2⟩ := FIN.out
   obtain ⟨f, rfl⟩ : ∃ f', f = f' + 1 := ⟨f - 1, by omega⟩
   rw [layx, if_pos (by rw [List.length_map, List.length_drop]; have h3 := HD.out; have h4 := N0.out; omega)] at h2
   injection h2 with e1 e2
   subst e1 e2
   exact ⟨rfl, HJ.out, HK.out⟩
 have dn1 : (n : Int) > 0 := by omega
 have dnb : decide ((n : Int) > 0) = true := decide_eq_true dn1
 have dnc : decide (0 < n) = true := decide_eq_true dn
 obtain ⟨y0, y1⟩ : wr.cell? ⟨p, 0, none⟩ = some (.pointer (some ⟨q, 0, none⟩)) ∧ wr.cell? ⟨p, 1, none⟩ = some (.int .i64 (fi : Int)) := by
   obtain ⟨A, n, c, OV, h⟩ := HJ.out
   have := LX_cells h
   exact ⟨this.1, by rw [FI.out]; exact this.2.1⟩
 obtain ⟨xq, hxq⟩ : ∃ xq, xq = x / 4 := ⟨_, rfl⟩
 obtain ⟨nn, hnn⟩ : ∃ nn, nn = fi + xq := ⟨_, rfl⟩
 obtain ⟨i, hi⟩ : ∃ i, i = x % 4 := ⟨_, rfl⟩
 have NNL := Aside0.mk (show nn < s1.nb by have h1 := HP.out.1; have h2 := HBD.out; have h3 := HD.out; omega)
 have wq : Int.tdiv (x : Int) 4 = (xq : Int) := by rw [hxq, Int.ofNat_tdiv]; rfl
 have wr4 : Int.tmod (x : Int) 4 = (i : Int) := by rw [hi, Int.ofNat_tmod]; rfl
 have wn : wrap64 ((fi : Int) + (xq : Int)) = (nn : Int) := by have h1 := NNL.out; have h2 := HP.out.1; have h3 := NB.out; unfold wrap64; omega
 have wx : wrap64 (xq : Int) = (xq : Int) := by have h1 := NNL.out; have h2 := HP.out.1; have h3 := NB.out; unfold wrap64; omega
 have I4 := Aside0.mk (show i < 4 by omega)
 have HI := Aside0.mk hi
 have HNN := Aside0.mk (show nn = fi + x / 4 by rw [hnn, hxq])
 have DN := Aside0.mk dn
 clear hnn hxq hi dn
 cases ho : s1.of with
 | true =>
  have HX := Aside0.mk (rdx_off ho NNL.out)
  have HO := Aside0.mk ho
  clear ho
  go_wp2_with (go_at_call 16; refine (JO_Read (LG_d HJ.out) (nn : Int) [] 9 HX.out).mono ?_; rintro e w2 ⟨v, rfl, hf, hB⟩; have B2 := Aside0.mk hB; clear hf hB)
  go_ret
  obtain ⟨f, h1, h2⟩ := FIN.out
  obtain ⟨f, rfl⟩ : ∃ f', f = f' + 1 := ⟨f - 1, by omega⟩
  rw [layx, if_neg (by rw [List.length_map, List.length_drop]; have h3 := HD.out; have h4 := DN.out; omega), if_pos HO.out] at h2
  injection h2 with e1 e2
  subst e1 e2
  exact ⟨rfl, LG_step HJ.out B2.out, kO_trans HK.out (kO_below (LG_d HJ.out) B2.out)⟩
 | false => ?_
 have HO := Aside0.mk ho
 obtain ⟨b0, hb0⟩ : ∃ b0, b0 = cut8 s1.now (nn * 256) 256 := ⟨_, rfl⟩
 have HB0 := Aside0.mk hb0
 have OK1 := Aside0.mk (J_ok (JO_J (LG_d HJ.out)))
 have BL0 := Aside0.mk (show b0.length = 256 by rw [hb0]; exact cut8_len (by rw [OK1.out.now]; have := NNL.out; omega))
 obtain ⟨ps, hps⟩ : ∃ ps, ps = (cs.drop d).map encC := ⟨_, rfl⟩
 have PSL := Aside0.mk (show ps.length = n by rw [hps, List.length_map, List.length_drop]; have := HD.out; omega)
 have PSD := Aside0.mk hps
 have PS64 := Aside0.mk (show ∀ y ∈ ps, y.length = 64 from fun y hy => by
   rw [hps] at hy
   obtain ⟨z, hz, rfl⟩ := List.mem_map.1 hy
   exact CellLaws.enc_length (HM.out z (List.mem_of_mem_drop hz)).may.2.2.2)
 clear ho hb0 hps
 go_upto_region 7 with (go_at_call 16; refine (JO_ReadIn (LG_d HJ.out) HO.out nn NNL.out (nn : Int) rfl).mono ?_; rintro e w2 ⟨g, rfl, hg, hb, hB⟩; have G2 := Aside0.mk hb; have B2 := Aside0.mk hB; have GS := Aside0.mk hg; clear hg hb hB)
 rw [← HB0.out] at G2
 have NOG := Aside0.mk (fun (e : O g) => (by have h1 := JO_O (LG_d HJ.out) e; have h2 := GS.out; omega : False))
 have LB := Aside0.mk (Nat.le_trans (LG_below HJ.out).size GS.out)
 have JG := Aside0.mk (show JO w0 w2 q s1 (fun k => O k ∨ k = g) from JO_mono (JO_deep (LG_d HJ.out) B2.out) (fun k hk => by rcases hk with hk | hk; exact .inl hk; exact .inr (by rw [hk]; exact ⟨GS.out, blk_lt G2.out⟩)))
 have HJ2 := Aside0.mk (LG_step HJ.out B2.out)
 have HK2 := Aside0.mk (kO_trans HK.out (kO_below (LG_d HJ.out) B2.out))
 have HV2 := Aside0.mk (Kd.V_step HV.out (fun k hk hl => B2.out.block k hl))
 have G3 := Aside0.mk (show w2.heap[g]? = some (.cells (by8 (sp8 b0 (i * 64) (ps.take 0).flatten)).toArray 96 (0, 0)) by rw [show sp8 b0 (i * 64) (ps.take 0).flatten = b0 by simp [sp8]]; exact G2.out)
 clear HJ HK HV G2 y0 y1 wq wn wx
 go_upto_block 2 with (fail)
 go_cut [1, 5, 9, 10, 11] from 17 to 76 (fun v1 v5 v9 v10 v11 wc => ∃ (j : Nat) (A : Option Addr) (n2 c2 x2 : Nat), v1 = .slice A n2 c2 ∧ v5 = .int .i64 (x2 : Int) ∧ Aside0 (j = min (4 - i) ps.length ∧ x2 = en + d + j ∧ d + j + n2 = cs.length) ∧ Aside0 (Kd.V k106 106 wc 0 OC (.slice A n2 c2) (cs.drop (d + j))) ∧ Aside0 (LG w0 p q l s1 O wc) ∧ Aside0 (kO O w wc) ∧ Aside0 (JO w0 wc q s1 (fun k => O k ∨ k = g)) ∧ Aside0 (wc.heap[g]? = some (.cells (by8 (sp8 b0 (i * 64) (ps.take j).flatten)).toArray 96 (0, 0))))
 case first =>
  go_wp2
  go_loopw [1, 5, 9, 10, 11] (fun v1 v5 v9 v10 v11 wc => ∃ (j : Nat) (A : Option Addr) (n2 c2 x2 i9 : Nat), v1 = .slice A n2 c2 ∧ v5 = .int .i64 (x2 : Int) ∧ v9 = .int .i64 (i9 : Int) ∧ Aside0 (i9 = i + j ∧ i9 ≤ 4 ∧ x2 = en + d + j ∧ d + j + n2 = cs.length) ∧ Aside0 (Kd.V k106 106 wc 0 OC (.slice A n2 c2) (cs.drop (d + j))) ∧ Aside0 (LG w0 p q l s1 O wc) ∧ Aside0 (kO O w wc) ∧ Aside0 (JO w0 wc q s1 (fun k => O k ∨ k = g)) ∧ Aside0 (wc.heap[g]? = some (.cells (by8 (sp8 b0 (i * 64) (ps.take j).flatten)).toArray 96 (0, 0)))) (fun v1 v5 v9 v10 v11 _ => 4 - (intOf v9).toNat)
  case atStart => exact ⟨0, A, n, c, x, i, rfl, rfl, rfl, ⟨by omega, by have := I4.out; omega, by have := HD.out; omega, by have := HD.out; omega⟩, HV2, HJ2, HK2, JG, G3⟩
  clear HV2 HJ2 HK2 JG G3
  obtain ⟨j, A, n2, c2, x2, i9, rfl, rfl, rfl, HX, HV, HJ, HK, JG, G3⟩ := hrel
  have i4b : i9 ≤ 4 := HX.out.2.1
  by_cases c1 : i9 < 4
  rotate_left
  · have c1a : ¬ (i9 : Int) < 4 := by omega
    have c1b : decide ((i9 : Int) < 4) = false := decide_eq_false c1a
    have c1c : decide (i9 < 4) = false := decide_eq_false c1
    have JJ := Aside0.mk (show j = min (4 - i) ps.length ∧ x2 = en + d + j ∧ d + j + n2 = cs.length by have h1 := HX.out; have h2 := PSL.out; have h3 := HD.out; omega)
    go_wp2
    go_meet
    case rel => exact ⟨j, A, n2, c2, x2, rfl, rfl, JJ, HV, HJ, HK, JG, G3⟩
  have c1a : (i9 : Int) < 4 := by omega
  have c1b : decide ((i9 : Int) < 4) = true := decide_eq_true c1a
  have c1c : decide (i9 < 4) = true := decide_eq_true c1
  by_cases c2' : 0 < n2
  rotate_left
  · have d1 : ¬ (n2 : Int) > 0 := by omega
    have d1b : decide ((n2 : Int) > 0) = false := decide_eq_false d1
    have d1c : decide (0 < n2) = false := decide_eq_false c2'
    have JJ := Aside0.mk (show j = min (4 - i) ps.length ∧ x2 = en + d + j ∧ d + j + n2 = cs.length by have h1 := HX.out; have h2 := PSL.out; have h3 := HD.out; omega)
    go_wp2
    go_meet
    case rel => exact ⟨j, A, n2, c2, x2, rfl, rfl, JJ, HV, HJ, HK, JG, G3⟩
  have d1 : (n2 : Int) > 0 := by omega
  have d1b : decide ((n2 : Int) > 0) = true := decide_eq_true d1
  have d1c : decide (0 < n2) = true := decide_eq_true c2'
  have hh := Kd.V_reads' HV.out
  have cc1 := hh.2.1
  have hC := hh.2.2
  clear hh
  have NL2 := Aside0.mk (show n2 = (cs.drop (d + j)).length by rw [List.length_drop]; have := HX.out; omega)
  obtain ⟨ad, A4, m4, c4, y, rfl, hy, z0, z1, z2, z3, z4, hm4, hc4, hC4⟩ := at106 NL2.out (by rw [NL2.out]; exact hC) c2'
  have hy' : cs[d + j]? = some y := by rw [List.getElem?_drop, Nat.add_zero] at hy; exact hy
  have YM := Aside0.mk (HM.out y (List.mem_of_getElem? hy'))
  have M4 := Aside0.mk hm4
  have C4 := Aside0.mk hc4
  have CC4 := Aside0.mk hC4
  have JP := Aside0.mk (show j < ps.length by have h1 := HX.out; have h2 := PSL.out; have h3 := HD.out; omega)
  have PJ := Aside0.mk (show (ps.take (j + 1)).flatten = (ps.take j).flatten ++ encC y from by
    rw [flat_take JP.out]
    congr 1
    have h1 : ps[j]? = some (encC y) := by rw [PSD.out, List.getElem?_map, List.getElem?_drop, hy']; rfl
    rw [List.getElem?_eq_getElem JP.out] at h1
    exact Option.some.inj h1)
  have FL := Aside0.mk (show (ps.take j).flatten.length = j * 64 by rw [flat_len64 (fun z hz => PS64.out z (List.mem_of_mem_take hz)), List.length_take]; have := JP.out; congr 1; omega)
  have EL := Aside0.mk (show (encC y).length = 64 from CellLaws.enc_length YM.out.may.2.2.2)
  obtain ⟨F, hF⟩ : ∃ F, F = (ps.take j).flatten := ⟨_, rfl⟩
  rw [← hF] at PJ FL G3
  obtain ⟨buf, hbuf⟩ : ∃ buf, buf = sp8 b0 (i * 64) F := ⟨_, rfl⟩
  have BL := Aside0.mk (show buf.length = 256 by rw [hbuf, sp8_len (by rw [FL.out, BL0.out]; have := HX.out; omega)]; exact BL0.out)
  have BA := Aside0.mk (show sp8 buf (i9 * 64) (encC y) = sp8 b0 (i * 64) (F ++ encC y) by
    rw [hbuf, show i9 * 64 = i * 64 + F.length by rw [FL.out]; have := HX.out; omega]
    exact sp8_app (by rw [FL.out, EL.out, BL0.out]; have := HX.out; omega))
  rw [← hbuf] at G3
  obtain ⟨E, hE⟩ : ∃ E, E = encC y := ⟨_, rfl⟩
  rw [← hE] at PJ EL BA
  have HE := Aside0.mk hE
  have x2b : x2 ≤ 16384 := by have h1 := HX.out; have h2 := HBD.out; have h3 := NB.out; omega
  have w64a : wrap64 ((i9 : Int) * 64) = (i9 : Int) * 64 := by unfold wrap64; omega
  have VD := Aside0.mk (show ∀ W, Kd.V k106 106 W 0 OC (.slice (some ad) n2 c2) (cs.drop (d + j)) → Kd.V k106 106 W 0 OC (.slice (if c2 = 1 then some ad else some ⟨ad.block, ad.off + 5, none⟩) (n2 - 1) (c2 - 1)) (cs.drop (d + (j + 1))) from fun W hv => by
    have h1 := (Kd.V_at hv).2.2
    have h2 := (Kd.V_at hv).2.1
    have h3 := Kd.F_cut (m := 1) (c := c2) h1 (by rw [← NL2.out]; exact c2') (by rw [← NL2.out]; exact h2)
    rw [List.drop_drop] at h3
    have hl : (cs.drop (d + (j + 1))).length = n2 - 1 := by rw [List.length_drop]; have := HX.out; omega
    have h4 : cs.drop (d + j + 1) = cs.drop (d + (j + 1)) := by rw [Nat.add_assoc]
    rw [h4] at h3
    rw [← hl]
    exact Kd.V_mk (by rw [hl]; omega) h3)
  have N21 := Aside0.mk (show 0 < n2 from c2')
  have I94 := Aside0.mk c1
  clear hC hy hy' hm4 hc4 hC4 hF hbuf hE c1 c2' cc1
  go_upto_region 11 with (go_at_call 83; refine (enc_at M4.out C4.out YM.out CC4.out).mono ?_; rintro e w3 ⟨A5, c5, rfl, h5, hC, hb⟩; have L5 := Aside0.mk h5; have C5 := Aside0.mk hC; have B5 := Aside0.mk hb; clear h5 hC hb z0 z1 z2 z3 z4)
  rw [← HE.out] at C5
  have G4 := Aside0.mk (blk_below G3.out B5.out)
  have JG4 := Aside0.mk (JO_step JG.out B5.out)
  have HJ4 := Aside0.mk (LG_step HJ.out B5.out)
  have HK4 := Aside0.mk (kO_trans HK.out (kO_below (LG_d HJ.out) B5.out))
  have HV4 := Aside0.mk (Kd.V_step HV.out (fun k hk hl => B5.out.block k hl))
  clear HJ HK HV G3 JG
  go_wp2_with ((with_reducible refine gate_dst (N := 62) rfl ?_); refine wpl_copy_at rfl (.tmp 60) (.tmp 61) 27 27 rfl 5 Try.underlying27 info5s _ _ (256 - i9 * 64) _ _ _ rfl rfl g (i9 * 64) (by8 buf) 96 G4.out (by8 E) ?hn ?hpos ?hfit (by8_one _) ?_; (case hn => rw [by8_len, EL.out]; have := I94.out; exact (Nat.min_eq_left (by omega)).symm); (case hpos => intro h0; obtain ⟨ad5, ea5, hc5⟩ := C_cells C5.out (by decide); exact ⟨rfl, ad5, ea5, hc5⟩); (case hfit => rw [by8_len, by8_len, EL.out, BL.out]; have := I94.out; omega); intro w4 hb4 hg4; have hs4 := hb4.out; rw [← by8_sp, BA.out, ← PJ.out] at hs4; have G5 := Aside0.mk hs4; have GR := Aside0.mk hg4.out; clear hs4 hb4 hg4)
  have JG5 := Aside0.mk (JO_grown JG4.out (.inr rfl) LB.out GR.out)
  have K5 := Aside0.mk (show kO O w3 w4 from ⟨GR.out.size, fun k hk => GR.out.block k (JO_O (LG_d HJ4.out) hk) (fun e => by injection e with e; exact NOG.out (by rw [← e]; exact hk))⟩)
  have HJ5 := Aside0.mk (LG_act HJ4.out (JO_mono JG5.out (fun k hk => .inl hk)) K5.out)
  have HV5 := Aside0.mk (VD.out _ (Kd.V_step HV4.out (fun k hk hl => K5.out.2 k (HOC.out k hk).1)))
  go_roundw
  case rel => exact ⟨j + 1, _, n2 - 1, c2 - 1, x2 + 1, i9 + 1, rfl, by go_num, by go_num, ⟨by have := HX.out; omega, by have := I94.out; omega, by have := HX.out; omega, by have := HX.out; have := N21.out; omega⟩, HV5, HJ5, ⟨kO_trans HK4.out K5.out⟩, JG5, G5⟩
  case measure => have := I94.out; simp [intOf]; omega
 obtain ⟨j, A, n2, c2, x2, rfl, rfl, HX, HV, HJ, HK, JG, G3⟩ := hcut
 have C6 := Aside0.mk (fun (W : World) (hk : kO (fun k => O k ∨ k = g) wc W) => (by
   have hb := (hk.2 g (.inr rfl)).trans G3.out
   have hlen : (sp8 b0 (i * 64) (ps.take j).flatten).length = 256 := by
     rw [sp8_len (by rw [flat_len64 (fun z hz => PS64.out z (List.mem_of_mem_take hz)), List.length_take, BL0.out]; have h1 := HX.out; have h2 := I4.out; omega)]
     exact BL0.out
   have h1 := C_blk (o := 0) (m := 256) hb (by rw [hlen]; omega) (by decide)
   have h2 : cut8 (sp8 b0 (i * 64) (ps.take j).flatten) 0 256 = sp8 b0 (i * 64) (ps.take j).flatten := by unfold cut8; rw [List.drop_zero, List.take_of_length_le (by omega)]
   rw [h2] at h1
   exact h1 : Kd.C (Kd.int .u8) W (some ⟨g, 0, none⟩) 256 (sp8 b0 (i * 64) (ps.take j).flatten)))
 have BLJ := Aside0.mk (show (sp8 b0 (i * 64) (ps.take j).flatten).length = 256 by
   rw [sp8_len (by rw [flat_len64 (fun z hz => PS64.out z (List.mem_of_mem_take hz)), List.length_take, BL0.out]; have h1 := HX.out; have h2 := I4.out; omega)]
   exact BL0.out)
 have TK := Aside0.mk (show (ps.take j).flatten = (ps.take (4 - i)).flatten by
   have h1 := HX.out.1
   rcases Nat.le_total (4 - i) ps.length with h2 | h2
   · rw [h1, Nat.min_eq_left h2]
   · rw [h1, Nat.min_eq_right h2, List.take_length, List.take_of_length_le h2])
 have XW := Aside0.mk (wrx_small s1 ((fi + (en + d) / 4 : Nat) : Int) (sp8 b0 (i * 64) (ps.take j).flatten))
 obtain ⟨⟨s2, e2⟩, hw⟩ : ∃ r, r = wrx s1 (nn : Int) (sp8 b0 (i * 64) (ps.take j).flatten) := ⟨_, rfl⟩
 have HW := Aside0.mk hw.symm
 have XD := Aside0.mk (show x = en + d from HD.out.1)
 have FN := Aside0.mk (show ∃ f, cs.length - d < f + 1 ∧ (if e2 ≠ 0 then (s2, e2) else layx fi f s2 (x + min (4 - i) ps.length) (ps.drop (4 - i))) = (s', e') by
   obtain ⟨f, h1, h2⟩ := FIN.out
   obtain ⟨f, rfl⟩ : ∃ f', f = f' + 1 := ⟨f - 1, by omega⟩
   refine ⟨f, h1, ?_⟩
   rw [layx, if_neg (by rw [List.length_map, List.length_drop]; have h3 := HD.out; have h4 := DN.out; omega), if_neg (by rw [HO.out]; decide), ← PSD.out, ← XD.out, ← HNN.out, ← HI.out, ← HB0.out, ← TK.out, ← hw] at h2
   dsimp only at h2
   exact h2)
 rw [← XD.out, ← HNN.out, ← hw] at XW
 have wl1 : ∀ e : Int, e = e2 → True := fun _ _ => trivial
 clear hw FIN wl1
 obtain ⟨y0', _⟩ : wc.cell? ⟨p, 0, none⟩ = some (.pointer (some ⟨q, 0, none⟩)) ∧ True := by
   obtain ⟨A, n, c, OV, h⟩ := HJ.out
   exact ⟨(LX_cells h).1, trivial⟩
 go_upto_region 15 with (go_at_call 22; refine (JO_Write JG.out (by have h1 := HP.out.2; have h2 := HPD.out; have h3 := HD.out; omega) (nn : Int) (some ⟨g, 0, none⟩) 256 _ BLJ.out (Nat.le_refl _) C6.out s2 e2 HW.out).mono ?_; rintro e w6 ⟨rfl, hj, hk⟩; have J6 := Aside0.mk hj; have K6 := Aside0.mk hk; clear hj hk)
 have HJ6 := Aside0.mk (LG_act HJ.out (JO_mono J6.out (fun k hk => .inl hk)) (kO_mono K6.out (fun k hk => .inl hk)))
 have HK6 := Aside0.mk (kO_trans HK.out (kO_mono K6.out (fun k hk => .inl hk)))
 have HV6 := Aside0.mk (Kd.V_step HV.out (fun k hk hl => K6.out.2 k (.inl (HOC.out k hk).1)))
 clear y0'
 by_cases ce : e2 = 0
 rotate_left
 · have ceb : (e2 != 0) = true := by simp [ce]
   have FN2 := Aside0.mk (show s2 = s' ∧ e2 = e' by
     obtain ⟨f, h1, h2⟩ := FN.out
     rw [if_pos ce] at h2
     injection h2 with h3 h4
     exact ⟨h3, h4⟩)
   clear ce
   go_wp2
   go_ret
   exact ⟨by rw [FN2.out.2]; rfl, by rw [← FN2.out.1]; exact HJ6.out, HK6.out⟩
 subst ce
 have FN2 := Aside0.mk (show ∃ f, cs.length - (d + j) < f ∧ layx fi f s2 (en + (d + j)) ((cs.drop (d + j)).map encC) = (s', e') by
   obtain ⟨f, h1, h2⟩ := FN.out
   rw [if_neg (by simp)] at h2
   have h3 := HX.out
   have h4 := PSL.out
   have h5 := HD.out
   have h6 := DN.out
   have h7 := I4.out
   refine ⟨f, by omega, ?_⟩
   have e1 : x + min (4 - i) ps.length = en + (d + j) := by omega
   have e2 : ps.drop (4 - i) = (cs.drop (d + j)).map encC := by
     rw [PSD.out, ← List.map_drop, List.drop_drop]
     congr 1
     rcases Nat.le_total (4 - i) ps.length with h8 | h8
     · congr 1; omega
     · rw [List.drop_of_length_le (by omega), List.drop_of_length_le (by omega)]
   rw [← e1, ← e2]
   exact h2)
 go_wp2
 go_roundw
 case rel => exact ⟨d + j, s2, A, n2, c2, x2, rfl, rfl, ⟨by have := HX.out; omega, by have := HX.out; omega⟩, HV6, HJ6, HK6, FN2, ⟨by rw [XW.out.1]; exact HP.out.1, by have h1 := XW.out.2; have h2 := HP.out.2; have h3 := HX.out; have h4 := PSL.out; have h5 := DN.out; have h6 := I4.out; omega⟩⟩
 case measure => have h1 := HX.out; have h2 := HD.out; have h3 := PSL.out; have h4 := DN.out; have h5 := I4.out; show n2 < n; omega
end Go.Proofs.Ytepipgneefcoiaa.D
