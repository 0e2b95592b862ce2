/- Marks, as lists of entries: what the program and the document answer. No condition beyond those that each theorem names. -/
import Derived.Test.YtmdmoohkdkooaaaMf13
import Derived.Test.YtmdmoohkdkooaaaMf15
import Derived.Test.YtmdmoohkdkooaaaMf16
namespace Go.Proofs.Ytmdmoohkdkooaaa.MarkLaws
open Go.RowKit Go.Proofs.Ytmdmoohkdkooaaa Go.Proofs.Ytmdmoohkdkooaaa.M Go.Proofs.YtmdmoohkdkooaaaW.PrintWords Go.Proofs.YtmdmoohkdkooaaaW.PrintLast Go.Proofs.YtmdmoohkdkooaaaW.PrintMore
set_option linter.unusedVariables false
theorem w64 {n : Int} (h0 : -9223372036854775808 ≤ n) (h1 : n < 9223372036854775808) : wrap64 n = n := by unfold wrap64; omega
theorem alive_run : marginalialaw07_alive.f 20 = some true := by decide +kernel
theorem alive_ev : Ev (fun k => marginalialaw07_alive.f k) true := by
  refine ⟨20, fun k hk => ?_⟩
  obtain ⟨d, rfl⟩ : ∃ d, k = d + 20 := ⟨k - 20, by omega⟩
  have : ∀ d, marginalialaw07_alive.f (d + 20) = some true := fun d => by
    induction d with
    | zero => exact alive_run
    | succ d ih => exact marginalialaw07_alive.mono _ _ ih
  exact this d
def eqA (x : S70) (a0 a1 : ByteArray) : Bool := x.f0.toList == a0.toList && (x.f1.toList == a1.toList)
def has (l : List S70) (a0 a1 : ByteArray) : Bool := l.any (fun x => eqA x a0 a1)
theorem rd70_at {x : List S70} {j : Nat} (h : j < x.length) : rd_T70 x (j : Int) = x[j] := by
  unfold rd_T70
  rw [Int.toNat_natCast, List.getD_eq_getElem?_getD, List.getElem?_eq_getElem h]
  rfl
theorem rd27_at {x : List S27} {j : Nat} (h : j < x.length) : rd_T27 x (j : Int) = x[j] := by
  unfold rd_T27
  rw [Int.toNat_natCast, List.getD_eq_getElem?_getD, List.getElem?_eq_getElem h]
  rfl
theorem beq_sym (a b : List UInt8) : (a == b) = (b == a) := by rw [Bool.eq_iff_iff, beq_iff_eq, beq_iff_eq]; exact eq_comm
theorem has_drop {l : List S70} {j : Nat} (h : j < l.length) (a0 a1 : ByteArray) : has (l.drop j) a0 a1 = (eqA l[j] a0 a1 || has (l.drop (j + 1)) a0 a1) := by
  unfold has
  rw [List.drop_eq_getElem_cons h, List.any_cons]
theorem index_ev {l : List S70} (hl : l.length ≤ 1000) (a0 a1 : ByteArray) : ∃ v : Int, Ev (fun k => api_Attr_64.f k l a0 a1) v ∧ decide (v ≥ 0) = has l a0 a1 := by
  have h : ∀ n j : Nat, j + n = l.length → ∃ v : Int, Ev (fun k => api_Attr_64.l0 k l (l.length : Int) (j : Int) a0 a1) v ∧ decide (v ≥ 0) = has (l.drop j) a0 a1 := by
    intro n
    induction n with
    | zero =>
      intro j hj
      refine ⟨-1, Ev.step (f := fun _ => some _) (fun k => ?_) (Ev.now _), ?_⟩
      · rw [api_Attr_64.l0, if_neg (by omega)]
      · rw [List.drop_of_length_le (by omega)]; rfl
    | succ n ih =>
      intro j hj
      have hj' : j < l.length := by omega
      by_cases c : eqA l[j] a0 a1 = true
      · refine ⟨(j : Int), Ev.step (f := fun _ => some _) (fun k => ?_) (Ev.now _), ?_⟩
        · rw [api_Attr_64.l0, if_pos (by omega), if_pos (by omega), if_pos (by omega), rd70_at hj', beq_sym a0.toList, beq_sym a1.toList]
          exact if_pos c
        · rw [has_drop hj', c, decide_eq_true (by omega)]; rfl
      · obtain ⟨v, hv, hd⟩ := ih (j + 1) (by omega)
        refine ⟨v, Ev.step (fun k => ?_) hv, ?_⟩
        · rw [api_Attr_64.l0, if_pos (by omega), if_pos (by omega), if_pos (by omega), rd70_at hj', beq_sym a0.toList, beq_sym a1.toList, w64 (by omega) (by omega)]
          exact if_neg c
        · rw [has_drop hj', hd]; simp [c]
  obtain ⟨v, hv, hd⟩ := h l.length 0 (by omega)
  exact ⟨v, Ev.congr (fun k => rfl) hv, hd⟩
theorem contains_ev {l : List S70} (hl : l.length ≤ 1000) (a0 a1 : ByteArray) : Ev (fun k => api_Attr_49.f k l a0 a1) (has l a0 a1) := by
  obtain ⟨v, hv, hd⟩ := index_ev hl a0 a1
  rw [← hd]
  exact Ev.congr (fun k => rfl) (Ev.bind hv (Ev.now _))
theorem refHas_ev {l : List S70} (hl : l.length ≤ 1000) (a0 a1 : ByteArray) : Ev (fun k => marginaliaref07_has.f k l a0 a1) (has l a0 a1) := by
  have h : ∀ n j : Nat, j + n = l.length → Ev (fun k => marginaliaref07_has.l0 k l (j : Int) a0 a1) (has (l.drop j) a0 a1) := by
    intro n
    induction n with
    | zero =>
      intro j hj
      refine Ev.step (f := fun _ => some _) (fun k => ?_) (Ev.now _)
      rw [marginaliaref07_has.l0, if_neg (by omega), List.drop_of_length_le (by omega)]; rfl
    | succ n ih =>
      intro j hj
      have hj' : j < l.length := by omega
      by_cases c : eqA l[j] a0 a1 = true
      · refine Ev.step (f := fun _ => some _) (fun k => ?_) (Ev.now _)
        rw [marginaliaref07_has.l0, if_pos (by omega), if_pos (by omega), rd70_at hj', has_drop hj', c]
        exact if_pos c
      · refine Ev.step (fun k => ?_) (show Ev _ (has (l.drop j) a0 a1) from by rw [has_drop hj', Bool.eq_false_iff.2 c, Bool.false_or]; exact ih (j + 1) (by omega))
        rw [marginaliaref07_has.l0, if_pos (by omega), if_pos (by omega), rd70_at hj', w64 (by omega) (by omega)]
        exact if_neg c
  exact Ev.congr (fun k => rfl) (h l.length 0 (by omega))
/-- Two entries of attribute lists are each in the other one. -/
def alAt (a b : List S70) (i : Nat) : Bool := has b (rd_T70 a (i : Int)).f0 (rd_T70 a (i : Int)).f1 && has a (rd_T70 b (i : Int)).f0 (rd_T70 b (i : Int)).f1
def al (a b : List S70) : Bool := decide (a.length = b.length) && (List.range a.length).all (alAt a b)
theorem range_drop {n j : Nat} (h : j < n) (p : Nat → Bool) : ((List.range n).drop j).all p = (p j && ((List.range n).drop (j + 1)).all p) := by
  rw [List.drop_eq_getElem_cons (by simpa using h), List.all_cons, List.getElem_range]
theorem alike_ev {a b : List S70} (ha : a.length ≤ 1000) (hb : b.length ≤ 1000) : Ev (fun k => marks_Alike.f k a b) (al a b) := by
  unfold al
  by_cases he : a.length = b.length
  · have h : ∀ n j : Nat, j + n = a.length → Ev (fun k => marks_Alike.l0 k a b (a.length : Int) (j : Int)) (((List.range a.length).drop j).all (alAt a b)) := by
      intro n
      induction n with
      | zero =>
        intro j hj
        refine Ev.step (f := fun _ => some _) (fun k => ?_) (Ev.now _)
        rw [marks_Alike.l0, if_neg (by omega), List.drop_of_length_le (by simp; omega)]; rfl
      | succ n ih =>
        intro j hj
        have j1 : j < a.length := by omega
        have ih := ih (j + 1) (by omega)
        rw [range_drop j1]
        have h1 := contains_ev hb (rd_T70 a (j : Int)).f0 (rd_T70 a (j : Int)).f1
        have h2 := contains_ev ha (rd_T70 b (j : Int)).f0 (rd_T70 b (j : Int)).f1
        obtain ⟨K1, q1⟩ := h1
        obtain ⟨K2, q2⟩ := h2
        obtain ⟨K3, q3⟩ := ih
        refine ⟨K1 + K2 + K3 + 1, fun k hk => ?_⟩
        obtain ⟨m, rfl⟩ : ∃ m, k = m + 1 := ⟨k - 1, by omega⟩
        have r1 : api_Attr_49.f m b (rd_T70 a (j : Int)).f0 (rd_T70 a (j : Int)).f1 = some _ := q1 m (by omega)
        have r2 : api_Attr_49.f m a (rd_T70 b (j : Int)).f0 (rd_T70 b (j : Int)).f1 = some _ := q2 m (by omega)
        have r3 : marks_Alike.l0 m a b (a.length : Int) ((j + 1 : Nat) : Int) = some _ := q3 m (by omega)
        show marks_Alike.l0 (m + 1) a b (a.length : Int) (j : Int) = _
        rw [marks_Alike.l0, if_pos (by omega), if_pos (by omega), if_pos (by omega), r1, Option.bind_some, if_pos (show (j : Int) < (b.length : Int) by omega), r2, Option.bind_some, w64 (by omega) (by omega)]
        unfold alAt
        by_cases c1 : has b (rd_T70 a (j : Int)).f0 (rd_T70 a (j : Int)).f1 = true
        · rw [if_pos c1, c1]
          by_cases c2 : has a (rd_T70 b (j : Int)).f0 (rd_T70 b (j : Int)).f1 = true
          · rw [if_pos c2, c2]; exact r3
          · rw [if_neg c2, Bool.eq_false_iff.2 c2]; rfl
        · rw [if_neg c1, Bool.eq_false_iff.2 c1]; rfl
    rw [decide_eq_true he, Bool.true_and]
    refine Ev.congr (fun k => ?_) (h a.length 0 (by omega))
    show marks_Alike.f k a b = _
    rw [marks_Alike.f, if_pos (by omega)]
    rfl
  · refine ⟨0, fun k _ => ?_⟩
    show marks_Alike.f k a b = _
    rw [marks_Alike.f, if_neg (by omega), decide_eq_false he]
    rfl
theorem refAlike_ev {a b : List S70} (ha : a.length ≤ 1000) (hb : b.length ≤ 1000) : Ev (fun k => marginaliaref07_Alike.f k a b) (al a b) := by
  unfold al
  by_cases he : a.length = b.length
  · have h : ∀ n j : Nat, j + n = a.length → Ev (fun k => marginaliaref07_Alike.l0 k a b (j : Int)) (((List.range a.length).drop j).all (alAt a b)) := by
      intro n
      induction n with
      | zero =>
        intro j hj
        refine Ev.step (f := fun _ => some _) (fun k => ?_) (Ev.now _)
        rw [marginaliaref07_Alike.l0, if_neg (by omega), List.drop_of_length_le (by simp; omega)]; rfl
      | succ n ih =>
        intro j hj
        have j1 : j < a.length := by omega
        have ih := ih (j + 1) (by omega)
        rw [range_drop j1]
        have h1 := refHas_ev hb (rd_T70 a (j : Int)).f0 (rd_T70 a (j : Int)).f1
        have h2 := refHas_ev ha (rd_T70 b (j : Int)).f0 (rd_T70 b (j : Int)).f1
        obtain ⟨K1, q1⟩ := h1
        obtain ⟨K2, q2⟩ := h2
        obtain ⟨K3, q3⟩ := ih
        refine ⟨K1 + K2 + K3 + 1, fun k hk => ?_⟩
        obtain ⟨m, rfl⟩ : ∃ m, k = m + 1 := ⟨k - 1, by omega⟩
        have r1 : marginaliaref07_has.f m b (rd_T70 a (j : Int)).f0 (rd_T70 a (j : Int)).f1 = some _ := q1 m (by omega)
        have r2 : marginaliaref07_has.f m a (rd_T70 b (j : Int)).f0 (rd_T70 b (j : Int)).f1 = some _ := q2 m (by omega)
        have r3 : marginaliaref07_Alike.l0 m a b ((j + 1 : Nat) : Int) = some _ := q3 m (by omega)
        show marginaliaref07_Alike.l0 (m + 1) a b (j : Int) = _
        rw [marginaliaref07_Alike.l0, if_pos (by omega), if_pos (by omega), r1, Option.bind_some, if_pos (show (j : Int) < (b.length : Int) by omega), r2, Option.bind_some, w64 (by omega) (by omega)]
        unfold alAt
        by_cases c1 : has b (rd_T70 a (j : Int)).f0 (rd_T70 a (j : Int)).f1 = true
        · rw [if_pos c1, c1]
          by_cases c2 : has a (rd_T70 b (j : Int)).f0 (rd_T70 b (j : Int)).f1 = true
          · rw [if_pos c2, c2]; exact r3
          · rw [if_neg c2, Bool.eq_false_iff.2 c2]; rfl
        · rw [if_neg c1, Bool.eq_false_iff.2 c1]; rfl
    rw [decide_eq_true he, Bool.true_and]
    refine Ev.congr (fun k => ?_) (h a.length 0 (by omega))
    show marginaliaref07_Alike.f k a b = _
    rw [marginaliaref07_Alike.f, if_pos (by omega)]
    rfl
  · refine ⟨0, fun k _ => ?_⟩
    show marginaliaref07_Alike.f k a b = _
    rw [marginaliaref07_Alike.f, if_neg (by omega), decide_eq_false he]
    rfl
/-- Where the entries behind the last marker among the first n begin. -/
def bh (l : List S27) : Nat → Nat
  | 0 => 0
  | n + 1 => if (rd_T27 l (n : Int)).f0 = 0 then n + 1 else bh l n
theorem behind_ev {l : List S27} (hl : l.length ≤ 1000) : Ev (fun k => marks_behind.f k l) (bh l l.length : Int) := by
  have h : ∀ n : Nat, n ≤ l.length → Ev (fun k => marks_behind.l0 k l (n : Int)) (bh l n : Int) := by
    intro n
    induction n with
    | zero =>
      intro _
      refine Ev.step (f := fun _ => some _) (fun k => ?_) (Ev.now _)
      rw [marks_behind.l0, if_neg (by omega)]
      rfl
    | succ n ih =>
      intro hn
      have e : wrap64 (((n + 1 : Nat) : Int) - 1) = (n : Int) := by rw [w64 (by omega) (by omega)]; omega
      by_cases c : (rd_T27 l (n : Int)).f0 = 0
      · refine Ev.step (f := fun _ => some _) (fun k => ?_) (Ev.now _)
        rw [marks_behind.l0, if_pos (by omega), e, if_pos (by omega), if_pos (by omega), if_pos c, bh, if_pos c]
      · refine Ev.step (fun k => ?_) (show Ev _ _ from by rw [bh, if_neg c]; exact ih (by omega))
        rw [marks_behind.l0, if_pos (by omega), e, if_pos (by omega), if_pos (by omega), if_neg c]
  exact Ev.congr (fun k => rfl) (h l.length (Nat.le_refl _))
theorem small_ev (l : List S27) : (Ev (fun k => marginalialaw07_small.f k l) true ∧ l.length ≤ 40 ∧ ∀ j, j < l.length → (rd_T27 l (j : Int)).f2.length ≤ 6) ∨ Ev (fun k => marginalialaw07_small.f k l) false := by
  have h : ∀ n j : Nat, j + n = l.length → j ≤ 40 → (∀ i, i < j → (rd_T27 l (i : Int)).f2.length ≤ 6) → (Ev (fun k => marginalialaw07_small.l0 k l (j : Int)) true ∧ l.length ≤ 40 ∧ ∀ j, j < l.length → (rd_T27 l (j : Int)).f2.length ≤ 6) ∨ Ev (fun k => marginalialaw07_small.l0 k l (j : Int)) false := by
    intro n
    induction n with
    | zero =>
      intro j hj h40 hs
      refine .inl ⟨Ev.step (f := fun _ => some _) (fun k => ?_) (Ev.now _), by omega, fun i hi => hs i (by omega)⟩
      rw [marginalialaw07_small.l0, if_neg (by omega)]
    | succ n ih =>
      intro j hj h40 hs
      by_cases c : (j : Int) = 40
      · refine .inr (Ev.step (f := fun _ => some _) (fun k => ?_) (Ev.now _))
        rw [marginalialaw07_small.l0, if_pos (by omega), if_pos c]
      by_cases c2 : ((rd_T27 l (j : Int)).f2.length : Int) > 6
      · refine .inr (Ev.step (f := fun _ => some _) (fun k => ?_) (Ev.now _))
        rw [marginalialaw07_small.l0, if_pos (by omega), if_neg c, if_pos (by omega), if_pos c2]
      · have hstep : ∀ k, marginalialaw07_small.l0 (k + 1) l (j : Int) = marginalialaw07_small.l0 k l ((j + 1 : Nat) : Int) := fun k => by
          rw [marginalialaw07_small.l0, if_pos (by omega), if_neg c, if_pos (by omega), if_neg c2, w64 (by omega) (by omega)]
          rfl
        rcases ih (j + 1) (by omega) (by omega) (fun i hi => by
          by_cases e : i = j
          · subst e; omega
          · exact hs i (by omega)) with ⟨h1, h2⟩ | h1
        · exact .inl ⟨Ev.step hstep h1, h2⟩
        · exact .inr (Ev.step hstep h1)
  exact h l.length 0 (by omega) (by omega) (fun i hi => absurd hi (Nat.not_lt_zero _))
end Go.Proofs.Ytmdmoohkdkooaaa.MarkLaws
