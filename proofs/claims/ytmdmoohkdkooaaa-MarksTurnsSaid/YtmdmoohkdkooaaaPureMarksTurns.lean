/- MarksTurns: a list cleared, without an entry, and with one at any place, is what the document says, and it stays. No condition beyond those that each theorem names. -/
import Derived.Test.YtmdmoohkdkooaaaOpenMarksTurns
import Derived.Test.YtmdmoohkdkooaaaMarkLaws
namespace Go.Proofs.Ytmdmoohkdkooaaa.MarkLaws
open Go.RowKit Go.Proofs.Ytmdmoohkdkooaaa Go.Proofs.Ytmdmoohkdkooaaa.M Go.Proofs.YtmdmoohkdkooaaaW.PrintWords Go.Proofs.YtmdmoohkdkooaaaW.PrintLast Go.Proofs.YtmdmoohkdkooaaaW.PrintMore
set_option linter.unusedVariables false
theorem without_neg {x : List S27} (hl : x.length ≤ 1000) : marks_without.f x (-1) = some x := by
  rw [marks_without.f, if_pos (by omega), marks_joined.f, if_pos (by simp; omega), Option.bind_some, List.append_nil]
theorem without_at {x : List S27} (hl : x.length ≤ 1000) {q : Nat} (hq : q < x.length) : marks_without.f x (q : Int) = some (x.eraseIdx q) := by
  have e : wrap64 ((q : Int) + 1) = ((q + 1 : Nat) : Int) := by rw [w64 (by omega) (by omega)]; omega
  rw [marks_without.f, if_neg (by omega), if_pos (by omega), if_pos (by omega), e, if_pos (by omega), if_pos (by omega), Int.toNat_natCast, Int.toNat_natCast, marks_joined.f, if_pos (by rw [List.length_take, List.length_drop]; omega), Option.bind_some, List.eraseIdx_eq_take_drop_succ]
/-- What Push makes of places. -/
theorem refBehind_ev {l : List S27} (hl : l.length ≤ 1000) : Ev (fun k => marginaliaref07_behind.f k l) (bh l l.length : Int) := by
  have h : ∀ n : Nat, n ≤ l.length → Ev (fun k => marginaliaref07_behind.l0 k l (n : Int)) (bh l n : Int) := by
    intro n
    induction n with
    | zero =>
      intro _
      refine Ev.step (f := fun _ => some _) (fun k => ?_) (Ev.now _)
      rw [marginaliaref07_behind.l0, if_neg (by omega)]
      rfl
    | succ n ih =>
      intro hn
      have e : wrap64 (((n + 1 : Nat) : Int) - 1) = (n : Int) := by rw [w64 (by omega) (by omega)]; omega
      by_cases c : (rd_T27 l (n : Int)).f0 = 0
      · refine Ev.step (f := fun _ => some _) (fun k => ?_) (Ev.now _)
        rw [marginaliaref07_behind.l0, if_pos (by omega), e, if_pos (by omega), if_pos (by omega), if_pos c, bh, if_pos c]
      · refine Ev.step (fun k => ?_) (show Ev _ _ from by rw [bh, if_neg c]; exact ih (by omega))
        rw [marginaliaref07_behind.l0, if_pos (by omega), e, if_pos (by omega), if_pos (by omega), if_neg c]
  exact Ev.congr (fun k => rfl) (h l.length (Nat.le_refl _))
/-- A list without what stands at a place. -/
def wo (x : List S27) (q : Int) : Nat → Nat → List S27
  | _, 0 => []
  | j, n + 1 => (if (j : Int) = q then [] else [rd_T27 x (j : Int)]) ++ wo x q (j + 1) n
theorem wo_none {x : List S27} {q : Int} : ∀ n j, j + n = x.length → q < (j : Int) → wo x q j n = x.drop j := by
  intro n
  induction n with
  | zero => intro j hj _; rw [List.drop_of_length_le (by omega)]; rfl
  | succ n ih =>
    intro j hj hq
    have hlt : j < x.length := by omega
    rw [wo, if_neg (by omega), ih (j + 1) (by omega) (by omega), List.drop_eq_getElem_cons hlt, rd27_at hlt]
    rfl
theorem wo_at {x : List S27} : ∀ d n j, j + n = x.length → d < n → wo x ((j + d : Nat) : Int) j n = (x.drop j).eraseIdx d := by
  intro d
  induction d with
  | zero =>
    intro n j hj hd
    cases n with
    | zero => omega
    | succ n =>
      have hlt : j < x.length := by omega
      rw [wo, if_pos (by omega), wo_none n (j + 1) (by omega) (by omega), List.drop_eq_getElem_cons hlt]
      rfl
  | succ d ih =>
    intro n j hj hd
    cases n with
    | zero => omega
    | succ n =>
      have hlt : j < x.length := by omega
      have e : ((j + (d + 1) : Nat) : Int) = ((j + 1 + d : Nat) : Int) := by omega
      rw [wo, if_neg (by omega), e, ih n (j + 1) (by omega) (by omega), List.drop_eq_getElem_cons hlt, rd27_at hlt]
      rfl
theorem refWithout_ev {x : List S27} (hl : x.length ≤ 1000) (q : Int) : Ev (fun k => marginaliaref07_without.f k x q) (wo x q 0 x.length) := by
  have h : ∀ n j : Nat, j + n = x.length → ∀ acc : List S27, acc.length ≤ j → Ev (fun k => marginaliaref07_without.l0 k x q acc (j : Int)) (acc ++ wo x q j n) := by
    intro n
    induction n with
    | zero =>
      intro j hj acc _
      refine Ev.step (f := fun _ => some _) (fun k => ?_) (Ev.now _)
      rw [marginaliaref07_without.l0, if_neg (by omega), wo, List.append_nil]
    | succ n ih =>
      intro j hj acc ha
      have ew : wrap64 ((j : Int) + 1) = ((j + 1 : Nat) : Int) := by rw [w64 (by omega) (by omega)]; omega
      by_cases c : (j : Int) = q
      · refine Ev.step (fun k => ?_) (show Ev _ _ from by rw [wo, if_pos c, List.nil_append]; exact ih (j + 1) (by omega) acc (by omega))
        rw [marginaliaref07_without.l0, if_pos (by omega), if_pos c, ew]
      · refine Ev.step (fun k => ?_) (show Ev _ _ from by rw [wo, if_neg c, ← List.append_assoc]; exact ih (j + 1) (by omega) (acc ++ [rd_T27 x (j : Int)]) (by simp; omega))
        rw [marginaliaref07_without.l0, if_pos (by omega), if_neg c, if_pos (by omega), if_pos (by omega), ew]
  exact Ev.congr (fun k => rfl) (h x.length 0 (by omega) [] (by simp))
/-- The first of places, or none. -/
theorem attrs_refl {a : List S70} (ha : a.length ≤ 1000) : Ev (fun k => marginaliaref04_Attrs.f k a a) true := by
  have h : ∀ n j : Nat, j + n = a.length → Ev (fun k => marginaliaref04_Attrs.l0 k a a (j : Int)) true := by
    intro n
    induction n with
    | zero =>
      intro j hj
      refine Ev.step (f := fun _ => some _) (fun k => ?_) (Ev.now _)
      rw [marginaliaref04_Attrs.l0, if_neg (by omega)]
    | succ n ih =>
      intro j hj
      refine Ev.step (fun k => ?_) (ih (j + 1) (by omega))
      rw [marginaliaref04_Attrs.l0, if_pos (by omega), if_pos (by omega), if_pos (by omega), if_neg (by simp), w64 (by omega) (by omega)]
      rfl
  refine Ev.congr (fun k => ?_) (h a.length 0 (by omega))
  show marginaliaref04_Attrs.f k a a = _
  rw [marginaliaref04_Attrs.f, if_pos rfl]
  rfl
theorem sameList_refl {x : List S27} (hl : x.length ≤ 1000) (hx : ∀ j, j < x.length → (rd_T27 x (j : Int)).f2.length ≤ 1000) : Ev (fun k => marginaliaref07_Same.f k x x) true := by
  have h : ∀ n j : Nat, j + n = x.length → Ev (fun k => marginaliaref07_Same.l0 k x x (j : Int)) true := by
    intro n
    induction n with
    | zero =>
      intro j hj
      refine Ev.step (f := fun _ => some _) (fun k => ?_) (Ev.now _)
      rw [marginaliaref07_Same.l0, if_neg (by omega)]
    | succ n ih =>
      intro j hj
      obtain ⟨K1, q1⟩ := attrs_refl (hx j (by omega))
      obtain ⟨K2, q2⟩ := ih (j + 1) (by omega)
      refine ⟨K1 + K2 + 2, fun k hk => ?_⟩
      obtain ⟨d, rfl⟩ : ∃ d, k = d + 1 + 1 := ⟨k - 2, by omega⟩
      have r1 : marginaliaref04_Attrs.f (d + 1) (rd_T27 x (j : Int)).f2 (rd_T27 x (j : Int)).f2 = some true := q1 _ (by omega)
      have r2 : marginaliaref07_Same.l0 d x x ((j + 1 : Nat) : Int) = some true := q2 _ (by omega)
      show marginaliaref07_Same.l0 (d + 1 + 1) x x (j : Int) = _
      rw [marginaliaref07_Same.l0, if_pos (by omega), if_pos (by omega), if_pos (by omega), if_pos rfl, if_pos rfl, r1, Option.bind_some, marginaliaref07_Same.j1, if_neg (by decide), w64 (by omega) (by omega)]
      exact r2
  refine Ev.congr (fun k => ?_) (h x.length 0 (by omega))
  show marginaliaref07_Same.f k x x = _
  rw [marginaliaref07_Same.f, if_pos rfl]
  rfl
theorem refFind_ev {l : List S27} (hl : l.length ≤ 1000) (id : Int) : Ev (fun k => marginaliaref07_Find.f k l id) (marks_Find.idx id l) := by
  have h : ∀ n j : Nat, j + n = l.length → (∀ i, i < j → (rd_T27 l (i : Int)).f0 ≠ id) → Ev (fun k => marginaliaref07_Find.l0 k l id (j : Int)) (marks_Find.idx id l) := by
    intro n
    induction n with
    | zero =>
      intro j hj hs
      refine Ev.step (f := fun _ => some _) (fun k => ?_) (Ev.now _)
      rw [marginaliaref07_Find.l0, if_neg (by omega), marks_Find.idx_none fun i hi => hs i (by omega)]
    | succ n ih =>
      intro j hj hs
      by_cases c : (rd_T27 l (j : Int)).f0 = id
      · refine Ev.step (f := fun _ => some _) (fun k => ?_) (Ev.now _)
        rw [marginaliaref07_Find.l0, if_pos (by omega), if_pos (by omega), if_pos c, marks_Find.idx_at (by omega) hs c]
      · refine Ev.step (fun k => ?_) (ih (j + 1) (by omega) fun i hi => ?_)
        · rw [marginaliaref07_Find.l0, if_pos (by omega), if_pos (by omega), if_neg c, w64 (by omega) (by omega)]
          rfl
        · by_cases e : i = j
          · subst e; exact c
          · exact hs i (by omega)
  exact Ev.congr (fun k => rfl) (h l.length 0 (by omega) fun i hi => absurd hi (Nat.not_lt_zero _))
theorem back_insert {l : List S27} (hl : l.length ≤ 50) (at_ m0 : Int) (m1 : ByteArray) (m2 : List S70) : ∃ q : Nat, q ≤ l.length ∧ (at_ < 0 → q = 0) ∧ (0 ≤ at_ → at_ ≤ (l.length : Int) → at_ = (q : Int)) ∧ ((l.length : Int) < at_ → l.length = q) ∧ marks_Insert.f l at_ m0 m1 m2 = some (l.take q ++ (⟨m0, m1, m2⟩ : S27) :: l.drop q) := by
  refine ⟨(mn (mx at_ 0) l.length).toNat, ?_, ?_, ?_, ?_, ?_⟩
  · unfold mn mx; (repeat' split) <;> omega
  · intro h; unfold mn mx; (repeat' split) <;> omega
  · intro h1 h2; unfold mn mx; (repeat' split) <;> omega
  · intro h; unfold mn mx; (repeat' split) <;> omega
  · rw [marks_Insert.f, if_pos (by omega)]
theorem bh_le (x : List S27) : ∀ n, bh x n ≤ n := fun n => by
  induction n with
  | zero => exact Nat.le_refl _
  | succ n ih => rw [bh]; split <;> omega
theorem clear_ev {l : List S27} (hl : l.length ≤ 1000) : Ev (fun k => marks_Clear.f k l) (l.take (bh l l.length - 1)) := by
  obtain ⟨K, h⟩ := behind_ev hl
  have hb := bh_le l l.length
  refine ⟨K, fun k hk => ?_⟩
  have r : marks_behind.f k l = some (bh l l.length : Int) := h k hk
  have emx : mx (wrap64 ((bh l l.length : Int) - 1)) 0 = ((bh l l.length - 1 : Nat) : Int) := by
    rw [w64 (by omega) (by omega)]; unfold mx; split <;> omega
  show marks_Clear.f k l = _
  rw [marks_Clear.f, r, Option.bind_some, emx, if_pos (by omega), if_pos (by omega), Int.toNat_natCast, marks_joined.f, if_pos (by rw [List.length_take, List.length_nil]; omega), Option.bind_some, List.append_nil]
theorem take_rd {l : List S27} {j : Nat} (h : j < l.length) : l.take j ++ [rd_T27 l (j : Int)] = l.take (j + 1) := by
  rw [rd27_at h, List.take_add_one, List.getElem?_eq_getElem h]; rfl
theorem refClear_ev {l : List S27} (hl : l.length ≤ 1000) : Ev (fun k => marginaliaref07_Clear.f k l) (l.take (bh l l.length - 1)) := by
  have hb := bh_le l l.length
  have h : ∀ n j : Nat, j + n = bh l l.length - 1 → Ev (fun k => marginaliaref07_Clear.l0 k l (l.take j) ((bh l l.length : Int) - 1) (j : Int)) (l.take (bh l l.length - 1)) := by
    intro n
    induction n with
    | zero =>
      intro j hj
      refine Ev.step (f := fun _ => some _) (fun k => ?_) (Ev.now _)
      rw [marginaliaref07_Clear.l0, if_neg (by omega), show j = bh l l.length - 1 by omega]
    | succ n ih =>
      intro j hj
      refine Ev.step (fun k => ?_) (ih (j + 1) (by omega))
      rw [marginaliaref07_Clear.l0, if_pos (by omega), if_pos (by omega), if_pos (by omega), if_pos (by rw [List.length_take]; omega), w64 (by omega) (by omega), ← take_rd (l := l) (by omega)]
      rfl
  obtain ⟨K1, q1⟩ := refBehind_ev hl
  obtain ⟨K2, q2⟩ := h (bh l l.length - 1) 0 (by omega)
  refine ⟨K1 + K2, fun k hk => ?_⟩
  have r1 : marginaliaref07_behind.f k l = some (bh l l.length : Int) := q1 k (by omega)
  have r2 : marginaliaref07_Clear.l0 k l [] ((bh l l.length : Int) - 1) 0 = some (l.take (bh l l.length - 1)) := q2 k (by omega)
  show marginaliaref07_Clear.f k l = _
  rw [marginaliaref07_Clear.f, r1, Option.bind_some, w64 (by omega) (by omega), r2]
/-- A list without the entry of an Id. -/
def dr (l : List S27) (id : Int) : List S27 := if marks_Find.idx id l < 0 then l else l.eraseIdx (marks_Find.idx id l).toNat
theorem idx_form (l : List S27) (id : Int) : marks_Find.idx id l = -1 ∨ ∃ q : Nat, q < l.length ∧ marks_Find.idx id l = (q : Int) := by
  unfold marks_Find.idx
  split
  · rename_i h
    exact .inr ⟨_, List.findIdx_lt_length_of_exists (List.any_eq_true.1 h), rfl⟩
  · exact .inl rfl
theorem drop_is {l : List S27} (hl : l.length ≤ 1000) (id : Int) : marks_Drop.f l id = some (dr l id) := by
  unfold dr
  rw [marks_Drop.f, marks_Find.f, Option.bind_some]
  rcases idx_form l id with e | ⟨q, hq, e⟩
  · rw [e, without_neg hl, Option.bind_some, if_pos (by decide)]
  · rw [e, without_at hl hq, Option.bind_some, if_neg (by omega), Int.toNat_natCast]
theorem refDrop_ev {l : List S27} (hl : l.length ≤ 1000) (id : Int) : Ev (fun k => marginaliaref07_Drop.f k l id) (dr l id) := by
  obtain ⟨K1, q1⟩ := refFind_ev hl id
  obtain ⟨K2, q2⟩ := refWithout_ev hl (marks_Find.idx id l)
  have e : wo l (marks_Find.idx id l) 0 l.length = dr l id := by
    unfold dr
    rcases idx_form l id with e | ⟨q, hq, e⟩
    · rw [e, wo_none l.length 0 (by omega) (by omega), if_pos (by decide), List.drop_zero]
    · have := wo_at (x := l) q l.length 0 (by omega) hq
      rw [Nat.zero_add, List.drop_zero] at this
      rw [e, this, if_neg (by omega), Int.toNat_natCast]
  refine ⟨K1 + K2, fun k hk => ?_⟩
  have r1 : marginaliaref07_Find.f k l id = some _ := q1 k (by omega)
  have r2 : marginaliaref07_without.f k l (marks_Find.idx id l) = some _ := q2 k (by omega)
  show marginaliaref07_Drop.f k l id = _
  rw [marginaliaref07_Drop.f, r1, Option.bind_some, r2, Option.bind_some, e]
def ri (l : List S27) (a : Int) (m : S27) : Nat → Nat → List S27
  | _, 0 => if a ≥ (l.length : Int) then [m] else []
  | j, n + 1 => (if (j : Int) = a then [m] else []) ++ rd_T27 l (j : Int) :: ri l a m (j + 1) n
theorem ri_after {l : List S27} {m : S27} {q : Nat} (hq : q < l.length) : ∀ n j : Nat, j + n = l.length → q < j → ri l (q : Int) m j n = l.drop j := by
  intro n
  induction n with
  | zero => intro j hj _; rw [ri, if_neg (by omega), List.drop_of_length_le (by omega)]
  | succ n ih =>
    intro j hj h
    rw [ri, if_neg (by omega), ih (j + 1) (by omega) (by omega), List.nil_append, rd27_at (by omega), ← List.drop_eq_getElem_cons]
theorem ri_at {l : List S27} {m : S27} : ∀ d n j : Nat, j + n = l.length → d < n → ri l ((j + d : Nat) : Int) m j n = (l.drop j).take d ++ m :: l.drop (j + d) := by
  intro d
  induction d with
  | zero =>
    intro n j hj hd
    obtain ⟨n, rfl⟩ : ∃ n', n = n' + 1 := ⟨n - 1, by omega⟩
    rw [Nat.add_zero, ri, if_pos rfl, ri_after (by omega) n (j + 1) (by omega) (by omega), rd27_at (by omega), ← List.drop_eq_getElem_cons, List.take_zero]
    rfl
  | succ d ih =>
    intro n j hj hd
    obtain ⟨n, rfl⟩ : ∃ n', n = n' + 1 := ⟨n - 1, by omega⟩
    have e : j + (d + 1) = j + 1 + d := by omega
    rw [ri, if_neg (by omega), e, ih n (j + 1) (by omega) (by omega), List.nil_append, rd27_at (by omega), List.drop_eq_getElem_cons (i := j) (by omega), List.take_succ_cons, List.cons_append]
theorem ri_beyond {l : List S27} {m : S27} {a : Int} (ha : a ≥ (l.length : Int)) : ∀ n j : Nat, j + n = l.length → ri l a m j n = l.drop j ++ [m] := by
  intro n
  induction n with
  | zero => intro j hj; rw [ri, if_pos ha, List.drop_of_length_le (by omega)]; rfl
  | succ n ih =>
    intro j hj
    rw [ri, if_neg (by omega), ih (j + 1) (by omega), List.nil_append, rd27_at (by omega), List.drop_eq_getElem_cons (i := j) (by omega), List.cons_append]
theorem refIns_ev {l : List S27} (hl : l.length ≤ 1000) (a m0 : Int) (m1 : ByteArray) (m2 : List S70) : Ev (fun k => marginaliaref07_Insert.j0 k l a [] m0 m1 m2) (ri l a ⟨m0, m1, m2⟩ 0 l.length) := by
  have h : ∀ n j : Nat, j + n = l.length → ∀ acc : List S27, acc.length ≤ 2 * j → Ev (fun k => marginaliaref07_Insert.l0 k l a acc (j : Int) m0 m1 m2) (acc ++ ri l a ⟨m0, m1, m2⟩ j n) := by
    intro n
    induction n with
    | zero =>
      intro j hj acc ha
      refine Ev.step (f := fun _ => some _) (fun k => ?_) (Ev.now _)
      rw [marginaliaref07_Insert.l0, if_neg (by omega), ri]
      by_cases c : a ≥ (l.length : Int)
      · rw [if_pos c, if_pos c, if_pos (by omega)]
      · rw [if_neg c, if_neg c, List.append_nil]
    | succ n ih =>
      intro j hj acc ha
      by_cases c : (j : Int) = a
      · rw [ri, if_pos c]
        refine Ev.step (fun k => ?_) (show Ev _ _ from by
          have := ih (j + 1) (by omega) (acc ++ [⟨m0, m1, m2⟩] ++ [rd_T27 l (j : Int)]) (by rw [List.length_append, List.length_append, List.length_singleton, List.length_singleton]; omega)
          rw [List.append_assoc, List.append_assoc] at this
          exact this)
        rw [marginaliaref07_Insert.l0, if_pos (by omega), if_pos c, if_pos (by omega), Option.bind_some, if_pos (by omega), if_pos (by rw [List.length_append, List.length_singleton]; omega), w64 (by omega) (by omega), List.append_assoc]
        rfl
      · rw [ri, if_neg c, List.nil_append]
        refine Ev.step (fun k => ?_) (show Ev _ _ from by
          have := ih (j + 1) (by omega) (acc ++ [rd_T27 l (j : Int)]) (by rw [List.length_append, List.length_singleton]; omega)
          rw [List.append_assoc] at this
          exact this)
        rw [marginaliaref07_Insert.l0, if_pos (by omega), if_neg c, if_pos (by omega), if_pos (by omega), w64 (by omega) (by omega)]
        rfl
  refine Ev.step (fun k => ?_) (h l.length 0 (by omega) [] (by simp))
  rw [marginaliaref07_Insert.j0]
  rfl
theorem refInsert_ev {l : List S27} (hl : l.length ≤ 1000) (at_ m0 : Int) (m1 : ByteArray) (m2 : List S70) {q : Nat} (hq : q ≤ l.length) (h1 : at_ < 0 → q = 0) (h2 : 0 ≤ at_ → at_ ≤ (l.length : Int) → at_ = (q : Int)) (h3 : (l.length : Int) < at_ → l.length = q) :
    Ev (fun k => marginaliaref07_Insert.f k l at_ m0 m1 m2) (l.take q ++ (⟨m0, m1, m2⟩ : S27) :: l.drop q) := by
  have hall : ∀ a : Int, (a = (q : Int) ∨ (a ≥ (l.length : Int) ∧ q = l.length)) → ri l a ⟨m0, m1, m2⟩ 0 l.length = l.take q ++ (⟨m0, m1, m2⟩ : S27) :: l.drop q := fun a ha => by
    by_cases c : q < l.length
    · have e : a = (q : Int) := ha.elim id (fun h => by omega)
      have := ri_at (l := l) (m := ⟨m0, m1, m2⟩) q l.length 0 (by omega) c
      rw [Nat.zero_add, List.drop_zero] at this
      rw [e, this]
    · have e : q = l.length := by omega
      rw [ri_beyond (by omega) l.length 0 (by omega), List.drop_zero, e, List.take_length, List.drop_length]
  by_cases c : at_ < 0
  · have := refIns_ev hl 0 m0 m1 m2
    rw [hall 0 (.inl (by have := h1 c; omega))] at this
    refine Ev.congr (fun k => ?_) this
    show marginaliaref07_Insert.f k l at_ m0 m1 m2 = _
    rw [marginaliaref07_Insert.f, Option.bind_some, if_pos c]
  · have := refIns_ev hl at_ m0 m1 m2
    rw [hall at_ (by
      by_cases d : (l.length : Int) < at_
      · exact .inr ⟨by omega, (h3 d).symm⟩
      · exact .inl (h2 (by omega) (by omega)))] at this
    refine Ev.congr (fun k => ?_) this
    show marginaliaref07_Insert.f k l at_ m0 m1 m2 = _
    rw [marginaliaref07_Insert.f, Option.bind_some, if_neg c]
theorem same_mem {x : List S27} (hl : x.length ≤ 1000) (hx : ∀ y ∈ x, y.f2.length ≤ 1000) : Ev (fun k => marginaliaref07_Same.f k x x) true :=
  sameList_refl hl (fun j hj => by rw [rd27_at hj]; exact hx _ (List.getElem_mem _))
theorem turns_j0 {l a b c : List S27} {at_ m0 : Int} {m1 : ByteArray} {m2 : List S70} {d : Nat} (hc : marginalialaw07_copied.f l = some l) (r0 : marginalialaw07_alive.f d = some true) (a1 : marks_Clear.f d l = some a) (a2 : marginaliaref07_Clear.f d l = some a) (b1 : marks_Drop.f l at_ = some b) (b2 : marginaliaref07_Drop.f d l at_ = some b)
    (c1 : marks_Insert.f l at_ m0 m1 m2 = some c) (c2 : marginaliaref07_Insert.f d l at_ m0 m1 m2 = some c) (sa : marginaliaref07_Same.f d a a = some true) (sb : marginaliaref07_Same.f d b b = some true) (sc : marginaliaref07_Same.f d c c = some true) (sl : marginaliaref07_Same.f d l l = some true) :
    marginalialaw07_MarksTurns.j0 (d + 1) l at_ false m0 m1 m2 = some true := by
  rw [marginalialaw07_MarksTurns.j0, if_neg (by decide), hc, Option.bind_some, a1, Option.bind_some, b1, Option.bind_some, c1, Option.bind_some, a2, Option.bind_some, sa, Option.bind_some, b2, Option.bind_some, sb, Option.bind_some, c2, Option.bind_some, sc, Option.bind_some, marginalialaw07_spoil.f, Option.bind_some, marginalialaw07_spoil.f, Option.bind_some, marginalialaw07_spoil.f, Option.bind_some, r0, Option.bind_some, if_pos rfl, if_pos rfl, if_pos rfl, if_pos rfl, sl, Option.bind_some]
end Go.Proofs.Ytmdmoohkdkooaaa.MarkLaws
namespace Go.Proofs.Ytmdmoohkdkooaaa.Pure
open Go.RowKit Go.Proofs.Ytmdmoohkdkooaaa Go.Proofs.Ytmdmoohkdkooaaa.M Go.Proofs.Ytmdmoohkdkooaaa.M.marksTurnsOpen Go.Proofs.Ytmdmoohkdkooaaa.MarkLaws Go.Proofs.YtmdmoohkdkooaaaW.PrintWords Go.Proofs.YtmdmoohkdkooaaaW.PrintLast Go.Proofs.YtmdmoohkdkooaaaW.PrintMore
set_option linter.unusedVariables false
theorem MarksTurns : marksTurnsOpen.Pure := by
  rintro l at_ ⟨m0, m1, m2⟩ _ _ _
  show ∃ k, marginalialaw07_MarksTurns.f k l at_ m0 m1 m2 = some true
  obtain ⟨K0, q0⟩ := alive_ev
  have hj0 : Ev (fun k => marginalialaw07_MarksTurns.j0 k l at_ true m0 m1 m2) true := by
    refine ⟨K0 + 1, fun k hk => ?_⟩
    obtain ⟨m, rfl⟩ : ∃ m, k = m + 1 := ⟨k - 1, by omega⟩
    have r0 : marginalialaw07_alive.f m = some true := q0 _ (by omega)
    show marginalialaw07_MarksTurns.j0 (m + 1) l at_ true m0 m1 m2 = _
    rw [marginalialaw07_MarksTurns.j0, if_pos rfl, r0, Option.bind_some]
  obtain ⟨K2, q2⟩ := hj0
  rcases small_ev l with ⟨⟨K1, q1⟩, hl, hat⟩ | ⟨K1, q1⟩
  · have r1 : ∀ k, K1 ≤ k → marginalialaw07_small.f k l = some true := q1
    by_cases c : (m2.length : Int) > 6
    · have r2 : marginalialaw07_MarksTurns.j0 (K1 + K2) l at_ true m0 m1 m2 = some true := q2 _ (by omega)
      exact ⟨K1 + K2, by rw [marginalialaw07_MarksTurns.f, r1 _ (by omega), Option.bind_some, if_pos rfl, decide_eq_true c, r2]⟩
    · have hml : ∀ y ∈ l, y.f2.length ≤ 1000 := fun y hy => by
        obtain ⟨i, hi, rfl⟩ := List.getElem_of_mem hy
        have := hat i hi
        rw [rd27_at hi] at this
        omega
      obtain ⟨q, hql, h31, h32, h33, hins⟩ := back_insert (l := l) (by omega) at_ m0 m1 m2
      obtain ⟨A1, a1⟩ := clear_ev (l := l) (by omega)
      obtain ⟨A2, a2⟩ := refClear_ev (l := l) (by omega)
      have hdr := drop_is (l := l) (by omega) at_
      obtain ⟨A3, a3⟩ := refDrop_ev (l := l) (by omega) at_
      obtain ⟨A4, a4⟩ := refInsert_ev (l := l) (by omega) at_ m0 m1 m2 hql h31 h32 h33
      obtain ⟨A5, a5⟩ := same_mem (x := l.take (bh l l.length - 1)) (by rw [List.length_take]; omega) (fun y hy => hml y (List.mem_of_mem_take hy))
      obtain ⟨A6, a6⟩ := same_mem (x := dr l at_) (by unfold dr; split; omega; rw [List.length_eraseIdx]; split <;> omega) (fun y hy => by
        unfold dr at hy
        split at hy
        · exact hml y hy
        · exact hml y (List.mem_of_mem_eraseIdx hy))
      obtain ⟨A7, a7⟩ := same_mem (x := l.take q ++ (⟨m0, m1, m2⟩ : S27) :: l.drop q) (by rw [List.length_append, List.length_cons, List.length_take, List.length_drop]; omega) (fun y hy => by
        rcases List.mem_append.1 hy with hy | hy
        · exact hml y (List.mem_of_mem_take hy)
        · rcases List.mem_cons.1 hy with hy | hy
          · rw [hy]; show m2.length ≤ 1000; omega
          · exact hml y (List.mem_of_mem_drop hy))
      obtain ⟨A8, a8⟩ := same_mem (x := l) (by omega) hml
      have hcp : marginalialaw07_copied.f l = some l := by rw [marginalialaw07_copied.f, if_pos (by omega)]
      have r2 : marginalialaw07_MarksTurns.j0 (K0 + K1 + A1 + A2 + A3 + A4 + A5 + A6 + A7 + A8 + 1) l at_ false m0 m1 m2 = some true :=
        turns_j0 hcp (q0 _ (by omega)) (a1 _ (by omega)) (a2 _ (by omega)) hdr (a3 _ (by omega)) hins (a4 _ (by omega)) (a5 _ (by omega)) (a6 _ (by omega)) (a7 _ (by omega)) (a8 _ (by omega))
      exact ⟨K0 + K1 + A1 + A2 + A3 + A4 + A5 + A6 + A7 + A8 + 1, by rw [marginalialaw07_MarksTurns.f, r1 _ (by omega), Option.bind_some, if_pos rfl, decide_eq_false c, r2]⟩
  · have r1 : ∀ k, K1 ≤ k → marginalialaw07_small.f k l = some false := q1
    have r2 : marginalialaw07_MarksTurns.j0 (K1 + K2) l at_ true m0 m1 m2 = some true := q2 _ (by omega)
    exact ⟨K1 + K2, by rw [marginalialaw07_MarksTurns.f, r1 _ (by omega), Option.bind_some, if_neg (by decide), r2]⟩
end Go.Proofs.Ytmdmoohkdkooaaa.Pure
