/- MarksFinds: the document finds entries where the program does. No condition beyond those that each theorem names. -/
import Derived.Test.YtmdmoohkdkooaaaOpenMarksFinds
import Derived.Test.YtmdmoohkdkooaaaMarkLaws
namespace Go.Proofs.Ytmdmoohkdkooaaa.MarkLaws
open Go.RowKit Go.Proofs.Ytmdmoohkdkooaaa Go.Proofs.Ytmdmoohkdkooaaa.M Go.Proofs.YtmdmoohkdkooaaaW.PrintWords Go.Proofs.YtmdmoohkdkooaaaW.PrintLast Go.Proofs.YtmdmoohkdkooaaaW.PrintMore
set_option linter.unusedVariables false
theorem refBehind_ev {l : List S27} (hl : l.length ≤ 1000) : Ev (fun k => marginaliaref07_behind.f k l) (bh l l.length : Int) := by
  have h : ∀ n : Nat, n ≤ l.length → Ev (fun k => marginaliaref07_behind.l0 k l (n : Int)) (bh l n : Int) := by
    intro n
    induction n with
    | zero =>
      intro _
      refine Ev.step (f := fun _ => some _) (fun k => ?_) (Ev.now _)
      rw [marginaliaref07_behind.l0, if_neg (by omega)]
      rfl
    | succ n ih =>
      intro hn
      have e : wrap64 (((n + 1 : Nat) : Int) - 1) = (n : Int) := by rw [w64 (by omega) (by omega)]; omega
      by_cases c : (rd_T27 l (n : Int)).f0 = 0
      · refine Ev.step (f := fun _ => some _) (fun k => ?_) (Ev.now _)
        rw [marginaliaref07_behind.l0, if_pos (by omega), e, if_pos (by omega), if_pos (by omega), if_pos c, bh, if_pos c]
      · refine Ev.step (fun k => ?_) (show Ev _ _ from by rw [bh, if_neg c]; exact ih (by omega))
        rw [marginaliaref07_behind.l0, if_pos (by omega), e, if_pos (by omega), if_pos (by omega), if_neg c]
  exact Ev.congr (fun k => rfl) (h l.length (Nat.le_refl _))
def lastn (l : List S27) (name : ByteArray) (b : Nat) : Nat → Int
  | 0 => -1
  | n + 1 => if n ≥ b then (if (rd_T27 l (n : Int)).f1.toList = name.toList then (n : Int) else lastn l name b n) else -1
theorem last_ev {l : List S27} (hl : l.length ≤ 1000) (name : ByteArray) : Ev (fun k => marks_Last.f k l name) (lastn l name (bh l l.length) l.length) := by
  obtain ⟨K0, q0⟩ := behind_ev hl
  have h : ∀ n : Nat, n ≤ l.length → Ev (fun k => marks_Last.l0 k l name ((n : Int) - 1)) (lastn l name (bh l l.length) n) := by
    intro n
    induction n with
    | zero =>
      intro _
      refine ⟨K0 + 1, fun k hk => ?_⟩
      obtain ⟨m, rfl⟩ : ∃ m, k = m + 1 := ⟨k - 1, by omega⟩
      have r0 : marks_behind.f m l = some _ := q0 m (by omega)
      show marks_Last.l0 (m + 1) l name (((0 : Nat) : Int) - 1) = _
      rw [marks_Last.l0, r0, Option.bind_some, if_neg (by omega)]
      rfl
    | succ n ih =>
      intro hn
      obtain ⟨K1, q1⟩ := ih (by omega)
      refine ⟨K0 + K1 + 1, fun k hk => ?_⟩
      obtain ⟨m, rfl⟩ : ∃ m, k = m + 1 := ⟨k - 1, by omega⟩
      have r0 : marks_behind.f m l = some _ := q0 m (by omega)
      have r1 : marks_Last.l0 m l name ((n : Int) - 1) = some _ := q1 m (by omega)
      show marks_Last.l0 (m + 1) l name (((n + 1 : Nat) : Int) - 1) = _
      rw [show ((n + 1 : Nat) : Int) - 1 = (n : Int) by omega, marks_Last.l0, r0, Option.bind_some, lastn]
      by_cases c : n ≥ bh l l.length
      · rw [if_pos c, if_pos (by omega), if_pos (by omega), if_pos (by omega)]
        by_cases c2 : (rd_T27 l (n : Int)).f1.toList = name.toList
        · rw [if_pos c2, if_pos c2]
        · rw [if_neg c2, if_neg c2, w64 (by omega) (by omega), r1]
      · rw [if_neg c, if_neg (by omega)]
  refine Ev.congr (fun k => ?_) (h l.length (Nat.le_refl _))
  show marks_Last.f k l name = _
  rw [marks_Last.f, w64 (by omega) (by omega)]
theorem refLast_ev {l : List S27} (hl : l.length ≤ 1000) (name : ByteArray) : Ev (fun k => marginaliaref07_Last.f k l name) (lastn l name (bh l l.length) l.length) := by
  obtain ⟨K0, q0⟩ := refBehind_ev hl
  have h : ∀ n : Nat, n ≤ l.length → Ev (fun k => marginaliaref07_Last.l0 k l name ((n : Int) - 1)) (lastn l name (bh l l.length) n) := by
    intro n
    induction n with
    | zero =>
      intro _
      refine ⟨K0 + 1, fun k hk => ?_⟩
      obtain ⟨m, rfl⟩ : ∃ m, k = m + 1 := ⟨k - 1, by omega⟩
      have r0 : marginaliaref07_behind.f m l = some _ := q0 m (by omega)
      show marginaliaref07_Last.l0 (m + 1) l name (((0 : Nat) : Int) - 1) = _
      rw [marginaliaref07_Last.l0, r0, Option.bind_some, if_neg (by omega)]
      rfl
    | succ n ih =>
      intro hn
      obtain ⟨K1, q1⟩ := ih (by omega)
      refine ⟨K0 + K1 + 1, fun k hk => ?_⟩
      obtain ⟨m, rfl⟩ : ∃ m, k = m + 1 := ⟨k - 1, by omega⟩
      have r0 : marginaliaref07_behind.f m l = some _ := q0 m (by omega)
      have r1 : marginaliaref07_Last.l0 m l name ((n : Int) - 1) = some _ := q1 m (by omega)
      show marginaliaref07_Last.l0 (m + 1) l name (((n + 1 : Nat) : Int) - 1) = _
      rw [show ((n + 1 : Nat) : Int) - 1 = (n : Int) by omega, marginaliaref07_Last.l0, r0, Option.bind_some, lastn]
      by_cases c : n ≥ bh l l.length
      · rw [if_pos c, if_pos (by omega), if_pos (by omega), if_pos (by omega)]
        by_cases c2 : (rd_T27 l (n : Int)).f1.toList = name.toList
        · rw [if_pos c2, if_pos c2]
        · rw [if_neg c2, if_neg c2, w64 (by omega) (by omega), r1]
      · rw [if_neg c, if_neg (by omega)]
  refine Ev.congr (fun k => ?_) (h l.length (Nat.le_refl _))
  show marginaliaref07_Last.f k l name = _
  rw [marginaliaref07_Last.f, w64 (by omega) (by omega)]
theorem refFind_ev {l : List S27} (hl : l.length ≤ 1000) (id : Int) : Ev (fun k => marginaliaref07_Find.f k l id) (marks_Find.idx id l) := by
  have h : ∀ n j : Nat, j + n = l.length → (∀ i, i < j → (rd_T27 l (i : Int)).f0 ≠ id) → Ev (fun k => marginaliaref07_Find.l0 k l id (j : Int)) (marks_Find.idx id l) := by
    intro n
    induction n with
    | zero =>
      intro j hj hs
      refine Ev.step (f := fun _ => some _) (fun k => ?_) (Ev.now _)
      rw [marginaliaref07_Find.l0, if_neg (by omega), marks_Find.idx_none fun i hi => hs i (by omega)]
    | succ n ih =>
      intro j hj hs
      by_cases c : (rd_T27 l (j : Int)).f0 = id
      · refine Ev.step (f := fun _ => some _) (fun k => ?_) (Ev.now _)
        rw [marginaliaref07_Find.l0, if_pos (by omega), if_pos (by omega), if_pos c, marks_Find.idx_at (by omega) hs c]
      · refine Ev.step (fun k => ?_) (ih (j + 1) (by omega) fun i hi => ?_)
        · rw [marginaliaref07_Find.l0, if_pos (by omega), if_pos (by omega), if_neg c, w64 (by omega) (by omega)]
          rfl
        · by_cases e : i = j
          · subst e; exact c
          · exact hs i (by omega)
  exact Ev.congr (fun k => rfl) (h l.length 0 (by omega) fun i hi => absurd hi (Nat.not_lt_zero _))
theorem rdI_at {x : List Int} {j : Nat} (h : j < x.length) : rd x (j : Int) = x[j] := by simp [rd, List.getD_eq_getElem?_getD, h]
theorem indexI_ev {l : List Int} (hl : l.length ≤ 1000) (x : Int) : ∃ v : Int, Ev (fun k => slices_Index_int_int.f k l x) v ∧ decide (v ≥ 0) = l.any (fun y => x == y) := by
  have h : ∀ n j : Nat, j + n = l.length → ∃ v : Int, Ev (fun k => slices_Index_int_int.l0 k l x (l.length : Int) (j : Int)) v ∧ decide (v ≥ 0) = (l.drop j).any (fun y => x == y) := by
    intro n
    induction n with
    | zero =>
      intro j hj
      refine ⟨-1, Ev.step (f := fun _ => some _) (fun k => ?_) (Ev.now _), ?_⟩
      · rw [slices_Index_int_int.l0, if_neg (by omega)]
      · rw [List.drop_of_length_le (by omega)]; rfl
    | succ n ih =>
      intro j hj
      have hj' : j < l.length := by omega
      by_cases c : x = l[j]
      · refine ⟨(j : Int), Ev.step (f := fun _ => some _) (fun k => ?_) (Ev.now _), ?_⟩
        · rw [slices_Index_int_int.l0, if_pos (by omega), if_pos (by omega), if_pos (by omega), rdI_at hj', if_pos c]
        · rw [List.drop_eq_getElem_cons hj', List.any_cons, decide_eq_true (by omega), ← c]; simp
      · obtain ⟨v, hv, hd⟩ := ih (j + 1) (by omega)
        refine ⟨v, Ev.step (fun k => ?_) hv, ?_⟩
        · rw [slices_Index_int_int.l0, if_pos (by omega), if_pos (by omega), if_pos (by omega), rdI_at hj', if_neg c, w64 (by omega) (by omega)]
          rfl
        · rw [List.drop_eq_getElem_cons hj', List.any_cons, hd]; simp [c]
  obtain ⟨v, hv, hd⟩ := h l.length 0 (by omega)
  exact ⟨v, Ev.congr (fun k => rfl) hv, hd⟩
def renew (l : List S27) (o : List Int) : Nat → Nat
  | 0 => 0
  | n + 1 => if (rd_T27 l (n : Int)).f0 = 0 then n + 1 else if o.any (fun y => (rd_T27 l (n : Int)).f0 == y) = true then n + 1 else renew l o n
theorem renew_ev {l : List S27} (hl : l.length ≤ 1000) {o : List Int} (ho : o.length ≤ 1000) : Ev (fun k => marks_Renew.f k l o) (renew l o l.length : Int) := by
  have hfalse : ∀ x : Int, Ev (fun k => marks_Renew.j1 k l o x false) x := fun x => by
    refine Ev.step (f := fun _ => some _) (fun k => ?_) (Ev.now _)
    rw [marks_Renew.j1, if_neg (by decide)]
  have h : ∀ n : Nat, n ≤ l.length → Ev (fun k => marks_Renew.l0 k l o (n : Int)) (renew l o n : Int) := by
    intro n
    induction n with
    | zero =>
      intro _
      refine Ev.step (fun k => ?_) (hfalse _)
      rw [marks_Renew.l0, if_neg (by omega)]
      rfl
    | succ n ih =>
      intro hn
      have e : wrap64 (((n + 1 : Nat) : Int) - 1) = (n : Int) := by rw [w64 (by omega) (by omega)]; omega
      by_cases c : (rd_T27 l (n : Int)).f0 = 0
      · refine Ev.step (fun k => ?_) (show Ev _ _ from by rw [renew, if_pos c]; exact hfalse _)
        rw [marks_Renew.l0, if_pos (by omega), e, if_pos (by omega), if_pos (by omega), if_pos c]
      · obtain ⟨v, ⟨K1, q1⟩, hd⟩ := indexI_ev ho (rd_T27 l (n : Int)).f0
        have hj : Ev (fun k => marks_Renew.j1 k l o ((n + 1 : Nat) : Int) (!(decide (v ≥ 0)))) (renew l o (n + 1) : Int) := by
          rw [renew, if_neg c, hd]
          by_cases c2 : o.any (fun y => (rd_T27 l (n : Int)).f0 == y) = true
          · rw [if_pos c2, c2]; exact hfalse _
          · rw [if_neg c2, Bool.eq_false_iff.2 c2]
            refine Ev.step (fun k => ?_) (ih (by omega))
            rw [marks_Renew.j1, if_pos (by decide), e]
        obtain ⟨K2, q2⟩ := hj
        refine ⟨K1 + K2 + 1, fun k hk => ?_⟩
        obtain ⟨m, rfl⟩ : ∃ m, k = m + 1 := ⟨k - 1, by omega⟩
        have r1 : slices_Index_int_int.f m o (rd_T27 l (n : Int)).f0 = some _ := q1 m (by omega)
        have r2 : marks_Renew.j1 m l o ((n + 1 : Nat) : Int) (!(decide (v ≥ 0))) = some _ := q2 m (by omega)
        show marks_Renew.l0 (m + 1) l o ((n + 1 : Nat) : Int) = _
        rw [marks_Renew.l0, if_pos (by omega), e, if_pos (by omega), if_pos (by omega), if_neg c, slices_Contains_int_int.f, r1, Option.bind_some, Option.bind_some, r2]
  exact Ev.congr (fun k => rfl) (h l.length (Nat.le_refl _))
theorem refRenew_ev {l : List S27} (hl : l.length ≤ 1000) {o : List Int} (ho : o.length ≤ 1000) : Ev (fun k => marginaliaref07_Renew.f k l o) (renew l o l.length : Int) := by
  have hfalse : ∀ x : Int, Ev (fun k => marginaliaref07_Renew.j1 k l o x false) x := fun x => by
    refine Ev.step (f := fun _ => some _) (fun k => ?_) (Ev.now _)
    rw [marginaliaref07_Renew.j1, if_neg (by decide)]
  have h : ∀ n : Nat, n ≤ l.length → Ev (fun k => marginaliaref07_Renew.l0 k l o (n : Int)) (renew l o n : Int) := by
    intro n
    induction n with
    | zero =>
      intro _
      refine Ev.step (fun k => ?_) (hfalse _)
      rw [marginaliaref07_Renew.l0, if_neg (by omega)]
      rfl
    | succ n ih =>
      intro hn
      have e : wrap64 (((n + 1 : Nat) : Int) - 1) = (n : Int) := by rw [w64 (by omega) (by omega)]; omega
      by_cases c : (rd_T27 l (n : Int)).f0 = 0
      · refine Ev.step (fun k => ?_) (show Ev _ _ from by rw [renew, if_pos c]; exact hfalse _)
        rw [marginaliaref07_Renew.l0, if_pos (by omega), e, if_pos (by omega), if_pos (by omega), show ((rd_T27 l (n : Int)).f0 != 0) = false by simp [c]]
      · have hin : ∀ q j : Nat, j + q = o.length → (∀ i (hi : i < o.length), i < j → ¬ (rd_T27 l (n : Int)).f0 = o[i]) → Ev (fun k => marginaliaref07_Renew.l1 k l o ((n + 1 : Nat) : Int) (j : Int)) (renew l o (n + 1) : Int) := by
          intro q
          induction q with
          | zero =>
            intro j hj hs
            have hno : ¬ o.any (fun y => (rd_T27 l (n : Int)).f0 == y) = true := fun h => by
              rw [List.any_eq_true] at h
              obtain ⟨y, hy, he⟩ := h
              obtain ⟨i, hi, rfl⟩ := List.getElem_of_mem hy
              exact hs i hi (by omega) (by simpa using he)
            refine Ev.step (fun k => ?_) (show Ev _ _ from by rw [renew, if_neg c, if_neg hno]; exact ih (by omega))
            rw [marginaliaref07_Renew.l1, if_neg (by omega), e]
          | succ q ihq =>
            intro j hj hs
            have hj' : j < o.length := by omega
            by_cases c2 : o[j] = (rd_T27 l (n : Int)).f0
            · have hyes : o.any (fun y => (rd_T27 l (n : Int)).f0 == y) = true := List.any_eq_true.2 ⟨o[j], List.getElem_mem _, by simp [c2]⟩
              refine Ev.step (f := fun _ => some _) (fun k => ?_) (Ev.now _)
              rw [marginaliaref07_Renew.l1, if_pos (by omega), if_pos (by omega), e, if_pos (by omega), if_pos (by omega), rdI_at hj', if_pos c2, renew, if_neg c, if_pos hyes]
            · refine Ev.step (fun k => ?_) (ihq (j + 1) (by omega) fun i hi hij => ?_)
              · rw [marginaliaref07_Renew.l1, if_pos (by omega), if_pos (by omega), e, if_pos (by omega), if_pos (by omega), rdI_at hj', if_neg c2, w64 (by omega) (by omega)]
                rfl
              · by_cases e2 : i = j
                · subst e2; exact fun h => c2 h.symm
                · exact hs i hi (by omega)
        have hj1 : Ev (fun k => marginaliaref07_Renew.j1 k l o ((n + 1 : Nat) : Int) true) (renew l o (n + 1) : Int) := by
          refine Ev.step (fun k => ?_) (hin o.length 0 (by omega) fun i _ hi => absurd hi (Nat.not_lt_zero _))
          rw [marginaliaref07_Renew.j1, if_pos rfl]
          rfl
        refine Ev.step (fun k => ?_) hj1
        rw [marginaliaref07_Renew.l0, if_pos (by omega), e, if_pos (by omega), if_pos (by omega), show ((rd_T27 l (n : Int)).f0 != 0) = true by simp [c]]
  exact Ev.congr (fun k => rfl) (h l.length (Nat.le_refl _))
end Go.Proofs.Ytmdmoohkdkooaaa.MarkLaws
namespace Go.Proofs.Ytmdmoohkdkooaaa.Pure
open Go.RowKit Go.Proofs.Ytmdmoohkdkooaaa Go.Proofs.Ytmdmoohkdkooaaa.M Go.Proofs.Ytmdmoohkdkooaaa.M.marksFindsOpen Go.Proofs.Ytmdmoohkdkooaaa.MarkLaws Go.Proofs.YtmdmoohkdkooaaaW.PrintWords Go.Proofs.YtmdmoohkdkooaaaW.PrintLast Go.Proofs.YtmdmoohkdkooaaaW.PrintMore
theorem MarksFinds : marksFindsOpen.Pure := by
  intro l name o _ _ _ _ _
  obtain ⟨K0, q0⟩ := alive_ev
  have hj0 : ∀ c : Bool, c = true → Ev (fun k => marginalialaw07_MarksFinds.j0 k l name o c) true := fun c hc => by
    refine ⟨K0 + 1, fun k hk => ?_⟩
    obtain ⟨m, rfl⟩ : ∃ m, k = m + 1 := ⟨k - 1, by omega⟩
    have r0 : marginalialaw07_alive.f m = some true := q0 _ (by omega)
    show marginalialaw07_MarksFinds.j0 (m + 1) l name o c = _
    rw [marginalialaw07_MarksFinds.j0, if_pos hc, r0, Option.bind_some]
  rcases small_ev l with ⟨⟨K1, q1⟩, hl, _⟩ | ⟨K1, q1⟩
  · have r1 : ∀ k, K1 ≤ k → marginalialaw07_small.f k l = some true := q1
    by_cases c : (o.length : Int) > 40
    · obtain ⟨K2, q2⟩ := hj0 _ (decide_eq_true c)
      have r2 : marginalialaw07_MarksFinds.j0 (K1 + K2) l name o (decide ((o.length : Int) > 40)) = some true := q2 _ (by omega)
      exact ⟨K1 + K2, by rw [marginalialaw07_MarksFinds.f, r1 _ (by omega), Option.bind_some, if_pos rfl, r2]⟩
    · have hj1 : ∀ x : Int, Ev (fun k => marginalialaw07_MarksFinds.j1 k l name o x) true := fun x => by
        obtain ⟨A1, a1⟩ := last_ev (l := l) (by omega) name
        obtain ⟨A2, a2⟩ := refLast_ev (l := l) (by omega) name
        obtain ⟨A3, a3⟩ := refFind_ev (l := l) (by omega) x
        obtain ⟨A4, a4⟩ := renew_ev (l := l) (by omega) (o := o) (by omega)
        obtain ⟨A5, a5⟩ := refRenew_ev (l := l) (by omega) (o := o) (by omega)
        refine ⟨K0 + A1 + A2 + A3 + A4 + A5 + 1, fun k hk => ?_⟩
        obtain ⟨m, rfl⟩ : ∃ m, k = m + 1 := ⟨k - 1, by omega⟩
        have r0 : marginalialaw07_alive.f m = some true := q0 _ (by omega)
        have b1 : marks_Last.f m l name = some _ := a1 m (by omega)
        have b2 : marginaliaref07_Last.f m l name = some _ := a2 m (by omega)
        have b3 : marginaliaref07_Find.f m l x = some _ := a3 m (by omega)
        have b4 : marks_Renew.f m l o = some _ := a4 m (by omega)
        have b5 : marginaliaref07_Renew.f m l o = some _ := a5 m (by omega)
        show marginalialaw07_MarksFinds.j1 (m + 1) l name o x = _
        rw [marginalialaw07_MarksFinds.j1, r0, Option.bind_some, if_pos rfl, b1, Option.bind_some, b2, Option.bind_some, if_pos rfl, marks_Find.f, Option.bind_some, b3, Option.bind_some, if_pos rfl, b4, Option.bind_some, b5, Option.bind_some]
        simp
      have hj : Ev (fun k => marginalialaw07_MarksFinds.j0 k l name o false) true := by
        by_cases c2 : (o.length : Int) > 0
        · refine Ev.step (fun k => ?_) (hj1 (rd o 0))
          rw [marginalialaw07_MarksFinds.j0, if_neg (by decide), if_pos c2, if_pos (by omega)]
        · refine Ev.step (fun k => ?_) (hj1 0)
          rw [marginalialaw07_MarksFinds.j0, if_neg (by decide), if_neg c2]
      obtain ⟨K2, q2⟩ := hj
      have r2 : marginalialaw07_MarksFinds.j0 (K1 + K2) l name o false = some true := q2 _ (by omega)
      exact ⟨K1 + K2, by rw [marginalialaw07_MarksFinds.f, r1 _ (by omega), Option.bind_some, if_pos rfl, decide_eq_false c, r2]⟩
  · have r1 : ∀ k, K1 ≤ k → marginalialaw07_small.f k l = some false := q1
    obtain ⟨K2, q2⟩ := hj0 true rfl
    have r2 : marginalialaw07_MarksFinds.j0 (K1 + K2) l name o true = some true := q2 _ (by omega)
    exact ⟨K1 + K2, by rw [marginalialaw07_MarksFinds.f, r1 _ (by omega), Option.bind_some, if_neg (by decide), r2]⟩
end Go.Proofs.Ytmdmoohkdkooaaa.Pure
