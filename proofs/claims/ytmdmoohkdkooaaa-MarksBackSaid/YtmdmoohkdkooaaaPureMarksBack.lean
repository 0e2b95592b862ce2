/- MarksBack: an entry that is put in is found there, and taken out leaves the list as it was; what is cleared behind a marker is as it was ahead of it. No condition beyond those that each theorem names. -/
import Derived.Test.YtmdmoohkdkooaaaOpenMarksBack
import Derived.Test.YtmdmoohkdkooaaaMarkLaws
namespace Go.Proofs.Ytmdmoohkdkooaaa.MarkLaws
open Go.RowKit Go.Proofs.Ytmdmoohkdkooaaa Go.Proofs.Ytmdmoohkdkooaaa.M Go.Proofs.YtmdmoohkdkooaaaW.PrintWords Go.Proofs.YtmdmoohkdkooaaaW.PrintLast Go.Proofs.YtmdmoohkdkooaaaW.PrintMore
set_option linter.unusedVariables false
/-- Is an entry of a name and of attributes like these? -/
def same (name : ByteArray) (at_ : List S70) (x : S27) : Bool := (x.f1.toList == name.toList) && al x.f2 at_
/-- The places, from j on, of what is the same. -/
def places (p : S27 → Bool) (x : List S27) : Nat → Nat → List Int
  | _, 0 => []
  | j, n + 1 => (if p (rd_T27 x (j : Int)) = true then [(j : Int)] else []) ++ places p x (j + 1) n
theorem places_count {p : S27 → Bool} {x : List S27} : ∀ n j, j + n = x.length → (places p x j n).length = (x.drop j).countP p := by
  intro n
  induction n with
  | zero => intro j hj; rw [List.drop_of_length_le (by omega)]; rfl
  | succ n ih =>
    intro j hj
    have hlt : j < x.length := by omega
    rw [places, List.length_append, ih (j + 1) (by omega), List.drop_eq_getElem_cons hlt, List.countP_cons, rd27_at hlt]
    split <;> simp <;> omega
theorem places_mem {p : S27 → Bool} {x : List S27} : ∀ n j, j + n = x.length → ∀ i ∈ places p x j n, ∃ q : Nat, i = (q : Int) ∧ j ≤ q ∧ q < x.length ∧ p (rd_T27 x (q : Int)) = true := by
  intro n
  induction n with
  | zero => intro j _ i hi; cases hi
  | succ n ih =>
    intro j hj i hi
    rw [places, List.mem_append] at hi
    rcases hi with hi | hi
    · split at hi
      · rename_i hp
        rw [List.mem_singleton] at hi
        exact ⟨j, hi, Nat.le_refl _, by omega, hp⟩
      · cases hi
    · obtain ⟨q, h1, h2, h3, h4⟩ := ih (j + 1) (by omega) i hi
      exact ⟨q, h1, by omega, h3, h4⟩
theorem without_neg {x : List S27} (hl : x.length ≤ 1000) : marks_without.f x (-1) = some x := by
  rw [marks_without.f, if_pos (by omega), marks_joined.f, if_pos (by simp; omega), Option.bind_some, List.append_nil]
theorem without_at {x : List S27} (hl : x.length ≤ 1000) {q : Nat} (hq : q < x.length) : marks_without.f x (q : Int) = some (x.eraseIdx q) := by
  have e : wrap64 ((q : Int) + 1) = ((q + 1 : Nat) : Int) := by rw [w64 (by omega) (by omega)]; omega
  rw [marks_without.f, if_neg (by omega), if_pos (by omega), if_pos (by omega), e, if_pos (by omega), if_pos (by omega), Int.toNat_natCast, Int.toNat_natCast, marks_joined.f, if_pos (by rw [List.length_take, List.length_drop]; omega), Option.bind_some, List.eraseIdx_eq_take_drop_succ]
/-- What Push makes of places. -/
def final (x : List S27) (acc : List Int) (m : S27) : List S27 := if acc.length ≥ 3 then x.eraseIdx (rd acc 0).toNat ++ [m] else x ++ [m]
theorem push_j1 {x : List S27} (hl : x.length ≤ 1000) {acc : List Int} (ha : ∀ i ∈ acc, ∃ q : Nat, i = (q : Int) ∧ q < x.length) (m0 : Int) (m1 : ByteArray) (m2 : List S70) (k : Nat) : marks_Push.j1 (k + 1) x acc m0 m1 m2 = some (final x acc ⟨m0, m1, m2⟩) := by
  unfold final
  by_cases c : acc.length ≥ 3
  · have hr : rd acc 0 = acc[0] := by
      have : rd acc ((0 : Nat) : Int) = acc[0] := by simp [rd, List.getD_eq_getElem?_getD, show 0 < acc.length by omega]
      exact this
    obtain ⟨q, hq, hlt⟩ := ha acc[0] (List.getElem_mem _)
    rw [if_pos c, marks_Push.j1, if_pos (by omega), if_pos (by omega), hr, hq, without_at hl hlt, Option.bind_some, Option.bind_some, if_pos (by rw [List.length_eraseIdx]; simp; split <;> omega), Int.toNat_natCast]
  · rw [if_neg c, marks_Push.j1, if_neg (by omega), without_neg hl, Option.bind_some, Option.bind_some, if_pos (by simp; omega)]
theorem push_ev {x : List S27} (hl : x.length ≤ 100) (hx : ∀ j, j < x.length → (rd_T27 x (j : Int)).f2.length ≤ 6) (m0 : Int) (m1 : ByteArray) (m2 : List S70) (hm : m2.length ≤ 6) :
    Ev (fun k => marks_Push.f k x m0 m1 m2) (final x (if m0 = 0 then [] else places (same m1 m2) x (bh x x.length) (x.length - bh x x.length)) ⟨m0, m1, m2⟩) := by
  have hj1 : ∀ acc : List Int, (∀ i ∈ acc, ∃ q : Nat, i = (q : Int) ∧ q < x.length) → Ev (fun k => marks_Push.j1 k x acc m0 m1 m2) (final x acc ⟨m0, m1, m2⟩) := fun acc ha => by
    refine ⟨1, fun k hk => ?_⟩
    obtain ⟨m, rfl⟩ : ∃ m, k = m + 1 := ⟨k - 1, by omega⟩
    exact push_j1 (by omega) ha m0 m1 m2 m
  by_cases c : m0 = 0
  · rw [if_pos c]
    refine Ev.congr (fun k => ?_) (hj1 [] (fun i hi => by cases hi))
    show marks_Push.f k x m0 m1 m2 = _
    rw [marks_Push.f, if_pos c]
  · rw [if_neg c]
    have h : ∀ n j : Nat, j + n = x.length → ∀ acc : List Int, acc.length ≤ j → (∀ i ∈ acc, ∃ q : Nat, i = (q : Int) ∧ q < x.length) → Ev (fun k => marks_Push.l0 k x acc (j : Int) m0 m1 m2) (final x (acc ++ places (same m1 m2) x j n) ⟨m0, m1, m2⟩) := by
      intro n
      induction n with
      | zero =>
        intro j hj acc hal ha
        refine Ev.step (fun k => ?_) (by rw [places, List.append_nil]; exact hj1 acc ha)
        rw [marks_Push.l0, if_neg (by omega)]
      | succ n ih =>
        intro j hj acc hal ha
        have hlt : j < x.length := by omega
        have ew : wrap64 ((j : Int) + 1) = ((j + 1 : Nat) : Int) := by rw [w64 (by omega) (by omega)]; omega
        by_cases c1 : (rd_T27 x (j : Int)).f1.toList = m1.toList
        · obtain ⟨K1, q1⟩ := alike_ev (a := (rd_T27 x (j : Int)).f2) (b := m2) (by have := hx j hlt; omega) (by omega)
          by_cases c2 : al (rd_T27 x (j : Int)).f2 m2 = true
          · have hs : same m1 m2 (rd_T27 x (j : Int)) = true := by unfold same; rw [c1, c2]; simp
            obtain ⟨K2, q2⟩ := ih (j + 1) (by omega) (acc ++ [(j : Int)]) (by simp; omega) (fun i hi => by
              rcases List.mem_append.1 hi with hi | hi
              · exact ha i hi
              · exact ⟨j, List.mem_singleton.1 hi, hlt⟩)
            rw [places, if_pos hs, ← List.append_assoc]
            refine ⟨K1 + K2 + 1, fun k hk => ?_⟩
            obtain ⟨d, rfl⟩ : ∃ d, k = d + 1 := ⟨k - 1, by omega⟩
            have r1 : marks_Alike.f d (rd_T27 x (j : Int)).f2 m2 = some _ := q1 d (by omega)
            have r2 : marks_Push.l0 d x (acc ++ [(j : Int)]) ((j + 1 : Nat) : Int) m0 m1 m2 = some _ := q2 d (by omega)
            show marks_Push.l0 (d + 1) x acc (j : Int) m0 m1 m2 = _
            rw [marks_Push.l0, if_pos (by omega), if_pos (by omega), if_pos c1, r1, Option.bind_some, if_pos c2, Option.bind_some, if_pos (by simp; omega), ew, r2]
          · have hs : ¬ same m1 m2 (rd_T27 x (j : Int)) = true := by unfold same; simp [c2]
            obtain ⟨K2, q2⟩ := ih (j + 1) (by omega) acc (by omega) ha
            rw [places, if_neg hs, List.nil_append]
            refine ⟨K1 + K2 + 1, fun k hk => ?_⟩
            obtain ⟨d, rfl⟩ : ∃ d, k = d + 1 := ⟨k - 1, by omega⟩
            have r1 : marks_Alike.f d (rd_T27 x (j : Int)).f2 m2 = some _ := q1 d (by omega)
            have r2 : marks_Push.l0 d x acc ((j + 1 : Nat) : Int) m0 m1 m2 = some _ := q2 d (by omega)
            show marks_Push.l0 (d + 1) x acc (j : Int) m0 m1 m2 = _
            rw [marks_Push.l0, if_pos (by omega), if_pos (by omega), if_pos c1, r1, Option.bind_some, if_neg c2, ew, r2]
        · have hs : ¬ same m1 m2 (rd_T27 x (j : Int)) = true := by unfold same; simp [c1]
          rw [places, if_neg hs, List.nil_append]
          refine Ev.step (fun k => ?_) (ih (j + 1) (by omega) acc (by omega) ha)
          rw [marks_Push.l0, if_pos (by omega), if_pos (by omega), if_neg c1, ew]
    have hbh : bh x x.length ≤ x.length := by
      have : ∀ n, bh x n ≤ n := fun n => by
        induction n with
        | zero => exact Nat.le_refl _
        | succ n ih => rw [bh]; split <;> omega
      exact this _
    obtain ⟨K1, q1⟩ := behind_ev (l := x) (by omega)
    obtain ⟨K2, q2⟩ := h (x.length - bh x x.length) (bh x x.length) (by omega) [] (Nat.zero_le _) (fun i hi => by cases hi)
    refine ⟨K1 + K2, fun k hk => ?_⟩
    have r1 : marks_behind.f k x = some _ := q1 k (by omega)
    have r2 : marks_Push.l0 k x [] (bh x x.length : Int) m0 m1 m2 = some _ := q2 k (by omega)
    show marks_Push.f k x m0 m1 m2 = _
    rw [marks_Push.f, if_neg c, r1, Option.bind_some, r2, List.nil_append]
theorem attrs_refl {a : List S70} (ha : a.length ≤ 1000) : Ev (fun k => marginaliaref04_Attrs.f k a a) true := by
  have h : ∀ n j : Nat, j + n = a.length → Ev (fun k => marginaliaref04_Attrs.l0 k a a (j : Int)) true := by
    intro n
    induction n with
    | zero =>
      intro j hj
      refine Ev.step (f := fun _ => some _) (fun k => ?_) (Ev.now _)
      rw [marginaliaref04_Attrs.l0, if_neg (by omega)]
    | succ n ih =>
      intro j hj
      refine Ev.step (fun k => ?_) (ih (j + 1) (by omega))
      rw [marginaliaref04_Attrs.l0, if_pos (by omega), if_pos (by omega), if_pos (by omega), if_neg (by simp), w64 (by omega) (by omega)]
      rfl
  refine Ev.congr (fun k => ?_) (h a.length 0 (by omega))
  show marginaliaref04_Attrs.f k a a = _
  rw [marginaliaref04_Attrs.f, if_pos rfl]
  rfl
theorem sameList_refl {x : List S27} (hl : x.length ≤ 1000) (hx : ∀ j, j < x.length → (rd_T27 x (j : Int)).f2.length ≤ 1000) : Ev (fun k => marginaliaref07_Same.f k x x) true := by
  have h : ∀ n j : Nat, j + n = x.length → Ev (fun k => marginaliaref07_Same.l0 k x x (j : Int)) true := by
    intro n
    induction n with
    | zero =>
      intro j hj
      refine Ev.step (f := fun _ => some _) (fun k => ?_) (Ev.now _)
      rw [marginaliaref07_Same.l0, if_neg (by omega)]
    | succ n ih =>
      intro j hj
      obtain ⟨K1, q1⟩ := attrs_refl (hx j (by omega))
      obtain ⟨K2, q2⟩ := ih (j + 1) (by omega)
      refine ⟨K1 + K2 + 2, fun k hk => ?_⟩
      obtain ⟨d, rfl⟩ : ∃ d, k = d + 1 + 1 := ⟨k - 2, by omega⟩
      have r1 : marginaliaref04_Attrs.f (d + 1) (rd_T27 x (j : Int)).f2 (rd_T27 x (j : Int)).f2 = some true := q1 _ (by omega)
      have r2 : marginaliaref07_Same.l0 d x x ((j + 1 : Nat) : Int) = some true := q2 _ (by omega)
      show marginaliaref07_Same.l0 (d + 1 + 1) x x (j : Int) = _
      rw [marginaliaref07_Same.l0, if_pos (by omega), if_pos (by omega), if_pos (by omega), if_pos rfl, if_pos rfl, r1, Option.bind_some, marginaliaref07_Same.j1, if_neg (by decide), w64 (by omega) (by omega)]
      exact r2
  refine Ev.congr (fun k => ?_) (h x.length 0 (by omega))
  show marginaliaref07_Same.f k x x = _
  rw [marginaliaref07_Same.f, if_pos rfl]
  rfl
theorem rdI_at {x : List Int} {j : Nat} (h : j < x.length) : rd x (j : Int) = x[j] := by simp [rd, List.getD_eq_getElem?_getD, h]
theorem indexI_ev {l : List Int} (hl : l.length ≤ 1000) (x : Int) : ∃ v : Int, Ev (fun k => slices_Index_int_int.f k l x) v ∧ decide (v ≥ 0) = l.any (fun y => x == y) := by
  have h : ∀ n j : Nat, j + n = l.length → ∃ v : Int, Ev (fun k => slices_Index_int_int.l0 k l x (l.length : Int) (j : Int)) v ∧ decide (v ≥ 0) = (l.drop j).any (fun y => x == y) := by
    intro n
    induction n with
    | zero =>
      intro j hj
      refine ⟨-1, Ev.step (f := fun _ => some _) (fun k => ?_) (Ev.now _), ?_⟩
      · rw [slices_Index_int_int.l0, if_neg (by omega)]
      · rw [List.drop_of_length_le (by omega)]; rfl
    | succ n ih =>
      intro j hj
      have hj' : j < l.length := by omega
      by_cases c : x = l[j]
      · refine ⟨(j : Int), Ev.step (f := fun _ => some _) (fun k => ?_) (Ev.now _), ?_⟩
        · rw [slices_Index_int_int.l0, if_pos (by omega), if_pos (by omega), if_pos (by omega), rdI_at hj', if_pos c]
        · rw [List.drop_eq_getElem_cons hj', List.any_cons, decide_eq_true (by omega), ← c]; simp
      · obtain ⟨v, hv, hd⟩ := ih (j + 1) (by omega)
        refine ⟨v, Ev.step (fun k => ?_) hv, ?_⟩
        · rw [slices_Index_int_int.l0, if_pos (by omega), if_pos (by omega), if_pos (by omega), rdI_at hj', if_neg c, w64 (by omega) (by omega)]
          rfl
        · rw [List.drop_eq_getElem_cons hj', List.any_cons, hd]; simp [c]
  obtain ⟨v, hv, hd⟩ := h l.length 0 (by omega)
  exact ⟨v, Ev.congr (fun k => rfl) hv, hd⟩
def renew (l : List S27) (o : List Int) : Nat → Nat
  | 0 => 0
  | n + 1 => if (rd_T27 l (n : Int)).f0 = 0 then n + 1 else if o.any (fun y => (rd_T27 l (n : Int)).f0 == y) = true then n + 1 else renew l o n
theorem renew_ev {l : List S27} (hl : l.length ≤ 1000) {o : List Int} (ho : o.length ≤ 1000) : Ev (fun k => marks_Renew.f k l o) (renew l o l.length : Int) := by
  have hfalse : ∀ x : Int, Ev (fun k => marks_Renew.j1 k l o x false) x := fun x => by
    refine Ev.step (f := fun _ => some _) (fun k => ?_) (Ev.now _)
    rw [marks_Renew.j1, if_neg (by decide)]
  have h : ∀ n : Nat, n ≤ l.length → Ev (fun k => marks_Renew.l0 k l o (n : Int)) (renew l o n : Int) := by
    intro n
    induction n with
    | zero =>
      intro _
      refine Ev.step (fun k => ?_) (hfalse _)
      rw [marks_Renew.l0, if_neg (by omega)]
      rfl
    | succ n ih =>
      intro hn
      have e : wrap64 (((n + 1 : Nat) : Int) - 1) = (n : Int) := by rw [w64 (by omega) (by omega)]; omega
      by_cases c : (rd_T27 l (n : Int)).f0 = 0
      · refine Ev.step (fun k => ?_) (show Ev _ _ from by rw [renew, if_pos c]; exact hfalse _)
        rw [marks_Renew.l0, if_pos (by omega), e, if_pos (by omega), if_pos (by omega), if_pos c]
      · obtain ⟨v, ⟨K1, q1⟩, hd⟩ := indexI_ev ho (rd_T27 l (n : Int)).f0
        have hj : Ev (fun k => marks_Renew.j1 k l o ((n + 1 : Nat) : Int) (!(decide (v ≥ 0)))) (renew l o (n + 1) : Int) := by
          rw [renew, if_neg c, hd]
          by_cases c2 : o.any (fun y => (rd_T27 l (n : Int)).f0 == y) = true
          · rw [if_pos c2, c2]; exact hfalse _
          · rw [if_neg c2, Bool.eq_false_iff.2 c2]
            refine Ev.step (fun k => ?_) (ih (by omega))
            rw [marks_Renew.j1, if_pos (by decide), e]
        obtain ⟨K2, q2⟩ := hj
        refine ⟨K1 + K2 + 1, fun k hk => ?_⟩
        obtain ⟨m, rfl⟩ : ∃ m, k = m + 1 := ⟨k - 1, by omega⟩
        have r1 : slices_Index_int_int.f m o (rd_T27 l (n : Int)).f0 = some _ := q1 m (by omega)
        have r2 : marks_Renew.j1 m l o ((n + 1 : Nat) : Int) (!(decide (v ≥ 0))) = some _ := q2 m (by omega)
        show marks_Renew.l0 (m + 1) l o ((n + 1 : Nat) : Int) = _
        rw [marks_Renew.l0, if_pos (by omega), e, if_pos (by omega), if_pos (by omega), if_neg c, slices_Contains_int_int.f, r1, Option.bind_some, Option.bind_some, r2]
  exact Ev.congr (fun k => rfl) (h l.length (Nat.le_refl _))
theorem rd_app_left {x y : List S27} {j : Nat} (h : j < x.length) : rd_T27 (x ++ y) (j : Int) = rd_T27 x (j : Int) := by
  rw [rd27_at (by rw [List.length_append]; omega), rd27_at h, List.getElem_append_left h]
theorem rd_app_at {x y : List S27} {m : S27} : rd_T27 (x ++ m :: y) (x.length : Int) = m := by
  rw [rd27_at (by simp)]
  simp
/-- Where a new entry was put in. -/
theorem idx_insert {l : List S27} {q : Nat} {m : S27} (hq : q ≤ l.length) (hn : ∀ j, j < l.length → (rd_T27 l (j : Int)).f0 ≠ m.f0) : marks_Find.idx m.f0 (l.take q ++ m :: l.drop q) = (q : Int) := by
  have hl : (l.take q).length = q := by rw [List.length_take]; omega
  refine marks_Find.idx_at (by simp; omega) (fun j hj => ?_) ?_
  · rw [rd_app_left (by omega), rd27_at (by omega), List.getElem_take]
    have := hn j (by omega)
    rwa [rd27_at (by omega)] at this
  · have := rd_app_at (x := l.take q) (y := l.drop q) (m := m)
    rw [hl] at this
    rw [this]
theorem erase_insert {l : List S27} {q : Nat} {m : S27} (hq : q ≤ l.length) : (l.take q ++ m :: l.drop q).eraseIdx q = l := by
  have hl : (l.take q).length = q := by rw [List.length_take]; omega
  rw [List.eraseIdx_append_of_length_le (by omega), hl, Nat.sub_self]
  simp
theorem bh_mark {l : List S27} {z m : S27} (hz : z.f0 = 0) (hm : m.f0 ≠ 0) : bh (l ++ [z]) (l.length + 1) = l.length + 1 ∧ bh (l ++ [z] ++ [m]) (l.length + 2) = l.length + 1 := by
  have h1 : rd_T27 (l ++ [z]) (l.length : Int) = z := rd_app_at
  have h2 : rd_T27 (l ++ [z] ++ [m]) (l.length : Int) = z := by
    rw [rd_app_left (by simp)]; exact h1
  have h3 : rd_T27 (l ++ [z] ++ [m]) ((l.length + 1 : Nat) : Int) = m := by
    have := rd_app_at (x := l ++ [z]) (y := []) (m := m)
    rwa [List.length_append, List.length_singleton] at this
  refine ⟨by rw [bh, h1, if_pos hz], ?_⟩
  rw [bh, h3, if_neg hm, bh, h2, if_pos hz]
theorem renew_mark {l : List S27} {z m : S27} (hz : z.f0 = 0) (hm : m.f0 ≠ 0) : renew (l ++ [z] ++ [m]) [] (l.length + 2) = l.length + 1 := by
  have h1 : rd_T27 (l ++ [z]) (l.length : Int) = z := rd_app_at
  have h2 : rd_T27 (l ++ [z] ++ [m]) (l.length : Int) = z := by
    rw [rd_app_left (by simp)]; exact h1
  have h3 : rd_T27 (l ++ [z] ++ [m]) ((l.length + 1 : Nat) : Int) = m := by
    have := rd_app_at (x := l ++ [z]) (y := []) (m := m)
    rwa [List.length_append, List.length_singleton] at this
  rw [renew, h3, if_neg hm, if_neg (by simp), renew, h2, if_pos hz]
theorem clear_mark {l : List S27} {z m : S27} (hl : l.length ≤ 50) (hz : z.f0 = 0) (hm : m.f0 ≠ 0) : Ev (fun k => marks_Clear.f k (l ++ [z] ++ [m])) l := by
  obtain ⟨K, h⟩ := behind_ev (l := l ++ [z] ++ [m]) (by simp; omega)
  refine ⟨K, fun k hk => ?_⟩
  have e : (l ++ [z] ++ [m]).length = l.length + 2 := by simp
  have r : marks_behind.f k (l ++ [z] ++ [m]) = some ((l.length + 1 : Nat) : Int) := by
    have := h k hk
    rw [e, (bh_mark hz hm).2] at this
    exact this
  have ew : wrap64 (((l.length + 1 : Nat) : Int) - 1) = (l.length : Int) := by rw [w64 (by omega) (by omega)]; omega
  have emx : mx (l.length : Int) 0 = (l.length : Int) := by unfold mx; split <;> omega
  show marks_Clear.f k (l ++ [z] ++ [m]) = _
  rw [marks_Clear.f, r, Option.bind_some, ew, emx, if_pos (by omega), if_pos (by rw [e]; omega), Int.toNat_natCast, marks_joined.f, if_pos (by rw [List.length_take, e]; simp; omega), Option.bind_some, List.append_nil, List.append_assoc, List.take_left' rfl]
theorem back_push {x : List S27} (hl : x.length ≤ 100) (hx : ∀ j, j < x.length → (rd_T27 x (j : Int)).f2.length ≤ 6) (m0 : Int) (m1 : ByteArray) (m2 : List S70) (hm : m2.length ≤ 6) (h : m0 = 0 ∨ bh x x.length = x.length) :
    Ev (fun k => marks_Push.f k x m0 m1 m2) (x ++ [⟨m0, m1, m2⟩]) := by
  have e : final x (if m0 = 0 then [] else places (same m1 m2) x (bh x x.length) (x.length - bh x x.length)) ⟨m0, m1, m2⟩ = x ++ [⟨m0, m1, m2⟩] := by
    have : (if m0 = 0 then [] else places (same m1 m2) x (bh x x.length) (x.length - bh x x.length)) = [] := by
      by_cases c : m0 = 0
      · exact if_pos c
      · rw [if_neg c, h.resolve_left c, Nat.sub_self]; rfl
    rw [this]
    exact if_neg (by decide)
  rw [← e]
  exact push_ev hl hx m0 m1 m2 hm
theorem back_insert {l : List S27} (hl : l.length ≤ 50) (at_ m0 : Int) (m1 : ByteArray) (m2 : List S70) : ∃ q : Nat, q ≤ l.length ∧ (at_ < 0 → q = 0) ∧ (0 ≤ at_ → at_ ≤ (l.length : Int) → at_ = (q : Int)) ∧ ((l.length : Int) < at_ → l.length = q) ∧ marks_Insert.f l at_ m0 m1 m2 = some (l.take q ++ (⟨m0, m1, m2⟩ : S27) :: l.drop q) := by
  refine ⟨(mn (mx at_ 0) l.length).toNat, ?_, ?_, ?_, ?_, ?_⟩
  · unfold mn mx; (repeat' split) <;> omega
  · intro h; unfold mn mx; (repeat' split) <;> omega
  · intro h1 h2; unfold mn mx; (repeat' split) <;> omega
  · intro h; unfold mn mx; (repeat' split) <;> omega
  · rw [marks_Insert.f, if_pos (by omega)]
theorem back_drop {l i : List S27} {q : Nat} {m0 : Int} (hl : i.length ≤ 1000) (hq : q < i.length) (hf : marks_Find.idx m0 i = (q : Int)) (he : i.eraseIdx q = l) : marks_Drop.f i m0 = some l := by
  rw [marks_Drop.f, marks_Find.f, Option.bind_some, hf, without_at hl hq, Option.bind_some, he]
theorem back_j3 {l i x y : List S27} {q d : Nat} {m0 : Int} {m1 : ByteArray} {m2 : List S70} (hl : l.length ≤ 100) (hi : i.length = l.length + 1) (r0 : marginalialaw07_alive.f d = some true) (hf : marks_Find.idx m0 i = (q : Int)) (hd : marks_Drop.f i m0 = some l)
    (b1 : marks_Push.f d l 0 (⟨#[]⟩ : ByteArray) ([] : List S70) = some x) (b2 : marks_Push.f d x m0 m1 m2 = some y) (b3 : marks_Clear.f d y = some l) (b4 : marks_Renew.f d y [] = some ((l.length + 1 : Nat) : Int)) (b5 : marginaliaref07_Same.f d l l = some true) :
    marginalialaw07_MarksBack.j3 (d + 1) l i (q : Int) m0 m1 m2 = some true := by
  have ew : wrap64 ((l.length : Int) + 1) = ((l.length + 1 : Nat) : Int) := by rw [w64 (by omega) (by omega)]; omega
  have e0 : (i.length : Int) = ((l.length + 1 : Nat) : Int) := by rw [hi]
  have e6 : marks_Find.f i m0 = some (q : Int) := by rw [marks_Find.f, hf]
  rw [marginalialaw07_MarksBack.j3, hd, Option.bind_some, b1, Option.bind_some, b2, Option.bind_some, r0, Option.bind_some, if_pos rfl, ew, if_pos e0, e6, Option.bind_some, if_pos rfl, b5, Option.bind_some, if_pos rfl, b3, Option.bind_some, b5, Option.bind_some, if_pos rfl, b4, Option.bind_some, beq_self_eq_true]
end Go.Proofs.Ytmdmoohkdkooaaa.MarkLaws
namespace Go.Proofs.Ytmdmoohkdkooaaa.Pure
open Go.RowKit Go.Proofs.Ytmdmoohkdkooaaa Go.Proofs.Ytmdmoohkdkooaaa.M Go.Proofs.Ytmdmoohkdkooaaa.M.marksBackOpen Go.Proofs.Ytmdmoohkdkooaaa.MarkLaws Go.Proofs.YtmdmoohkdkooaaaW.PrintWords Go.Proofs.YtmdmoohkdkooaaaW.PrintLast Go.Proofs.YtmdmoohkdkooaaaW.PrintMore
set_option linter.unusedVariables false
theorem MarksBack : marksBackOpen.Pure := by
  rintro l at_ ⟨m0, m1, m2⟩ _ _ _
  show ∃ k, marginalialaw07_MarksBack.f k l at_ m0 m1 m2 = some true
  obtain ⟨K0, q0⟩ := alive_ev
  have hj0 : ∀ c : Bool, c = true → Ev (fun k => marginalialaw07_MarksBack.j0 k l at_ c m0 m1 m2) true := fun c hc => by
    refine ⟨K0 + 1, fun k hk => ?_⟩
    obtain ⟨m, rfl⟩ : ∃ m, k = m + 1 := ⟨k - 1, by omega⟩
    have r0 : marginalialaw07_alive.f m = some true := q0 _ (by omega)
    show marginalialaw07_MarksBack.j0 (m + 1) l at_ c m0 m1 m2 = _
    rw [marginalialaw07_MarksBack.j0, if_pos hc, r0, Option.bind_some]
  rcases small_ev l with ⟨⟨K1, q1⟩, hl, hat⟩ | ⟨K1, q1⟩
  · have r1 : ∀ k, K1 ≤ k → marginalialaw07_small.f k l = some true := q1
    by_cases c : (m2.length : Int) > 6
    · obtain ⟨K2, q2⟩ := hj0 true rfl
      have r2 : marginalialaw07_MarksBack.j0 (K1 + K2) l at_ true m0 m1 m2 = some true := q2 _ (by omega)
      exact ⟨K1 + K2, by rw [marginalialaw07_MarksBack.f, r1 _ (by omega), Option.bind_some, if_pos rfl, if_pos c, r2]⟩
    by_cases c0 : m0 = 0
    · obtain ⟨K2, q2⟩ := hj0 (m0 == 0) (by simp [c0])
      have r2 : marginalialaw07_MarksBack.j0 (K1 + K2) l at_ (m0 == 0) m0 m1 m2 = some true := q2 _ (by omega)
      exact ⟨K1 + K2, by rw [marginalialaw07_MarksBack.f, r1 _ (by omega), Option.bind_some, if_pos rfl, if_neg c, r2]⟩
    have hmain : (∀ j, j < l.length → (rd_T27 l (j : Int)).f0 ≠ m0) → Ev (fun k => marginalialaw07_MarksBack.l0 k l at_ (l.length : Int) m0 m1 m2) true := fun hn => by
      obtain ⟨q, hql, h31, h32, h33, hins⟩ := back_insert (l := l) (by omega) at_ m0 m1 m2
      obtain ⟨i, hi⟩ : ∃ i : List S27, i = l.take q ++ (⟨m0, m1, m2⟩ : S27) :: l.drop q := ⟨_, rfl⟩
      have hilen : i.length = l.length + 1 := by
        rw [hi, List.length_append, List.length_cons, List.length_take, List.length_drop]; omega
      have hidx : marks_Find.idx m0 i = (q : Int) := by rw [hi]; exact idx_insert (l := l) (q := q) (m := ⟨m0, m1, m2⟩) hql hn
      have herase : i.eraseIdx q = l := by rw [hi]; exact erase_insert hql
      have hdrop := back_drop (by omega) (by omega) hidx herase
      rw [← hi] at hins
      clear hi herase
      obtain ⟨z, hz⟩ : ∃ z : S27, z = ⟨0, (⟨#[]⟩ : ByteArray), ([] : List S70)⟩ := ⟨_, rfl⟩
      have hz0 : z.f0 = 0 := by rw [hz]
      obtain ⟨A1, a1⟩ := back_push (x := l) (by omega) hat 0 (⟨#[]⟩ : ByteArray) ([] : List S70) (Nat.zero_le _) (Or.inl rfl)
      rw [← hz] at a1
      have hzl : (l ++ [z]).length = l.length + 1 := by rw [List.length_append]; rfl
      have hat2 : ∀ j, j < (l ++ [z]).length → (rd_T27 (l ++ [z]) (j : Int)).f2.length ≤ 6 := fun j hj => by
        by_cases hjl : j < l.length
        · rw [rd_app_left hjl]; exact hat j hjl
        · have : j = l.length := by omega
          rw [this, rd_app_at, hz]; exact Nat.zero_le _
      obtain ⟨m, hm⟩ : ∃ m : S27, m = ⟨m0, m1, m2⟩ := ⟨_, rfl⟩
      have hm0 : m.f0 ≠ 0 := by rw [hm]; exact c0
      have hbm := bh_mark (l := l) (z := z) (m := m) hz0 hm0
      obtain ⟨A2, a2⟩ := back_push (x := l ++ [z]) (by omega) hat2 m0 m1 m2 (by omega) (Or.inr (by rw [hzl]; exact hbm.1))
      rw [← hm] at a2
      obtain ⟨A3, a3⟩ := clear_mark (l := l) (z := z) (m := m) (by omega) hz0 hm0
      have e3 : (l ++ [z] ++ [m]).length = l.length + 2 := by rw [List.length_append, hzl]; rfl
      obtain ⟨A4, a4⟩ := renew_ev (l := l ++ [z] ++ [m]) (by omega) (o := []) (Nat.zero_le _)
      rw [e3, renew_mark hz0 hm0] at a4
      obtain ⟨A5, a5⟩ := sameList_refl (x := l) (by omega) (fun j hj => by have := hat j hj; omega)
      obtain ⟨y, hy⟩ : ∃ y : List S27, y = l ++ [z] ++ [m] := ⟨_, rfl⟩
      rw [← hy] at a2 a3 a4
      clear hy e3 hbm hat2 hzl hz0 hm0 hm
      obtain ⟨x, hx⟩ : ∃ x : List S27, x = l ++ [z] := ⟨_, rfl⟩
      rw [← hx] at a1 a2
      clear hx hz
      refine ⟨K0 + A1 + A2 + A3 + A4 + A5 + 3, fun k hk => ?_⟩
      obtain ⟨d, rfl⟩ : ∃ d, k = d + 1 + 1 + 1 := ⟨k - 3, by omega⟩
      have r6 : marginalialaw07_MarksBack.j3 (d + 1) l i (q : Int) m0 m1 m2 = some true := back_j3 (x := x) (y := y) (by omega) hilen (q0 _ (by omega)) hidx hdrop (a1 _ (by omega)) (a2 _ (by omega)) (a3 _ (by omega)) (a4 _ (by omega)) (a5 _ (by omega))
      show marginalialaw07_MarksBack.l0 (d + 1 + 1 + 1) l at_ (l.length : Int) m0 m1 m2 = _
      rw [marginalialaw07_MarksBack.l0, if_neg (by omega), hins, Option.bind_some]
      by_cases d1 : at_ < 0
      · have hq0 := h31 d1
        have r7 : marginalialaw07_MarksBack.j3 (d + 1) l i 0 m0 m1 m2 = some true := by
          rw [hq0] at r6; exact r6
        rw [if_pos d1, marginalialaw07_MarksBack.j2, if_neg (by omega), r7]
      · by_cases d2 : at_ > (l.length : Int)
        · have hqe := h33 d2
          rw [if_neg d1, marginalialaw07_MarksBack.j2, if_pos d2, show (l.length : Int) = (q : Int) by omega, r6]
        · have hqe := h32 (by omega) (by omega)
          rw [if_neg d1, marginalialaw07_MarksBack.j2, if_neg d2, hqe, r6]
    have hloop : ∀ n j : Nat, j + n = l.length → (∀ i, i < j → (rd_T27 l (i : Int)).f0 ≠ m0) → Ev (fun k => marginalialaw07_MarksBack.l0 k l at_ (j : Int) m0 m1 m2) true := by
      intro n
      induction n with
      | zero =>
        intro j hj hs
        have : j = l.length := by omega
        rw [this]
        exact hmain fun i hi => hs i (by omega)
      | succ n ih =>
        intro j hj hs
        by_cases e : (rd_T27 l (j : Int)).f0 = m0
        · refine ⟨K0 + 1, fun k hk => ?_⟩
          obtain ⟨d, rfl⟩ : ∃ d, k = d + 1 := ⟨k - 1, by omega⟩
          have r0 : marginalialaw07_alive.f d = some true := q0 _ (by omega)
          show marginalialaw07_MarksBack.l0 (d + 1) l at_ (j : Int) m0 m1 m2 = _
          rw [marginalialaw07_MarksBack.l0, if_pos (by omega), if_pos (by omega), if_pos e, r0, Option.bind_some]
        · refine Ev.step (fun k => ?_) (ih (j + 1) (by omega) fun i hi => ?_)
          · rw [marginalialaw07_MarksBack.l0, if_pos (by omega), if_pos (by omega), if_neg e, w64 (by omega) (by omega)]
            rfl
          · by_cases e2 : i = j
            · subst e2; exact e
            · exact hs i (by omega)
    obtain ⟨K2, q2⟩ := hloop l.length 0 (by omega) (fun i hi => absurd hi (Nat.not_lt_zero _))
    have r2 : marginalialaw07_MarksBack.l0 (K1 + K2) l at_ 0 m0 m1 m2 = some true := q2 _ (by omega)
    refine ⟨K1 + K2 + 1, ?_⟩
    have hb : (m0 == 0) = false := by simp [c0]
    rw [marginalialaw07_MarksBack.f, r1 _ (by omega), Option.bind_some, if_pos rfl, if_neg c, hb, marginalialaw07_MarksBack.j0, if_neg (by decide), r2]
  · have r1 : ∀ k, K1 ≤ k → marginalialaw07_small.f k l = some false := q1
    obtain ⟨K2, q2⟩ := hj0 true rfl
    have r2 : marginalialaw07_MarksBack.j0 (K1 + K2) l at_ true m0 m1 m2 = some true := q2 _ (by omega)
    exact ⟨K1 + K2, by rw [marginalialaw07_MarksBack.f, r1 _ (by omega), Option.bind_some, if_neg (by decide), r2]⟩
end Go.Proofs.Ytmdmoohkdkooaaa.Pure
