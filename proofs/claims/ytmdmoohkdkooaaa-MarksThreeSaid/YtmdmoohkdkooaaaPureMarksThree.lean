/- MarksThree: of entries that were pushed, never more than three behind the last marker are of one kind. No condition beyond those that each theorem names. -/
import Derived.Test.YtmdmoohkdkooaaaOpenMarksThree
import Derived.Test.YtmdmoohkdkooaaaMarkLaws
namespace Go.Proofs.Ytmdmoohkdkooaaa.MarkLaws
open Go.RowKit Go.Proofs.Ytmdmoohkdkooaaa Go.Proofs.Ytmdmoohkdkooaaa.M Go.Proofs.YtmdmoohkdkooaaaW.PrintWords Go.Proofs.YtmdmoohkdkooaaaW.PrintLast Go.Proofs.YtmdmoohkdkooaaaW.PrintMore
set_option linter.unusedVariables false
/-! alike: an equivalence -/
theorem has_iff {l : List S70} {a0 a1 : ByteArray} : has l a0 a1 = true ↔ ∃ x ∈ l, x.f0.toList = a0.toList ∧ x.f1.toList = a1.toList := by
  unfold has
  rw [List.any_eq_true]
  constructor
  · rintro ⟨x, hx, h⟩
    unfold eqA at h
    rw [Bool.and_eq_true, beq_iff_eq, beq_iff_eq] at h
    exact ⟨x, hx, h⟩
  · rintro ⟨x, hx, h⟩
    refine ⟨x, hx, ?_⟩
    unfold eqA
    rw [Bool.and_eq_true, beq_iff_eq, beq_iff_eq]
    exact h
def Sub (a b : List S70) : Prop := ∀ x ∈ a, ∃ y ∈ b, y.f0.toList = x.f0.toList ∧ y.f1.toList = x.f1.toList
theorem Sub.trans {a b c : List S70} (h : Sub a b) (k : Sub b c) : Sub a c := fun x hx => by
  obtain ⟨y, hy, e0, e1⟩ := h x hx
  obtain ⟨z, hz, f0, f1⟩ := k y hy
  exact ⟨z, hz, f0.trans e0, f1.trans e1⟩
theorem al_iff {a b : List S70} : al a b = true ↔ a.length = b.length ∧ Sub a b ∧ Sub b a := by
  unfold al
  rw [Bool.and_eq_true, decide_eq_true_eq, List.all_eq_true]
  constructor
  · rintro ⟨hl, h⟩
    refine ⟨hl, fun x hx => ?_, fun x hx => ?_⟩
    · obtain ⟨i, hi, rfl⟩ := List.getElem_of_mem hx
      have := h i (List.mem_range.2 hi)
      unfold alAt at this
      rw [Bool.and_eq_true, has_iff, rd70_at hi] at this
      exact this.1
    · obtain ⟨i, hi, rfl⟩ := List.getElem_of_mem hx
      have := h i (List.mem_range.2 (by omega))
      unfold alAt at this
      rw [Bool.and_eq_true, has_iff, has_iff, rd70_at hi] at this
      exact this.2
  · rintro ⟨hl, h1, h2⟩
    refine ⟨hl, fun i hi => ?_⟩
    have hi := List.mem_range.1 hi
    have hi2 : i < b.length := by omega
    unfold alAt
    rw [Bool.and_eq_true, has_iff, has_iff, rd70_at hi, rd70_at hi2]
    exact ⟨h1 _ (List.getElem_mem _), h2 _ (List.getElem_mem _)⟩
theorem al_refl (a : List S70) : al a a = true := al_iff.2 ⟨rfl, fun x hx => ⟨x, hx, rfl, rfl⟩, fun x hx => ⟨x, hx, rfl, rfl⟩⟩
theorem al_symm {a b : List S70} (h : al a b = true) : al b a = true := by
  obtain ⟨h0, h1, h2⟩ := al_iff.1 h
  exact al_iff.2 ⟨h0.symm, h2, h1⟩
theorem al_trans {a b c : List S70} (h : al a b = true) (k : al b c = true) : al a c = true := by
  obtain ⟨h0, h1, h2⟩ := al_iff.1 h
  obtain ⟨k0, k1, k2⟩ := al_iff.1 k
  exact al_iff.2 ⟨h0.trans k0, h1.trans k1, k2.trans h2⟩
/-- Is an entry of a name and of attributes like these? -/
def same (name : ByteArray) (at_ : List S70) (x : S27) : Bool := (x.f1.toList == name.toList) && al x.f2 at_
theorem same_refl (m : S27) : same m.f1 m.f2 m = true := by unfold same; rw [al_refl, beq_self_eq_true]; rfl
theorem same_congr {m m' : S27} (h : same m.f1 m.f2 m' = true) (x : S27) : same m.f1 m.f2 x = same m'.f1 m'.f2 x := by
  unfold same at *
  rw [Bool.and_eq_true, beq_iff_eq] at h
  rw [Bool.eq_iff_iff, Bool.and_eq_true, Bool.and_eq_true, beq_iff_eq, beq_iff_eq]
  constructor
  · rintro ⟨h1, h2⟩
    exact ⟨h1.trans h.1.symm, al_trans h2 (al_symm h.2)⟩
  · rintro ⟨h1, h2⟩
    exact ⟨h1.trans h.1, al_trans h2 h.2⟩
/-! the entries behind the last marker -/
structure Split (x P T : List S27) : Prop where
  eq : x = P ++ T
  head : P = [] ∨ ∃ P' z, P = P' ++ [z] ∧ z.f0 = 0
  tail : ∀ t ∈ T, t.f0 ≠ 0
theorem Split.bh {x P T : List S27} (h : Split x P T) : ∀ n, n ≤ T.length → bh x (P.length + n) = P.length := by
  intro n
  induction n with
  | zero =>
    intro _
    rcases h.head with rfl | ⟨P', z, rfl, hz⟩
    · rfl
    · have hlt : P'.length < x.length := by rw [h.eq]; simp
      have : rd_T27 x (P'.length : Int) = z := by
        rw [rd27_at hlt]
        simp [h.eq]
      rw [Nat.add_zero, List.length_append, List.length_singleton, MarkLaws.bh, this, if_pos hz]
  | succ n ih =>
    intro hn
    have hlt : P.length + n < x.length := by rw [h.eq, List.length_append]; omega
    have : (rd_T27 x ((P.length + n : Nat) : Int)).f0 ≠ 0 := by
      rw [rd27_at hlt]
      have e : x[P.length + n] = T[n] := by simp [h.eq]
      rw [e]
      exact h.tail _ (List.getElem_mem _)
    rw [← Nat.add_assoc, MarkLaws.bh, if_neg this]
    exact ih (by omega)
/-- The places, from j on, of what is the same. -/
def places (p : S27 → Bool) (x : List S27) : Nat → Nat → List Int
  | _, 0 => []
  | j, n + 1 => (if p (rd_T27 x (j : Int)) = true then [(j : Int)] else []) ++ places p x (j + 1) n
theorem places_count {p : S27 → Bool} {x : List S27} : ∀ n j, j + n = x.length → (places p x j n).length = (x.drop j).countP p := by
  intro n
  induction n with
  | zero => intro j hj; rw [List.drop_of_length_le (by omega)]; rfl
  | succ n ih =>
    intro j hj
    have hlt : j < x.length := by omega
    rw [places, List.length_append, ih (j + 1) (by omega), List.drop_eq_getElem_cons hlt, List.countP_cons, rd27_at hlt]
    split <;> simp <;> omega
theorem places_mem {p : S27 → Bool} {x : List S27} : ∀ n j, j + n = x.length → ∀ i ∈ places p x j n, ∃ q : Nat, i = (q : Int) ∧ j ≤ q ∧ q < x.length ∧ p (rd_T27 x (q : Int)) = true := by
  intro n
  induction n with
  | zero => intro j _ i hi; cases hi
  | succ n ih =>
    intro j hj i hi
    rw [places, List.mem_append] at hi
    rcases hi with hi | hi
    · split at hi
      · rename_i hp
        rw [List.mem_singleton] at hi
        exact ⟨j, hi, Nat.le_refl _, by omega, hp⟩
      · cases hi
    · obtain ⟨q, h1, h2, h3, h4⟩ := ih (j + 1) (by omega) i hi
      exact ⟨q, h1, by omega, h3, h4⟩
theorem without_neg {x : List S27} (hl : x.length ≤ 1000) : marks_without.f x (-1) = some x := by
  rw [marks_without.f, if_pos (by omega), marks_joined.f, if_pos (by simp; omega), Option.bind_some, List.append_nil]
theorem without_at {x : List S27} (hl : x.length ≤ 1000) {q : Nat} (hq : q < x.length) : marks_without.f x (q : Int) = some (x.eraseIdx q) := by
  have e : wrap64 ((q : Int) + 1) = ((q + 1 : Nat) : Int) := by rw [w64 (by omega) (by omega)]; omega
  rw [marks_without.f, if_neg (by omega), if_pos (by omega), if_pos (by omega), e, if_pos (by omega), if_pos (by omega), Int.toNat_natCast, Int.toNat_natCast, marks_joined.f, if_pos (by rw [List.length_take, List.length_drop]; omega), Option.bind_some, List.eraseIdx_eq_take_drop_succ]
/-- What Push makes of places. -/
def final (x : List S27) (acc : List Int) (m : S27) : List S27 := if acc.length ≥ 3 then x.eraseIdx (rd acc 0).toNat ++ [m] else x ++ [m]
theorem push_j1 {x : List S27} (hl : x.length ≤ 1000) {acc : List Int} (ha : ∀ i ∈ acc, ∃ q : Nat, i = (q : Int) ∧ q < x.length) (m0 : Int) (m1 : ByteArray) (m2 : List S70) (k : Nat) : marks_Push.j1 (k + 1) x acc m0 m1 m2 = some (final x acc ⟨m0, m1, m2⟩) := by
  unfold final
  by_cases c : acc.length ≥ 3
  · have hr : rd acc 0 = acc[0] := by
      have : rd acc ((0 : Nat) : Int) = acc[0] := by simp [rd, List.getD_eq_getElem?_getD, show 0 < acc.length by omega]
      exact this
    obtain ⟨q, hq, hlt⟩ := ha acc[0] (List.getElem_mem _)
    rw [if_pos c, marks_Push.j1, if_pos (by omega), if_pos (by omega), hr, hq, without_at hl hlt, Option.bind_some, Option.bind_some, if_pos (by rw [List.length_eraseIdx]; simp; split <;> omega), Int.toNat_natCast]
  · rw [if_neg c, marks_Push.j1, if_neg (by omega), without_neg hl, Option.bind_some, Option.bind_some, if_pos (by simp; omega)]
theorem push_ev {x : List S27} (hl : x.length ≤ 100) (hx : ∀ j, j < x.length → (rd_T27 x (j : Int)).f2.length ≤ 6) (m0 : Int) (m1 : ByteArray) (m2 : List S70) (hm : m2.length ≤ 6) :
    Ev (fun k => marks_Push.f k x m0 m1 m2) (final x (if m0 = 0 then [] else places (same m1 m2) x (bh x x.length) (x.length - bh x x.length)) ⟨m0, m1, m2⟩) := by
  have hj1 : ∀ acc : List Int, (∀ i ∈ acc, ∃ q : Nat, i = (q : Int) ∧ q < x.length) → Ev (fun k => marks_Push.j1 k x acc m0 m1 m2) (final x acc ⟨m0, m1, m2⟩) := fun acc ha => by
    refine ⟨1, fun k hk => ?_⟩
    obtain ⟨m, rfl⟩ : ∃ m, k = m + 1 := ⟨k - 1, by omega⟩
    exact push_j1 (by omega) ha m0 m1 m2 m
  by_cases c : m0 = 0
  · rw [if_pos c]
    refine Ev.congr (fun k => ?_) (hj1 [] (fun i hi => by cases hi))
    show marks_Push.f k x m0 m1 m2 = _
    rw [marks_Push.f, if_pos c]
  · rw [if_neg c]
    have h : ∀ n j : Nat, j + n = x.length → ∀ acc : List Int, acc.length ≤ j → (∀ i ∈ acc, ∃ q : Nat, i = (q : Int) ∧ q < x.length) → Ev (fun k => marks_Push.l0 k x acc (j : Int) m0 m1 m2) (final x (acc ++ places (same m1 m2) x j n) ⟨m0, m1, m2⟩) := by
      intro n
      induction n with
      | zero =>
        intro j hj acc hal ha
        refine Ev.step (fun k => ?_) (by rw [places, List.append_nil]; exact hj1 acc ha)
        rw [marks_Push.l0, if_neg (by omega)]
      | succ n ih =>
        intro j hj acc hal ha
        have hlt : j < x.length := by omega
        have ew : wrap64 ((j : Int) + 1) = ((j + 1 : Nat) : Int) := by rw [w64 (by omega) (by omega)]; omega
        by_cases c1 : (rd_T27 x (j : Int)).f1.toList = m1.toList
        · obtain ⟨K1, q1⟩ := alike_ev (a := (rd_T27 x (j : Int)).f2) (b := m2) (by have := hx j hlt; omega) (by omega)
          by_cases c2 : al (rd_T27 x (j : Int)).f2 m2 = true
          · have hs : same m1 m2 (rd_T27 x (j : Int)) = true := by unfold same; rw [c1, c2]; simp
            obtain ⟨K2, q2⟩ := ih (j + 1) (by omega) (acc ++ [(j : Int)]) (by simp; omega) (fun i hi => by
              rcases List.mem_append.1 hi with hi | hi
              · exact ha i hi
              · exact ⟨j, List.mem_singleton.1 hi, hlt⟩)
            rw [places, if_pos hs, ← List.append_assoc]
            refine ⟨K1 + K2 + 1, fun k hk => ?_⟩
            obtain ⟨d, rfl⟩ : ∃ d, k = d + 1 := ⟨k - 1, by omega⟩
            have r1 : marks_Alike.f d (rd_T27 x (j : Int)).f2 m2 = some _ := q1 d (by omega)
            have r2 : marks_Push.l0 d x (acc ++ [(j : Int)]) ((j + 1 : Nat) : Int) m0 m1 m2 = some _ := q2 d (by omega)
            show marks_Push.l0 (d + 1) x acc (j : Int) m0 m1 m2 = _
            rw [marks_Push.l0, if_pos (by omega), if_pos (by omega), if_pos c1, r1, Option.bind_some, if_pos c2, Option.bind_some, if_pos (by simp; omega), ew, r2]
          · have hs : ¬ same m1 m2 (rd_T27 x (j : Int)) = true := by unfold same; simp [c2]
            obtain ⟨K2, q2⟩ := ih (j + 1) (by omega) acc (by omega) ha
            rw [places, if_neg hs, List.nil_append]
            refine ⟨K1 + K2 + 1, fun k hk => ?_⟩
            obtain ⟨d, rfl⟩ : ∃ d, k = d + 1 := ⟨k - 1, by omega⟩
            have r1 : marks_Alike.f d (rd_T27 x (j : Int)).f2 m2 = some _ := q1 d (by omega)
            have r2 : marks_Push.l0 d x acc ((j + 1 : Nat) : Int) m0 m1 m2 = some _ := q2 d (by omega)
            show marks_Push.l0 (d + 1) x acc (j : Int) m0 m1 m2 = _
            rw [marks_Push.l0, if_pos (by omega), if_pos (by omega), if_pos c1, r1, Option.bind_some, if_neg c2, ew, r2]
        · have hs : ¬ same m1 m2 (rd_T27 x (j : Int)) = true := by unfold same; simp [c1]
          rw [places, if_neg hs, List.nil_append]
          refine Ev.step (fun k => ?_) (ih (j + 1) (by omega) acc (by omega) ha)
          rw [marks_Push.l0, if_pos (by omega), if_pos (by omega), if_neg c1, ew]
    have hbh : bh x x.length ≤ x.length := by
      have : ∀ n, bh x n ≤ n := fun n => by
        induction n with
        | zero => exact Nat.le_refl _
        | succ n ih => rw [bh]; split <;> omega
      exact this _
    obtain ⟨K1, q1⟩ := behind_ev (l := x) (by omega)
    obtain ⟨K2, q2⟩ := h (x.length - bh x x.length) (bh x x.length) (by omega) [] (Nat.zero_le _) (fun i hi => by cases hi)
    refine ⟨K1 + K2, fun k hk => ?_⟩
    have r1 : marks_behind.f k x = some _ := q1 k (by omega)
    have r2 : marks_Push.l0 k x [] (bh x x.length : Int) m0 m1 m2 = some _ := q2 k (by omega)
    show marks_Push.f k x m0 m1 m2 = _
    rw [marks_Push.f, if_neg c, r1, Option.bind_some, r2, List.nil_append]
/-- Three at most of each kind. -/
structure Three (x P T : List S27) : Prop where
  split : Split x P T
  most : ∀ m : S27, T.countP (same m.f1 m.f2) ≤ 3
theorem count_erase {p : S27 → Bool} {T : List S27} {q : Nat} (hq : q < T.length) (hp : p T[q] = true) : (T.eraseIdx q).countP p + 1 = T.countP p := by
  rw [List.eraseIdx_eq_take_drop_succ, List.countP_append]
  conv => rhs; rw [← List.take_append_drop q T, List.countP_append, List.drop_eq_getElem_cons hq, List.countP_cons, if_pos hp]
  omega
theorem count_erase_le {p : S27 → Bool} {T : List S27} {q : Nat} : (T.eraseIdx q).countP p ≤ T.countP p := (List.eraseIdx_sublist T q).countP_le
theorem three_push {x P T : List S27} (h : Three x P T) (m : S27) :
    ∃ P' T', Three (final x (if m.f0 = 0 then [] else places (same m.f1 m.f2) x (bh x x.length) (x.length - bh x x.length)) m) P' T' ∧ ∀ y ∈ final x (if m.f0 = 0 then [] else places (same m.f1 m.f2) x (bh x x.length) (x.length - bh x x.length)) m, y ∈ x ∨ y = m := by
  have hlen : x.length = P.length + T.length := by rw [h.split.eq, List.length_append]
  have hb : bh x x.length = P.length := by rw [hlen]; exact h.split.bh _ (Nat.le_refl _)
  by_cases c : m.f0 = 0
  · rw [if_pos c]
    have e : final x [] m = x ++ [m] := by unfold final; rw [if_neg (by simp)]
    rw [e]
    refine ⟨x ++ [m], [], ⟨⟨by simp, .inr ⟨x, m, rfl, c⟩, fun t ht => by cases ht⟩, fun m => by simp⟩, fun y hy => ?_⟩
    rcases List.mem_append.1 hy with hy | hy
    · exact .inl hy
    · exact .inr (List.mem_singleton.1 hy)
  · rw [if_neg c, hb]
    have hdrop : x.drop P.length = T := by rw [h.split.eq, List.drop_left' rfl]
    have hn : P.length + (x.length - P.length) = x.length := by omega
    have hcount := places_count (p := same m.f1 m.f2) (x := x) (x.length - P.length) P.length hn
    rw [hdrop] at hcount
    have hmem := places_mem (p := same m.f1 m.f2) (x := x) (x.length - P.length) P.length hn
    obtain ⟨acc, hacc⟩ : ∃ acc, acc = places (same m.f1 m.f2) x P.length (x.length - P.length) := ⟨_, rfl⟩
    rw [← hacc] at hcount hmem ⊢
    unfold final
    by_cases c3 : acc.length ≥ 3
    · rw [if_pos c3]
      have hr : rd acc 0 = acc[0] := by
        have : rd acc ((0 : Nat) : Int) = acc[0] := by simp [rd, List.getD_eq_getElem?_getD, show 0 < acc.length by omega]
        exact this
      obtain ⟨q, hq, hPq, hqx, hsame⟩ := hmem acc[0] (List.getElem_mem _)
      rw [hr, hq, Int.toNat_natCast]
      have hqT : q - P.length < T.length := by omega
      have hxT : rd_T27 x (q : Int) = T[q - P.length] := by
        rw [rd27_at hqx]
        simp only [h.split.eq]
        rw [List.getElem_append_right hPq]
      rw [hxT] at hsame
      have he : x.eraseIdx q = P ++ T.eraseIdx (q - P.length) := by rw [h.split.eq, List.eraseIdx_append_of_length_le hPq]
      rw [he]
      refine ⟨P, T.eraseIdx (q - P.length) ++ [m], ⟨⟨by rw [List.append_assoc], h.split.head, fun t ht => ?_⟩, fun m' => ?_⟩, fun y hy => ?_⟩
      · rcases List.mem_append.1 ht with ht | ht
        · exact h.split.tail t (List.mem_of_mem_eraseIdx ht)
        · rw [List.mem_singleton.1 ht]; exact c
      · rw [List.countP_append, List.countP_singleton]
        have h3 := h.most m'
        by_cases cm : same m'.f1 m'.f2 m = true
        · rw [if_pos cm]
          have hs' : same m'.f1 m'.f2 T[q - P.length] = true := by rw [same_congr cm]; exact hsame
          have := count_erase (p := same m'.f1 m'.f2) hqT hs'
          omega
        · rw [if_neg cm]
          have := count_erase_le (p := same m'.f1 m'.f2) (T := T) (q := q - P.length)
          omega
      · rw [h.split.eq]
        rcases List.mem_append.1 hy with hy | hy
        · rcases List.mem_append.1 hy with hy | hy
          · exact .inl (List.mem_append_left _ hy)
          · exact .inl (List.mem_append_right _ (List.mem_of_mem_eraseIdx hy))
        · exact .inr (List.mem_singleton.1 hy)
    · rw [if_neg c3]
      refine ⟨P, T ++ [m], ⟨⟨by rw [h.split.eq, List.append_assoc], h.split.head, fun t ht => ?_⟩, fun m' => ?_⟩, fun y hy => ?_⟩
      · rcases List.mem_append.1 ht with ht | ht
        · exact h.split.tail t ht
        · rw [List.mem_singleton.1 ht]; exact c
      · rw [List.countP_append, List.countP_singleton]
        have h3 := h.most m'
        by_cases cm : same m'.f1 m'.f2 m = true
        · rw [if_pos cm]
          have : T.countP (same m'.f1 m'.f2) = T.countP (same m.f1 m.f2) := by
            congr 1
            funext x
            exact same_congr cm x
          omega
        · rw [if_neg cm]; omega
      · rcases List.mem_append.1 hy with hy | hy
        · exact .inl hy
        · exact .inr (List.mem_singleton.1 hy)
theorem final_length {x : List S27} {acc : List Int} {m : S27} : (final x acc m).length ≤ x.length + 1 ∧ ∃ y, final x acc m = y ++ [m] := by
  unfold final
  split
  · refine ⟨?_, _, rfl⟩
    rw [List.length_append, List.length_eraseIdx, List.length_singleton]
    split <;> omega
  · exact ⟨by simp, _, rfl⟩
end Go.Proofs.Ytmdmoohkdkooaaa.MarkLaws
namespace Go.Proofs.Ytmdmoohkdkooaaa.Pure
open Go.RowKit Go.Proofs.Ytmdmoohkdkooaaa Go.Proofs.Ytmdmoohkdkooaaa.M Go.Proofs.Ytmdmoohkdkooaaa.M.marksThreeOpen Go.Proofs.Ytmdmoohkdkooaaa.MarkLaws Go.Proofs.YtmdmoohkdkooaaaW.PrintWords Go.Proofs.YtmdmoohkdkooaaaW.PrintLast Go.Proofs.YtmdmoohkdkooaaaW.PrintMore
set_option linter.unusedVariables false
theorem MarksThree : marksThreeOpen.Pure := by
  intro l _
  obtain ⟨K0, q0⟩ := alive_ev
  rcases small_ev l with ⟨⟨K1, q1⟩, hl, hat⟩ | ⟨K1, q1⟩
  · have hcount : ∀ (i : Nat) (hi : i < l.length) (x P T : List S27), MarkLaws.Split x P T → x.length ≤ 100 → (∀ y ∈ x, y.f2.length ≤ 6) → ∀ t (c : Nat), t ≤ T.length → c + (T.take t).countP (same (rd_T27 l (i : Int)).f1 (rd_T27 l (i : Int)).f2) ≤ 3 →
        Ev (fun k => marginalialaw07_MarksThree.l0 k l x ((i + 1 : Nat) : Int)) true → Ev (fun k => marginalialaw07_MarksThree.l1 k l x (i : Int) (c : Int) (((P.length + t : Nat) : Int) - 1)) true := by
      intro i hi x P T hx hxl hxa t
      have hlen : x.length = P.length + T.length := by rw [hx.eq, List.length_append]
      have ewi : wrap64 ((i : Int) + 1) = ((i + 1 : Nat) : Int) := by rw [w64 (by omega) (by omega)]; omega
      have hend : ∀ (c : Nat) (e : Int), c ≤ 3 → Ev (fun k => marginalialaw07_MarksThree.l0 k l x ((i + 1 : Nat) : Int)) true → Ev (fun k => marginalialaw07_MarksThree.j3 k l x (i : Int) (c : Int) e false) true := by
        intro c e hc hk
        refine Ev.step (fun k => ?_) hk
        rw [marginalialaw07_MarksThree.j3, if_neg (by decide), if_neg (by omega), ewi]
      induction t with
      | zero =>
        intro c _ hc hk
        rcases hx.head with hP | ⟨P', z, hP, hz⟩
        · refine Ev.step (fun k => ?_) (hend c (((P.length + 0 : Nat) : Int) - 1) (by simpa using hc) hk)
          have : P.length = 0 := by rw [hP]; rfl
          rw [marginalialaw07_MarksThree.l1, if_neg (by omega)]
        · have hPl : P.length = P'.length + 1 := by rw [hP]; simp
          have e : ((P.length + 0 : Nat) : Int) - 1 = (P'.length : Int) := by omega
          have hlt : P'.length < x.length := by omega
          have hz0 : (rd_T27 x (P'.length : Int)).f0 = 0 := by
            rw [rd27_at hlt]
            simp only [hx.eq, hP]
            rw [List.getElem_append_left (by simp)]
            simpa using hz
          rw [e]
          refine Ev.step (fun k => ?_) (hend c (P'.length : Int) (by simpa using hc) hk)
          rw [marginalialaw07_MarksThree.l1, if_pos (by omega), if_pos (by omega), if_pos (by omega), hz0]
          rfl
      | succ t ih =>
        intro c ht hc hk
        have htT : t < T.length := by omega
        have e : ((P.length + (t + 1) : Nat) : Int) - 1 = ((P.length + t : Nat) : Int) := by omega
        have hlt : P.length + t < x.length := by omega
        have hxt : rd_T27 x ((P.length + t : Nat) : Int) = T[t] := by
          rw [rd27_at hlt]
          simp [hx.eq]
        have hne : ((rd_T27 x ((P.length + t : Nat) : Int)).f0 != 0) = true := by
          rw [hxt]
          have := hx.tail _ (List.getElem_mem htT)
          simpa using this
        have ew : wrap64 (((P.length + t : Nat) : Int) - 1) = ((P.length + t : Nat) : Int) - 1 := w64 (by omega) (by omega)
        have ewc : wrap64 ((c : Int) + 1) = ((c + 1 : Nat) : Int) := by rw [w64 (by omega) (by omega)]; omega
        have htake : (T.take (t + 1)).countP (same (rd_T27 l (i : Int)).f1 (rd_T27 l (i : Int)).f2) = (T.take t).countP (same (rd_T27 l (i : Int)).f1 (rd_T27 l (i : Int)).f2) + (if same (rd_T27 l (i : Int)).f1 (rd_T27 l (i : Int)).f2 T[t] = true then 1 else 0) := by
          rw [List.take_succ_eq_append_getElem htT, List.countP_append, List.countP_singleton]
        rw [htake] at hc
        rw [e]
        have hj3 : Ev (fun k => marginalialaw07_MarksThree.j3 k l x (i : Int) (c : Int) ((P.length + t : Nat) : Int) true) true := by
          by_cases c1 : (rd_T27 x ((P.length + t : Nat) : Int)).f1.toList = (rd_T27 l (i : Int)).f1.toList
          · have hta : T[t].f2.length ≤ 6 := hxa _ (by rw [hx.eq]; exact List.mem_append_right _ (List.getElem_mem _))
            obtain ⟨A1, a1⟩ := alike_ev (a := (rd_T27 x ((P.length + t : Nat) : Int)).f2) (b := (rd_T27 l (i : Int)).f2) (by rw [hxt]; omega) (by have := hat i hi; omega)
            by_cases c2 : al (rd_T27 x ((P.length + t : Nat) : Int)).f2 (rd_T27 l (i : Int)).f2 = true
            · have hs : same (rd_T27 l (i : Int)).f1 (rd_T27 l (i : Int)).f2 T[t] = true := by
                rw [← hxt]; unfold same; rw [c1, c2]; simp
              rw [if_pos hs] at hc
              obtain ⟨A2, a2⟩ := ih (c + 1) (Nat.le_of_lt htT) (by rw [Nat.add_assoc, Nat.add_comm 1]; exact hc) hk
              refine ⟨A1 + A2 + 1, fun k hk => ?_⟩
              obtain ⟨d, rfl⟩ : ∃ d, k = d + 1 := ⟨k - 1, by omega⟩
              have r1 : marks_Alike.f d (rd_T27 x ((P.length + t : Nat) : Int)).f2 (rd_T27 l (i : Int)).f2 = some _ := a1 d (by omega)
              have r2 : marginalialaw07_MarksThree.l1 d l x (i : Int) ((c + 1 : Nat) : Int) (((P.length + t : Nat) : Int) - 1) = some true := a2 d (by omega)
              show marginalialaw07_MarksThree.j3 (d + 1) l x (i : Int) (c : Int) ((P.length + t : Nat) : Int) true = _
              rw [marginalialaw07_MarksThree.j3, if_pos rfl, if_pos (by omega), if_pos (by omega), if_pos (by omega), if_pos (by omega), if_pos c1, r1, Option.bind_some, if_pos c2, ewc, ew, r2]
            · obtain ⟨A2, a2⟩ := ih c (Nat.le_of_lt htT) (Nat.le_trans (Nat.add_le_add_left (Nat.le_add_right _ _) _) hc) hk
              refine ⟨A1 + A2 + 1, fun k hk => ?_⟩
              obtain ⟨d, rfl⟩ : ∃ d, k = d + 1 := ⟨k - 1, by omega⟩
              have r1 : marks_Alike.f d (rd_T27 x ((P.length + t : Nat) : Int)).f2 (rd_T27 l (i : Int)).f2 = some _ := a1 d (by omega)
              have r2 : marginalialaw07_MarksThree.l1 d l x (i : Int) (c : Int) (((P.length + t : Nat) : Int) - 1) = some true := a2 d (by omega)
              show marginalialaw07_MarksThree.j3 (d + 1) l x (i : Int) (c : Int) ((P.length + t : Nat) : Int) true = _
              rw [marginalialaw07_MarksThree.j3, if_pos rfl, if_pos (by omega), if_pos (by omega), if_pos (by omega), if_pos (by omega), if_pos c1, r1, Option.bind_some, if_neg c2, ew, r2]
          · obtain ⟨A2, a2⟩ := ih c (Nat.le_of_lt htT) (Nat.le_trans (Nat.add_le_add_left (Nat.le_add_right _ _) _) hc) hk
            refine Ev.step (fun k => ?_) ⟨A2, a2⟩
            rw [marginalialaw07_MarksThree.j3, if_pos rfl, if_pos (by omega), if_pos (by omega), if_pos (by omega), if_pos (by omega), if_neg c1, ew]
        refine Ev.step (fun k => ?_) hj3
        rw [marginalialaw07_MarksThree.l1, if_pos (by omega), if_pos (by omega), if_pos (by omega), hne]
    have h : ∀ n j : Nat, j + n = l.length → ∀ x P T : List S27, MarkLaws.Three x P T → x.length ≤ j → (∀ y ∈ x, y.f2.length ≤ 6) → Ev (fun k => marginalialaw07_MarksThree.l0 k l x (j : Int)) true := by
      intro n
      induction n with
      | zero =>
        intro j hj x P T _ _ _
        refine ⟨K0 + 1, fun k hk => ?_⟩
        obtain ⟨d, rfl⟩ : ∃ d, k = d + 1 := ⟨k - 1, by omega⟩
        have r0 : marginalialaw07_alive.f d = some true := q0 _ (by omega)
        show marginalialaw07_MarksThree.l0 (d + 1) l x (j : Int) = _
        rw [marginalialaw07_MarksThree.l0, if_neg (by omega), r0, Option.bind_some]
      | succ n ih =>
        intro j hj x P T hT hxl hxa
        have hjl : j < l.length := by omega
        have hm6 := hat j hjl
        obtain ⟨m, hm⟩ : ∃ m, m = rd_T27 l (j : Int) := ⟨_, rfl⟩
        have hx6 : ∀ i, i < x.length → (rd_T27 x (i : Int)).f2.length ≤ 6 := fun i hi => by rw [rd27_at hi]; exact hxa _ (List.getElem_mem _)
        obtain ⟨A1, a1⟩ := push_ev (x := x) (by omega) hx6 m.f0 m.f1 m.f2 (by rw [hm]; exact hm6)
        obtain ⟨P', T', hT', hmem⟩ := three_push hT m
        obtain ⟨x', hx'⟩ : ∃ x', x' = final x (if m.f0 = 0 then [] else places (same m.f1 m.f2) x (bh x x.length) (x.length - bh x x.length)) m := ⟨_, rfl⟩
        have hfl := final_length (x := x) (acc := if m.f0 = 0 then [] else places (same m.f1 m.f2) x (bh x x.length) (x.length - bh x x.length)) (m := m)
        rw [← hx'] at hT' hmem hfl
        have a1 : ∀ k, A1 ≤ k → marks_Push.f k x m.f0 m.f1 m.f2 = some x' := fun k hk => (a1 k hk).trans (by rw [hx'])
        obtain ⟨hle, y0, hy0⟩ := hfl
        have hx'a : ∀ y ∈ x', y.f2.length ≤ 6 := fun y hy => by
          rcases hmem y hy with h | h
          · exact hxa y h
          · rw [h, hm]; exact hm6
        have hnext := ih (j + 1) (by omega) x' P' T' hT' (by omega) hx'a
        have hlen' : x'.length = P'.length + T'.length := by rw [hT'.split.eq, List.length_append]
        have hl1 := hcount j hjl x' P' T' hT'.split (by omega) hx'a T'.length 0 (Nat.le_refl _) (by rw [List.take_length, ← hm]; have := hT'.most m; omega) hnext
        rw [← hlen'] at hl1
        have hpos : 0 < x'.length := by rw [hy0]; simp
        have hlast : rd_T27 x' ((x'.length : Int) - 1) = m := by
          have e : (x'.length : Int) - 1 = (y0.length : Int) := by rw [hy0]; simp
          rw [e, rd27_at (by rw [hy0]; simp)]
          simp [hy0]
        have ewl : wrap64 ((x'.length : Int) - 1) = (x'.length : Int) - 1 := w64 (by omega) (by omega)
        have hj1 : Ev (fun k => marginalialaw07_MarksThree.j1 k l x' (j : Int) false) true := by
          refine Ev.step (fun k => ?_) hl1
          rw [marginalialaw07_MarksThree.j1, if_neg (by decide), ewl]
          rfl
        obtain ⟨A2, a2⟩ := hj1
        refine ⟨A1 + A2 + 1, fun k hk => ?_⟩
        obtain ⟨d, rfl⟩ : ∃ d, k = d + 1 := ⟨k - 1, by omega⟩
        have r1 := a1 d (by omega)
        have r2 : marginalialaw07_MarksThree.j1 d l x' (j : Int) false = some true := a2 d (by omega)
        show marginalialaw07_MarksThree.l0 (d + 1) l x (j : Int) = _
        have hb : (m.f1.toList != m.f1.toList) = false := by simp
        rw [marginalialaw07_MarksThree.l0, if_pos (by omega), if_pos (by omega), ← hm, r1, Option.bind_some, if_neg (by omega), ewl, if_pos (by omega), if_pos (by omega), hlast, if_pos rfl, hb, r2]
    obtain ⟨K2, q2⟩ := h l.length 0 (by omega) [] [] [] ⟨⟨rfl, .inl rfl, fun t ht => by cases ht⟩, fun m => by simp⟩ (by simp) (fun y hy => by cases hy)
    have r1 : ∀ k, K1 ≤ k → marginalialaw07_small.f k l = some true := q1
    have r2 : marginalialaw07_MarksThree.l0 (K1 + K2) l [] 0 = some true := q2 _ (by omega)
    exact ⟨K1 + K2, by rw [marginalialaw07_MarksThree.f, r1 _ (by omega), Option.bind_some, if_pos rfl, r2]⟩
  · have r1 : ∀ k, K1 ≤ k → marginalialaw07_small.f k l = some false := q1
    have r0 : marginalialaw07_alive.f (K0 + K1) = some true := q0 _ (by omega)
    exact ⟨K0 + K1, by rw [marginalialaw07_MarksThree.f, r1 _ (by omega), Option.bind_some, if_neg (by decide), r0, Option.bind_some]⟩
end Go.Proofs.Ytmdmoohkdkooaaa.Pure
