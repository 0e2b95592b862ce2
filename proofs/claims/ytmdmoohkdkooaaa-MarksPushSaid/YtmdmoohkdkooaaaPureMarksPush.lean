/- MarksPush: the document pushes as the program does, and what came in stays. No condition beyond those that each theorem names. -/
import Derived.Test.YtmdmoohkdkooaaaOpenMarksPush
import Derived.Test.YtmdmoohkdkooaaaMarkLaws
namespace Go.Proofs.Ytmdmoohkdkooaaa.MarkLaws
open Go.RowKit Go.Proofs.Ytmdmoohkdkooaaa Go.Proofs.Ytmdmoohkdkooaaa.M Go.Proofs.YtmdmoohkdkooaaaW.PrintWords Go.Proofs.YtmdmoohkdkooaaaW.PrintLast Go.Proofs.YtmdmoohkdkooaaaW.PrintMore
set_option linter.unusedVariables false
/-- Is an entry of a name and of attributes like these? -/
def same (name : ByteArray) (at_ : List S70) (x : S27) : Bool := (x.f1.toList == name.toList) && al x.f2 at_
/-- The places, from j on, of what is the same. -/
def places (p : S27 → Bool) (x : List S27) : Nat → Nat → List Int
  | _, 0 => []
  | j, n + 1 => (if p (rd_T27 x (j : Int)) = true then [(j : Int)] else []) ++ places p x (j + 1) n
theorem places_count {p : S27 → Bool} {x : List S27} : ∀ n j, j + n = x.length → (places p x j n).length = (x.drop j).countP p := by
  intro n
  induction n with
  | zero => intro j hj; rw [List.drop_of_length_le (by omega)]; rfl
  | succ n ih =>
    intro j hj
    have hlt : j < x.length := by omega
    rw [places, List.length_append, ih (j + 1) (by omega), List.drop_eq_getElem_cons hlt, List.countP_cons, rd27_at hlt]
    split <;> simp <;> omega
theorem places_mem {p : S27 → Bool} {x : List S27} : ∀ n j, j + n = x.length → ∀ i ∈ places p x j n, ∃ q : Nat, i = (q : Int) ∧ j ≤ q ∧ q < x.length ∧ p (rd_T27 x (q : Int)) = true := by
  intro n
  induction n with
  | zero => intro j _ i hi; cases hi
  | succ n ih =>
    intro j hj i hi
    rw [places, List.mem_append] at hi
    rcases hi with hi | hi
    · split at hi
      · rename_i hp
        rw [List.mem_singleton] at hi
        exact ⟨j, hi, Nat.le_refl _, by omega, hp⟩
      · cases hi
    · obtain ⟨q, h1, h2, h3, h4⟩ := ih (j + 1) (by omega) i hi
      exact ⟨q, h1, by omega, h3, h4⟩
theorem without_neg {x : List S27} (hl : x.length ≤ 1000) : marks_without.f x (-1) = some x := by
  rw [marks_without.f, if_pos (by omega), marks_joined.f, if_pos (by simp; omega), Option.bind_some, List.append_nil]
theorem without_at {x : List S27} (hl : x.length ≤ 1000) {q : Nat} (hq : q < x.length) : marks_without.f x (q : Int) = some (x.eraseIdx q) := by
  have e : wrap64 ((q : Int) + 1) = ((q + 1 : Nat) : Int) := by rw [w64 (by omega) (by omega)]; omega
  rw [marks_without.f, if_neg (by omega), if_pos (by omega), if_pos (by omega), e, if_pos (by omega), if_pos (by omega), Int.toNat_natCast, Int.toNat_natCast, marks_joined.f, if_pos (by rw [List.length_take, List.length_drop]; omega), Option.bind_some, List.eraseIdx_eq_take_drop_succ]
/-- What Push makes of places. -/
def final (x : List S27) (acc : List Int) (m : S27) : List S27 := if acc.length ≥ 3 then x.eraseIdx (rd acc 0).toNat ++ [m] else x ++ [m]
theorem push_j1 {x : List S27} (hl : x.length ≤ 1000) {acc : List Int} (ha : ∀ i ∈ acc, ∃ q : Nat, i = (q : Int) ∧ q < x.length) (m0 : Int) (m1 : ByteArray) (m2 : List S70) (k : Nat) : marks_Push.j1 (k + 1) x acc m0 m1 m2 = some (final x acc ⟨m0, m1, m2⟩) := by
  unfold final
  by_cases c : acc.length ≥ 3
  · have hr : rd acc 0 = acc[0] := by
      have : rd acc ((0 : Nat) : Int) = acc[0] := by simp [rd, List.getD_eq_getElem?_getD, show 0 < acc.length by omega]
      exact this
    obtain ⟨q, hq, hlt⟩ := ha acc[0] (List.getElem_mem _)
    rw [if_pos c, marks_Push.j1, if_pos (by omega), if_pos (by omega), hr, hq, without_at hl hlt, Option.bind_some, Option.bind_some, if_pos (by rw [List.length_eraseIdx]; simp; split <;> omega), Int.toNat_natCast]
  · rw [if_neg c, marks_Push.j1, if_neg (by omega), without_neg hl, Option.bind_some, Option.bind_some, if_pos (by simp; omega)]
theorem push_ev {x : List S27} (hl : x.length ≤ 100) (hx : ∀ j, j < x.length → (rd_T27 x (j : Int)).f2.length ≤ 6) (m0 : Int) (m1 : ByteArray) (m2 : List S70) (hm : m2.length ≤ 6) :
    Ev (fun k => marks_Push.f k x m0 m1 m2) (final x (if m0 = 0 then [] else places (same m1 m2) x (bh x x.length) (x.length - bh x x.length)) ⟨m0, m1, m2⟩) := by
  have hj1 : ∀ acc : List Int, (∀ i ∈ acc, ∃ q : Nat, i = (q : Int) ∧ q < x.length) → Ev (fun k => marks_Push.j1 k x acc m0 m1 m2) (final x acc ⟨m0, m1, m2⟩) := fun acc ha => by
    refine ⟨1, fun k hk => ?_⟩
    obtain ⟨m, rfl⟩ : ∃ m, k = m + 1 := ⟨k - 1, by omega⟩
    exact push_j1 (by omega) ha m0 m1 m2 m
  by_cases c : m0 = 0
  · rw [if_pos c]
    refine Ev.congr (fun k => ?_) (hj1 [] (fun i hi => by cases hi))
    show marks_Push.f k x m0 m1 m2 = _
    rw [marks_Push.f, if_pos c]
  · rw [if_neg c]
    have h : ∀ n j : Nat, j + n = x.length → ∀ acc : List Int, acc.length ≤ j → (∀ i ∈ acc, ∃ q : Nat, i = (q : Int) ∧ q < x.length) → Ev (fun k => marks_Push.l0 k x acc (j : Int) m0 m1 m2) (final x (acc ++ places (same m1 m2) x j n) ⟨m0, m1, m2⟩) := by
      intro n
      induction n with
      | zero =>
        intro j hj acc hal ha
        refine Ev.step (fun k => ?_) (by rw [places, List.append_nil]; exact hj1 acc ha)
        rw [marks_Push.l0, if_neg (by omega)]
      | succ n ih =>
        intro j hj acc hal ha
        have hlt : j < x.length := by omega
        have ew : wrap64 ((j : Int) + 1) = ((j + 1 : Nat) : Int) := by rw [w64 (by omega) (by omega)]; omega
        by_cases c1 : (rd_T27 x (j : Int)).f1.toList = m1.toList
        · obtain ⟨K1, q1⟩ := alike_ev (a := (rd_T27 x (j : Int)).f2) (b := m2) (by have := hx j hlt; omega) (by omega)
          by_cases c2 : al (rd_T27 x (j : Int)).f2 m2 = true
          · have hs : same m1 m2 (rd_T27 x (j : Int)) = true := by unfold same; rw [c1, c2]; simp
            obtain ⟨K2, q2⟩ := ih (j + 1) (by omega) (acc ++ [(j : Int)]) (by simp; omega) (fun i hi => by
              rcases List.mem_append.1 hi with hi | hi
              · exact ha i hi
              · exact ⟨j, List.mem_singleton.1 hi, hlt⟩)
            rw [places, if_pos hs, ← List.append_assoc]
            refine ⟨K1 + K2 + 1, fun k hk => ?_⟩
            obtain ⟨d, rfl⟩ : ∃ d, k = d + 1 := ⟨k - 1, by omega⟩
            have r1 : marks_Alike.f d (rd_T27 x (j : Int)).f2 m2 = some _ := q1 d (by omega)
            have r2 : marks_Push.l0 d x (acc ++ [(j : Int)]) ((j + 1 : Nat) : Int) m0 m1 m2 = some _ := q2 d (by omega)
            show marks_Push.l0 (d + 1) x acc (j : Int) m0 m1 m2 = _
            rw [marks_Push.l0, if_pos (by omega), if_pos (by omega), if_pos c1, r1, Option.bind_some, if_pos c2, Option.bind_some, if_pos (by simp; omega), ew, r2]
          · have hs : ¬ same m1 m2 (rd_T27 x (j : Int)) = true := by unfold same; simp [c2]
            obtain ⟨K2, q2⟩ := ih (j + 1) (by omega) acc (by omega) ha
            rw [places, if_neg hs, List.nil_append]
            refine ⟨K1 + K2 + 1, fun k hk => ?_⟩
            obtain ⟨d, rfl⟩ : ∃ d, k = d + 1 := ⟨k - 1, by omega⟩
            have r1 : marks_Alike.f d (rd_T27 x (j : Int)).f2 m2 = some _ := q1 d (by omega)
            have r2 : marks_Push.l0 d x acc ((j + 1 : Nat) : Int) m0 m1 m2 = some _ := q2 d (by omega)
            show marks_Push.l0 (d + 1) x acc (j : Int) m0 m1 m2 = _
            rw [marks_Push.l0, if_pos (by omega), if_pos (by omega), if_pos c1, r1, Option.bind_some, if_neg c2, ew, r2]
        · have hs : ¬ same m1 m2 (rd_T27 x (j : Int)) = true := by unfold same; simp [c1]
          rw [places, if_neg hs, List.nil_append]
          refine Ev.step (fun k => ?_) (ih (j + 1) (by omega) acc (by omega) ha)
          rw [marks_Push.l0, if_pos (by omega), if_pos (by omega), if_neg c1, ew]
    have hbh : bh x x.length ≤ x.length := by
      have : ∀ n, bh x n ≤ n := fun n => by
        induction n with
        | zero => exact Nat.le_refl _
        | succ n ih => rw [bh]; split <;> omega
      exact this _
    obtain ⟨K1, q1⟩ := behind_ev (l := x) (by omega)
    obtain ⟨K2, q2⟩ := h (x.length - bh x x.length) (bh x x.length) (by omega) [] (Nat.zero_le _) (fun i hi => by cases hi)
    refine ⟨K1 + K2, fun k hk => ?_⟩
    have r1 : marks_behind.f k x = some _ := q1 k (by omega)
    have r2 : marks_Push.l0 k x [] (bh x x.length : Int) m0 m1 m2 = some _ := q2 k (by omega)
    show marks_Push.f k x m0 m1 m2 = _
    rw [marks_Push.f, if_neg c, r1, Option.bind_some, r2, List.nil_append]
theorem refBehind_ev {l : List S27} (hl : l.length ≤ 1000) : Ev (fun k => marginaliaref07_behind.f k l) (bh l l.length : Int) := by
  have h : ∀ n : Nat, n ≤ l.length → Ev (fun k => marginaliaref07_behind.l0 k l (n : Int)) (bh l n : Int) := by
    intro n
    induction n with
    | zero =>
      intro _
      refine Ev.step (f := fun _ => some _) (fun k => ?_) (Ev.now _)
      rw [marginaliaref07_behind.l0, if_neg (by omega)]
      rfl
    | succ n ih =>
      intro hn
      have e : wrap64 (((n + 1 : Nat) : Int) - 1) = (n : Int) := by rw [w64 (by omega) (by omega)]; omega
      by_cases c : (rd_T27 l (n : Int)).f0 = 0
      · refine Ev.step (f := fun _ => some _) (fun k => ?_) (Ev.now _)
        rw [marginaliaref07_behind.l0, if_pos (by omega), e, if_pos (by omega), if_pos (by omega), if_pos c, bh, if_pos c]
      · refine Ev.step (fun k => ?_) (show Ev _ _ from by rw [bh, if_neg c]; exact ih (by omega))
        rw [marginaliaref07_behind.l0, if_pos (by omega), e, if_pos (by omega), if_pos (by omega), if_neg c]
  exact Ev.congr (fun k => rfl) (h l.length (Nat.le_refl _))
/-- A list without what stands at a place. -/
def wo (x : List S27) (q : Int) : Nat → Nat → List S27
  | _, 0 => []
  | j, n + 1 => (if (j : Int) = q then [] else [rd_T27 x (j : Int)]) ++ wo x q (j + 1) n
theorem wo_none {x : List S27} {q : Int} : ∀ n j, j + n = x.length → q < (j : Int) → wo x q j n = x.drop j := by
  intro n
  induction n with
  | zero => intro j hj _; rw [List.drop_of_length_le (by omega)]; rfl
  | succ n ih =>
    intro j hj hq
    have hlt : j < x.length := by omega
    rw [wo, if_neg (by omega), ih (j + 1) (by omega) (by omega), List.drop_eq_getElem_cons hlt, rd27_at hlt]
    rfl
theorem wo_at {x : List S27} : ∀ d n j, j + n = x.length → d < n → wo x ((j + d : Nat) : Int) j n = (x.drop j).eraseIdx d := by
  intro d
  induction d with
  | zero =>
    intro n j hj hd
    cases n with
    | zero => omega
    | succ n =>
      have hlt : j < x.length := by omega
      rw [wo, if_pos (by omega), wo_none n (j + 1) (by omega) (by omega), List.drop_eq_getElem_cons hlt]
      rfl
  | succ d ih =>
    intro n j hj hd
    cases n with
    | zero => omega
    | succ n =>
      have hlt : j < x.length := by omega
      have e : ((j + (d + 1) : Nat) : Int) = ((j + 1 + d : Nat) : Int) := by omega
      rw [wo, if_neg (by omega), e, ih n (j + 1) (by omega) (by omega), List.drop_eq_getElem_cons hlt, rd27_at hlt]
      rfl
theorem refWithout_ev {x : List S27} (hl : x.length ≤ 1000) (q : Int) : Ev (fun k => marginaliaref07_without.f k x q) (wo x q 0 x.length) := by
  have h : ∀ n j : Nat, j + n = x.length → ∀ acc : List S27, acc.length ≤ j → Ev (fun k => marginaliaref07_without.l0 k x q acc (j : Int)) (acc ++ wo x q j n) := by
    intro n
    induction n with
    | zero =>
      intro j hj acc _
      refine Ev.step (f := fun _ => some _) (fun k => ?_) (Ev.now _)
      rw [marginaliaref07_without.l0, if_neg (by omega), wo, List.append_nil]
    | succ n ih =>
      intro j hj acc ha
      have ew : wrap64 ((j : Int) + 1) = ((j + 1 : Nat) : Int) := by rw [w64 (by omega) (by omega)]; omega
      by_cases c : (j : Int) = q
      · refine Ev.step (fun k => ?_) (show Ev _ _ from by rw [wo, if_pos c, List.nil_append]; exact ih (j + 1) (by omega) acc (by omega))
        rw [marginaliaref07_without.l0, if_pos (by omega), if_pos c, ew]
      · refine Ev.step (fun k => ?_) (show Ev _ _ from by rw [wo, if_neg c, ← List.append_assoc]; exact ih (j + 1) (by omega) (acc ++ [rd_T27 x (j : Int)]) (by simp; omega))
        rw [marginaliaref07_without.l0, if_pos (by omega), if_neg c, if_pos (by omega), if_pos (by omega), ew]
  exact Ev.congr (fun k => rfl) (h x.length 0 (by omega) [] (by simp))
/-- The first of places, or none. -/
def first (l : List Int) : Int := match l with
  | [] => -1
  | i :: _ => i
theorem refEnd_ev {x : List S27} (hl : x.length ≤ 100) {acc : List Int} (ha : ∀ i ∈ acc, ∃ q : Nat, i = (q : Int) ∧ q < x.length) (hn : acc.length ≤ 100) (i7 m0 : Int) (m1 : ByteArray) (m2 : List S70) :
    Ev (fun k => marginaliaref07_Push.j1 k x (first acc) (acc.length : Int) i7 false m0 m1 m2) (final x acc ⟨m0, m1, m2⟩) := by
  unfold final
  by_cases c : acc.length ≥ 3
  · rw [if_pos c]
    have hr : rd acc 0 = acc[0] := by
      have : rd acc ((0 : Nat) : Int) = acc[0] := by simp [rd, List.getD_eq_getElem?_getD, show 0 < acc.length by omega]
      exact this
    have hf : first acc = acc[0] := by
      cases acc with
      | nil => simp at c
      | cons a t => rfl
    obtain ⟨q, hq, hlt⟩ := ha acc[0] (List.getElem_mem _)
    obtain ⟨K, h⟩ := refWithout_ev (x := x) (by omega) (q : Int)
    have he : wo x (q : Int) 0 x.length = x.eraseIdx q := by
      have := wo_at (x := x) q x.length 0 (by omega) hlt
      rwa [Nat.zero_add, List.drop_zero] at this
    rw [he] at h
    refine ⟨K + 1, fun k hk => ?_⟩
    obtain ⟨d, rfl⟩ : ∃ d, k = d + 1 := ⟨k - 1, by omega⟩
    have r : marginaliaref07_without.f d x (q : Int) = some (x.eraseIdx q) := h d (by omega)
    show marginaliaref07_Push.j1 (d + 1) x (first acc) (acc.length : Int) i7 false m0 m1 m2 = _
    rw [marginaliaref07_Push.j1, if_neg (by decide), if_neg (by omega), hf, hq, r, Option.bind_some, if_pos (by rw [List.length_eraseIdx]; split <;> omega), hr, hq, Int.toNat_natCast]
  · rw [if_neg c]
    obtain ⟨K, h⟩ := refWithout_ev (x := x) (by omega) (-1)
    rw [wo_none x.length 0 (by omega) (by omega), List.drop_zero] at h
    refine ⟨K + 1, fun k hk => ?_⟩
    obtain ⟨d, rfl⟩ : ∃ d, k = d + 1 := ⟨k - 1, by omega⟩
    have r : marginaliaref07_without.f d x (-1) = some x := h d (by omega)
    show marginaliaref07_Push.j1 (d + 1) x (first acc) (acc.length : Int) i7 false m0 m1 m2 = _
    rw [marginaliaref07_Push.j1, if_neg (by decide), if_pos (by omega), r, Option.bind_some, if_pos (by omega)]
theorem places_le {p : S27 → Bool} {x : List S27} : ∀ n j, (places p x j n).length ≤ n := by
  intro n
  induction n with
  | zero => intro j; exact Nat.le_refl _
  | succ n ih =>
    intro j
    rw [places, List.length_append]
    have := ih (j + 1)
    split <;> simp <;> omega
theorem refPush_ev {x : List S27} (hl : x.length ≤ 100) (hx : ∀ j, j < x.length → (rd_T27 x (j : Int)).f2.length ≤ 6) (m0 : Int) (m1 : ByteArray) (m2 : List S70) (hm : m2.length ≤ 6) :
    Ev (fun k => marginaliaref07_Push.f k x m0 m1 m2) (final x (if m0 = 0 then [] else places (same m1 m2) x (bh x x.length) (x.length - bh x x.length)) ⟨m0, m1, m2⟩) := by
  obtain ⟨K0, q0⟩ := refBehind_ev (l := x) (by omega)
  have hbh : bh x x.length ≤ x.length := by
    have : ∀ n, bh x n ≤ n := fun n => by
      induction n with
      | zero => exact Nat.le_refl _
      | succ n ih => rw [bh]; split <;> omega
    exact this _
  have hmem : ∀ n j, j + n = x.length → ∀ i ∈ places (same m1 m2) x j n, ∃ q : Nat, i = (q : Int) ∧ q < x.length := fun n j hj i hi => by
    obtain ⟨q, h1, _, h3, _⟩ := places_mem n j hj i hi
    exact ⟨q, h1, h3⟩
  by_cases c : m0 = 0
  · rw [if_pos c]
    obtain ⟨K1, q1⟩ := refEnd_ev hl (acc := []) (fun i hi => by cases hi) (by simp) ((x.length : Int) - 1) m0 m1 m2
    refine ⟨K0 + K1 + 1, fun k hk => ?_⟩
    obtain ⟨d, rfl⟩ : ∃ d, k = d + 1 := ⟨k - 1, by omega⟩
    have r0 : marginaliaref07_behind.f d x = some _ := q0 d (by omega)
    have r1 : marginaliaref07_Push.j1 d x (-1) 0 ((x.length : Int) - 1) false m0 m1 m2 = some _ := q1 d (by omega)
    show marginaliaref07_Push.f (d + 1) x m0 m1 m2 = _
    have hb : (m0 != 0) = false := by simp [c]
    rw [marginaliaref07_Push.f, w64 (by omega) (by omega), marginaliaref07_Push.l0, r0, Option.bind_some, hb, ite_self, r1]
  · rw [if_neg c]
    have hb : (m0 != 0) = true := by simp [c]
    have h : ∀ t j : Nat, j = bh x x.length + t → j ≤ x.length → Ev (fun k => marginaliaref07_Push.l0 k x (first (places (same m1 m2) x j (x.length - j))) ((places (same m1 m2) x j (x.length - j)).length : Int) ((j : Int) - 1) m0 m1 m2) (final x (places (same m1 m2) x (bh x x.length) (x.length - bh x x.length)) ⟨m0, m1, m2⟩) := by
      intro t
      induction t with
      | zero =>
        intro j hj hjl
        have hj : j = bh x x.length := by omega
        rw [hj]
        have hple := places_le (p := same m1 m2) (x := x) (x.length - bh x x.length) (bh x x.length)
        obtain ⟨K1, q1⟩ := refEnd_ev hl (acc := places (same m1 m2) x (bh x x.length) (x.length - bh x x.length)) (hmem _ _ (by omega)) (by omega) ((bh x x.length : Int) - 1) m0 m1 m2
        refine ⟨K0 + K1 + 1, fun k hk => ?_⟩
        obtain ⟨d, rfl⟩ : ∃ d, k = d + 1 := ⟨k - 1, by omega⟩
        have r0 : marginaliaref07_behind.f d x = some _ := q0 d (by omega)
        have r1 : marginaliaref07_Push.j1 d x (first (places (same m1 m2) x (bh x x.length) (x.length - bh x x.length))) ((places (same m1 m2) x (bh x x.length) (x.length - bh x x.length)).length : Int) ((bh x x.length : Int) - 1) false m0 m1 m2 = some _ := q1 d (by omega)
        show marginaliaref07_Push.l0 (d + 1) x _ _ ((bh x x.length : Int) - 1) m0 m1 m2 = _
        rw [marginaliaref07_Push.l0, r0, Option.bind_some, if_neg (by omega), r1]
      | succ t ih =>
        intro j hj hjl
        obtain ⟨i, rfl⟩ : ∃ i, j = i + 1 := ⟨j - 1, by omega⟩
        have hlt : i < x.length := by omega
        have e1 : ((i + 1 : Nat) : Int) - 1 = (i : Int) := by omega
        have ew : wrap64 ((i : Int) - 1) = (i : Int) - 1 := w64 (by omega) (by omega)
        have hple := places_le (p := same m1 m2) (x := x) (x.length - (i + 1)) (i + 1)
        have ewn : wrap64 (((places (same m1 m2) x (i + 1) (x.length - (i + 1))).length : Int) + 1) = (((places (same m1 m2) x (i + 1) (x.length - (i + 1))).length + 1 : Nat) : Int) := by rw [w64 (by omega) (by omega)]; omega
        have hpl : places (same m1 m2) x i (x.length - i) = (if same m1 m2 (rd_T27 x (i : Int)) = true then [(i : Int)] else []) ++ places (same m1 m2) x (i + 1) (x.length - (i + 1)) := by
          rw [show x.length - i = x.length - (i + 1) + 1 by omega, places]
        have ih := ih i (by omega) (by omega)
        obtain ⟨A1, a1⟩ := refAlike_ev (a := (rd_T27 x (i : Int)).f2) (b := m2) (by have := hx i hlt; omega) (by omega)
        obtain ⟨A2, a2⟩ := ih
        refine ⟨K0 + A1 + A2 + 2, fun k hk => ?_⟩
        obtain ⟨d, rfl⟩ : ∃ d, k = d + 1 + 1 := ⟨k - 2, by omega⟩
        have r0 : marginaliaref07_behind.f (d + 1) x = some _ := q0 (d + 1) (by omega)
        have r1 : marginaliaref07_Alike.f d (rd_T27 x (i : Int)).f2 m2 = some _ := a1 d (by omega)
        have r2 : marginaliaref07_Push.l0 d x (first (places (same m1 m2) x i (x.length - i))) ((places (same m1 m2) x i (x.length - i)).length : Int) ((i : Int) - 1) m0 m1 m2 = some _ := a2 d (by omega)
        show marginaliaref07_Push.l0 (d + 1 + 1) x _ _ (((i + 1 : Nat) : Int) - 1) m0 m1 m2 = _
        rw [e1, marginaliaref07_Push.l0, r0, Option.bind_some, if_pos (by omega), hb, marginaliaref07_Push.j1, if_pos rfl, if_pos (by omega), if_pos (by omega)]
        by_cases c1 : (rd_T27 x (i : Int)).f1.toList = m1.toList
        · rw [if_pos c1, r1, Option.bind_some]
          by_cases c2 : al (rd_T27 x (i : Int)).f2 m2 = true
          · have hs : same m1 m2 (rd_T27 x (i : Int)) = true := by unfold same; rw [c1, c2]; simp
            rw [hpl, if_pos hs] at r2
            rw [if_pos c2, ewn, ew]
            exact r2
          · have hs : ¬ same m1 m2 (rd_T27 x (i : Int)) = true := by unfold same; simp [c2]
            rw [hpl, if_neg hs, List.nil_append] at r2
            rw [if_neg c2, ew, r2]
        · have hs : ¬ same m1 m2 (rd_T27 x (i : Int)) = true := by unfold same; simp [c1]
          rw [hpl, if_neg hs, List.nil_append] at r2
          rw [if_neg c1, ew, r2]
    obtain ⟨K1, q1⟩ := h (x.length - bh x x.length) x.length (by omega) (Nat.le_refl _)
    refine ⟨K1, fun k hk => ?_⟩
    have r1 := q1 k hk
    rw [Nat.sub_self] at r1
    show marginaliaref07_Push.f k x m0 m1 m2 = _
    rw [marginaliaref07_Push.f, w64 (by omega) (by omega)]
    exact r1
theorem attrs_refl {a : List S70} (ha : a.length ≤ 1000) : Ev (fun k => marginaliaref04_Attrs.f k a a) true := by
  have h : ∀ n j : Nat, j + n = a.length → Ev (fun k => marginaliaref04_Attrs.l0 k a a (j : Int)) true := by
    intro n
    induction n with
    | zero =>
      intro j hj
      refine Ev.step (f := fun _ => some _) (fun k => ?_) (Ev.now _)
      rw [marginaliaref04_Attrs.l0, if_neg (by omega)]
    | succ n ih =>
      intro j hj
      refine Ev.step (fun k => ?_) (ih (j + 1) (by omega))
      rw [marginaliaref04_Attrs.l0, if_pos (by omega), if_pos (by omega), if_pos (by omega), if_neg (by simp), w64 (by omega) (by omega)]
      rfl
  refine Ev.congr (fun k => ?_) (h a.length 0 (by omega))
  show marginaliaref04_Attrs.f k a a = _
  rw [marginaliaref04_Attrs.f, if_pos rfl]
  rfl
theorem sameList_refl {x : List S27} (hl : x.length ≤ 1000) (hx : ∀ j, j < x.length → (rd_T27 x (j : Int)).f2.length ≤ 1000) : Ev (fun k => marginaliaref07_Same.f k x x) true := by
  have h : ∀ n j : Nat, j + n = x.length → Ev (fun k => marginaliaref07_Same.l0 k x x (j : Int)) true := by
    intro n
    induction n with
    | zero =>
      intro j hj
      refine Ev.step (f := fun _ => some _) (fun k => ?_) (Ev.now _)
      rw [marginaliaref07_Same.l0, if_neg (by omega)]
    | succ n ih =>
      intro j hj
      obtain ⟨K1, q1⟩ := attrs_refl (hx j (by omega))
      obtain ⟨K2, q2⟩ := ih (j + 1) (by omega)
      refine ⟨K1 + K2 + 2, fun k hk => ?_⟩
      obtain ⟨d, rfl⟩ : ∃ d, k = d + 1 + 1 := ⟨k - 2, by omega⟩
      have r1 : marginaliaref04_Attrs.f (d + 1) (rd_T27 x (j : Int)).f2 (rd_T27 x (j : Int)).f2 = some true := q1 _ (by omega)
      have r2 : marginaliaref07_Same.l0 d x x ((j + 1 : Nat) : Int) = some true := q2 _ (by omega)
      show marginaliaref07_Same.l0 (d + 1 + 1) x x (j : Int) = _
      rw [marginaliaref07_Same.l0, if_pos (by omega), if_pos (by omega), if_pos (by omega), if_pos rfl, if_pos rfl, r1, Option.bind_some, marginaliaref07_Same.j1, if_neg (by decide), w64 (by omega) (by omega)]
      exact r2
  refine Ev.congr (fun k => ?_) (h x.length 0 (by omega))
  show marginaliaref07_Same.f k x x = _
  rw [marginaliaref07_Same.f, if_pos rfl]
  rfl
theorem final_facts (x : List S27) (acc : List Int) (m : S27) : (final x acc m).length ≤ x.length + 1 ∧ ∀ y ∈ final x acc m, y ∈ x ∨ y = m := by
  unfold final
  split
  · refine ⟨?_, fun y hy => ?_⟩
    · rw [List.length_append, List.length_eraseIdx, List.length_singleton]
      split <;> omega
    · rcases List.mem_append.1 hy with hy | hy
      · exact .inl (List.mem_of_mem_eraseIdx hy)
      · exact .inr (List.mem_singleton.1 hy)
  · refine ⟨by simp, fun y hy => ?_⟩
    rcases List.mem_append.1 hy with hy | hy
    · exact .inl hy
    · exact .inr (List.mem_singleton.1 hy)
end Go.Proofs.Ytmdmoohkdkooaaa.MarkLaws
namespace Go.Proofs.Ytmdmoohkdkooaaa.Pure
open Go.RowKit Go.Proofs.Ytmdmoohkdkooaaa Go.Proofs.Ytmdmoohkdkooaaa.M Go.Proofs.Ytmdmoohkdkooaaa.M.marksPushOpen Go.Proofs.Ytmdmoohkdkooaaa.MarkLaws Go.Proofs.YtmdmoohkdkooaaaW.PrintWords Go.Proofs.YtmdmoohkdkooaaaW.PrintLast Go.Proofs.YtmdmoohkdkooaaaW.PrintMore
set_option linter.unusedVariables false
theorem MarksPush : marksPushOpen.Pure := by
  rintro l ⟨m0, m1, m2⟩ _ _
  show ∃ k, marginalialaw07_MarksPush.f k l m0 m1 m2 = some true
  obtain ⟨K0, q0⟩ := alive_ev
  have hj0 : ∀ c : Bool, c = true → Ev (fun k => marginalialaw07_MarksPush.j0 k l c m0 m1 m2) true := fun c hc => by
    refine ⟨K0 + 1, fun k hk => ?_⟩
    obtain ⟨m, rfl⟩ : ∃ m, k = m + 1 := ⟨k - 1, by omega⟩
    have r0 : marginalialaw07_alive.f m = some true := q0 _ (by omega)
    show marginalialaw07_MarksPush.j0 (m + 1) l c m0 m1 m2 = _
    rw [marginalialaw07_MarksPush.j0, if_pos hc, r0, Option.bind_some]
  rcases small_ev l with ⟨⟨K1, q1⟩, hl, hat⟩ | ⟨K1, q1⟩
  · have r1 : ∀ k, K1 ≤ k → marginalialaw07_small.f k l = some true := q1
    by_cases c : (m2.length : Int) > 6
    · obtain ⟨K2, q2⟩ := hj0 _ (decide_eq_true c)
      have r2 : marginalialaw07_MarksPush.j0 (K1 + K2) l (decide ((m2.length : Int) > 6)) m0 m1 m2 = some true := q2 _ (by omega)
      exact ⟨K1 + K2, by rw [marginalialaw07_MarksPush.f, r1 _ (by omega), Option.bind_some, if_pos rfl, r2]⟩
    · obtain ⟨A1, a1⟩ := push_ev (x := l) (by omega) hat m0 m1 m2 (by omega)
      obtain ⟨A2, a2⟩ := refPush_ev (x := l) (by omega) hat m0 m1 m2 (by omega)
      obtain ⟨x', hx'⟩ : ∃ x', x' = final l (if m0 = 0 then [] else places (same m1 m2) l (bh l l.length) (l.length - bh l l.length)) ⟨m0, m1, m2⟩ := ⟨_, rfl⟩
      rw [← hx'] at a1 a2
      have hff := final_facts l (if m0 = 0 then [] else places (same m1 m2) l (bh l l.length) (l.length - bh l l.length)) ⟨m0, m1, m2⟩
      rw [← hx'] at hff
      have hxl : x'.length ≤ l.length + 1 := hff.1
      have hxa : ∀ y ∈ x', y.f2.length ≤ 1000 := fun y hy => by
        have hyl := hff.2 y hy
        rcases hyl with hy | hy
        · obtain ⟨i, hi, rfl⟩ := List.getElem_of_mem hy
          have := hat i hi
          rw [rd27_at hi] at this
          omega
        · rw [hy]; show m2.length ≤ 1000; omega
      obtain ⟨A3, a3⟩ := sameList_refl (x := x') (by omega) (fun j hj => by rw [rd27_at hj]; exact hxa _ (List.getElem_mem _))
      obtain ⟨A4, a4⟩ := sameList_refl (x := l) (by omega) (fun j hj => by have := hat j hj; omega)
      have hloop : ∀ n j : Nat, ∀ z : List S27, j + n = z.length → z.length ≤ 1000 → Ev (fun k => marginalialaw07_MarksPush.l0 k l l z true (j : Int)) true := by
        intro n
        induction n with
        | zero =>
          intro j z hj _
          refine ⟨K0 + A4 + 1, fun k hk => ?_⟩
          obtain ⟨d, rfl⟩ : ∃ d, k = d + 1 := ⟨k - 1, by omega⟩
          have r0 : marginalialaw07_alive.f d = some true := q0 _ (by omega)
          have r4 : marginaliaref07_Same.f d l l = some true := a4 _ (by omega)
          show marginalialaw07_MarksPush.l0 (d + 1) l l z true (j : Int) = _
          rw [marginalialaw07_MarksPush.l0, if_neg (by omega), r0, Option.bind_some, if_pos rfl, if_pos rfl, r4, Option.bind_some]
        | succ n ih =>
          intro j z hj hz
          refine Ev.step (fun k => ?_) (ih (j + 1) (z.set j (⟨(rd_T27 z (j : Int)).f0, (⟨#[115, 112, 111, 105, 108, 116]⟩ : ByteArray), (rd_T27 z (j : Int)).f2⟩ : S27)) (by rw [List.length_set]; omega) (by rw [List.length_set]; exact hz))
          rw [marginalialaw07_MarksPush.l0, if_pos (by omega), if_pos (by omega), w64 (by omega) (by omega), Int.toNat_natCast]
          rfl
      obtain ⟨A5, a5⟩ := hloop x'.length 0 x' (by omega) (by omega)
      refine ⟨K0 + K1 + A1 + A2 + A3 + A5 + 1, ?_⟩
      have b1 : marks_Push.f (K0 + K1 + A1 + A2 + A3 + A5) l m0 m1 m2 = some x' := a1 _ (by omega)
      have b2 : marginaliaref07_Push.f (K0 + K1 + A1 + A2 + A3 + A5) l m0 m1 m2 = some x' := a2 _ (by omega)
      have b3 : marginaliaref07_Same.f (K0 + K1 + A1 + A2 + A3 + A5) x' x' = some true := a3 _ (by omega)
      have b5 : marginalialaw07_MarksPush.l0 (K0 + K1 + A1 + A2 + A3 + A5) l l x' true 0 = some true := a5 _ (by omega)
      have hc : marginalialaw07_copied.f l = some l := by rw [marginalialaw07_copied.f, if_pos (by omega)]
      rw [marginalialaw07_MarksPush.f, r1 _ (by omega), Option.bind_some, if_pos rfl, decide_eq_false c, marginalialaw07_MarksPush.j0, if_neg (by decide), hc, Option.bind_some, b1, Option.bind_some, b2, Option.bind_some, b3, Option.bind_some, b5]
  · have r1 : ∀ k, K1 ≤ k → marginalialaw07_small.f k l = some false := q1
    obtain ⟨K2, q2⟩ := hj0 true rfl
    have r2 : marginalialaw07_MarksPush.j0 (K1 + K2) l true m0 m1 m2 = some true := q2 _ (by omega)
    exact ⟨K1 + K2, by rw [marginalialaw07_MarksPush.f, r1 _ (by omega), Option.bind_some, if_neg (by decide), r2]⟩
end Go.Proofs.Ytmdmoohkdkooaaa.Pure
