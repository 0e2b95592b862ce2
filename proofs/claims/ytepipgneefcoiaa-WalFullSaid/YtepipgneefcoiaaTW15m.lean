/- The functions of the program that these laws reach, each as a plain Lean function, and the proof that the machine's call comes to it; no condition beyond those that each theorem names. Made by wip/xprint.py. -/
import Derived.Test.YtepipgneefcoiaaTW10
import Derived.Test.YtepipgneefcoiaaDx0
namespace Go.Proofs.Ytepipgneefcoiaa.D
open Go.RowKit Go.Proofs.YtepipgneefcoiaaW.PrintWords Go.Proofs.YtepipgneefcoiaaW.PrintLast Go.Proofs.YtepipgneefcoiaaW.PrintMore
attribute [local go_sem] max2_int min2_int max_two min_two max_three min_three max_four min_four
set_option linter.unusedVariables false
set_option linter.unusedSimpArgs false
/- What a sector has, and may have behind a crash. -/
def psx (x : Pc) : Nat := x.bl.toNat * 256 + x.at_.toNat
theorem keepF_sec {s : Dk} (h : s.Ok) (kept : Nat → Bool) (hp : ∀ x ∈ s.pend, psx x % 64 = 0) (t : Nat) (ht : t * 64 + 64 ≤ s.nb * 256) : ∀ j, j ≤ s.pend.length → cut8 (keepF kept s.pend j s.safe) (t * 64) 64 = cut8 s.safe (t * 64) 64 ∨ ∃ x, x ∈ s.pend ∧ psx x = t * 64 ∧ cut8 (keepF kept s.pend j s.safe) (t * 64) 64 = x.b
  | 0, _ => .inl rfl
  | j + 1, hj => by
    have ih := keepF_sec h kept hp t ht j (by omega)
    have hm := rdP_mem (show j < s.pend.length by omega)
    obtain ⟨h1, h2, h3, h4, h5⟩ := h.pend _ hm
    have hq := hp _ hm
    have hl := keepF_len h kept j (by omega)
    have hf : (rdP s.pend j).bl.toNat * 256 + (rdP s.pend j).at_.toNat + (rdP s.pend j).b.length ≤ (keepF kept s.pend j s.safe).length := by rw [hl, h5, h.safe]; omega
    unfold keepF
    split
    · unfold psx at hq
      by_cases c : (rdP s.pend j).bl.toNat * 256 + (rdP s.pend j).at_.toNat = t * 64
      · refine .inr ⟨_, hm, c, ?_⟩
        apply List.ext_getElem?
        intro i
        by_cases ci : i < 64
        · rw [cut8_at ci, sp8_get hf, if_pos (by omega)]
          congr 1
          omega
        · rw [List.getElem?_eq_none (by rw [cut8_len (by rw [sp8_len hf, hl, h.safe]; omega)]; omega), List.getElem?_eq_none (by omega)]
      · have e : cut8 (sp8 (keepF kept s.pend j s.safe) ((rdP s.pend j).bl.toNat * 256 + (rdP s.pend j).at_.toNat) (rdP s.pend j).b) (t * 64) 64 = cut8 (keepF kept s.pend j s.safe) (t * 64) 64 := by
          apply List.ext_getElem?
          intro i
          by_cases ci : i < 64
          · rw [cut8_at ci, cut8_at ci, sp8_get hf, if_neg (by omega)]
          · rw [List.getElem?_eq_none (by rw [cut8_len (by rw [sp8_len hf, hl, h.safe]; omega)]; omega), List.getElem?_eq_none (by rw [cut8_len (by rw [hl, h.safe]; omega)]; omega)]
        rw [e]
        exact ih
    · exact ih
def Sx (s : Dk) : Prop := Nw s ∧ ∀ y ∈ s.pend, psx y % 64 = 0
def sec (s : Dk) (i : Nat) : List Int := cut8 s.now (i * 64) 64
def Poss (s : Dk) (i : Nat) (x : List Int) : Prop := x = cut8 s.safe (i * 64) 64 ∨ ∃ y ∈ s.pend, psx y = i * 64 ∧ y.b = x
theorem now_poss {s : Dk} (h : Sx s) {i : Nat} (hi : i < s.nb * 4) : Poss s i (sec s i) := by
  have e : s.now = keepF (fun _ => true) s.pend s.pend.length s.safe := by rw [keepF_all]; exact h.1.2
  unfold sec
  rw [e]
  rcases keepF_sec h.1.1 (fun _ => true) h.2 i (by omega) _ (Nat.le_refl _) with g | ⟨x, g1, g2, g3⟩
  · exact .inl g
  · exact .inr ⟨x, g1, g2, g3.symm⟩
theorem poss_len {s : Dk} (h : Sx s) {i : Nat} (hi : i < s.nb * 4) {x : List Int} (hx : Poss s i x) : x.length = 64 := by
  rcases hx with rfl | ⟨y, hy, _, rfl⟩
  · exact cut8_len (by rw [h.1.1.safe]; omega)
  · exact (h.1.1.pend y hy).2.2.2.2
theorem crash_sec {s : Dk} (h : Sx s) (keep : List Bool) : Sx (crx s keep) ∧ (crx s keep).nb = s.nb ∧ (crx s keep).pend = [] ∧ (crx s keep).of = false ∧ (crx s keep).fu = false ∧ ∀ i x, i < s.nb * 4 → Poss (crx s keep) i x → Poss s i x := by
  have N : Nw (crx s keep) := Nw_set (stl_Nw h.1 (kpB keep)) rfl rfl rfl rfl
  have hp : (crx s keep).pend = [] := rfl
  refine ⟨⟨N, fun y hy => by rw [hp] at hy; cases hy⟩, rfl, hp, rfl, rfl, fun i x hi hx => ?_⟩
  rcases hx with rfl | ⟨y, hy, _, _⟩
  · have e : (crx s keep).safe = keepF (kpB keep) s.pend s.pend.length s.safe := rfl
    rw [e]
    rcases keepF_sec h.1.1 (kpB keep) h.2 i (by omega) _ (Nat.le_refl _) with g | ⟨x, g1, g2, g3⟩
    · exact .inl g
    · exact .inr ⟨x, g1, g2, g3.symm⟩
  · rw [hp] at hy; cases hy
theorem crash_now {s : Dk} (h : Sx s) (keep : List Bool) {i : Nat} {x : List Int} : Poss (crx s keep) i x ↔ x = sec (crx s keep) i := by
  have hp : (crx s keep).pend = [] := rfl
  have e : (crx s keep).safe = (crx s keep).now := by
    have N : Nw (crx s keep) := Nw_set (stl_Nw h.1 (kpB keep)) rfl rfl rfl rfl
    rw [N.2, hp]
    rfl
  unfold Poss sec
  rw [hp, e]
  exact ⟨fun q => q.elim id (fun ⟨y, hy, _⟩ => by cases hy), .inl⟩
theorem flush_sec {s s' : Dk} {e : Int} (h : Sx s) (hx : flx s = (s', e)) : Sx s' ∧ s'.nb = s.nb ∧ s'.pend.length ≤ s.pend.length ∧ (∀ i, sec s' i = sec s i) ∧ (s.of = false → s.fu = false → e = 0 ∧ s'.of = false ∧ s'.fu = false) ∧ ((e = 0 ∧ ∀ i x, Poss s' i x → x = sec s i) ∨ (e = 9 ∧ ∀ i x, Poss s' i x → Poss s i x)) := by
  have k := pwx_keeps s
  have hn := flx_now h.1
  rw [hx] at hn
  have q : s.of = false → s.fu = false → (pwx s).2 = true ∧ (pwx s).1.of = false ∧ (pwx s).1.fu = false := fun h1 h2 => by
    unfold pwx
    rw [h1, h2, if_neg (by simp)]
    exact ⟨rfl, rfl, rfl⟩
  unfold flx at hx
  by_cases c : (pwx s).2 = true
  · rw [if_pos c] at hx
    injection hx with e1 e2
    subst e1 e2
    have N := stl_Nw (pwx_Nw h.1) (fun _ => true)
    have hp : (stl (fun _ => true) (pwx s).1).pend = [] := rfl
    refine ⟨⟨N, fun y hy => by rw [hp] at hy; cases hy⟩, hn.2, Nat.zero_le _, fun i => by unfold sec; rw [hn.1], fun h1 h2 => ⟨rfl, (q h1 h2).2⟩, .inl ⟨rfl, fun i x hx => ?_⟩⟩
    rcases hx with rfl | ⟨y, hy, _⟩
    · have e : (stl (fun _ => true) (pwx s).1).safe = (stl (fun _ => true) (pwx s).1).now := by
        rw [N.2, hp]
        rfl
      rw [e, hn.1]
      rfl
    · rw [hp] at hy; cases hy
  · rw [if_neg c] at hx
    injection hx with e1 e2
    subst e1 e2
    refine ⟨⟨pwx_Nw h.1, by rw [k.1]; exact h.2⟩, hn.2, by rw [k.1]; exact Nat.le_refl _, fun i => by unfold sec; rw [hn.1], fun h1 h2 => absurd (q h1 h2).1 c, .inr ⟨rfl, fun i x hx => ?_⟩⟩
    unfold Poss at hx ⊢
    rw [k.1, k.2.2.2] at hx
    exact hx
theorem fuse_sec {s : Dk} (h : Sx s) (k : Int) : Sx (fzx s k) ∧ (fzx s k).nb = s.nb ∧ (fzx s k).pend = s.pend ∧ (∀ i, sec (fzx s k) i = sec s i) ∧ ∀ i x, Poss (fzx s k) i x → Poss s i x := by
  unfold fzx
  split
  · exact ⟨h, rfl, rfl, fun _ => rfl, fun _ _ hx => hx⟩
  · exact ⟨⟨Nw_set h.1 rfl rfl rfl rfl, h.2⟩, rfl, rfl, fun _ => rfl, fun _ _ hx => hx⟩
theorem wrx_sec {s s' : Dk} {e : Int} (h : Sx s) {n : Nat} (hn : n < s.nb) {B : List Int} (hB : B.length = 256) (hx : wrx s (n : Int) B = (s', e)) : Sx s' ∧ s'.nb = s.nb ∧ s'.pend.length ≤ s.pend.length + 4 ∧ (s.of = false → s.fu = false → e = 0 ∧ s'.of = false ∧ s'.fu = false) ∧ ((e = 0 ∧ s'.now = sp8 s.now (n * 256) B ∧ s'.safe = s.safe ∧ s'.pend = s.pend ++ pcs (n : Int) B) ∨ (e = 9 ∧ s'.now = s.now ∧ s'.safe = s.safe ∧ s'.pend = s.pend)) := by
  have hh : hasB s (n : Int) = true := by unfold hasB; simp; omega
  have k := pwx_keeps s
  have N := wrx_Nw h.1 (n : Int) B
  rw [hx] at N
  have q : s.of = false → s.fu = false → (pwx s).2 = true ∧ (pwx s).1.of = false ∧ (pwx s).1.fu = false := fun h1 h2 => by
    unfold pwx
    rw [h1, h2, if_neg (by simp)]
    exact ⟨rfl, rfl, rfl⟩
  unfold wrx at hx
  rw [if_pos ⟨hh, hB⟩] at hx
  by_cases c : (pwx s).2 = true
  · rw [if_pos c] at hx
    injection hx with e1 e2
    subst e1 e2
    have hp : (pwx s).1.pend ++ pcs (n : Int) B = s.pend ++ pcs (n : Int) B := by rw [k.1]
    have hnow : sp8 (pwx s).1.now ((n : Int).toNat * 256) B = sp8 s.now (n * 256) B := by rw [k.2.2.1, Int.toNat_natCast]
    refine ⟨⟨N, fun y hy => ?_⟩, k.2.1, ?_, fun h1 h2 => ⟨rfl, (q h1 h2).2⟩, .inl ⟨rfl, hnow, k.2.2.2, hp⟩⟩
    · change y ∈ (pwx s).1.pend ++ pcs (n : Int) B at hy
      rw [hp, List.mem_append] at hy
      rcases hy with hy | hy
      · exact h.2 y hy
      · have : y = ⟨n, 0, cut8 B 0 64⟩ ∨ y = ⟨n, 64, cut8 B 64 64⟩ ∨ y = ⟨n, 128, cut8 B 128 64⟩ ∨ y = ⟨n, 192, cut8 B 192 64⟩ := by simpa [pcs] using hy
        rcases this with rfl | rfl | rfl | rfl
        · show (n * 256 + 0) % 64 = 0; omega
        · show (n * 256 + 64) % 64 = 0; omega
        · show (n * 256 + 128) % 64 = 0; omega
        · show (n * 256 + 192) % 64 = 0; omega
    · show ((pwx s).1.pend ++ pcs (n : Int) B).length ≤ _
      rw [hp, List.length_append]
      simp [pcs]
  · rw [if_neg c] at hx
    injection hx with e1 e2
    subst e1 e2
    exact ⟨⟨pwx_Nw h.1, by rw [k.1]; exact h.2⟩, k.2.1, by rw [k.1]; omega, fun h1 h2 => absurd (q h1 h2).1 c, .inr ⟨rfl, k.2.2.1, k.2.2.2, k.1⟩⟩
theorem cut_in {L X : List Int} {o a : Nat} (ha : a + 64 ≤ X.length) (h : o + X.length ≤ L.length) : cut8 (sp8 L o X) (o + a) 64 = cut8 X a 64 := by
  apply List.ext_getElem?
  intro i
  by_cases c : i < 64
  · rw [cut8_at c, cut8_at c, sp8_get h, if_pos (by omega)]
    congr 1
    omega
  · rw [List.getElem?_eq_none (by rw [cut8_len (by rw [sp8_len h]; omega)]; omega), List.getElem?_eq_none (by rw [cut8_len (by omega)]; omega)]
theorem cut_out {L X : List Int} {o p : Nat} (hp : p + 64 ≤ o ∨ o + X.length ≤ p) (hl : p + 64 ≤ L.length) (h : o + X.length ≤ L.length) : cut8 (sp8 L o X) p 64 = cut8 L p 64 := by
  apply List.ext_getElem?
  intro i
  by_cases c : i < 64
  · rw [cut8_at c, cut8_at c, sp8_get h, if_neg (by omega)]
  · rw [List.getElem?_eq_none (by rw [cut8_len (by rw [sp8_len h]; omega)]; omega), List.getElem?_eq_none (by rw [cut8_len (by omega)]; omega)]
theorem flat_cut : ∀ {ps : List (List Int)} (_ : ∀ x ∈ ps, x.length = 64) {j : Nat} {x : List Int} (_ : ps[j]? = some x), cut8 ps.flatten (j * 64) 64 = x
  | [], _, j, x, h => by simp at h
  | p :: ps, h64, j, x, h => by
    have hp := h64 p (List.mem_cons_self ..)
    cases j with
    | zero =>
      obtain rfl : p = x := by simpa using h
      unfold cut8
      rw [List.flatten_cons, Nat.zero_mul, List.drop_zero, List.take_append_of_le_length (by omega), List.take_of_length_le (by omega)]
    | succ j =>
      have ih := flat_cut (ps := ps) (fun y hy => h64 y (List.mem_cons_of_mem _ hy)) (j := j) (x := x) (by simpa using h)
      unfold cut8 at ih ⊢
      rw [List.flatten_cons, List.drop_append, List.drop_eq_nil_of_le (by omega), List.nil_append, hp, show (j + 1) * 64 - 64 = j * 64 by omega]
      exact ih
/- A block whose sectors from one on are others. -/
theorem blk_sec {L : List Int} {ps : List (List Int)} (h64 : ∀ x ∈ ps, x.length = 64) {r : Nat} (hL : L.length = 256) (hr : r + ps.length ≤ 4) {t : Nat} (ht : t < 4) : (t < r ∨ r + ps.length ≤ t → cut8 (sp8 L (r * 64) ps.flatten) (t * 64) 64 = cut8 L (t * 64) 64) ∧ ∀ j x, t = r + j → ps[j]? = some x → cut8 (sp8 L (r * 64) ps.flatten) (t * 64) 64 = x := by
  have hl := flat_len64 h64
  refine ⟨fun c => cut_out (by rw [hl]; omega) (by omega) (by rw [hl]; omega), fun j x e hx => ?_⟩
  have hj : j < ps.length := (List.getElem?_eq_some_iff.1 hx).1
  rw [show t * 64 = r * 64 + j * 64 by omega, cut_in (by rw [hl]; omega) (by rw [hl]; omega)]
  exact flat_cut h64 hx
theorem lay_one {s s' : Dk} {e : Int} (h : Sx s) {fi a : Nat} {ps : List (List Int)} (h64 : ∀ x ∈ ps, x.length = 64) (ha : a % 4 + ps.length ≤ 4) (hb : fi + a / 4 < s.nb) (hx : wrx s ((fi + a / 4 : Nat) : Int) (sp8 (cut8 s.now ((fi + a / 4) * 256) 256) (a % 4 * 64) ps.flatten) = (s', e)) :
    Sx s' ∧ s'.nb = s.nb ∧ s'.pend.length ≤ s.pend.length + 4 ∧ (s.of = false → s.fu = false → e = 0 ∧ s'.of = false ∧ s'.fu = false) ∧ ((e = 0 ∧ (∀ i x, i < s.nb * 4 → Poss s' i x → Poss s i x ∨ ∃ j, i = fi * 4 + a + j ∧ ps[j]? = some x) ∧ (∀ i, i < s.nb * 4 → i < fi * 4 + a ∨ fi * 4 + a + ps.length ≤ i → sec s' i = sec s i) ∧ ∀ j x, ps[j]? = some x → sec s' (fi * 4 + a + j) = x) ∨ (e = 9 ∧ ∀ i x, Poss s' i x → Poss s i x)) := by
  have hl := flat_len64 h64
  have hL : (cut8 s.now ((fi + a / 4) * 256) 256).length = 256 := cut8_len (by rw [h.1.1.now]; omega)
  have hf : a % 4 * 64 + ps.flatten.length ≤ (cut8 s.now ((fi + a / 4) * 256) 256).length := by rw [hl, hL]; omega
  have hB : (sp8 (cut8 s.now ((fi + a / 4) * 256) 256) (a % 4 * 64) ps.flatten).length = 256 := by rw [sp8_len hf, hL]
  have bs := fun t ht => blk_sec h64 hL ha (t := t) ht
  obtain ⟨B, hBe⟩ : ∃ B, B = sp8 (cut8 s.now ((fi + a / 4) * 256) 256) (a % 4 * 64) ps.flatten := ⟨_, rfl⟩
  rw [← hBe] at hx hB bs
  obtain ⟨q1, q2, q3, q4, q5⟩ := wrx_sec h hb hB hx
  have old : ∀ t, t < 4 → cut8 (cut8 s.now ((fi + a / 4) * 256) 256) (t * 64) 64 = sec s ((fi + a / 4) * 4 + t) := fun t ht => by
    rw [cut_cut (by omega)]
    unfold sec
    congr 1
    omega
  refine ⟨q1, q2, q3, q4, ?_⟩
  rcases q5 with ⟨e0, q6, q7, q8⟩ | ⟨e9, q6, q7, q8⟩
  · refine .inl ⟨e0, fun i x hi hx => ?_, fun i hi hc => ?_, fun j x hj => ?_⟩
    · rcases hx with hx | ⟨y, hy, hy2, hy3⟩
      · exact .inl (.inl (by rw [hx, q7]))
      · rw [q8, List.mem_append] at hy
        rcases hy with hy | hy
        · exact .inl (.inr ⟨y, hy, hy2, hy3⟩)
        · have : ∃ t, t < 4 ∧ y = ⟨((fi + a / 4 : Nat) : Int), ((t * 64 : Nat) : Int), cut8 B (t * 64) 64⟩ := by
            have : y = ⟨((fi + a / 4 : Nat) : Int), 0, cut8 B 0 64⟩ ∨ y = ⟨((fi + a / 4 : Nat) : Int), 64, cut8 B 64 64⟩ ∨ y = ⟨((fi + a / 4 : Nat) : Int), 128, cut8 B 128 64⟩ ∨ y = ⟨((fi + a / 4 : Nat) : Int), 192, cut8 B 192 64⟩ := by simpa only [pcs, List.mem_cons, List.not_mem_nil, or_false] using hy
            rcases this with rfl | rfl | rfl | rfl
            · exact ⟨0, by omega, rfl⟩
            · exact ⟨1, by omega, rfl⟩
            · exact ⟨2, by omega, rfl⟩
            · exact ⟨3, by omega, rfl⟩
          obtain ⟨t, ht, rfl⟩ := this
          have hi2 : i = (fi + a / 4) * 4 + t := by
            unfold psx at hy2
            simp only [Int.toNat_natCast] at hy2
            omega
          have hxt : cut8 B (t * 64) 64 = x := hy3
          by_cases c : t < a % 4 ∨ a % 4 + ps.length ≤ t
          · rw [(bs t ht).1 c, old t ht, ← hi2] at hxt
            exact .inl (by rw [← hxt]; exact now_poss h hi)
          · have hj : t - a % 4 < ps.length := by omega
            have := (bs t ht).2 (t - a % 4) _ (by omega) (List.getElem?_eq_getElem hj)
            exact .inr ⟨t - a % 4, by omega, by rw [List.getElem?_eq_getElem hj, ← hxt, this]⟩
    · unfold sec
      rw [q6]
      by_cases c : (fi + a / 4) * 4 ≤ i ∧ i < (fi + a / 4) * 4 + 4
      · rw [show i * 64 = (fi + a / 4) * 256 + (i - (fi + a / 4) * 4) * 64 by omega, cut_in (by omega) (by rw [hB, h.1.1.now]; omega), (bs (i - (fi + a / 4) * 4) (by omega)).1 (by omega), old _ (by omega)]
        unfold sec
        congr 1
        omega
      · exact cut_out (by rw [hB]; omega) (by rw [h.1.1.now]; omega) (by rw [hB, h.1.1.now]; omega)
    · have hj2 : j < ps.length := (List.getElem?_eq_some_iff.1 hj).1
      unfold sec
      rw [q6, show (fi * 4 + a + j) * 64 = (fi + a / 4) * 256 + (a % 4 + j) * 64 by omega, cut_in (by omega) (by rw [hB, h.1.1.now]; omega)]
      exact (bs (a % 4 + j) (by omega)).2 j x rfl hj
  · refine .inr ⟨e9, fun i x hx => ?_⟩
    unfold Poss at hx ⊢
    rw [q7, q8] at hx
    exact hx
/- All of lay. -/
theorem layx_sec {fi : Nat} : ∀ (f : Nat) (s : Dk) (a : Nat) (ps : List (List Int)), ps.length < f → (∀ x ∈ ps, x.length = 64) → Sx s → fi * 4 + a + ps.length ≤ s.nb * 4 → ∀ s' e, layx fi f s a ps = (s', e) →
    Sx s' ∧ s'.nb = s.nb ∧ s'.pend.length ≤ s.pend.length + 4 * ps.length ∧ (s.of = false → s.fu = false → e = 0 ∧ s'.of = false ∧ s'.fu = false) ∧ ((e = 0 ∧ (∀ i x, i < s.nb * 4 → Poss s' i x → Poss s i x ∨ ∃ j, i = fi * 4 + a + j ∧ ps[j]? = some x) ∧ (∀ i, i < s.nb * 4 → i < fi * 4 + a ∨ fi * 4 + a + ps.length ≤ i → sec s' i = sec s i) ∧ ∀ j x, ps[j]? = some x → sec s' (fi * 4 + a + j) = x) ∨ (e = 9 ∧ ∃ m, m < ps.length ∧ ∀ i x, i < s.nb * 4 → Poss s' i x → Poss s i x ∨ ∃ j, j < m ∧ i = fi * 4 + a + j ∧ ps[j]? = some x))
  | 0, s, a, ps, h1, _, _, _, s', e, _ => by omega
  | f + 1, s, a, ps, h1, h64, hS, hb, s', e, hx => by
    unfold layx at hx
    by_cases c0 : ps.length = 0
    · rw [if_pos c0] at hx
      injection hx with e1 e2
      subst e1 e2
      have : ps = [] := List.eq_nil_of_length_eq_zero c0
      subst this
      exact ⟨hS, rfl, by omega, fun h1 h2 => ⟨rfl, h1, h2⟩, .inl ⟨rfl, fun i x _ hx => .inl hx, fun _ _ _ => rfl, fun j x hj => by simp at hj⟩⟩
    rw [if_neg c0] at hx
    by_cases c1 : s.of = true
    · rw [if_pos c1] at hx
      injection hx with e1 e2
      subst e1 e2
      exact ⟨hS, rfl, by omega, fun h1 h2 => absurd (c1.symm.trans h1) (by simp), .inr ⟨rfl, 0, by omega, fun i x _ hx => .inl hx⟩⟩
    rw [if_neg c1] at hx
    have h64t : ∀ x ∈ ps.take (4 - a % 4), x.length = 64 := fun x hx => h64 x (List.mem_of_mem_take hx)
    have h64d : ∀ x ∈ ps.drop (4 - a % 4), x.length = 64 := fun x hx => h64 x (List.mem_of_mem_drop hx)
    have hlt : (ps.take (4 - a % 4)).length = min (4 - a % 4) ps.length := List.length_take
    obtain ⟨⟨s1, e1⟩, hw⟩ : ∃ q, wrx s ((fi + a / 4 : Nat) : Int) (sp8 (cut8 s.now ((fi + a / 4) * 256) 256) (a % 4 * 64) (ps.take (4 - a % 4)).flatten) = q := ⟨_, rfl⟩
    obtain ⟨q1, q2, q3, q4, q5⟩ := lay_one hS h64t (by omega) (by omega) hw
    rw [hw] at hx
    have tk : ∀ j x, (ps.take (4 - a % 4))[j]? = some x → j < min (4 - a % 4) ps.length ∧ ps[j]? = some x := fun j x hj => by
      have hj2 := (List.getElem?_eq_some_iff.1 hj).1
      rw [hlt] at hj2
      rw [List.getElem?_take_of_lt (by omega)] at hj
      exact ⟨hj2, hj⟩
    by_cases c2 : e1 ≠ 0
    · rw [if_pos c2] at hx
      injection hx with e2 e3
      subst e2 e3
      refine ⟨q1, q2, by omega, q4, .inr ?_⟩
      rcases q5 with ⟨e0, _⟩ | ⟨e9, q6⟩
      · exact absurd e0 c2
      · exact ⟨e9, 0, by omega, fun i x _ hx => .inl (q6 i x hx)⟩
    · rw [if_neg c2] at hx
      have e0 : e1 = 0 := by simpa using c2
      rcases q5 with ⟨_, q6, q7, q8⟩ | ⟨e9, _⟩
      case inr => rw [e0] at e9; cases e9
      dsimp only at hx
      have hld : (ps.drop (4 - a % 4)).length = ps.length - (4 - a % 4) := List.length_drop
      obtain ⟨r1, r2, r3, r4, r5⟩ := layx_sec f s1 (a + min (4 - a % 4) ps.length) (ps.drop (4 - a % 4)) (by omega) h64d q1 (by rw [q2]; omega) s' e hx
      have dr : ∀ j x, (ps.drop (4 - a % 4))[j]? = some x → min (4 - a % 4) ps.length = 4 - a % 4 ∧ ps[4 - a % 4 + j]? = some x := fun j x hj => by
        have hj2 := (List.getElem?_eq_some_iff.1 hj).1
        rw [List.getElem?_drop] at hj
        rw [hld] at hj2
        exact ⟨Nat.min_eq_left (by omega), hj⟩
      refine ⟨r1, r2.trans q2, by omega, fun h1 h2 => r4 (q4 h1 h2).2.1 (q4 h1 h2).2.2, ?_⟩
      rcases r5 with ⟨f0, r6, r7, r8⟩ | ⟨f9, m, hm, r6⟩
      · refine .inl ⟨f0, fun i x hi hx => ?_, fun i hi hc => ?_, fun j x hj => ?_⟩
        · rcases r6 i x (by rw [q2]; exact hi) hx with g | ⟨j, g1, g2⟩
          · rcases q6 i x hi g with g | ⟨j, g1, g2⟩
            · exact .inl g
            · exact .inr ⟨j, g1, (tk j x g2).2⟩
          · have := dr j x g2
            exact .inr ⟨4 - a % 4 + j, by omega, this.2⟩
        · rw [r7 i (by rw [q2]; exact hi) (by omega), q7 i hi (by omega)]
        · have hj2 := (List.getElem?_eq_some_iff.1 hj).1
          by_cases c : j < 4 - a % 4
          · have k1 : j < min (4 - a % 4) ps.length := Nat.lt_min.2 ⟨c, hj2⟩
            have k2 : fi * 4 + a + j < s1.nb * 4 := by rw [q2]; omega
            have k3 := q8 j x (by rw [List.getElem?_take_of_lt c]; exact hj)
            rw [← k3]
            exact r7 (fi * 4 + a + j) k2 (.inl (by rw [← Nat.add_assoc]; exact Nat.add_lt_add_left k1 _))
          · have := r8 (j - (4 - a % 4)) x (by rw [List.getElem?_drop, show 4 - a % 4 + (j - (4 - a % 4)) = j by omega]; exact hj)
            rw [← this]
            congr 1
            omega
      · refine .inr ⟨f9, 4 - a % 4 + m, by omega, fun i x hi hx => ?_⟩
        rcases r6 i x (by rw [q2]; exact hi) hx with g | ⟨j, g0, g1, g2⟩
        · rcases q6 i x hi g with g | ⟨j, g1, g2⟩
          · exact .inl g
          · have := tk j x g2
            exact .inr ⟨j, by omega, g1, this.2⟩
        · have := dr j x g2
          exact .inr ⟨4 - a % 4 + j, by omega, by omega, this.2⟩
end Go.Proofs.Ytepipgneefcoiaa.D
