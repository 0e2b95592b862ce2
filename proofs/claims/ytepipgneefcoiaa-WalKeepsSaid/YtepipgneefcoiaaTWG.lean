/- The functions of the program that these laws reach, each as a plain Lean function, and the proof that the machine's call comes to it; no condition beyond those that each theorem names. Made by wip/xprint.py. -/
import Derived.Test.YtepipgneefcoiaaTWE
import Derived.Test.YtepipgneefcoiaaDf32
import Derived.Test.YtepipgneefcoiaaDf44
import Derived.Test.YtepipgneefcoiaaDx0
namespace Go.Proofs.Ytepipgneefcoiaa.D
open Go.RowKit Go.Proofs.YtepipgneefcoiaaW.PrintWords Go.Proofs.YtepipgneefcoiaaW.PrintLast Go.Proofs.YtepipgneefcoiaaW.PrintMore
attribute [local go_sem] max2_int min2_int max_two min_two max_three min_three max_four min_four
set_option linter.unusedVariables false
set_option linter.unusedSimpArgs false
/- What a sector has, and may have behind a crash. -/
def psx (x : Pc) : Nat := x.bl.toNat * 256 + x.at_.toNat
theorem keepF_sec {s : Dk} (h : s.Ok) (kept : Nat → Bool) (hp : ∀ x ∈ s.pend, psx x % 64 = 0) (t : Nat) (ht : t * 64 + 64 ≤ s.nb * 256) : ∀ j, j ≤ s.pend.length → cut8 (keepF kept s.pend j s.safe) (t * 64) 64 = cut8 s.safe (t * 64) 64 ∨ ∃ x, x ∈ s.pend ∧ psx x = t * 64 ∧ cut8 (keepF kept s.pend j s.safe) (t * 64) 64 = x.b
  | 0, _ => .inl rfl
  | j + 1, hj => by
    have ih := keepF_sec h kept hp t ht j (by omega)
    have hm := rdP_mem (show j < s.pend.length by omega)
    obtain ⟨h1, h2, h3, h4, h5⟩ := h.pend _ hm
    have hq := hp _ hm
    have hl := keepF_len h kept j (by omega)
    have hf : (rdP s.pend j).bl.toNat * 256 + (rdP s.pend j).at_.toNat + (rdP s.pend j).b.length ≤ (keepF kept s.pend j s.safe).length := by rw [hl, h5, h.safe]; omega
    unfold keepF
    split
    · unfold psx at hq
      by_cases c : (rdP s.pend j).bl.toNat * 256 + (rdP s.pend j).at_.toNat = t * 64
      · refine .inr ⟨_, hm, c, ?_⟩
        apply List.ext_getElem?
        intro i
        by_cases ci : i < 64
        · rw [cut8_at ci, sp8_get hf, if_pos (by omega)]
          congr 1
          omega
        · rw [List.getElem?_eq_none (by rw [cut8_len (by rw [sp8_len hf, hl, h.safe]; omega)]; omega), List.getElem?_eq_none (by omega)]
      · have e : cut8 (sp8 (keepF kept s.pend j s.safe) ((rdP s.pend j).bl.toNat * 256 + (rdP s.pend j).at_.toNat) (rdP s.pend j).b) (t * 64) 64 = cut8 (keepF kept s.pend j s.safe) (t * 64) 64 := by
          apply List.ext_getElem?
          intro i
          by_cases ci : i < 64
          · rw [cut8_at ci, cut8_at ci, sp8_get hf, if_neg (by omega)]
          · rw [List.getElem?_eq_none (by rw [cut8_len (by rw [sp8_len hf, hl, h.safe]; omega)]; omega), List.getElem?_eq_none (by rw [cut8_len (by rw [hl, h.safe]; omega)]; omega)]
        rw [e]
        exact ih
    · exact ih
def Sx (s : Dk) : Prop := Nw s ∧ ∀ y ∈ s.pend, psx y % 64 = 0
def sec (s : Dk) (i : Nat) : List Int := cut8 s.now (i * 64) 64
def Poss (s : Dk) (i : Nat) (x : List Int) : Prop := x = cut8 s.safe (i * 64) 64 ∨ ∃ y ∈ s.pend, psx y = i * 64 ∧ y.b = x
theorem now_poss {s : Dk} (h : Sx s) {i : Nat} (hi : i < s.nb * 4) : Poss s i (sec s i) := by
  have e : s.now = keepF (fun _ => true) s.pend s.pend.length s.safe := by rw [keepF_all]; exact h.1.2
  unfold sec
  rw [e]
  rcases keepF_sec h.1.1 (fun _ => true) h.2 i (by omega) _ (Nat.le_refl _) with g | ⟨x, g1, g2, g3⟩
  · exact .inl g
  · exact .inr ⟨x, g1, g2, g3.symm⟩
theorem poss_len {s : Dk} (h : Sx s) {i : Nat} (hi : i < s.nb * 4) {x : List Int} (hx : Poss s i x) : x.length = 64 := by
  rcases hx with rfl | ⟨y, hy, _, rfl⟩
  · exact cut8_len (by rw [h.1.1.safe]; omega)
  · exact (h.1.1.pend y hy).2.2.2.2
theorem crash_sec {s : Dk} (h : Sx s) (keep : List Bool) : Sx (crx s keep) ∧ (crx s keep).nb = s.nb ∧ (crx s keep).pend = [] ∧ (crx s keep).of = false ∧ (crx s keep).fu = false ∧ ∀ i x, i < s.nb * 4 → Poss (crx s keep) i x → Poss s i x := by
  have N : Nw (crx s keep) := Nw_set (stl_Nw h.1 (kpB keep)) rfl rfl rfl rfl
  have hp : (crx s keep).pend = [] := rfl
  refine ⟨⟨N, fun y hy => by rw [hp] at hy; cases hy⟩, rfl, hp, rfl, rfl, fun i x hi hx => ?_⟩
  rcases hx with rfl | ⟨y, hy, _, _⟩
  · have e : (crx s keep).safe = keepF (kpB keep) s.pend s.pend.length s.safe := rfl
    rw [e]
    rcases keepF_sec h.1.1 (kpB keep) h.2 i (by omega) _ (Nat.le_refl _) with g | ⟨x, g1, g2, g3⟩
    · exact .inl g
    · exact .inr ⟨x, g1, g2, g3.symm⟩
  · rw [hp] at hy; cases hy
theorem crash_now {s : Dk} (h : Sx s) (keep : List Bool) {i : Nat} {x : List Int} : Poss (crx s keep) i x ↔ x = sec (crx s keep) i := by
  have hp : (crx s keep).pend = [] := rfl
  have e : (crx s keep).safe = (crx s keep).now := by
    have N : Nw (crx s keep) := Nw_set (stl_Nw h.1 (kpB keep)) rfl rfl rfl rfl
    rw [N.2, hp]
    rfl
  unfold Poss sec
  rw [hp, e]
  exact ⟨fun q => q.elim id (fun ⟨y, hy, _⟩ => by cases hy), .inl⟩
theorem flush_sec {s s' : Dk} {e : Int} (h : Sx s) (hx : flx s = (s', e)) : Sx s' ∧ s'.nb = s.nb ∧ s'.pend.length ≤ s.pend.length ∧ (∀ i, sec s' i = sec s i) ∧ (s.of = false → s.fu = false → e = 0 ∧ s'.of = false ∧ s'.fu = false) ∧ ((e = 0 ∧ ∀ i x, Poss s' i x → x = sec s i) ∨ (e = 9 ∧ ∀ i x, Poss s' i x → Poss s i x)) := by
  have k := pwx_keeps s
  have hn := flx_now h.1
  rw [hx] at hn
  have q : s.of = false → s.fu = false → (pwx s).2 = true ∧ (pwx s).1.of = false ∧ (pwx s).1.fu = false := fun h1 h2 => by
    unfold pwx
    rw [h1, h2, if_neg (by simp)]
    exact ⟨rfl, rfl, rfl⟩
  unfold flx at hx
  by_cases c : (pwx s).2 = true
  · rw [if_pos c] at hx
    injection hx with e1 e2
    subst e1 e2
    have N := stl_Nw (pwx_Nw h.1) (fun _ => true)
    have hp : (stl (fun _ => true) (pwx s).1).pend = [] := rfl
    refine ⟨⟨N, fun y hy => by rw [hp] at hy; cases hy⟩, hn.2, Nat.zero_le _, fun i => by unfold sec; rw [hn.1], fun h1 h2 => ⟨rfl, (q h1 h2).2⟩, .inl ⟨rfl, fun i x hx => ?_⟩⟩
    rcases hx with rfl | ⟨y, hy, _⟩
    · have e : (stl (fun _ => true) (pwx s).1).safe = (stl (fun _ => true) (pwx s).1).now := by
        rw [N.2, hp]
        rfl
      rw [e, hn.1]
      rfl
    · rw [hp] at hy; cases hy
  · rw [if_neg c] at hx
    injection hx with e1 e2
    subst e1 e2
    refine ⟨⟨pwx_Nw h.1, by rw [k.1]; exact h.2⟩, hn.2, by rw [k.1]; exact Nat.le_refl _, fun i => by unfold sec; rw [hn.1], fun h1 h2 => absurd (q h1 h2).1 c, .inr ⟨rfl, fun i x hx => ?_⟩⟩
    unfold Poss at hx ⊢
    rw [k.1, k.2.2.2] at hx
    exact hx
theorem fuse_sec {s : Dk} (h : Sx s) (k : Int) : Sx (fzx s k) ∧ (fzx s k).nb = s.nb ∧ (fzx s k).pend = s.pend ∧ (∀ i, sec (fzx s k) i = sec s i) ∧ ∀ i x, Poss (fzx s k) i x → Poss s i x := by
  unfold fzx
  split
  · exact ⟨h, rfl, rfl, fun _ => rfl, fun _ _ hx => hx⟩
  · exact ⟨⟨Nw_set h.1 rfl rfl rfl rfl, h.2⟩, rfl, rfl, fun _ => rfl, fun _ _ hx => hx⟩
theorem wrx_sec {s s' : Dk} {e : Int} (h : Sx s) {n : Nat} (hn : n < s.nb) {B : List Int} (hB : B.length = 256) (hx : wrx s (n : Int) B = (s', e)) : Sx s' ∧ s'.nb = s.nb ∧ s'.pend.length ≤ s.pend.length + 4 ∧ (s.of = false → s.fu = false → e = 0 ∧ s'.of = false ∧ s'.fu = false) ∧ ((e = 0 ∧ s'.now = sp8 s.now (n * 256) B ∧ s'.safe = s.safe ∧ s'.pend = s.pend ++ pcs (n : Int) B) ∨ (e = 9 ∧ s'.now = s.now ∧ s'.safe = s.safe ∧ s'.pend = s.pend)) := by
  have hh : hasB s (n : Int) = true := by unfold hasB; simp; omega
  have k := pwx_keeps s
  have N := wrx_Nw h.1 (n : Int) B
  rw [hx] at N
  have q : s.of = false → s.fu = false → (pwx s).2 = true ∧ (pwx s).1.of = false ∧ (pwx s).1.fu = false := fun h1 h2 => by
    unfold pwx
    rw [h1, h2, if_neg (by simp)]
    exact ⟨rfl, rfl, rfl⟩
  unfold wrx at hx
  rw [if_pos ⟨hh, hB⟩] at hx
  by_cases c : (pwx s).2 = true
  · rw [if_pos c] at hx
    injection hx with e1 e2
    subst e1 e2
    have hp : (pwx s).1.pend ++ pcs (n : Int) B = s.pend ++ pcs (n : Int) B := by rw [k.1]
    have hnow : sp8 (pwx s).1.now ((n : Int).toNat * 256) B = sp8 s.now (n * 256) B := by rw [k.2.2.1, Int.toNat_natCast]
    refine ⟨⟨N, fun y hy => ?_⟩, k.2.1, ?_, fun h1 h2 => ⟨rfl, (q h1 h2).2⟩, .inl ⟨rfl, hnow, k.2.2.2, hp⟩⟩
    · change y ∈ (pwx s).1.pend ++ pcs (n : Int) B at hy
      rw [hp, List.mem_append] at hy
      rcases hy with hy | hy
      · exact h.2 y hy
      · have : y = ⟨n, 0, cut8 B 0 64⟩ ∨ y = ⟨n, 64, cut8 B 64 64⟩ ∨ y = ⟨n, 128, cut8 B 128 64⟩ ∨ y = ⟨n, 192, cut8 B 192 64⟩ := by simpa [pcs] using hy
        rcases this with rfl | rfl | rfl | rfl
        · show (n * 256 + 0) % 64 = 0; omega
        · show (n * 256 + 64) % 64 = 0; omega
        · show (n * 256 + 128) % 64 = 0; omega
        · show (n * 256 + 192) % 64 = 0; omega
    · show ((pwx s).1.pend ++ pcs (n : Int) B).length ≤ _
      rw [hp, List.length_append]
      simp [pcs]
  · rw [if_neg c] at hx
    injection hx with e1 e2
    subst e1 e2
    exact ⟨⟨pwx_Nw h.1, by rw [k.1]; exact h.2⟩, k.2.1, by rw [k.1]; omega, fun h1 h2 => absurd (q h1 h2).1 c, .inr ⟨rfl, k.2.2.1, k.2.2.2, k.1⟩⟩
theorem cut_in {L X : List Int} {o a : Nat} (ha : a + 64 ≤ X.length) (h : o + X.length ≤ L.length) : cut8 (sp8 L o X) (o + a) 64 = cut8 X a 64 := by
  apply List.ext_getElem?
  intro i
  by_cases c : i < 64
  · rw [cut8_at c, cut8_at c, sp8_get h, if_pos (by omega)]
    congr 1
    omega
  · rw [List.getElem?_eq_none (by rw [cut8_len (by rw [sp8_len h]; omega)]; omega), List.getElem?_eq_none (by rw [cut8_len (by omega)]; omega)]
theorem cut_out {L X : List Int} {o p : Nat} (hp : p + 64 ≤ o ∨ o + X.length ≤ p) (hl : p + 64 ≤ L.length) (h : o + X.length ≤ L.length) : cut8 (sp8 L o X) p 64 = cut8 L p 64 := by
  apply List.ext_getElem?
  intro i
  by_cases c : i < 64
  · rw [cut8_at c, cut8_at c, sp8_get h, if_neg (by omega)]
  · rw [List.getElem?_eq_none (by rw [cut8_len (by rw [sp8_len h]; omega)]; omega), List.getElem?_eq_none (by rw [cut8_len (by omega)]; omega)]
theorem flat_cut : ∀ {ps : List (List Int)} (_ : ∀ x ∈ ps, x.length = 64) {j : Nat} {x : List Int} (_ : ps[j]? = some x), cut8 ps.flatten (j * 64) 64 = x
  | [], _, j, x, h => by simp at h
  | p :: ps, h64, j, x, h => by
    have hp := h64 p (List.mem_cons_self ..)
    cases j with
    | zero =>
      obtain rfl : p = x := by simpa using h
      unfold cut8
      rw [List.flatten_cons, Nat.zero_mul, List.drop_zero, List.take_append_of_le_length (by omega), List.take_of_length_le (by omega)]
    | succ j =>
      have ih := flat_cut (ps := ps) (fun y hy => h64 y (List.mem_cons_of_mem _ hy)) (j := j) (x := x) (by simpa using h)
      unfold cut8 at ih ⊢
      rw [List.flatten_cons, List.drop_append, List.drop_eq_nil_of_le (by omega), List.nil_append, hp, show (j + 1) * 64 - 64 = j * 64 by omega]
      exact ih
/- A block whose sectors from one on are others. -/
theorem blk_sec {L : List Int} {ps : List (List Int)} (h64 : ∀ x ∈ ps, x.length = 64) {r : Nat} (hL : L.length = 256) (hr : r + ps.length ≤ 4) {t : Nat} (ht : t < 4) : (t < r ∨ r + ps.length ≤ t → cut8 (sp8 L (r * 64) ps.flatten) (t * 64) 64 = cut8 L (t * 64) 64) ∧ ∀ j x, t = r + j → ps[j]? = some x → cut8 (sp8 L (r * 64) ps.flatten) (t * 64) 64 = x := by
  have hl := flat_len64 h64
  refine ⟨fun c => cut_out (by rw [hl]; omega) (by omega) (by rw [hl]; omega), fun j x e hx => ?_⟩
  have hj : j < ps.length := (List.getElem?_eq_some_iff.1 hx).1
  rw [show t * 64 = r * 64 + j * 64 by omega, cut_in (by rw [hl]; omega) (by rw [hl]; omega)]
  exact flat_cut h64 hx
theorem lay_one {s s' : Dk} {e : Int} (h : Sx s) {fi a : Nat} {ps : List (List Int)} (h64 : ∀ x ∈ ps, x.length = 64) (ha : a % 4 + ps.length ≤ 4) (hb : fi + a / 4 < s.nb) (hx : wrx s ((fi + a / 4 : Nat) : Int) (sp8 (cut8 s.now ((fi + a / 4) * 256) 256) (a % 4 * 64) ps.flatten) = (s', e)) :
    Sx s' ∧ s'.nb = s.nb ∧ s'.pend.length ≤ s.pend.length + 4 ∧ (s.of = false → s.fu = false → e = 0 ∧ s'.of = false ∧ s'.fu = false) ∧ ((e = 0 ∧ (∀ i x, i < s.nb * 4 → Poss s' i x → Poss s i x ∨ ∃ j, i = fi * 4 + a + j ∧ ps[j]? = some x) ∧ (∀ i, i < s.nb * 4 → i < fi * 4 + a ∨ fi * 4 + a + ps.length ≤ i → sec s' i = sec s i) ∧ ∀ j x, ps[j]? = some x → sec s' (fi * 4 + a + j) = x) ∨ (e = 9 ∧ ∀ i x, Poss s' i x → Poss s i x)) := by
  have hl := flat_len64 h64
  have hL : (cut8 s.now ((fi + a / 4) * 256) 256).length = 256 := cut8_len (by rw [h.1.1.now]; omega)
  have hf : a % 4 * 64 + ps.flatten.length ≤ (cut8 s.now ((fi + a / 4) * 256) 256).length := by rw [hl, hL]; omega
  have hB : (sp8 (cut8 s.now ((fi + a / 4) * 256) 256) (a % 4 * 64) ps.flatten).length = 256 := by rw [sp8_len hf, hL]
  have bs := fun t ht => blk_sec h64 hL ha (t := t) ht
  obtain ⟨B, hBe⟩ : ∃ B, B = sp8 (cut8 s.now ((fi + a / 4) * 256) 256) (a % 4 * 64) ps.flatten := ⟨_, rfl⟩
  rw [← hBe] at hx hB bs
  obtain ⟨q1, q2, q3, q4, q5⟩ := wrx_sec h hb hB hx
  have old : ∀ t, t < 4 → cut8 (cut8 s.now ((fi + a / 4) * 256) 256) (t * 64) 64 = sec s ((fi + a / 4) * 4 + t) := fun t ht => by
    rw [cut_cut (by omega)]
    unfold sec
    congr 1
    omega
  refine ⟨q1, q2, q3, q4, ?_⟩
  rcases q5 with ⟨e0, q6, q7, q8⟩ | ⟨e9, q6, q7, q8⟩
  · refine .inl ⟨e0, fun i x hi hx => ?_, fun i hi hc => ?_, fun j x hj => ?_⟩
    · rcases hx with hx | ⟨y, hy, hy2, hy3⟩
      · exact .inl (.inl (by rw [hx, q7]))
      · rw [q8, List.mem_append] at hy
        rcases hy with hy | hy
        · exact .inl (.inr ⟨y, hy, hy2, hy3⟩)
        · have : ∃ t, t < 4 ∧ y = ⟨((fi + a / 4 : Nat) : Int), ((t * 64 : Nat) : Int), cut8 B (t * 64) 64⟩ := by
            have : y = ⟨((fi + a / 4 : Nat) : Int), 0, cut8 B 0 64⟩ ∨ y = ⟨((fi + a / 4 : Nat) : Int), 64, cut8 B 64 64⟩ ∨ y = ⟨((fi + a / 4 : Nat) : Int), 128, cut8 B 128 64⟩ ∨ y = ⟨((fi + a / 4 : Nat) : Int), 192, cut8 B 192 64⟩ := by simpa only [pcs, List.mem_cons, List.not_mem_nil, or_false] using hy
            rcases this with rfl | rfl | rfl | rfl
            · exact ⟨0, by omega, rfl⟩
            · exact ⟨1, by omega, rfl⟩
            · exact ⟨2, by omega, rfl⟩
            · exact ⟨3, by omega, rfl⟩
          obtain ⟨t, ht, rfl⟩ := this
          have hi2 : i = (fi + a / 4) * 4 + t := by
            unfold psx at hy2
            simp only [Int.toNat_natCast] at hy2
            omega
          have hxt : cut8 B (t * 64) 64 = x := hy3
          by_cases c : t < a % 4 ∨ a % 4 + ps.length ≤ t
          · rw [(bs t ht).1 c, old t ht, ← hi2] at hxt
            exact .inl (by rw [← hxt]; exact now_poss h hi)
          · have hj : t - a % 4 < ps.length := by omega
            have := (bs t ht).2 (t - a % 4) _ (by omega) (List.getElem?_eq_getElem hj)
            exact .inr ⟨t - a % 4, by omega, by rw [List.getElem?_eq_getElem hj, ← hxt, this]⟩
    · unfold sec
      rw [q6]
      by_cases c : (fi + a / 4) * 4 ≤ i ∧ i < (fi + a / 4) * 4 + 4
      · rw [show i * 64 = (fi + a / 4) * 256 + (i - (fi + a / 4) * 4) * 64 by omega, cut_in (by omega) (by rw [hB, h.1.1.now]; omega), (bs (i - (fi + a / 4) * 4) (by omega)).1 (by omega), old _ (by omega)]
        unfold sec
        congr 1
        omega
      · exact cut_out (by rw [hB]; omega) (by rw [h.1.1.now]; omega) (by rw [hB, h.1.1.now]; omega)
    · have hj2 : j < ps.length := (List.getElem?_eq_some_iff.1 hj).1
      unfold sec
      rw [q6, show (fi * 4 + a + j) * 64 = (fi + a / 4) * 256 + (a % 4 + j) * 64 by omega, cut_in (by omega) (by rw [hB, h.1.1.now]; omega)]
      exact (bs (a % 4 + j) (by omega)).2 j x rfl hj
  · refine .inr ⟨e9, fun i x hx => ?_⟩
    unfold Poss at hx ⊢
    rw [q7, q8] at hx
    exact hx
/- All of lay. -/
theorem layx_sec {fi : Nat} : ∀ (f : Nat) (s : Dk) (a : Nat) (ps : List (List Int)), ps.length < f → (∀ x ∈ ps, x.length = 64) → Sx s → fi * 4 + a + ps.length ≤ s.nb * 4 → ∀ s' e, layx fi f s a ps = (s', e) →
    Sx s' ∧ s'.nb = s.nb ∧ s'.pend.length ≤ s.pend.length + 4 * ps.length ∧ (s.of = false → s.fu = false → e = 0 ∧ s'.of = false ∧ s'.fu = false) ∧ ((e = 0 ∧ (∀ i x, i < s.nb * 4 → Poss s' i x → Poss s i x ∨ ∃ j, i = fi * 4 + a + j ∧ ps[j]? = some x) ∧ (∀ i, i < s.nb * 4 → i < fi * 4 + a ∨ fi * 4 + a + ps.length ≤ i → sec s' i = sec s i) ∧ ∀ j x, ps[j]? = some x → sec s' (fi * 4 + a + j) = x) ∨ (e = 9 ∧ ∃ m, m < ps.length ∧ ∀ i x, i < s.nb * 4 → Poss s' i x → Poss s i x ∨ ∃ j, j < m ∧ i = fi * 4 + a + j ∧ ps[j]? = some x))
  | 0, s, a, ps, h1, _, _, _, s', e, _ => by omega
  | f + 1, s, a, ps, h1, h64, hS, hb, s', e, hx => by
    unfold layx at hx
    by_cases c0 : ps.length = 0
    · rw [if_pos c0] at hx
      injection hx with e1 e2
      subst e1 e2
      have : ps = [] := List.eq_nil_of_length_eq_zero c0
      subst this
      exact ⟨hS, rfl, by omega, fun h1 h2 => ⟨rfl, h1, h2⟩, .inl ⟨rfl, fun i x _ hx => .inl hx, fun _ _ _ => rfl, fun j x hj => by simp at hj⟩⟩
    rw [if_neg c0] at hx
    by_cases c1 : s.of = true
    · rw [if_pos c1] at hx
      injection hx with e1 e2
      subst e1 e2
      exact ⟨hS, rfl, by omega, fun h1 h2 => absurd (c1.symm.trans h1) (by simp), .inr ⟨rfl, 0, by omega, fun i x _ hx => .inl hx⟩⟩
    rw [if_neg c1] at hx
    have h64t : ∀ x ∈ ps.take (4 - a % 4), x.length = 64 := fun x hx => h64 x (List.mem_of_mem_take hx)
    have h64d : ∀ x ∈ ps.drop (4 - a % 4), x.length = 64 := fun x hx => h64 x (List.mem_of_mem_drop hx)
    have hlt : (ps.take (4 - a % 4)).length = min (4 - a % 4) ps.length := List.length_take
    obtain ⟨⟨s1, e1⟩, hw⟩ : ∃ q, wrx s ((fi + a / 4 : Nat) : Int) (sp8 (cut8 s.now ((fi + a / 4) * 256) 256) (a % 4 * 64) (ps.take (4 - a % 4)).flatten) = q := ⟨_, rfl⟩
    obtain ⟨q1, q2, q3, q4, q5⟩ := lay_one hS h64t (by omega) (by omega) hw
    rw [hw] at hx
    have tk : ∀ j x, (ps.take (4 - a % 4))[j]? = some x → j < min (4 - a % 4) ps.length ∧ ps[j]? = some x := fun j x hj => by
      have hj2 := (List.getElem?_eq_some_iff.1 hj).1
      rw [hlt] at hj2
      rw [List.getElem?_take_of_lt (by omega)] at hj
      exact ⟨hj2, hj⟩
    by_cases c2 : e1 ≠ 0
    · rw [if_pos c2] at hx
      injection hx with e2 e3
      subst e2 e3
      refine ⟨q1, q2, by omega, q4, .inr ?_⟩
      rcases q5 with ⟨e0, _⟩ | ⟨e9, q6⟩
      · exact absurd e0 c2
      · exact ⟨e9, 0, by omega, fun i x _ hx => .inl (q6 i x hx)⟩
    · rw [if_neg c2] at hx
      have e0 : e1 = 0 := by simpa using c2
      rcases q5 with ⟨_, q6, q7, q8⟩ | ⟨e9, _⟩
      case inr => rw [e0] at e9; cases e9
      dsimp only at hx
      have hld : (ps.drop (4 - a % 4)).length = ps.length - (4 - a % 4) := List.length_drop
      obtain ⟨r1, r2, r3, r4, r5⟩ := layx_sec f s1 (a + min (4 - a % 4) ps.length) (ps.drop (4 - a % 4)) (by omega) h64d q1 (by rw [q2]; omega) s' e hx
      have dr : ∀ j x, (ps.drop (4 - a % 4))[j]? = some x → min (4 - a % 4) ps.length = 4 - a % 4 ∧ ps[4 - a % 4 + j]? = some x := fun j x hj => by
        have hj2 := (List.getElem?_eq_some_iff.1 hj).1
        rw [List.getElem?_drop] at hj
        rw [hld] at hj2
        exact ⟨Nat.min_eq_left (by omega), hj⟩
      refine ⟨r1, r2.trans q2, by omega, fun h1 h2 => r4 (q4 h1 h2).2.1 (q4 h1 h2).2.2, ?_⟩
      rcases r5 with ⟨f0, r6, r7, r8⟩ | ⟨f9, m, hm, r6⟩
      · refine .inl ⟨f0, fun i x hi hx => ?_, fun i hi hc => ?_, fun j x hj => ?_⟩
        · rcases r6 i x (by rw [q2]; exact hi) hx with g | ⟨j, g1, g2⟩
          · rcases q6 i x hi g with g | ⟨j, g1, g2⟩
            · exact .inl g
            · exact .inr ⟨j, g1, (tk j x g2).2⟩
          · have := dr j x g2
            exact .inr ⟨4 - a % 4 + j, by omega, this.2⟩
        · rw [r7 i (by rw [q2]; exact hi) (by omega), q7 i hi (by omega)]
        · have hj2 := (List.getElem?_eq_some_iff.1 hj).1
          by_cases c : j < 4 - a % 4
          · have k1 : j < min (4 - a % 4) ps.length := Nat.lt_min.2 ⟨c, hj2⟩
            have k2 : fi * 4 + a + j < s1.nb * 4 := by rw [q2]; omega
            have k3 := q8 j x (by rw [List.getElem?_take_of_lt c]; exact hj)
            rw [← k3]
            exact r7 (fi * 4 + a + j) k2 (.inl (by rw [← Nat.add_assoc]; exact Nat.add_lt_add_left k1 _))
          · have := r8 (j - (4 - a % 4)) x (by rw [List.getElem?_drop, show 4 - a % 4 + (j - (4 - a % 4)) = j by omega]; exact hj)
            rw [← this]
            congr 1
            omega
      · refine .inr ⟨f9, 4 - a % 4 + m, by omega, fun i x hi hx => ?_⟩
        rcases r6 i x (by rw [q2]; exact hi) hx with g | ⟨j, g0, g1, g2⟩
        · rcases q6 i x hi g with g | ⟨j, g1, g2⟩
          · exact .inl g
          · have := tk j x g2
            exact .inr ⟨j, by omega, g1, this.2⟩
        · have := dr j x g2
          exact .inr ⟨4 - a % 4 + j, by omega, by omega, this.2⟩
/- WalFull: a log that is filled. -/
structure Fl (n j : Nat) (l : Wl) (s : Dk) : Prop where
  sx : Sx s
  nb : s.nb = n
  of : s.of = false
  fu : s.fu = false
  pd : s.pend.length ≤ 800 * j
  fi : l.fi = 0
  si : l.si = n
  en : l.en ≤ n * 4
  rs : l.rs.length ≤ j
  br : l.br = false
theorem Fl_room {n j : Nat} {l : Wl} {s : Dk} (h : Fl n j l s) (hn : n ≤ 8) : rmx l = (((n * 4 - l.en) * 39 : Nat) : Int) := by
  have h1 := h.en
  unfold rmx mn
  rw [h.br, if_neg (by simp), h.si]
  split <;> omega
theorem encs_len {b : List Int} (hb : CrcK.Bytes b) (h6 : b.length ≤ 6000) (ep li : Int) : ∀ x ∈ (CellLaws.cutn b ep li (CellLaws.many b.length : Int) (CellLaws.many b.length)).map encC, x.length = 64 := by
  intro x hx
  obtain ⟨c, hc, rfl⟩ := List.mem_map.1 hx
  exact encC_len (cut_may hb h6 ep li c hc)
theorem Fl_ok {n j : Nat} {l : Wl} {s : Dk} (h : Fl n j l s) (hn : n ≤ 8) {b : List Int} (hb : CrcK.Bytes b) (h0 : b.length ≠ 0) (hr : b.length ≤ (n * 4 - l.en) * 39) : ∃ l' s', apx l s b = (l', s', 0) ∧ Fl n (j + 1) l' s' ∧ l.en < l'.en := by
  have hm := Fl_room h hn
  have h6 : b.length ≤ 6000 := by omega
  have hr2 : ¬ rmx l < (b.length : Int) := by rw [hm]; omega
  have he := h.en
  obtain ⟨g1, g2⟩ := room_many hr2 h6 (by rw [h.si]; exact he)
  have hl : ((CellLaws.cutn b l.ep l.li (CellLaws.many b.length : Int) (CellLaws.many b.length)).map encC).length = CellLaws.many b.length := by rw [List.length_map, CellLaws.cutn_length]
  have hp : 0 < CellLaws.many b.length := by unfold CellLaws.many; omega
  rw [h.si] at g1
  have LE := encs_len hb h6 l.ep l.li
  obtain ⟨ps, hps⟩ : ∃ ps, ps = (CellLaws.cutn b l.ep l.li (CellLaws.many b.length : Int) (CellLaws.many b.length)).map encC := ⟨_, rfl⟩
  rw [← hps] at hl LE
  obtain ⟨⟨s', e⟩, hx⟩ : ∃ q, layx l.fi (CellLaws.many b.length + 1) s l.en ps = q := ⟨_, rfl⟩
  obtain ⟨q1, q2, q3, q4, _⟩ := layx_sec _ s l.en ps (by omega) LE h.sx (by rw [h.fi, h.nb, hl]; omega) s' e hx
  obtain ⟨e0, o1, o2⟩ := q4 h.of h.fu
  refine ⟨{l with en := l.en + CellLaws.many b.length, rs := l.rs ++ [b]}, s', ?_, ⟨q1, q2.trans h.nb, o1, o2, ?_, h.fi, h.si, g1, ?_, h.br⟩, ?_⟩
  · unfold apx
    rw [if_neg h0, if_neg (by omega), h.br, if_neg (by simp), if_neg hr2, ← hps, hx, e0, if_neg (by simp)]
  · have := h.pd
    rw [hl] at q3
    omega
  · show (l.rs ++ [b]).length ≤ j + 1
    rw [List.length_append]
    have := h.rs
    simp
    omega
  · show l.en < l.en + CellLaws.many b.length
    omega
theorem Fl_no {n j : Nat} {l : Wl} {s : Dk} (h : Fl n j l s) (hn : n ≤ 8) {b : List Int} (h0 : b.length ≠ 0) (hr : ¬ b.length ≤ (n * 4 - l.en) * 39) : apx l s b = (l, s, if 6000 < b.length then 4 else 3) := by
  have hm := Fl_room h hn
  unfold apx
  rw [if_neg h0]
  by_cases c : 6000 < b.length
  · rw [if_pos c, if_pos c]
  · rw [if_neg c, if_neg c, h.br, if_neg (by simp), if_pos (by rw [hm]; omega)]
theorem Fl_mono {n j k : Nat} {l : Wl} {s : Dk} (h : Fl n j l s) (hk : j ≤ k) : Fl n k l s :=
  ⟨h.sx, h.nb, h.of, h.fu, by have := h.pd; omega, h.fi, h.si, h.en, by have := h.rs; omega, h.br⟩
theorem new_Sx {n : Nat} (h0 : 1 ≤ n) (h1 : n ≤ 4096) : Sx (new8 n) := ⟨new_Nw n (by omega) h1, fun y hy => by unfold new8 at hy; cases hy⟩
theorem new_Fl {n : Nat} (h0 : 1 ≤ n) (h1 : n ≤ 8) : Fl n 0 ⟨0, n, 1, 1, 0, [], false, fun _ => False⟩ (new8 n) :=
  ⟨new_Sx h0 (by omega), rfl, rfl, rfl, Nat.zero_le _, rfl, rfl, Nat.zero_le _, Nat.zero_le _, rfl⟩
theorem pick17 (a0 m : Int) (h0 : 0 < m) (h1 : m ≤ 100) : ∃ r : Nat, marginalialaw17_pick.f a0 m = some (r : Int) ∧ (r : Int) < m := by
  unfold marginalialaw17_pick.f
  rw [if_neg (by omega)]
  have h1 : -m < Int.tmod a0 m ∧ Int.tmod a0 m < m := by
    have := Int.tmod_lt_of_pos a0 h0
    have h2 := Int.neg_tmod a0 m
    have := Int.tmod_lt_of_pos (-a0) h0
    omega
  have e : wrap64 (Int.tmod a0 m + m) = Int.tmod a0 m + m := IntWalk.wrap64_in _ (by omega)
  rw [e]
  have h3 : 0 ≤ Int.tmod (Int.tmod a0 m + m) m := Int.tmod_nonneg _ (by omega)
  exact ⟨(Int.tmod (Int.tmod a0 m + m) m).toNat, by rw [Int.toNat_of_nonneg h3], by rw [Int.toNat_of_nonneg h3]; exact Int.tmod_lt_of_pos _ h0⟩
theorem small17 {x : S79} (c : x.f2.length ≤ 600 ∧ x.f3.length ≤ 400) : marginalialaw17_Act_small.f x.f0 x.f1 x.f2 x.f3 = some true := by
  unfold marginalialaw17_Act_small.f
  rw [if_pos (by omega)]
  have : (x.f3.length : Int) ≤ 400 := by omega
  simp [this]
theorem small17n {x : S79} (c : ¬ (x.f2.length ≤ 600 ∧ x.f3.length ≤ 400)) : marginalialaw17_Act_small.f x.f0 x.f1 x.f2 x.f3 = some false := by
  unfold marginalialaw17_Act_small.f
  split
  · have : ¬ (x.f3.length : Int) ≤ 400 := by omega
    simp [this]
  · rfl
/- An act of a script, wherever the world has come to. -/
theorem act79 {w0 : World} {A : Option Addr} {l : List S79} (h : Kd.C k79 w0 A l.length l) (j : Nat) (hj : j < l.length) : ∃ (ad : Addr) (A2 : Option Addr) (c2 : Nat) (A3 : Option Addr) (c3 : Nat) (x : S79), A = some ad ∧ x = l[j] ∧ (∀ w, Below w0.heap.size w0 w → w.cell? (ad.add (j * 4)) = some (.int .i64 x.f0) ∧ w.cell? ⟨(ad.add (j * 4)).block, (ad.add (j * 4)).off + 1, none⟩ = some (.int .i64 x.f1) ∧ w.cell? ⟨(ad.add (j * 4)).block, (ad.add (j * 4)).off + 2, none⟩ = some (.slice A2 x.f2.length c2) ∧ w.cell? ⟨(ad.add (j * 4)).block, (ad.add (j * 4)).off + 3, none⟩ = some (.slice A3 x.f3.length c3)) ∧ x.f2.length ≤ c2 ∧ Kd.C (Kd.int .u8) w0 A2 x.f2.length x.f2 ∧ x.f3.length ≤ c3 ∧ Kd.C Kd.bool w0 A3 x.f3.length x.f3 := by
  obtain ⟨ad, A2, c2, A3, c3, ea, y0, y1, y2, y3, l2, C2, l3, C3⟩ := at_T79 h (j : Int) (by omega) (by omega)
  have e : rd_T79 l (j : Int) = l[j] := by
    unfold rd_T79
    rw [Int.toNat_natCast, List.getD_eq_getElem?_getD, List.getElem?_eq_getElem hj]; rfl
  simp only [Int.toNat_natCast] at y0 y1 y2 y3
  rw [e] at y0 y1 y2 y3 l2 C2 l3 C3
  exact ⟨ad, A2, c2, A3, c3, _, ea, rfl, fun w hb => ⟨pw_cell_below hb y0, pw_cell_below hb y1, pw_cell_below hb y2, pw_cell_below hb y3⟩, l2, C2, l3, C3⟩
/- What may be read behind a crash. -/
def mny (b : List Int) : Nat := CellLaws.many b.length
def cutr (b : List Int) (ep li : Int) : List S106 := CellLaws.cutn b ep li (CellLaws.many b.length : Int) (CellLaws.many b.length)
theorem cutr_len (b : List Int) (ep li : Int) : (cutr b ep li).length = mny b := CellLaws.cutn_length ..
theorem mny_pos {b : List Int} (h : b ≠ []) : 0 < mny b := by
  have := List.length_pos_iff.2 h
  unfold mny CellLaws.many
  omega
theorem cutr_at {b : List Int} {ep li : Int} {j : Nat} {c : S106} (h : (cutr b ep li)[j]? = some c) : j < mny b ∧ c.f0 = ep ∧ c.f1 = li ∧ c.f3 = (mny b : Int) := by
  have hj : j < mny b := by rw [← cutr_len b ep li]; exact (List.getElem?_eq_some_iff.1 h).1
  unfold cutr CellLaws.cutn at h
  rw [List.getElem?_map, List.getElem?_range (show j < CellLaws.many b.length from hj)] at h
  have e := Option.some.inj h
  subst e
  exact ⟨hj, rfl, rfl, rfl⟩
theorem cutr_lt {b : List Int} {ep li : Int} {j : Nat} (h : j < mny b) : ∃ c, (cutr b ep li)[j]? = some c :=
  ⟨_, List.getElem?_eq_getElem (by rw [cutr_len]; exact h)⟩
theorem cutr_inj {b b' : List Int} {ep li li' : Int} (h0 : b ≠ []) (h : cutr b ep li = cutr b' ep li') : b = b' ∧ li = li' := by
  have e1 : CellLaws.cat (cutr b ep li) = b := CellLaws.cat_cutn_all b ep li _
  have e2 : CellLaws.cat (cutr b' ep li') = b' := CellLaws.cat_cutn_all b' ep li' _
  obtain ⟨c, hc⟩ := cutr_lt (ep := ep) (li := li) (mny_pos h0)
  have hc' := hc
  rw [h] at hc'
  exact ⟨by rw [← e1, h, e2], (cutr_at hc).2.2.1.symm.trans (cutr_at hc').2.2.1⟩
def PC (s : Dk) (i : Nat) (c : S106) : Prop := i < 32 ∧ ∃ x, Poss s (8 + i) x ∧ decZ x = c
def At (s : Dk) (ep : Int) (a : Nat) (b : List Int) (li : Int) : Prop := b ≠ [] ∧ ∀ j c, (cutr b ep li)[j]? = some c → PC s (a + j) c
def tot (E : List (List Int × Int)) : Nat := (E.map fun e => mny e.1).sum
def Rd (s : Dk) (ep : Int) : List (List Int × Int) → Nat → Int → Prop
  | [], a, least => ∀ b li, least ≤ li → ¬ At s ep a b li
  | (b0, l0) :: E, a, least => (∀ b li, least ≤ li → At s ep a b li → b = b0 ∧ li = l0) ∧ least ≤ l0 ∧ Rd s ep E (a + mny b0) l0
def Lay (s : Dk) (ep : Int) : List (List Int × Int) → Nat → Prop
  | [], _ => True
  | (b0, l0) :: E, a => (∀ j c, (cutr b0 ep l0)[j]? = some c → decZ (sec s (8 + (a + j))) = c) ∧ Lay s ep E (a + mny b0)
def Su (s : Dk) (ep : Int) : List (List Int × Int) → Nat → Nat → Prop
  | [], _, _ => True
  | _ :: _, 0, _ => True
  | (b0, l0) :: E, n + 1, a => (∀ j c, (cutr b0 ep l0)[j]? = some c → ∀ c', PC s (a + j) c' → c' = c) ∧ Su s ep E n (a + mny b0)
theorem tot_cons (b : List Int) (l : Int) (E : List (List Int × Int)) : tot ((b, l) :: E) = mny b + tot E := by simp [tot]
theorem tot_app (E F : List (List Int × Int)) : tot (E ++ F) = tot E + tot F := by simp [tot]
theorem tot_take (E : List (List Int × Int)) (k : Nat) : tot (E.take k) ≤ tot E := by
  have := tot_app (E.take k) (E.drop k)
  rw [List.take_append_drop] at this
  omega
theorem Rd_mono {s s' : Dk} {ep : Int} (h : ∀ i c, PC s' i c → PC s i c) : ∀ (E : List (List Int × Int)) (a : Nat) (least : Int), Rd s ep E a least → Rd s' ep E a least
  | [], a, least, k => fun b li hl hA => k b li hl ⟨hA.1, fun j c hc => h _ _ (hA.2 j c hc)⟩
  | (b0, l0) :: E, a, least, k => ⟨fun b li hl hA => k.1 b li hl ⟨hA.1, fun j c hc => h _ _ (hA.2 j c hc)⟩, k.2.1, Rd_mono h E _ _ k.2.2⟩
theorem Su_mono {s s' : Dk} {ep : Int} : ∀ (E : List (List Int × Int)) (n a : Nat), (∀ i c, i < a + tot (E.take n) → PC s' i c → PC s i c) → Su s ep E n a → Su s' ep E n a
  | [], _, _, _, _ => trivial
  | _ :: _, 0, _, _, _ => trivial
  | (b0, l0) :: E, n + 1, a, h, k => by
    rw [List.take_succ_cons, tot_cons] at h
    refine ⟨fun j c hc c' hc' => k.1 j c hc c' (h _ _ (by have := (cutr_at hc).1; omega) hc'), Su_mono E n _ (fun i c hi hc => h i c (by omega) hc) k.2⟩
theorem Su_app {s : Dk} {ep : Int} (F : List (List Int × Int)) : ∀ (E : List (List Int × Int)) (n a : Nat), n ≤ E.length → Su s ep E n a → Su s ep (E ++ F) n a
  | [], n, _, h, _ => by
    obtain rfl : n = 0 := by simpa using h
    cases F <;> trivial
  | _ :: _, 0, _, _, _ => trivial
  | (b0, l0) :: E, n + 1, a, h, k => ⟨k.1, Su_app F E n _ (by simpa using h) k.2⟩
theorem Lay_app {s : Dk} {ep : Int} {b : List Int} {l : Int} : ∀ (E : List (List Int × Int)) (a : Nat), Lay s ep E a → (∀ j c, (cutr b ep l)[j]? = some c → decZ (sec s (8 + (a + tot E + j))) = c) → Lay s ep (E ++ [(b, l)]) a
  | [], a, _, h => ⟨h, trivial⟩
  | (b0, l0) :: E, a, k, h => ⟨k.1, Lay_app E _ k.2 (fun j c hc => by rw [tot_cons] at h; rw [Nat.add_assoc a]; exact h j c hc)⟩
theorem Lay_same {s s' : Dk} {ep : Int} : ∀ (E : List (List Int × Int)) (a : Nat), (∀ i, i < a + tot E → sec s' (8 + i) = sec s (8 + i)) → Lay s ep E a → Lay s' ep E a
  | [], _, _, _ => trivial
  | (b0, l0) :: E, a, h, k => by
    rw [tot_cons] at h
    exact ⟨fun j c hc => by rw [h _ (by have := (cutr_at hc).1; omega)]; exact k.1 j c hc, Lay_same E _ (fun i hi => h i (by omega)) k.2⟩
/- Cells of this epoch and this life come behind the end. -/
theorem Rd_grow {s s' : Dk} {ep L : Int} {en : Nat} {tail : List (List Int × Int)}
    (hnew : ∀ i c, PC s' i c → PC s i c ∨ (en ≤ i ∧ c.f1 = L))
    (h3 : ∀ i c, i < en → PC s i c → c.f0 = ep → c.f1 = L → c = decZ (sec s (8 + i)))
    (hbase : ∀ least, least ≤ L → Rd s ep [] en least → Rd s' ep tail en least) :
    ∀ (E : List (List Int × Int)) (a : Nat) (least : Int), least ≤ L → a + tot E = en → Lay s ep E a → (∀ e ∈ E, e.1 ≠ [] ∧ e.2 ≤ L) → Rd s ep E a least → Rd s' ep (E ++ tail) a least
  | [], a, least, hl, ha, _, _, k => by
    obtain rfl : a = en := by simpa [tot] using ha
    exact hbase least hl k
  | (b0, l0) :: E, a, least, hl, ha, hL, hE, k => by
    rw [tot_cons] at ha
    obtain ⟨q1, q2⟩ := hE _ List.mem_cons_self
    have p0 : 0 < mny b0 := mny_pos q1
    refine ⟨fun b li hli hA => ?_, k.2.1, Rd_grow hnew h3 hbase E _ l0 q2 (by omega) hL.2 (fun e he => hE e (List.mem_cons_of_mem _ he)) k.2.2⟩
    have old : (∀ j c, (cutr b ep li)[j]? = some c → PC s (a + j) c) → b = b0 ∧ li = l0 := fun h => k.1 b li hli ⟨hA.1, h⟩
    obtain ⟨c0, hc0⟩ := cutr_lt (ep := ep) (li := li) (mny_pos hA.1)
    obtain ⟨_, f0, f1, f3⟩ := cutr_at hc0
    have P0 : PC s a c0 := by
      rcases hnew _ _ (hA.2 0 c0 hc0) with h | ⟨h, _⟩
      · exact h
      · omega
    by_cases hli2 : li = L
    · have e0 := h3 a c0 (by omega) P0 f0 (f1.trans hli2)
      obtain ⟨c1, hc1⟩ := cutr_lt (ep := ep) (li := l0) p0
      have e1 := hL.1 0 c1 hc1
      have e2 : (mny b : Int) = (mny b0 : Int) := by rw [← f3, ← (cutr_at hc1).2.2.2, ← e1, e0]; rfl
      refine old (fun j c hc => ?_)
      rcases hnew _ _ (hA.2 j c hc) with h | ⟨h, _⟩
      · exact h
      · have := (cutr_at hc).1
        omega
    · refine old (fun j c hc => ?_)
      rcases hnew _ _ (hA.2 j c hc) with h | ⟨_, h⟩
      · exact h
      · exact absurd ((cutr_at hc).2.2.1.symm.trans h) hli2
/- The cells of a record that is appended, and those of one that is not. -/
theorem grow_all {s s' : Dk} {ep L : Int} {en : Nat} {b : List Int} (hb : b ≠ [])
    (hnew : ∀ i c, PC s' i c → PC s i c ∨ ∃ j, i = en + j ∧ (cutr b ep L)[j]? = some c)
    (h0 : ∀ i c, PC s i c → c.f1 ≤ L) (h4 : ∀ i c, en ≤ i → PC s i c → c.f0 = ep → c.f1 = L → False) :
    ∀ least, least ≤ L → Rd s ep [] en least → Rd s' ep [(b, L)] en least := by
  intro least hl k
  refine ⟨fun b' li hli hA => ?_, hl, fun b' li hli hA => ?_⟩
  · obtain ⟨c0, hc0⟩ := cutr_lt (ep := ep) (li := li) (mny_pos hA.1)
    obtain ⟨_, f0, f1, f3⟩ := cutr_at hc0
    by_cases hli2 : li = L
    · have all : ∀ j c, (cutr b' ep li)[j]? = some c → (cutr b ep L)[j]? = some c := fun j c hc => by
        rcases hnew _ _ (hA.2 j c hc) with h | ⟨j', e, h⟩
        · have := cutr_at hc
          exact (h4 _ _ (by omega) h this.2.1 (this.2.2.1.trans hli2)).elim
        · obtain rfl : j' = j := by omega
          exact h
      have e3 : mny b' = mny b := by
        have := (cutr_at (all 0 c0 hc0)).2.2.2
        omega
      have : cutr b' ep li = cutr b ep L := by
        apply List.ext_getElem?
        intro j
        by_cases hj : j < mny b'
        · obtain ⟨c, hc⟩ := cutr_lt (ep := ep) (li := li) hj
          rw [hc, all j c hc]
        · rw [List.getElem?_eq_none (by rw [cutr_len]; omega), List.getElem?_eq_none (by rw [cutr_len]; omega)]
      exact cutr_inj hA.1 this
    · refine (k b' li hli ⟨hA.1, fun j c hc => ?_⟩).elim
      rcases hnew _ _ (hA.2 j c hc) with h | ⟨_, _, h⟩
      · exact h
      · exact absurd ((cutr_at hc).2.2.1.symm.trans (cutr_at h).2.2.1) hli2
  · obtain ⟨c0, hc0⟩ := cutr_lt (ep := ep) (li := li) (mny_pos hA.1)
    obtain ⟨_, f0, f1, f3⟩ := cutr_at hc0
    rcases hnew _ _ (hA.2 0 c0 hc0) with h | ⟨j', e, h⟩
    · have := h0 _ _ h
      exact h4 _ _ (by omega) h f0 (by omega)
    · have := (cutr_at h).1
      omega
theorem grow_part {s s' : Dk} {ep L : Int} {en m : Nat} {b : List Int} (hm : m < mny b)
    (hnew : ∀ i c, PC s' i c → PC s i c ∨ ∃ j, j < m ∧ i = en + j ∧ (cutr b ep L)[j]? = some c)
    (h4 : ∀ i c, en ≤ i → PC s i c → c.f0 = ep → c.f1 = L → False) :
    ∀ least, least ≤ L → Rd s ep [] en least → Rd s' ep [] en least := by
  intro least hl k b' li hli hA
  obtain ⟨c0, hc0⟩ := cutr_lt (ep := ep) (li := li) (mny_pos hA.1)
  obtain ⟨_, f0, f1, f3⟩ := cutr_at hc0
  by_cases hli2 : li = L
  · have all : ∀ j c, (cutr b' ep li)[j]? = some c → j < m ∧ (cutr b ep L)[j]? = some c := fun j c hc => by
      rcases hnew _ _ (hA.2 j c hc) with h | ⟨j', hj', e, h⟩
      · have := cutr_at hc
        exact (h4 _ _ (by omega) h this.2.1 (this.2.2.1.trans hli2)).elim
      · obtain rfl : j' = j := by omega
        exact ⟨hj', h⟩
    have e3 : mny b' = mny b := by
      have := (cutr_at (all 0 c0 hc0).2).2.2.2
      omega
    obtain ⟨c, hc⟩ := cutr_lt (b := b') (ep := ep) (li := li) (j := m) (by omega)
    exact Nat.lt_irrefl _ (all m c hc).1
  · refine k b' li hli ⟨hA.1, fun j c hc => ?_⟩
    rcases hnew _ _ (hA.2 j c hc) with h | ⟨_, _, _, h⟩
    · exact h
    · exact absurd ((cutr_at hc).2.2.1.symm.trans (cutr_at h).2.2.1) hli2
/- What is read where each sector has one content. -/
noncomputable def dcs (s : Dk) : List S106 := (secL s.now 8 32).map decZ
theorem dcs_len (s : Dk) : (dcs s).length = 32 := by unfold dcs; rw [List.length_map, secL_len]
theorem dcs_at (s : Dk) {i : Nat} (h : i < 32) : (dcs s)[i]? = some (decZ (sec s (8 + i))) := by
  unfold dcs secL sec
  rw [List.getElem?_map, List.getElem?_map, List.getElem?_range h]
  rfl
def One (s : Dk) : Prop := ∀ i c, PC s i c ↔ i < 32 ∧ c = decZ (sec s (8 + i))
theorem At_one {s : Dk} (h : One s) {ep : Int} {a : Nat} {b : List Int} {li : Int} (hb : b ≠ []) : At s ep a b li ↔ ((dcs s).drop a).take (mny b) = cutr b ep li := by
  constructor
  · intro hA
    apply List.ext_getElem?
    intro j
    by_cases hj : j < mny b
    · obtain ⟨c, hc⟩ := cutr_lt (ep := ep) (li := li) hj
      have h1 := (h _ _).1 (hA.2 j c hc)
      rw [List.getElem?_take_of_lt hj, List.getElem?_drop, dcs_at s h1.1, hc, h1.2]
    · rw [List.getElem?_eq_none (by rw [List.length_take]; omega), List.getElem?_eq_none (by rw [cutr_len]; omega)]
  · intro e
    refine ⟨hb, fun j c hc => ?_⟩
    have hj := (cutr_at hc).1
    rw [← e, List.getElem?_take_of_lt hj, List.getElem?_drop] at hc
    have h1 : a + j < 32 := by rw [← dcs_len s]; exact (List.getElem?_eq_some_iff.1 hc).1
    rw [dcs_at s h1] at hc
    exact (h _ _).2 ⟨h1, (Option.some.inj hc).symm⟩
theorem rec1_some {cs : List S106} {ep : Int} {b : List Int} {li : Int} {n : Nat} (h : rec1 cs ep = some (b, li, n)) (h3 : 0 ≤ (rd_T106 cs 0).f3) : n = mny b ∧ b ≠ [] ∧ cs.take (mny b) = cutr b ep li := by
  unfold rec1 at h
  split at h
  · cases h
  rename_i n0
  split at h
  · cases h
  rename_i n1
  split at h
  · cases h
  rename_i n2
  split at h
  · cases h
  rename_i n3
  split at h
  · rename_i hR
    injection h with h
    injection h with e1 h
    injection h with e2 e3
    have hn : 0 < n := by omega
    have hl : (cs.take n).length = n := by rw [List.length_take]; omega
    rw [e3] at hR e1
    have hi := (CellLaws.cutn_iff (l := cs.take n) (by omega)).2 hR
    have h0 : (cs.take n)[0]'(by omega) = rd_T106 cs 0 := by
      rw [List.getElem_take]
      exact (rd106_at (j := 0) (by omega)).symm
    rw [h0, e1, e2] at hi
    have e4 : (rd_T106 cs 0).f0 = ep := by simpa using n3
    rw [e4] at hi
    have e5 : n = mny b := by
      have := congrArg List.length hi
      rw [CellLaws.cutn_length, hl] at this
      exact this.symm
    refine ⟨e5, fun e => ?_, by rw [← e5]; exact hi.symm⟩
    subst e
    unfold mny CellLaws.many at e5
    simp at e5
    omega
  · cases h
theorem rec1_of {cs : List S106} {ep : Int} {b : List Int} {li : Int} (hb : b ≠ []) (h : cs.take (mny b) = cutr b ep li) : rec1 cs ep = some (b, li, mny b) := by
  have hp := mny_pos hb
  have hl : (cs.take (mny b)).length = mny b := by rw [h, cutr_len]
  rw [List.length_take] at hl
  obtain ⟨c, hc⟩ := cutr_lt (ep := ep) (li := li) hp
  obtain ⟨_, f0, f1, f3⟩ := cutr_at hc
  have h0 : rd_T106 cs 0 = c := by
    rw [← h, List.getElem?_take_of_lt hp] at hc
    have := rd106_at (cs := cs) (j := 0) (by omega)
    rw [List.getElem?_eq_getElem (by omega)] at hc
    exact this.trans (Option.some.inj hc)
  unfold rec1
  rw [h0, f3, Int.toNat_natCast, h, if_neg (by omega), if_neg (by omega), if_neg (by omega), if_neg (by simp [f0]), if_pos (show CellLaws.Row (cutr b ep li) from CellLaws.cutn_row b ep li)]
  rw [show CellLaws.cat (cutr b ep li) = b from CellLaws.cat_cutn_all b ep li _, f1]
theorem prs_Rd {s' : Dk} (hO : One s') (hC : ∀ c ∈ dcs s', CellOk c) {ep : Int} {s : Dk} (hPC : ∀ i c, PC s' i c → PC s i c) : ∀ (E : List (List Int × Int)) (f a n : Nat) (least : Int), 32 - a < f → (∀ e ∈ E, e.1 ≠ []) → Rd s ep E a least → Su s ep E n a → n ≤ E.length → a + tot E ≤ 32 →
    ∃ k, n ≤ k ∧ k ≤ E.length ∧ prs ep f ((dcs s').drop a) least = ((E.take k).map Prod.fst, tot (E.take k)) ∧ Rd s' ep (E.take k) a least ∧ Lay s' ep (E.take k) a
  | E, 0, a, n, least, hf, _, _, _, _, _ => by omega
  | E, f + 1, a, n, least, hf, hE, hR, hS, hn, ht => by
    have h3 : 0 ≤ (rd_T106 ((dcs s').drop a) 0).f3 := by
      by_cases c : 0 < ((dcs s').drop a).length
      · have := rd106_at c
        rw [show ((0 : Nat) : Int) = 0 from rfl] at this
        rw [this]
        exact (hC _ (List.mem_of_mem_drop (List.getElem_mem c))).f3
      · have : (dcs s').drop a = [] := List.eq_nil_of_length_eq_zero (by omega)
        rw [this]
        decide
    have uniq : ∀ b li, At s' ep a b li → rec1 ((dcs s').drop a) ep = some (b, li, mny b) := fun b li hA => rec1_of hA.1 ((At_one hO hA.1).1 hA)
    have stop : prs ep (f + 1) ((dcs s').drop a) least = ([], 0) → (∀ b li, least ≤ li → ¬ At s' ep a b li) → ∃ k, n ≤ k ∧ k ≤ E.length ∧ prs ep (f + 1) ((dcs s').drop a) least = ((E.take k).map Prod.fst, tot (E.take k)) ∧ Rd s' ep (E.take k) a least ∧ Lay s' ep (E.take k) a := fun hp hA => by
      have hn0 : n = 0 := by
        cases n with
        | zero => rfl
        | succ n =>
          cases E with
          | nil => simp at hn
          | cons e E =>
            obtain ⟨b0, l0⟩ := e
            refine (hA b0 l0 hR.2.1 ⟨hE _ List.mem_cons_self, fun j c hc => ?_⟩).elim
            have hlt := (cutr_at hc).1
            rw [tot_cons] at ht
            have hd : PC s' (a + j) (decZ (sec s' (8 + (a + j)))) := (hO _ _).2 ⟨by omega, rfl⟩
            have := hS.1 j c hc _ (hPC _ _ hd)
            rw [← this]
            exact hd
      exact ⟨0, by omega, Nat.zero_le _, hp, hA, trivial⟩
    cases hr : rec1 ((dcs s').drop a) ep with
    | none =>
      refine stop (by unfold prs; rw [hr]) (fun b li _ hA => ?_)
      rw [uniq b li hA] at hr
      cases hr
    | some t =>
      obtain ⟨b, li, m⟩ := t
      obtain ⟨e1, e2, e3⟩ := rec1_some hr h3
      have hA := (At_one hO e2).2 e3
      by_cases c : li < least
      · refine stop (by unfold prs; rw [hr]; exact if_pos c) (fun b' li' hl hA' => ?_)
        rw [uniq b' li' hA'] at hr
        injection hr with hr
        injection hr with _ hr
        injection hr with hr _
        omega
      · have hA2 : At s ep a b li := ⟨hA.1, fun j c hc => hPC _ _ (hA.2 j c hc)⟩
        cases E with
        | nil => exact (hR b li (by omega) hA2).elim
        | cons e E =>
          obtain ⟨b0, l0⟩ := e
          obtain ⟨rfl, rfl⟩ := hR.1 b li (by omega) hA2
          rw [tot_cons] at ht
          have p0 := mny_pos e2
          have S2 : Su s ep E (n - 1) (a + mny b) := by
            cases n with
            | zero => cases E <;> trivial
            | succ n => exact hS.2
          obtain ⟨k, k1, k2, k3, k4, k5⟩ := prs_Rd hO hC hPC E f (a + mny b) (n - 1) li (by omega) (fun e he => hE e (List.mem_cons_of_mem _ he)) hR.2.2 S2 (by simp at hn; omega) (by omega)
          refine ⟨k + 1, by omega, by simp; omega, ?_, ⟨fun b' li' hl hA' => ?_, hR.2.1, k4⟩, ⟨fun j c hc => ((hO _ _).1 (hA.2 j c hc)).2.symm, k5⟩⟩
          · unfold prs
            rw [hr]
            dsimp only
            rw [if_neg c, e1, List.drop_drop, k3, List.take_succ_cons, List.map_cons, tot_cons]
          · rw [uniq b' li' hA'] at hr
            injection hr with hr
            injection hr with hr1 hr
            injection hr with hr2 _
            exact ⟨hr1, hr2⟩
end Go.Proofs.Ytepipgneefcoiaa.D
