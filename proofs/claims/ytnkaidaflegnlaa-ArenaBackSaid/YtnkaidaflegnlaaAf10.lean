/- The functions of the program that these laws reach, each as a plain Lean function, and the proof that the machine's call comes to it; no condition beyond those that each theorem names. Made by wip/xprint.py. -/
import Derived.Test.YtnkaidaflegnlaaAx0
import Derived.Test.YtnkaidaflegnlaaAf13
import Derived.Test.YtnkaidaflegnlaaAf27
import Derived.Test.YtnkaidaflegnlaaAf34
import Derived.Test.YtnkaidaflegnlaaAh
namespace Go.Proofs.Ytnkaidaflegnlaa.A
open Go.RowKit Go.Proofs.YtnkaidaflegnlaaW.PrintWords Go.Proofs.YtnkaidaflegnlaaW.PrintLast Go.Proofs.YtnkaidaflegnlaaW.PrintMore
attribute [local go_sem] max2_int min2_int max_two min_two max_three min_three max_four min_four   -- for this text's walks alone
set_option linter.unusedVariables false
set_option linter.unusedSimpArgs false

/-! ### marginalialaw05_ArenaBack: function 10: by hand -/
/- Only what may have kids has some. -/
def HoS (S : List S96) : Prop := ∀ i, kiS S i ≠ [] → hoB (faS S i).f0 = true
theorem ki_none {S : List S96} {i : Nat} (h : S.length ≤ i) : kiS S i = [] := by unfold kiS; rw [List.getElem?_eq_none h]
theorem HoS_setPa {S : List S96} (h : HoS S) (i : Nat) (x : Int) : HoS (setPa S i x) := by
  intro k hk
  rw [ki_setPa] at hk
  rw [fa_setPa]
  exact h k hk
theorem HoS_setKi {S : List S96} (h : HoS S) (i : Nat) (l : List Int) (hl : l ≠ [] → hoB (faS S i).f0 = true) : HoS (setKi S i l) := by
  intro k hk
  rw [fa_setKi]
  by_cases c : i < S.length
  · rw [ki_setKi c] at hk
    unfold upd at hk
    by_cases e : k = i
    · rw [if_pos e] at hk
      rw [e]; exact hl hk
    · rw [if_neg e] at hk
      exact h k hk
  · have : setKi S i l = S := by unfold setKi; rw [List.getElem?_eq_none (by omega)]
    rw [this] at hk
    exact h k hk
theorem HoS_out {S : List S96} (h : HoS S) (i : Nat) : HoS (outS S i) := by
  unfold outS
  split
  · exact h
  · refine HoS_setPa (HoS_setKi h _ _ (fun e => h _ (fun e2 => e (by rw [e2]; rfl)))) _ _
theorem HoS_put {S : List S96} (h : HoS S) (j a i : Nat) (hj : hoB (faS S j).f0 = true) : HoS (putS S j a i) :=
  HoS_setPa (HoS_setKi h _ _ (fun _ => hj)) _ _
theorem HoS_mvL (q : Nat) : ∀ (l : List Int) (T : List S96), HoS T → hoB (faS T q).f0 = true → HoS (mvL T q l)
  | [], T, h, _ => h
  | x :: l, T, h, hq => by
    unfold mvL
    exact HoS_mvL q l _ (HoS_put h _ _ _ hq) (by rw [fa_putS]; exact hq)
theorem HoS_root : HoS [root96] := by
  intro i hi
  cases i with
  | zero => exact absurd rfl hi
  | succ i => exact absurd (ki_none (by simp)) hi
theorem HoS_mk {S : List S96} (h : HoS S) (x : S94) : HoS (mkS S x).1 := by
  unfold mkS
  split
  · exact h
  · intro i hi
    by_cases c : i < S.length
    · have hi : kiS (S ++ [(⟨x, -1, []⟩ : S96)]) i ≠ [] := hi
      rw [ki_app S _ i c] at hi
      show hoB (faS (S ++ [(⟨x, -1, []⟩ : S96)]) i).f0 = true
      rw [fa_app S _ i c]
      exact h i hi
    · have hi : kiS (S ++ [(⟨x, -1, []⟩ : S96)]) i ≠ [] := hi
      by_cases e : i = S.length
      · subst e; exact absurd (ki_new S x) hi
      · exact absurd (ki_none (by simp; omega)) hi
theorem HoS_ad {S : List S96} (h : HoS S) (n : Int) (s : ByteArray) : HoS (adS S n s).1 := by
  unfold adS
  split
  · rename_i c
    split
    · obtain ⟨k, rfl, hk⟩ := inZ_nat c
      rw [Int.toNat_natCast]
      intro i hi
      rw [ki_setFa] at hi
      rw [fa_setFa hk]
      have := h i hi
      unfold upd
      by_cases e : i = k
      · rw [if_pos e]; subst e; exact this
      · rw [if_neg e]; exact this
    · exact h
  · exact h
theorem HoS_ap {S : List S96} (h : HoS S) (q c : Int) : HoS (apS S q c).1 := by
  unfold apS
  split
  · split
    · exact h
    · rename_i h2
      simp only [Bool.or_eq_true, not_or, Bool.not_eq_true, Bool.not_eq_false', Bool.not_eq_eq_eq_not] at h2
      exact HoS_put (HoS_out h _) _ _ _ (by rw [fa_outS]; simpa using h2.1)
  · exact h
theorem HoS_be {S : List S96} (hF : FoS S) (h : HoS S) (q c : Int) : HoS (beS S q c).1 := by
  unfold beS
  split
  · rename_i h1
    rw [Bool.and_eq_true] at h1
    obtain ⟨q, rfl, hq⟩ := inZ_nat h1.1
    rw [Int.toNat_natCast]
    split
    · exact h
    · rename_i h2
      simp only [Bool.or_eq_true, not_or, Bool.not_eq_true, decide_eq_false_iff_not] at h2
      rcases FoS_pa hF hq with e | ⟨j, e, hj, hm, _⟩
      · omega
      · refine HoS_put (HoS_out h _) _ _ _ ?_
        rw [fa_outS, e, Int.toNat_natCast]
        exact h j (fun e => by rw [e] at hm; cases hm)
  · exact h
theorem HoS_re {S : List S96} (h : HoS S) (q : Int) : HoS (reS S q).1 := by
  unfold reS
  split
  · split
    · exact h
    · exact HoS_out h _
  · exact h
theorem HoS_mo {S : List S96} (h : HoS S) (f q : Int) : HoS (moS S f q).1 := by
  unfold moS
  split
  · split
    · exact h
    · rename_i h2
      simp only [Bool.or_eq_true, not_or, Bool.not_eq_true] at h2
      exact HoS_mvL _ _ _ (HoS_setKi h _ _ (fun e => absurd rfl e)) (by rw [fa_setKi]; simpa using h2.1)
  · exact h
theorem HoS_ac {S : List S96} (hF : FoS S) (h : HoS S) (a : S54) : HoS (acS a S).1 := by
  unfold acS
  by_cases c1 : a.f0 = 1
  · rw [if_pos c1]; exact HoS_mk h _
  rw [if_neg c1]
  by_cases c2 : a.f0 = 2
  · rw [if_pos c2]; exact HoS_mk h _
  rw [if_neg c2]
  by_cases c3 : a.f0 = 3
  · rw [if_pos c3]; exact HoS_mk h _
  rw [if_neg c3]
  by_cases c4 : a.f0 = 4
  · rw [if_pos c4]
    show HoS (cpS S a.f1).1
    unfold cpS
    split
    · split
      · exact HoS_mk h _
      · exact h
    · exact h
  rw [if_neg c4]
  by_cases c5 : a.f0 = 5
  · rw [if_pos c5]; exact HoS_ad h _ _
  rw [if_neg c5]
  by_cases c6 : a.f0 = 6
  · rw [if_pos c6]; exact HoS_ap h _ _
  rw [if_neg c6]
  by_cases c7 : a.f0 = 7
  · rw [if_pos c7]; exact HoS_be hF h _ _
  rw [if_neg c7]
  by_cases c8 : a.f0 = 8
  · rw [if_pos c8]; exact HoS_re h _
  rw [if_neg c8]
  by_cases c9 : a.f0 = 9
  · rw [if_pos c9]; exact HoS_mo h _ _
  rw [if_neg c9]
  exact h
structure OkH (j : Nat) (S : List S96) : Prop where
  ok : OkS j S
  ho : HoS S
theorem OkH_root : OkH 0 [root96] := ⟨OkS_root, HoS_root⟩
theorem OkH_more {j k : Nat} {S : List S96} (h : OkH j S) (hk : j ≤ k) : OkH k S := ⟨OkS_more h.ok hk, h.ho⟩
theorem OkH_ac {j : Nat} {S : List S96} (h : OkH j S) (a : S54) (h4 : a.f4.size ≤ 60) (h5 : a.f5.length ≤ 6) : OkH (j + 1) (acS a S).1 := ⟨OkS_ac h.ok a h4 h5, HoS_ac h.ok.fo h.ho a⟩
/- Out and in again. -/
theorem Sub_rk {S : List S96} {rk : Nat → Nat} (h : ∀ c, c < S.length → ∀ i : Nat, paS S c = (i : Int) → i < S.length ∧ rk c = rk i + 1) {i c : Nat} (hs : Sub (paS S) i c) : c < S.length → rk i ≤ rk c := by
  induction hs with
  | refl => intro _; exact Nat.le_refl _
  | @step c p hp _ ih =>
    intro hc
    obtain ⟨h1, h2⟩ := h c hc p hp
    have := ih h1
    omega
theorem no_up {S : List S96} (hF : FoS S) {n p : Nat} (hn : n < S.length) (hp : paS S n = (p : Int)) : ¬ Sub (paS S) n p := by
  obtain ⟨rk, h1, h2⟩ := Fo_bound hF
  intro hs
  obtain ⟨h3, h4⟩ := h2 n hn p hp
  have := Sub_rk h2 hs h3
  omega
theorem put_back {S : List S96} (hF : FoS S) {n p : Nat} (hn : n < S.length) (hp : paS S n = (p : Int)) (hpl : p < S.length) (a : Nat) (ha : (kiS S p)[a]? = some (n : Int)) : kiS (outS S n) p = (kiS S p).take a ++ (kiS S p).drop (a + 1) ∧ putS (outS S n) p a n = S := by
  have hal := (List.getElem?_eq_some_iff.1 ha).1
  have hnd := hF.nd p hpl
  have hki : kiS (outS S n) p = (kiS S p).take a ++ (kiS S p).drop (a + 1) := by
    rw [ki_outS hF hn]
    show (if paS S n = (p : Int) then _ else _) = _
    rw [if_pos hp]
    obtain ⟨b, hb1, hb2, hb3⟩ := first_at hnd (List.mem_of_getElem? ha)
    have : b = a := by
      have h1 := (List.getElem?_eq_some_iff.1 hb1).1
      rcases Nat.lt_trichotomy b a with h | h | h
      · have := List.pairwise_iff_getElem.1 hnd b a h1 hal h
        rw [List.getElem?_eq_getElem h1] at hb1
        rw [List.getElem?_eq_getElem hal] at ha
        exact absurd ((Option.some.inj hb1).trans (Option.some.inj ha).symm) this
      · exact h
      · exact absurd ha (hb2 a h)
    subst this
    exact hb3.symm
  refine ⟨hki, ?_⟩
  have hpl' : p < (outS S n).length := by rw [len_outS]; exact hpl
  have hn' : n < (outS S n).length := by rw [len_outS]; exact hn
  refine S_ext (by rw [len_putS, len_outS]) (fun i _ => by rw [fa_putS, fa_outS]) (fun i _ => ?_) (fun i _ => ?_)
  · rw [pa_putS hn', pa_outS hF hn]
    unfold upd
    by_cases e : i = n
    · rw [if_pos e, e, hp]
    · rw [if_neg e, if_neg e]
  · rw [ki_putS hpl']
    unfold upd
    by_cases e : i = p
    · rw [if_pos e, hki, e]
      have hta : ((kiS S p).take a).length = a := by rw [List.length_take]; omega
      rw [List.take_append_of_le_length (by omega), List.take_of_length_le (by omega), List.drop_append_of_le_length (by omega), List.drop_of_length_le (by omega), List.nil_append]
      have h1 : (kiS S p).drop a = (n : Int) :: (kiS S p).drop (a + 1) := by
        rw [List.drop_eq_getElem_cons hal]
        rw [List.getElem?_eq_getElem hal] at ha
        rw [Option.some.inj ha]
      rw [← h1, List.take_append_drop]
    · rw [if_neg e, ki_outS hF hn]
      show (if paS S n = (i : Int) then _ else _) = _
      rw [if_neg (by rw [hp]; omega)]
theorem inZ_of {n i : Nat} (h : i < n) : inZ n (i : Int) = true := by unfold inZ; rw [decide_eq_true (by omega), decide_eq_true (by omega)]; rfl
theorem outS_none {S : List S96} {n : Nat} (h : paS S n < 0) : outS S n = S := by unfold outS; rw [if_pos h]
theorem out_out {S : List S96} (hF : FoS S) {n : Nat} (hn : n < S.length) : outS (outS S n) n = outS S n :=
  outS_none (by rw [pa_outS hF hn, upd_self]; omega)
theorem back_ap {S : List S96} (hF : FoS S) (hH : HoS S) {n p : Nat} (hn : n < S.length) (hp : paS S n = (p : Int)) (hpl : p < S.length) (a : Nat) (ha : (kiS S p)[a]? = some (n : Int)) (hl : a + 1 = (kiS S p).length) : apS (outS S n) (p : Int) (n : Int) = (S, 0) := by
  obtain ⟨h1, h2⟩ := put_back hF hn hp hpl a ha
  have hF1 := FoS_out hF hn
  have hpl' : p < (outS S n).length := by rw [len_outS]; exact hpl
  have hn' : n < (outS S n).length := by rw [len_outS]; exact hn
  have hn0 := Fo_c0 hF hp
  have hho : hoB (faS S p).f0 = true := hH p (fun e => by rw [e] at ha; cases ha)
  have hsb : subB (outS S n) n p = false := by
    cases c : subB (outS S n) n p with
    | false => rfl
    | true =>
      have := (subB_iff hF1 hpl').1 c
      rw [pa_outS hF hn] at this
      exact absurd (Sub_out this) (no_up hF hn hp)
  unfold apS
  rw [inZ_of hpl', inZ_of hn', Int.toNat_natCast, Int.toNat_natCast, fa_outS, hho, hsb, out_out hF hn, h1]
  have hn1 : ((n : Int) == 0) = false := by simp; omega
  rw [hn1]
  have hla : ((kiS S p).take a ++ (kiS S p).drop (a + 1)).length = a := by rw [List.length_append, List.length_take, List.length_drop]; omega
  rw [hla, h2]
  rfl
theorem back_be {S : List S96} (hF : FoS S) {n p : Nat} (hn : n < S.length) (hp : paS S n = (p : Int)) (hpl : p < S.length) (a : Nat) (ha : (kiS S p)[a]? = some (n : Int)) (r : Int) (hr : (kiS S p)[a + 1]? = some r) : beS (outS S n) r (n : Int) = (S, 0) := by
  obtain ⟨h1, h2⟩ := put_back hF hn hp hpl a ha
  have hF1 := FoS_out hF hn
  have hnd := hF.nd p hpl
  have hpl' : p < (outS S n).length := by rw [len_outS]; exact hpl
  have hn' : n < (outS S n).length := by rw [len_outS]; exact hn
  have hn0 := Fo_c0 hF hp
  have hal := (List.getElem?_eq_some_iff.1 ha).1
  have hrl := (List.getElem?_eq_some_iff.1 hr).1
  have hae : (kiS S p)[a] = (n : Int) := by rw [List.getElem?_eq_getElem hal] at ha; exact Option.some.inj ha
  have hre : (kiS S p)[a + 1] = r := by rw [List.getElem?_eq_getElem hrl] at hr; exact Option.some.inj hr
  obtain ⟨q, rfl, hq, hqp⟩ := hF.kp p hpl r (List.mem_of_getElem? hr)
  have hqn : q ≠ n := by
    intro e
    have := List.pairwise_iff_getElem.1 hnd a (a + 1) hal hrl (by omega)
    rw [hae, hre, e] at this
    exact this rfl
  have hq' : q < (outS S n).length := by rw [len_outS]; exact hq
  have hqp' : paS (outS S n) q = (p : Int) := by rw [pa_outS hF hn, upd_ne _ _ hqn, hqp]
  have hsb : subB (outS S n) n q = false := by
    cases c : subB (outS S n) n q with
    | false => rfl
    | true =>
      have := (subB_iff hF1 hq').1 c
      cases this with
      | refl => exact absurd rfl hqn
      | @step _ b hb h3 =>
        have : b = p := by omega
        subst this
        rw [pa_outS hF hn] at h3
        exact absurd (Sub_out h3) (no_up hF hn hp)
  have hn1 : ((n : Int) == 0) = false := by simp; omega
  have hix : idx (kiS (outS S n) p) (q : Int) = a := by
    rw [h1]
    have hta : ((kiS S p).take a).length = a := by rw [List.length_take]; omega
    have hat : ((kiS S p).take a ++ (kiS S p).drop (a + 1))[a]? = some (q : Int) := by
      rw [List.getElem?_append_right (by omega), hta, Nat.sub_self, List.getElem?_drop, Nat.add_zero, hr]
    obtain ⟨i1, i2⟩ := idx_at _ _ (List.mem_of_getElem? hat)
    rcases Nat.lt_trichotomy (idx ((kiS S p).take a ++ (kiS S p).drop (a + 1)) (q : Int)) a with h | h | h
    · rw [List.getElem?_append_left (by omega), List.getElem?_take_of_lt h] at i1
      have hil := (List.getElem?_eq_some_iff.1 i1).1
      have := List.pairwise_iff_getElem.1 hnd _ (a + 1) hil hrl (by omega)
      rw [List.getElem?_eq_getElem hil] at i1
      exact absurd ((Option.some.inj i1).trans hre.symm) this
    · exact h
    · exact absurd hat (i2 a h)
  unfold beS
  rw [inZ_of hq', inZ_of hn', Int.toNat_natCast, Int.toNat_natCast, hqp', hsb, out_out hF hn, hn1, Int.toNat_natCast, hix, h2]
  have : decide ((p : Int) < 0) = false := decide_eq_false (by omega)
  rw [this]
  rfl
theorem back_re {S : List S96} {n p : Nat} (hn : n < S.length) (hp : paS S n = (p : Int)) : reS S (n : Int) = (outS S n, 0) := by
  unfold reS
  rw [inZ_of hn, if_pos rfl, Int.toNat_natCast, hp, if_neg (by omega)]
theorem back_no {S : List S96} {n : Int} (hp : paI S n < 0) : ∃ e, reS S n = (S, e) ∧ (e != 0) = true := by
  unfold reS
  by_cases c : inZ S.length n = true
  · rw [if_pos c]
    unfold paI at hp
    rw [if_pos c] at hp
    rw [if_pos hp]
    exact ⟨1, rfl, rfl⟩
  · rw [if_neg c]
    exact ⟨2, rfl, rfl⟩
theorem back_0 {S : List S96} (hF : FoS S) {n : Nat} (hn : n < S.length) : apS S (n : Int) 0 = (S, 1) := by
  unfold apS
  have h0 : inZ S.length 0 = true := inZ_of (n := S.length) (i := 0) hF.pos
  rw [inZ_of hn, h0, if_pos (show (true && true) = true from rfl)]
  have : ((0 : Int) == 0) = true := rfl
  rw [this, Bool.true_or, Bool.or_true, if_pos rfl]
theorem pa_nat {S : List S96} (hF : FoS S) {n : Int} (hp : ¬ paI S n < 0) : ∃ i p : Nat, n = (i : Int) ∧ i < S.length ∧ paI S n = (p : Int) ∧ paS S i = (p : Int) ∧ p < S.length ∧ (i : Int) ∈ kiS S p := by
  unfold paI at hp ⊢
  by_cases c : inZ S.length n = true
  · rw [if_pos c] at hp ⊢
    obtain ⟨i, rfl, hi⟩ := inZ_nat c
    rw [Int.toNat_natCast] at hp ⊢
    rcases FoS_pa hF hi with e | ⟨p, e, hpl, hm, _⟩
    · omega
    · exact ⟨i, p, rfl, hi, e, e, hpl, hm⟩
  · rw [if_neg c] at hp; omega
/- An arena and two values that were told of it, each in a block of its own. -/
structure VW (w : World) (O : Nat → Prop) (g : Nat) (x : S67) (A3 : Option Addr) (c3 : Nat) (A5 : Option Addr) (c5 : Nat) : Prop where
  b : w.heap[g]? = some (.cells #[.int .i64 x.f0, .int .i64 x.f1, .string x.f2, .slice A3 x.f3.length c3, .string x.f4, .slice A5 x.f5.length c5] 67 (0, 0))
  fk : Kd.FK k67 w O x [.int .i64 x.f0, .int .i64 x.f1, .string x.f2, .slice A3 x.f3.length c3, .string x.f4, .slice A5 x.f5.length c5]
  og : O g
theorem VW_kO {w w' : World} {O : Nat → Prop} {g : Nat} {x : S67} {A3 A5 : Option Addr} {c3 c5 : Nat} (h : VW w O g x A3 c3 A5 c5) (k : kO O w w') : VW w' O g x A3 c3 A5 c5 :=
  ⟨(k.2 g h.og).trans h.b, Kd.FK_step h.fk (fun i hi _ => k.2 i hi), h.og⟩
theorem VW_mono {w : World} {O O' : Nat → Prop} {g : Nat} {x : S67} {A3 A5 : Option Addr} {c3 c5 : Nat} (h : VW w O g x A3 c3 A5 c5) (k : ∀ i, O i → O' i) : VW w O' g x A3 c3 A5 c5 := ⟨h.b, Kd.FK_mono h.fk k, k g h.og⟩
structure BK (w0 : World) (p : Nat) (S : List S96) (O : Nat → Prop) (g : Nat) (x : S67) (A3 : Option Addr) (c3 : Nat) (A5 : Option Addr) (c5 : Nat) (g' : Nat) (y : S67) (B3 : Option Addr) (d3 : Nat) (B5 : Option Addr) (d5 : Nat) (w : World) : Prop where
  ja : JA w0 w p S O
  vx : VW w O g x A3 c3 A5 c5
  vy : VW w O g' y B3 d3 B5 d5
section
variable {w0 w w' : World} {p g g' : Nat} {S S' : List S96} {O : Nat → Prop} {x y : S67} {A3 A5 B3 B5 : Option Addr} {c3 c5 d3 d5 : Nat}
theorem BK_act (h : BK w0 p S O g x A3 c3 A5 c5 g' y B3 d3 B5 d5 w) (hj : JA w0 w' p S' O) (hk : kO O w w') : BK w0 p S' O g x A3 c3 A5 c5 g' y B3 d3 B5 d5 w' := ⟨hj, VW_kO h.vx hk, VW_kO h.vy hk⟩
theorem BK_below (h : BK w0 p S O g x A3 c3 A5 c5 g' y B3 d3 B5 d5 w) (hb : Below w.heap.size w w') : BK w0 p S O g x A3 c3 A5 c5 g' y B3 d3 B5 d5 w' := BK_act h (JA_step h.ja hb) (kO_below h.ja hb)
theorem BK_x (h : BK w0 p S O g x A3 c3 A5 c5 g' y B3 d3 B5 d5 w) : w.cell? ⟨g, 0, none⟩ = some (.int .i64 x.f0) ∧ w.cell? ⟨g, 1, none⟩ = some (.int .i64 x.f1) ∧ w.cell? ⟨g, 2, none⟩ = some (.string x.f2) ∧ w.cell? ⟨g, 3, none⟩ = some (.slice A3 x.f3.length c3) ∧ w.cell? ⟨g, 4, none⟩ = some (.string x.f4) ∧ w.cell? ⟨g, 5, none⟩ = some (.slice A5 x.f5.length c5) := bx6 h.vx.b
theorem BK_y (h : BK w0 p S O g x A3 c3 A5 c5 g' y B3 d3 B5 d5 w) : w.cell? ⟨g', 0, none⟩ = some (.int .i64 y.f0) ∧ w.cell? ⟨g', 1, none⟩ = some (.int .i64 y.f1) ∧ w.cell? ⟨g', 2, none⟩ = some (.string y.f2) ∧ w.cell? ⟨g', 3, none⟩ = some (.slice B3 y.f3.length d3) ∧ w.cell? ⟨g', 4, none⟩ = some (.string y.f4) ∧ w.cell? ⟨g', 5, none⟩ = some (.slice B5 y.f5.length d5) := bx6 h.vy.b
/- A value that was told once more is the same. -/
theorem same_x (h : BK w0 p S O g x A3 c3 A5 c5 g' y B3 d3 B5 d5 w) {ok : Nat → Prop} {P3 P5 : Option Addr} {p3 p5 : Nat} (hK : Kd.FK k67 w ok x [.int .i64 x.f0, .int .i64 x.f1, .string x.f2, .slice P3 x.f3.length p3, .string x.f4, .slice P5 x.f5.length p5]) :
    Calls Try.prog 40 #[.agg #[.int .i64 x.f0, .int .i64 x.f1, .string x.f2, .slice P3 x.f3.length p3, .string x.f4, .slice P5 x.f5.length p5], .agg #[.int .i64 x.f0, .int .i64 x.f1, .string x.f2, .slice A3 x.f3.length c3, .string x.f4, .slice A5 x.f5.length c5]] w fun e w' => e = .returned (.bool true) ∧ Below w.heap.size w w' := by
  obtain ⟨a1, a2, a3, a4⟩ := V_open hK
  obtain ⟨b1, b2, b3, b4⟩ := V_open h.vx.fk
  exact same_all x w _ _ _ _ _ _ _ _ a1 a3 b1 b3 a2 a4 b2 b4
theorem same_y (h : BK w0 p S O g x A3 c3 A5 c5 g' y B3 d3 B5 d5 w) {ok : Nat → Prop} {P3 P5 : Option Addr} {p3 p5 : Nat} (hK : Kd.FK k67 w ok y [.int .i64 y.f0, .int .i64 y.f1, .string y.f2, .slice P3 y.f3.length p3, .string y.f4, .slice P5 y.f5.length p5]) :
    Calls Try.prog 40 #[.agg #[.int .i64 y.f0, .int .i64 y.f1, .string y.f2, .slice P3 y.f3.length p3, .string y.f4, .slice P5 y.f5.length p5], .agg #[.int .i64 y.f0, .int .i64 y.f1, .string y.f2, .slice B3 y.f3.length d3, .string y.f4, .slice B5 y.f5.length d5]] w fun e w' => e = .returned (.bool true) ∧ Below w.heap.size w w' := by
  obtain ⟨a1, a2, a3, a4⟩ := V_open hK
  obtain ⟨b1, b2, b3, b4⟩ := V_open h.vy.fk
  exact same_all y w _ _ _ _ _ _ _ _ a1 a3 b1 b3 a2 a4 b2 b4
end
theorem VW_new {w : World} {b : Nat} {x : S67} {A3 A5 : Option Addr} {c3 c5 : Nat} (hb : b ≤ w.heap.size) (hK : Kd.FK k67 w (fun k => b ≤ k) x [.int .i64 x.f0, .int .i64 x.f1, .string x.f2, .slice A3 x.f3.length c3, .string x.f4, .slice A5 x.f5.length c5]) : VW (w.alloc (.cells #[.int .i64 x.f0, .int .i64 x.f1, .string x.f2, .slice A3 x.f3.length c3, .string x.f4, .slice A5 x.f5.length c5] 67)) (fun k => b ≤ k ∧ k < (w.alloc (.cells #[.int .i64 x.f0, .int .i64 x.f1, .string x.f2, .slice A3 x.f3.length c3, .string x.f4, .slice A5 x.f5.length c5] 67)).heap.size) w.heap.size x A3 c3 A5 c5 := by
  have h1 := below_alloc (Below.refl w.heap.size w) (.cells #[.int .i64 x.f0, .int .i64 x.f1, .string x.f2, .slice A3 x.f3.length c3, .string x.f4, .slice A5 x.f5.length c5] 67)
  refine ⟨blk_new w _, Kd.FK_bound (Kd.FK_below hK h1), hb, ?_⟩
  exact blk_lt (blk_new w (.cells #[.int .i64 x.f0, .int .i64 x.f1, .string x.f2, .slice A3 x.f3.length c3, .string x.f4, .slice A5 x.f5.length c5] 67))
set_option maxRecDepth 100000 in
set_option maxHeartbeats 40000000 in
theorem law_Back (A0 : Option Addr) (c0 : Nat) (l0 : List S54) (a1 : Int) (w : World) (hr0 : Kd.C k54 w A0 l0.length l0) : Calls Try.prog 10 #[.slice A0 l0.length c0, .int .i64 a1] w fun e w' => e = .returned (.bool true) ∧ Below w.heap.size w w' := by
  have HR0 := Aside0.mk hr0
  have m0 := Kd.C_max hr0
  clear hr0
  go_enter Try.func10, Try.ntmps10
  go_upto_block 0 with (go_at_call 25; refine (J_New _).mono ?_; rintro e w1 ⟨p, rfl, hJ, hb⟩; have J1 := Aside0.mk (JA_mono (O' := fun _ => False) hJ (fun _ h => h.elim)); clear hJ hb)
  go_cut [6] from 6 to 40 (fun v4 wc => ∃ S, Aside0 (OkH 40 S) ∧ Aside0 (JA w wc p S (fun _ => False)))
  case first =>
    go_wp2
    go_loopw [6] (fun v4 wr => ∃ (j : Nat) (S : List S96), v4 = .int .i64 (j : Int) ∧ j ≤ l0.length ∧ j ≤ 40 ∧ Aside0 (OkH j S) ∧ Aside0 (JA w wr p S (fun _ => False))) (fun v4 _ => l0.length - (intOf v4).toNat)
    case atStart => exact ⟨0, _, rfl, Nat.zero_le _, Nat.zero_le _, ⟨OkH_root⟩, J1⟩
    case round =>
      obtain ⟨j, S, rfl, hj, hj2, HI, HJ⟩ := hrel
      clear J1
      by_cases d0 : j < l0.length ∧ j < 40
      · obtain ⟨d1, d2⟩ := d0
        have d1b : decide (j < l0.length) = true := decide_eq_true d1
        have d2b : decide (j < 40) = true := decide_eq_true d2
        obtain ⟨ad, L, m, q, a, rfl, hal, hy, hm, hq, hC⟩ := act_at HR0.out j d1
        have HY := Aside0.mk hy
        have HM := Aside0.mk hm
        have HQ := Aside0.mk hq
        have HC := Aside0.mk hC
        have HJ40 := Aside0.mk (show j ≤ 40 from hj2)
        obtain ⟨y0, y1, y2, y3, y4, y5⟩ := hy _ (JA_below HJ.out)
        clear hy hal hm hq hC
        by_cases e1 : a.f4.size ≤ 60 ∧ a.f5.length ≤ 6
        · have EV := Aside0.mk (small_ev a e1.1 e1.2)
          have SM := Aside0.mk e1
          clear e1
          obtain ⟨S', r1, r2, hx⟩ : ∃ S' r1 r2, acS a S = (S', r1, r2) := ⟨_, _, _, rfl⟩
          have NI := Aside0.mk (show OkH (j + 1) S' by have := OkH_ac HI.out a SM.out.1 SM.out.2; rw [hx] at this; exact this)
          have HX := Aside0.mk hx
          clear hx
          go_upto_region 8 with (go_at_call 33; refine (small_c HM.out HQ.out (Kd.C_below HC.out (JA_below HJ.out)) EV.out).mono ?_; rintro e w2 ⟨rfl, hb⟩; have J2 := Aside0.mk (JA_step HJ.out hb); clear hb HJ y0 y1 y2 y3 y4 y5)
          refine start_ (n := 7) (S := fun w' => w'.cell? (ad.add (j * 6)) = some (.int .i64 a.f0) ∧ w'.cell? ⟨(ad.add (j * 6)).block, (ad.add (j * 6)).off + 1, none⟩ = some (.int .i64 a.f1) ∧ w'.cell? ⟨(ad.add (j * 6)).block, (ad.add (j * 6)).off + 2, none⟩ = some (.int .i64 a.f2) ∧ w'.cell? ⟨(ad.add (j * 6)).block, (ad.add (j * 6)).off + 3, none⟩ = some (.int .i64 a.f3) ∧ w'.cell? ⟨(ad.add (j * 6)).block, (ad.add (j * 6)).off + 4, none⟩ = some (.string a.f4) ∧ w'.cell? ⟨(ad.add (j * 6)).block, (ad.add (j * 6)).off + 5, none⟩ = some (.slice L m q)) (ds := []) #[false, false, false, false, false, false, false] (by kernel_rfl) rfl rfl ⟨(HY.out _ (below_step' (JA_below J2.out) (below_drew (Below.refl _ _)))).1, (HY.out _ (below_step' (JA_below J2.out) (below_drew (Below.refl _ _)))).2.1, (HY.out _ (below_step' (JA_below J2.out) (below_drew (Below.refl _ _)))).2.2.1, (HY.out _ (below_step' (JA_below J2.out) (below_drew (Below.refl _ _)))).2.2.2.1, (HY.out _ (below_step' (JA_below J2.out) (below_drew (Below.refl _ _)))).2.2.2.2.1, (HY.out _ (below_step' (JA_below J2.out) (below_drew (Below.refl _ _)))).2.2.2.2.2⟩ (fun hHeld => ?_)
          refine pure_ (i := 0) (N := some 34) (v := ?_) (a' := ?_) #[true, false, false, false, false, false, false] rfl rfl (by kernel_rfl) (fun _ _ _ h => h) (Or.inl ⟨by rfl, ?_⟩) ?_ ?_
          rotate_left
          · intro w'
            go_simp
            with_reducible rfl
          rotate_left
          · simp only [Act.put, List.setIfInBounds_toArray, List.set_cons_zero, List.set_cons_succ, i64_w, i32_w]
            rfl
          refine pure_ (i := 2) (N := some 36) (v := ?_) (a' := ?_) #[true, false, true, false, false, false, false] rfl rfl (by kernel_rfl) (fun _ _ _ h => h) (Or.inl ⟨by rfl, ?_⟩) ?_ ?_
          rotate_left
          · intro w'
            go_simp
            with_reducible rfl
          rotate_left
          · simp only [Act.put, List.setIfInBounds_toArray, List.set_cons_zero, List.set_cons_succ, i64_w, i32_w]
            rfl
          refine pure_ (i := 3) (N := some 37) (v := ?_) (a' := ?_) #[true, false, true, true, false, false, false] rfl rfl (by kernel_rfl) (fun _ _ _ h => h) (Or.inl ⟨by rfl, ?_⟩) ?_ ?_
          rotate_left
          · intro w'
            go_simp
            with_reducible rfl
          rotate_left
          · simp only [Act.put, List.setIfInBounds_toArray, List.set_cons_zero, List.set_cons_succ, i64_w, i32_w]
            rfl
          refine pure_ (i := 4) (N := some 38) (v := ?_) (a' := ?_) #[true, false, true, true, true, false, false] rfl rfl (by kernel_rfl) (fun _ _ _ h => h) (Or.inl ⟨by rfl, ?_⟩) ?_ ?_
          rotate_left
          · intro w'
            go_simp
            with_reducible rfl
          rotate_left
          · simp only [Act.put, List.setIfInBounds_toArray, List.set_cons_zero, List.set_cons_succ, i64_w, i32_w]
            rfl
          refine take_ (i := 5) (N := some 39) (v := ?_) (a' := ?_) #[true, false, true, true, true, true, false] rfl rfl (by kernel_rfl) (fun _ _ _ h => h) (Or.inl ⟨by rfl, ?_⟩) hHeld ?_ ?_
          rotate_left
          · rintro w' ⟨s0, s1, s2, s3, s4, s5⟩
            go_simp
            with_reducible rfl
          rotate_left
          · simp only [Act.put, List.setIfInBounds_toArray, List.set_cons_zero, List.set_cons_succ, i64_w, i32_w]
            rfl
          refine one_ (i := 1) (N := some 35) #[true, true, true, true, true, true, false] rfl rfl (by kernel_rfl) (by decide) (fun K hK => ?_)
          refine goes_ Try.func35 (by kernel_rfl) rfl #[] (by rfl) rfl rfl (by simp only [List.map_toArray, List.map_cons, List.map_nil]) ?_
          with_reducible refine (R_New _).mono ?_
          rintro e w3 ⟨A3, n3, c3, rfl, hn, hV, hb⟩
          refine ⟨_, rfl, ?_⟩
          have J3 := Aside0.mk (JA_deep (JA_step J2.out (below_drew (Below.refl _ _))) hb)
          have N3 := Aside0.mk hn
          have V3 := Aside0.mk hV
          have Z3 := Aside0.mk (show ∀ k, w2.drew.heap.size ≤ k ∧ k < w3.heap.size → False ∨ (w2.drew.heap.size ≤ k ∧ k < w3.heap.size) from fun k hk => .inr hk)
          clear hn hV hb
          refine hK.out _ _ ⟨(HY.out _ (JA_below J3.out)).1, (HY.out _ (JA_below J3.out)).2.1, (HY.out _ (JA_below J3.out)).2.2.1, (HY.out _ (JA_below J3.out)).2.2.2.1, (HY.out _ (JA_below J3.out)).2.2.2.2.1, (HY.out _ (JA_below J3.out)).2.2.2.2.2⟩ (fun hHeld => ?_)
          clear hK K
          refine norm_ (a' := ?_) ?_ ?_
          rotate_left
          · show Act.put _ (some 35) _ = _
            simp only [Act.put, List.setIfInBounds_toArray, List.set_cons_zero, List.set_cons_succ, i64_w, i32_w]
            rfl
          refine one_ (i := 6) (N := some 40) #[true, true, true, true, true, true, true] rfl rfl (by kernel_rfl) (by decide) (fun K hK => ?_)
          refine goes_ Try.func34 (by kernel_rfl) rfl #[.pointer (some ⟨p, 0, none⟩), .agg #[.slice A3 n3 c3], .agg #[.int .i64 a.f0, .int .i64 a.f1, .int .i64 a.f2, .int .i64 a.f3, .string a.f4, .slice L m q]] (by rfl) rfl rfl (by simp only [List.map_toArray, List.map_cons, List.map_nil]; rfl) ?_
          with_reducible refine (J_do J3.out N3.out V3.out Z3.out a HM.out HC.out HQ.out HI.out.ok OkS_root HJ40.out (by omega) SM.out _ _ _ _ _ _ HX.out (ac_eta a [root96]) _ rfl).mono ?_
          rintro e w4 ⟨A4, n4, c4, OV4, rfl, hn, hV, hJ, hk, ho⟩
          refine ⟨_, rfl, ?_⟩
          have J4 := Aside0.mk (JA_mono (O' := fun _ => False) hJ (fun _ h => h.elim))
          clear hn hV hJ hk ho
          refine hK.out _ _ ⟨(HY.out _ (JA_below J4.out)).1, (HY.out _ (JA_below J4.out)).2.1, (HY.out _ (JA_below J4.out)).2.2.1, (HY.out _ (JA_below J4.out)).2.2.2.1, (HY.out _ (JA_below J4.out)).2.2.2.2.1, (HY.out _ (JA_below J4.out)).2.2.2.2.2⟩ (fun hHeld => ?_)
          clear hK K
          refine norm_ (a' := ?_) ?_ ?_
          rotate_left
          · show Act.put _ (some 40) _ = _
            simp only [Act.put, List.setIfInBounds_toArray, List.set_cons_zero, List.set_cons_succ, i64_w, i32_w]
            rfl
          refine done_ (by kernel_rfl) ?_
          go_wp2
          go_roundw
          case rel => exact ⟨j + 1, S', by go_num, by omega, by omega, NI, J4⟩
          case measure => simp [intOf]; omega
        · have EV := Aside0.mk (small_no a e1)
          clear e1
          go_wp2_with (go_at_call 33; refine (small_c HM.out HQ.out (Kd.C_below HC.out (JA_below HJ.out)) EV.out).mono ?_; rintro e w2 ⟨rfl, hb⟩; have J2 := Aside0.mk (JA_step HJ.out hb); clear hb HJ y0 y1 y2 y3 y4 y5)
          go_roundw
          case rel => exact ⟨j + 1, S, by go_num, by omega, by omega, ⟨OkH_more HI.out (Nat.le_succ j)⟩, J2⟩
          case measure => simp [intOf]; omega
      · have HO := Aside0.mk (OkH_more HI.out hj2)
        by_cases d1 : j < l0.length
        · have d1b : decide (j < l0.length) = true := decide_eq_true d1
          have d2b : decide (j < 40) = false := decide_eq_false (by omega)
          have d2 : ¬ j < 40 := by omega
          go_wp2
          go_meet
          case rel => exact ⟨S, HO, HJ⟩
        · have d1b : decide (j < l0.length) = false := decide_eq_false d1
          go_wp2
          go_meet
          case rel => exact ⟨S, HO, HJ⟩
  case rest =>
    obtain ⟨S, HI, HJ⟩ := hcut
    clear J1
    have HF := Aside0.mk HI.out.ok.fo
    have HH := Aside0.mk HI.out.ho
    have HN := Aside0.mk (show S.length ≤ 41 from HI.out.ok.len)
    have HAT := Aside0.mk (fun i => Nat.le_trans (HI.out.ok.att i) (by decide : 6 ≤ 100000))
    clear HI HR0
    obtain ⟨x, hx⟩ : ∃ x, x = vaI S 0 := ⟨_, rfl⟩
    have HX := Aside0.mk hx
    obtain ⟨u, hu⟩ : ∃ u, u = paI S a1 := ⟨_, rfl⟩
    have HU := Aside0.mk hu.symm
    clear hx hu
    go_upto_region 11 with (first | (go_at_call 37; refine (J_Parent HJ.out a1 u HU.out).mono ?_; rintro e w5 ⟨rfl, rfl⟩) | (go_at_call 38; refine (J_ValueX HJ.out HF.out (by have := HN.out; omega) HAT.out 0 HX.out).mono ?_; rintro e w6 ⟨A3, c3, A5, c5, rfl, hK, hb⟩; have F6 := Aside0.mk hK; have B6 := Aside0.mk hb; clear hK hb))
    obtain ⟨g8, hg8⟩ : ∃ g8, g8 = w6.heap.size := ⟨_, rfl⟩
    obtain ⟨W7, hW7⟩ : ∃ W7, W7 = w6.alloc (.cells #[.int .i64 x.f0, .int .i64 x.f1, .string x.f2, .slice A3 x.f3.length c3, .string x.f4, .slice A5 x.f5.length c5] 67) := ⟨_, rfl⟩
    have V7 := Aside0.mk (show VW W7 (fun k => wc.heap.size ≤ k ∧ k < W7.heap.size) g8 x A3 c3 A5 c5 by rw [hW7, hg8]; exact VW_new B6.out.size F6.out)
    have B7 := Aside0.mk (show Below wc.heap.size wc W7 by rw [hW7]; exact below_step B6.out (below_alloc (Below.refl _ _) _))
    rw [← hW7, ← hg8]
    clear hW7 hg8 F6 B6
    by_cases c : u < 0
    · have cb : decide (u < 0) = true := decide_eq_true c
      obtain ⟨e', he, hne⟩ := back_no (show paI S a1 < 0 by rw [HU.out]; exact c)
      have HE := Aside0.mk he
      obtain ⟨O, hO⟩ : ∃ O : Nat → Prop, O = (fun k => wc.heap.size ≤ k ∧ k < W7.heap.size) := ⟨_, rfl⟩
      have K7 := Aside0.mk (show BK w p S O g8 x A3 c3 A5 c5 g8 x A3 c3 A5 c5 W7 from ⟨JA_mono (JA_deep HJ.out B7.out) (fun k hk => .inr (by rw [hO] at hk; exact hk)), by rw [hO]; exact V7.out, by rw [hO]; exact V7.out⟩)
      clear he hO V7 c
      go_upto_region 13 with (go_at_call 39; refine (J_Remove K7.out.ja HF.out (by have := HN.out; omega) a1 S e' HE.out).mono ?_; rintro e w8 ⟨rfl, hJ, hk⟩; have K8 := Aside0.mk (BK_act K7.out hJ hk); clear hJ hk K7)
      refine start_ (n := 12) (S := fun w' => w'.cell? ⟨g8, 0, none⟩ = some (.int .i64 x.f0) ∧ w'.cell? ⟨g8, 1, none⟩ = some (.int .i64 x.f1) ∧ w'.cell? ⟨g8, 2, none⟩ = some (.string x.f2) ∧ w'.cell? ⟨g8, 3, none⟩ = some (.slice A3 x.f3.length c3) ∧ w'.cell? ⟨g8, 4, none⟩ = some (.string x.f4) ∧ w'.cell? ⟨g8, 5, none⟩ = some (.slice A5 x.f5.length c5)) (ds := []) #[false, false, false, false, false, false, false, false, false, false, false, false] (by kernel_rfl) rfl rfl ⟨(BK_x (BK_below K8.out (below_drew (Below.refl _ _)))).1, (BK_x (BK_below K8.out (below_drew (Below.refl _ _)))).2.1, (BK_x (BK_below K8.out (below_drew (Below.refl _ _)))).2.2.1, (BK_x (BK_below K8.out (below_drew (Below.refl _ _)))).2.2.2.1, (BK_x (BK_below K8.out (below_drew (Below.refl _ _)))).2.2.2.2.1, (BK_x (BK_below K8.out (below_drew (Below.refl _ _)))).2.2.2.2.2⟩ (fun hHeld => ?_)
      refine one_ (i := 0) (N := some 51) #[true, false, false, false, false, false, false, false, false, false, false, false] rfl rfl (by kernel_rfl) (by decide) (fun K hK => ?_)
      refine goes_ Try.func27 (by kernel_rfl) rfl #[] (by rfl) rfl rfl (by simp only [List.map_toArray, List.map_cons, List.map_nil]) ?_
      with_reducible refine (arena_alive _).mono ?_
      rintro e w9 ⟨rfl, hb⟩
      refine ⟨_, rfl, ?_⟩
      have K9 := Aside0.mk (BK_below (BK_below K8.out (below_drew (Below.refl _ _))) hb)
      clear hb
      refine hK.out _ _ ⟨(BK_x K9.out).1, (BK_x K9.out).2.1, (BK_x K9.out).2.2.1, (BK_x K9.out).2.2.2.1, (BK_x K9.out).2.2.2.2.1, (BK_x K9.out).2.2.2.2.2⟩ (fun hHeld => ?_)
      clear hK K
      refine norm_ (a' := ?_) ?_ ?_
      rotate_left
      · show Act.put _ (some 51) _ = _
        simp only [Act.put, List.setIfInBounds_toArray, List.set_cons_zero, List.set_cons_succ, i64_w, i32_w]
        rfl
      refine pure_ (i := 1) (N := some 52) (v := ?_) (a' := ?_) #[true, true, false, false, false, false, false, false, false, false, false, false] rfl rfl (by kernel_rfl) (fun _ _ _ h => h) (Or.inl ⟨by rfl, ?_⟩) ?_ ?_
      rotate_left
      · intro w'
        go_simp
        with_reducible rfl
      rotate_left
      · simp only [Act.put, List.setIfInBounds_toArray, List.set_cons_zero, List.set_cons_succ, i64_w, i32_w]
        rfl
      refine pure_ (i := 2) (N := some 53) (v := ?_) (a' := ?_) #[true, true, true, false, false, false, false, false, false, false, false, false] rfl rfl (by kernel_rfl) (fun _ _ _ h => h) (Or.inl ⟨by rfl, ?_⟩) ?_ ?_
      rotate_left
      · intro w'
        go_simp
        with_reducible rfl
      rotate_left
      · simp only [Act.put, List.setIfInBounds_toArray, List.set_cons_zero, List.set_cons_succ, i64_w, i32_w]
        rfl
      refine pure_ (i := 3) (N := some 54) (v := ?_) (a' := ?_) #[true, true, true, true, false, false, false, false, false, false, false, false] rfl rfl (by kernel_rfl) (fun _ _ _ h => h) (Or.inl ⟨by rfl, ?_⟩) ?_ ?_
      rotate_left
      · intro w'
        go_simp
        with_reducible rfl
      rotate_left
      · simp only [Act.put, List.setIfInBounds_toArray, List.set_cons_zero, List.set_cons_succ, i64_w, i32_w]
        rfl
      refine pure_ (i := 4) (N := some 55) (v := ?_) (a' := ?_) #[true, true, true, true, true, false, false, false, false, false, false, false] rfl rfl (by kernel_rfl) (fun _ _ _ h => h) (Or.inl ⟨by rfl, ?_⟩) ?_ ?_
      rotate_left
      · intro w'
        go_simp
        with_reducible rfl
      rotate_left
      · simp only [Act.put, List.setIfInBounds_toArray, List.set_cons_zero, List.set_cons_succ, i64_w, i32_w]
        rfl
      refine pure_ (i := 5) (N := some 56) (v := ?_) (a' := ?_) #[true, true, true, true, true, true, false, false, false, false, false, false] rfl rfl (by kernel_rfl) (fun _ _ _ h => h) (Or.inl ⟨by rfl, ?_⟩) ?_ ?_
      rotate_left
      · intro w'
        go_simp
        with_reducible rfl
      rotate_left
      · simp only [Act.put, List.setIfInBounds_toArray, List.set_cons_zero, List.set_cons_succ, i64_w, i32_w]
        rfl
      refine pure_ (i := 6) (N := some 57) (v := ?_) (a' := ?_) #[true, true, true, true, true, true, true, false, false, false, false, false] rfl rfl (by kernel_rfl) (fun _ _ _ h => h) (Or.inl ⟨by rfl, ?_⟩) ?_ ?_
      rotate_left
      · intro w'
        go_simp
        with_reducible rfl
      rotate_left
      · simp only [Act.put, List.setIfInBounds_toArray, List.set_cons_zero, List.set_cons_succ, i64_w, i32_w]
        rfl
      refine take_ (i := 8) (N := some 59) (v := ?_) (a' := ?_) #[true, true, true, true, true, true, true, false, true, false, false, false] rfl rfl (by kernel_rfl) (fun _ _ _ h => h) (Or.inl ⟨by rfl, ?_⟩) hHeld ?_ ?_
      rotate_left
      · rintro w' ⟨s0, s1, s2, s3, s4, s5⟩
        go_simp
        with_reducible rfl
      rotate_left
      · simp only [Act.put, List.setIfInBounds_toArray, List.set_cons_zero, List.set_cons_succ, i64_w, i32_w]
        rfl
      refine one_ (i := 7) (N := some 58) #[true, true, true, true, true, true, true, true, true, false, false, false] rfl rfl (by kernel_rfl) (by decide) (fun K hK => ?_)
      refine goes_ Try.func38 (by kernel_rfl) rfl #[.pointer (some ⟨p, 0, none⟩), .int .i64 0] (by rfl) rfl rfl (by simp only [List.map_toArray, List.map_cons, List.map_nil]; rfl) ?_
      with_reducible refine (J_ValueX K9.out.ja HF.out (by have := HN.out; omega) HAT.out 0 HX.out).mono ?_
      rintro e w10 ⟨P3, p3, P5, p5, rfl, hK, hb⟩
      refine ⟨_, rfl, ?_⟩
      have K10 := Aside0.mk (BK_below K9.out hb)
      have KK10 := Aside0.mk hK
      clear hK hb
      refine hK.out _ _ ⟨(BK_x K10.out).1, (BK_x K10.out).2.1, (BK_x K10.out).2.2.1, (BK_x K10.out).2.2.2.1, (BK_x K10.out).2.2.2.2.1, (BK_x K10.out).2.2.2.2.2⟩ (fun hHeld => ?_)
      clear hK K
      refine norm_ (a' := ?_) ?_ ?_
      rotate_left
      · show Act.put _ (some 58) _ = _
        simp only [Act.put, List.setIfInBounds_toArray, List.set_cons_zero, List.set_cons_succ, i64_w, i32_w]
        rfl
      refine one_ (i := 9) (N := some 60) #[true, true, true, true, true, true, true, true, true, true, false, false] rfl rfl (by kernel_rfl) (by decide) (fun K hK => ?_)
      refine goes_ Try.func40 (by kernel_rfl) rfl #[.agg #[.int .i64 x.f0, .int .i64 x.f1, .string x.f2, .slice P3 x.f3.length p3, .string x.f4, .slice P5 x.f5.length p5], .agg #[.int .i64 x.f0, .int .i64 x.f1, .string x.f2, .slice A3 x.f3.length c3, .string x.f4, .slice A5 x.f5.length c5]] (by rfl) rfl rfl (by simp only [List.map_toArray, List.map_cons, List.map_nil]; rfl) ?_
      with_reducible refine (same_x K10.out KK10.out).mono ?_
      rintro e w11 ⟨rfl, hb⟩
      refine ⟨_, rfl, ?_⟩
      have K11 := Aside0.mk (BK_below K10.out hb)
      clear hb
      refine hK.out _ _ ⟨(BK_x K11.out).1, (BK_x K11.out).2.1, (BK_x K11.out).2.2.1, (BK_x K11.out).2.2.2.1, (BK_x K11.out).2.2.2.2.1, (BK_x K11.out).2.2.2.2.2⟩ (fun hHeld => ?_)
      clear hK K
      refine norm_ (a' := ?_) ?_ ?_
      rotate_left
      · show Act.put _ (some 60) _ = _
        simp only [Act.put, List.setIfInBounds_toArray, List.set_cons_zero, List.set_cons_succ, i64_w, i32_w]
        rfl
      refine pure_ (i := 10) (N := some 61) (v := ?_) (a' := ?_) #[true, true, true, true, true, true, true, true, true, true, true, false] rfl rfl (by kernel_rfl) (fun _ _ _ h => h) (Or.inl ⟨by rfl, ?_⟩) ?_ ?_
      rotate_left
      · intro w'
        go_simp
        with_reducible rfl
      rotate_left
      · simp only [Act.put, List.setIfInBounds_toArray, List.set_cons_zero, List.set_cons_succ, i64_w, i32_w]
        rfl
      refine pure_ (i := 11) (N := some 4) (v := ?_) (a' := ?_) #[true, true, true, true, true, true, true, true, true, true, true, true] rfl rfl (by kernel_rfl) (fun _ _ _ h => h) (Or.inl ⟨by rfl, ?_⟩) ?_ ?_
      rotate_left
      · intro w'
        go_simp
        with_reducible rfl
      rotate_left
      · simp only [Act.put, List.setIfInBounds_toArray, List.set_cons_zero, List.set_cons_succ, i64_w, i32_w]
        rfl
      refine done_ (by kernel_rfl) ?_
      go_wp2
      go_ret
      exact ⟨by first | rfl | simp, JA_below K11.out.ja⟩
    · have cb : decide (u < 0) = false := decide_eq_false c
      obtain ⟨n, q, rfl, hn, hq, hpq, hql, hm⟩ := pa_nat HF.out (show ¬ paI S a1 < 0 by rw [HU.out]; exact c)
      rw [HU.out] at hq
      subst hq
      have NL := Aside0.mk hn
      have PQ := Aside0.mk hpq
      have QL := Aside0.mk hql
      obtain ⟨l, hl⟩ : ∃ l, l = kiS S q := ⟨_, rfl⟩
      obtain ⟨m, hml⟩ : ∃ m, m = l.length := ⟨_, rfl⟩
      have HLK := Aside0.mk hl
      have HM := Aside0.mk hml
      have NM := Aside0.mk (show (n : Int) ∈ l by rw [hl]; exact hm)
      have mb : m ≤ 41 := by have h1 := FoS_ki_len HF.out hql; have h2 := HN.out; rw [hml, hl]; omega
      have MB := Aside0.mk (show l.length ≤ 100000 by rw [← hml]; omega)
      have KI := Aside0.mk (show kiI S (q : Int) = l by rw [hl]; exact kiI_at hql)
      obtain ⟨y, hy⟩ : ∃ y, y = vaI S (q : Int) := ⟨_, rfl⟩
      have HY := Aside0.mk hy
      clear hn hpq hql hl hml hm hy c
      go_upto_region 15 with (go_at_call 38; refine (J_ValueX (JA_step HJ.out B7.out) HF.out (by have := HN.out; omega) HAT.out (q : Int) HY.out).mono ?_; rintro e w8 ⟨B3, d3, B5, d5, rfl, hK, hb⟩; have F8 := Aside0.mk hK; have B8 := Aside0.mk hb; clear hK hb)
      obtain ⟨g10, hg10⟩ : ∃ g10, g10 = w8.heap.size := ⟨_, rfl⟩
      obtain ⟨W9, hW9⟩ : ∃ W9, W9 = w8.alloc (.cells #[.int .i64 y.f0, .int .i64 y.f1, .string y.f2, .slice B3 y.f3.length d3, .string y.f4, .slice B5 y.f5.length d5] 67) := ⟨_, rfl⟩
      have V9 := Aside0.mk (show VW W9 (fun k => W7.heap.size ≤ k ∧ k < W9.heap.size) g10 y B3 d3 B5 d5 by rw [hW9, hg10]; exact VW_new B8.out.size F8.out)
      have B9 := Aside0.mk (show Below W7.heap.size W7 W9 by rw [hW9]; exact below_step B8.out (below_alloc (Below.refl _ _) _))
      rw [← hW9, ← hg10]
      clear hW9 hg10 F8 B8
      go_upto_region 16 with (go_at_call 36; refine (J_KidsB (JA_step (JA_step HJ.out B7.out) B9.out) (q : Int) l m HM.out MB.out KI.out).mono ?_; rintro e wA ⟨AK, cK, rfl, hR, hb⟩; have RK := Aside0.mk hR; have BA := Aside0.mk hb; clear hR hb)
      obtain ⟨O, hO⟩ : ∃ O : Nat → Prop, O = (fun k => wc.heap.size ≤ k ∧ k < wA.heap.size) := ⟨_, rfl⟩
      have K9 := Aside0.mk (show BK w p S O g8 x A3 c3 A5 c5 g10 y B3 d3 B5 d5 wA from by
        have b79 := below_step B9.out BA.out
        have hx1 := VW_kO V7.out (⟨b79.size, fun k hk => b79.block k hk.2⟩ : kO _ W7 wA)
        have hy1 := VW_kO V9.out (⟨BA.out.size, fun k hk => BA.out.block k hk.2⟩ : kO _ W9 wA)
        have bA := below_step B7.out b79
        refine ⟨JA_mono (JA_deep HJ.out bA) (fun k hk => .inr (by rw [hO] at hk; exact hk)), VW_mono hx1 (fun k hk => by rw [hO]; exact ⟨hk.1, Nat.lt_of_lt_of_le hk.2 b79.size⟩), VW_mono hy1 (fun k hk => by rw [hO]; exact ⟨Nat.le_trans B7.out.size hk.1, Nat.lt_of_lt_of_le hk.2 BA.out.size⟩)⟩)
      obtain ⟨gA, hgA⟩ : ∃ gA, AK = some ⟨gA, 0, none⟩ := by
        obtain ⟨gk, ck, ek, _⟩ := Kd.R_form RK.out (by have := NM.out; cases l with | nil => cases this | cons a b => simp)
        injection ek with ek e2 e3
        exact ⟨gk, ek⟩
      subst hgA
      have OG := Aside0.mk (show O gA from by rw [hO]; obtain ⟨cc, hcc⟩ := Kd.R_typed RK.out gA rfl; have h1 := Kd.R_base RK.out gA rfl; exact ⟨Nat.le_trans (below_step B7.out B9.out).size h1, blk_lt hcc⟩)
      have XC := Aside0.mk (show ∀ i : Nat, (i : Int) < (m : Int) → wA.cell? ⟨gA, i, none⟩ = some (.int .i64 (rdOf (0 : Int) l (i : Int))) from fun i hi => by have h1 := (Kd.R_celln (0 : Int) RK.out (i : Int) (by omega) hi).1; rw [Int.toNat_natCast] at h1; exact h1)
      clear hO V7 V9 HJ
      go_upto_block 2 with (fail)
      go_cut [12] from 12 to 81 (fun v12 wB => ∃ a : Nat, v12 = .int .i64 (a : Int) ∧ a < m ∧ Aside0 (l[a]? = some (n : Int)) ∧ wB = wA)
      case first =>
        go_wp2
        go_loopw [12] (fun v12 wr => ∃ a : Nat, v12 = .int .i64 (a : Int) ∧ a ≤ m ∧ Aside0 (∀ b, b < a → l[b]? ≠ some (n : Int)) ∧ wr = wA) (fun v12 _ => m - (intOf v12).toNat)
        case atStart => exact ⟨0, rfl, Nat.zero_le _, ⟨fun b hb => by omega⟩, rfl⟩
        case round =>
          obtain ⟨a, rfl, ha, HB, rfl⟩ := hrel
          by_cases d : a < m
          · have d1 : (a : Int) < (m : Int) := by omega
            have db : decide (a < m) = true := decide_eq_true d
            have DD := Aside0.mk d
            have xa := XC.out a d1
            have hal : a < l.length := by rw [← HM.out]; exact d
            have EL := Aside0.mk (show l[a]? = some (rdOf (0 : Int) l (a : Int)) by rw [rdOf_at hal, List.getElem?_eq_getElem hal])
            obtain ⟨v, hv⟩ : ∃ v, v = rdOf (0 : Int) l (a : Int) := ⟨_, rfl⟩
            rw [← hv] at xa EL
            clear hv hal d
            by_cases e : v = (n : Int)
            · subst e
              go_wp2
              go_meet
              case rel => exact ⟨a, rfl, DD.out, EL, rfl⟩
            · have eb : (v != (n : Int)) = true := by simp [e]
              have NB := Aside0.mk (show ∀ b, b < a + 1 → l[b]? ≠ some (n : Int) from fun b hb => by
                by_cases q1 : b = a
                · subst q1; rw [EL.out]; intro q2; exact e (Option.some.inj q2)
                · exact HB.out b (by omega))
              clear e
              go_wp2
              go_roundw
              case rel => exact ⟨a + 1, by go_num, DD.out, NB, by first | rfl | trivial⟩
              case measure => have := DD.out; simp [intOf]; omega
          · exfalso
            obtain ⟨b, hb, e⟩ := List.getElem_of_mem NM.out
            exact HB.out b (by have := HM.out; omega) (by rw [List.getElem?_eq_getElem hb, e])
      case rest =>
        obtain ⟨a, rfl, ha, HA, rfl⟩ := hcut
        have a1b : ((a : Int) == (m : Int)) = false := by simp; omega
        have AP := Aside0.mk (show (kiS S q)[a]? = some (n : Int) by rw [← HLK.out]; exact HA.out)
        have F1 := Aside0.mk (FoS_out HF.out NL.out)
        have L1 := Aside0.mk (show (outS S n).length ≤ 2000 by rw [len_outS]; have := HN.out; omega)
        have N0 := Aside0.mk (Fo_c0 HF.out PQ.out)
        obtain ⟨b, hb⟩ : ∃ b, b = a + 1 := ⟨_, rfl⟩
        have wb : wrap64 ((a : Int) + 1) = (b : Int) := by unfold wrap64; omega
        have AB := Aside0.mk hb
        have AM := Aside0.mk ha
        clear hb ha
        go_upto_region 23 with (go_at_call 39; refine (J_Remove K9.out.ja HF.out (by have := HN.out; omega) (n : Int) (outS S n) 0 (back_re NL.out PQ.out)).mono ?_; rintro e wB ⟨rfl, hJ, hk⟩; have KX := Aside0.mk (BK_act K9.out hJ hk); have RX := Aside0.mk (Kd.R_move (Kd.R_tight rfl RK.out) (fun k hkk => hk.2 k (by have hkk : some k = some gA := hkk; injection hkk with hkk; rw [hkk]; exact OG.out))); clear hJ hk K9 XC)
        go_upto_if 93 with (fail)
        go_cut [14] from 14 to 105 (fun v14 wD => v14 = .int .i64 0 ∧ Aside0 (BK w p S O g8 x A3 c3 A5 c5 g10 y B3 d3 B5 d5 wD))
        case first =>
          by_cases d : b < m
          · have d1 : (b : Int) < (m : Int) := by omega
            have db : decide ((b : Int) < (m : Int)) = true := decide_eq_true d1
            have db2 : decide (b < m) = true := decide_eq_true d
            have hbl : b < l.length := by rw [← HM.out]; exact d
            have xb := (Kd.R_celln (0 : Int) RX.out (b : Int) (by omega) d1).1
            rw [Int.toNat_natCast] at xb
            have ER := Aside0.mk (show (kiS S q)[a + 1]? = some (rdOf (0 : Int) l (b : Int)) by rw [← HLK.out, ← AB.out, rdOf_at hbl, List.getElem?_eq_getElem hbl])
            obtain ⟨v, hv⟩ : ∃ v, v = rdOf (0 : Int) l (b : Int) := ⟨_, rfl⟩
            rw [← hv] at xb ER
            clear hv hbl d
            go_wp2_with (go_at_call 41; refine (J_Before KX.out.ja F1.out L1.out v (n : Int) S 0 (back_be HF.out NL.out PQ.out QL.out a AP.out v ER.out)).mono ?_; rintro e wD ⟨rfl, hJ, hk⟩; have KD := Aside0.mk (BK_act KX.out hJ hk); clear hJ hk KX RX)
            go_meet
            case rel => exact ⟨rfl, KD⟩
          · have d1 : ¬ (b : Int) < (m : Int) := by omega
            have db : decide ((b : Int) < (m : Int)) = false := decide_eq_false d1
            have db2 : decide (b < m) = false := decide_eq_false d
            have EL := Aside0.mk (show a + 1 = (kiS S q).length by rw [← HLK.out, ← HM.out]; have h1 := AB.out; have h2 := AM.out; omega)
            clear d
            go_wp2_with (go_at_call 32; refine (J_Append KX.out.ja F1.out L1.out (q : Int) (n : Int) S 0 (back_ap HF.out HH.out NL.out PQ.out QL.out a AP.out EL.out)).mono ?_; rintro e wD ⟨rfl, hJ, hk⟩; have KD := Aside0.mk (BK_act KX.out hJ hk); clear hJ hk KX RX)
            go_meet
            case rel => exact ⟨rfl, KD⟩
        case rest =>
          obtain ⟨rfl, KD⟩ := hcut
          clear KX RX wb a1b
          go_upto_region 27 with (go_at_call 32; refine (J_Append KD.out.ja HF.out (by have := HN.out; omega) (n : Int) 0 S 1 (back_0 HF.out NL.out)).mono ?_; rintro e wE ⟨rfl, hJ, hk⟩; have KA := Aside0.mk (BK_act KD.out hJ hk); clear hJ hk KD)
          refine start_ (n := 34) (S := fun w' => w'.cell? ⟨g8, 0, none⟩ = some (.int .i64 x.f0) ∧ w'.cell? ⟨g8, 1, none⟩ = some (.int .i64 x.f1) ∧ w'.cell? ⟨g8, 2, none⟩ = some (.string x.f2) ∧ w'.cell? ⟨g8, 3, none⟩ = some (.slice A3 x.f3.length c3) ∧ w'.cell? ⟨g8, 4, none⟩ = some (.string x.f4) ∧ w'.cell? ⟨g8, 5, none⟩ = some (.slice A5 x.f5.length c5) ∧ w'.cell? ⟨g10, 0, none⟩ = some (.int .i64 y.f0) ∧ w'.cell? ⟨g10, 1, none⟩ = some (.int .i64 y.f1) ∧ w'.cell? ⟨g10, 2, none⟩ = some (.string y.f2) ∧ w'.cell? ⟨g10, 3, none⟩ = some (.slice B3 y.f3.length d3) ∧ w'.cell? ⟨g10, 4, none⟩ = some (.string y.f4) ∧ w'.cell? ⟨g10, 5, none⟩ = some (.slice B5 y.f5.length d5)) (ds := []) #[false, false, false, false, false, false, false, false, false, false, false, false, false, false, false, false, false, false, false, false, false, false, false, false, false, false, false, false, false, false, false, false, false, false] (by kernel_rfl) rfl rfl ⟨(BK_x (BK_below KA.out (below_drew (Below.refl _ _)))).1, (BK_x (BK_below KA.out (below_drew (Below.refl _ _)))).2.1, (BK_x (BK_below KA.out (below_drew (Below.refl _ _)))).2.2.1, (BK_x (BK_below KA.out (below_drew (Below.refl _ _)))).2.2.2.1, (BK_x (BK_below KA.out (below_drew (Below.refl _ _)))).2.2.2.2.1, (BK_x (BK_below KA.out (below_drew (Below.refl _ _)))).2.2.2.2.2, (BK_y (BK_below KA.out (below_drew (Below.refl _ _)))).1, (BK_y (BK_below KA.out (below_drew (Below.refl _ _)))).2.1, (BK_y (BK_below KA.out (below_drew (Below.refl _ _)))).2.2.1, (BK_y (BK_below KA.out (below_drew (Below.refl _ _)))).2.2.2.1, (BK_y (BK_below KA.out (below_drew (Below.refl _ _)))).2.2.2.2.1, (BK_y (BK_below KA.out (below_drew (Below.refl _ _)))).2.2.2.2.2⟩ (fun hHeld => ?_)
          refine one_ (i := 0) (N := some 109) #[true, false, false, false, false, false, false, false, false, false, false, false, false, false, false, false, false, false, false, false, false, false, false, false, false, false, false, false, false, false, false, false, false, false] rfl rfl (by kernel_rfl) (by decide) (fun K hK => ?_)
          refine goes_ Try.func27 (by kernel_rfl) rfl #[] (by rfl) rfl rfl (by simp only [List.map_toArray, List.map_cons, List.map_nil]) ?_
          with_reducible refine (arena_alive _).mono ?_
          rintro e w21 ⟨rfl, hb⟩
          refine ⟨_, rfl, ?_⟩
          have KB := Aside0.mk (BK_below (BK_below KA.out (below_drew (Below.refl _ _))) hb)
          clear hb
          refine hK.out _ _ ⟨(BK_x KB.out).1, (BK_x KB.out).2.1, (BK_x KB.out).2.2.1, (BK_x KB.out).2.2.2.1, (BK_x KB.out).2.2.2.2.1, (BK_x KB.out).2.2.2.2.2, (BK_y KB.out).1, (BK_y KB.out).2.1, (BK_y KB.out).2.2.1, (BK_y KB.out).2.2.2.1, (BK_y KB.out).2.2.2.2.1, (BK_y KB.out).2.2.2.2.2⟩ (fun hHeld => ?_)
          clear hK K
          refine norm_ (a' := ?_) ?_ ?_
          rotate_left
          · show Act.put _ (some 109) _ = _
            simp only [Act.put, List.setIfInBounds_toArray, List.set_cons_zero, List.set_cons_succ, i64_w, i32_w]
            rfl
          refine pure_ (i := 1) (N := some 110) (v := ?_) (a' := ?_) #[true, true, false, false, false, false, false, false, false, false, false, false, false, false, false, false, false, false, false, false, false, false, false, false, false, false, false, false, false, false, false, false, false, false] rfl rfl (by kernel_rfl) (fun _ _ _ h => h) (Or.inl ⟨by rfl, ?_⟩) ?_ ?_
          rotate_left
          · intro w'
            go_simp
            with_reducible rfl
          rotate_left
          · simp only [Act.put, List.setIfInBounds_toArray, List.set_cons_zero, List.set_cons_succ, i64_w, i32_w]
            rfl
          refine pure_ (i := 2) (N := some 111) (v := ?_) (a' := ?_) #[true, true, true, false, false, false, false, false, false, false, false, false, false, false, false, false, false, false, false, false, false, false, false, false, false, false, false, false, false, false, false, false, false, false] rfl rfl (by kernel_rfl) (fun _ _ _ h => h) (Or.inl ⟨by rfl, ?_⟩) ?_ ?_
          rotate_left
          · intro w'
            go_simp
            with_reducible rfl
          rotate_left
          · simp only [Act.put, List.setIfInBounds_toArray, List.set_cons_zero, List.set_cons_succ, i64_w, i32_w]
            rfl
          refine pure_ (i := 3) (N := some 112) (v := ?_) (a' := ?_) #[true, true, true, true, false, false, false, false, false, false, false, false, false, false, false, false, false, false, false, false, false, false, false, false, false, false, false, false, false, false, false, false, false, false] rfl rfl (by kernel_rfl) (fun _ _ _ h => h) (Or.inl ⟨by rfl, ?_⟩) ?_ ?_
          rotate_left
          · intro w'
            go_simp
            with_reducible rfl
          rotate_left
          · simp only [Act.put, List.setIfInBounds_toArray, List.set_cons_zero, List.set_cons_succ, i64_w, i32_w]
            rfl
          refine pure_ (i := 4) (N := some 113) (v := ?_) (a' := ?_) #[true, true, true, true, true, false, false, false, false, false, false, false, false, false, false, false, false, false, false, false, false, false, false, false, false, false, false, false, false, false, false, false, false, false] rfl rfl (by kernel_rfl) (fun _ _ _ h => h) (Or.inl ⟨by rfl, ?_⟩) ?_ ?_
          rotate_left
          · intro w'
            go_simp
            with_reducible rfl
          rotate_left
          · simp only [Act.put, List.setIfInBounds_toArray, List.set_cons_zero, List.set_cons_succ, i64_w, i32_w]
            rfl
          refine pure_ (i := 5) (N := some 114) (v := ?_) (a' := ?_) #[true, true, true, true, true, true, false, false, false, false, false, false, false, false, false, false, false, false, false, false, false, false, false, false, false, false, false, false, false, false, false, false, false, false] rfl rfl (by kernel_rfl) (fun _ _ _ h => h) (Or.inl ⟨by rfl, ?_⟩) ?_ ?_
          rotate_left
          · intro w'
            go_simp
            with_reducible rfl
          rotate_left
          · simp only [Act.put, List.setIfInBounds_toArray, List.set_cons_zero, List.set_cons_succ, i64_w, i32_w]
            rfl
          refine pure_ (i := 6) (N := some 115) (v := ?_) (a' := ?_) #[true, true, true, true, true, true, true, false, false, false, false, false, false, false, false, false, false, false, false, false, false, false, false, false, false, false, false, false, false, false, false, false, false, false] rfl rfl (by kernel_rfl) (fun _ _ _ h => h) (Or.inl ⟨by rfl, ?_⟩) ?_ ?_
          rotate_left
          · intro w'
            go_simp
            with_reducible rfl
          rotate_left
          · simp only [Act.put, List.setIfInBounds_toArray, List.set_cons_zero, List.set_cons_succ, i64_w, i32_w]
            rfl
          refine pure_ (i := 7) (N := some 116) (v := ?_) (a' := ?_) #[true, true, true, true, true, true, true, true, false, false, false, false, false, false, false, false, false, false, false, false, false, false, false, false, false, false, false, false, false, false, false, false, false, false] rfl rfl (by kernel_rfl) (fun _ _ _ h => h) (Or.inl ⟨by rfl, ?_⟩) ?_ ?_
          rotate_left
          · intro w'
            go_simp
            with_reducible rfl
          rotate_left
          · simp only [Act.put, List.setIfInBounds_toArray, List.set_cons_zero, List.set_cons_succ, i64_w, i32_w]
            rfl
          refine pure_ (i := 8) (N := some 117) (v := ?_) (a' := ?_) #[true, true, true, true, true, true, true, true, true, false, false, false, false, false, false, false, false, false, false, false, false, false, false, false, false, false, false, false, false, false, false, false, false, false] rfl rfl (by kernel_rfl) (fun _ _ _ h => h) (Or.inl ⟨by rfl, ?_⟩) ?_ ?_
          rotate_left
          · intro w'
            go_simp
            with_reducible rfl
          rotate_left
          · simp only [Act.put, List.setIfInBounds_toArray, List.set_cons_zero, List.set_cons_succ, i64_w, i32_w]
            rfl
          refine pure_ (i := 9) (N := some 118) (v := ?_) (a' := ?_) #[true, true, true, true, true, true, true, true, true, true, false, false, false, false, false, false, false, false, false, false, false, false, false, false, false, false, false, false, false, false, false, false, false, false] rfl rfl (by kernel_rfl) (fun _ _ _ h => h) (Or.inl ⟨by rfl, ?_⟩) ?_ ?_
          rotate_left
          · intro w'
            go_simp
            with_reducible rfl
          rotate_left
          · simp only [Act.put, List.setIfInBounds_toArray, List.set_cons_zero, List.set_cons_succ, i64_w, i32_w]
            rfl
          refine pure_ (i := 10) (N := some 119) (v := ?_) (a' := ?_) #[true, true, true, true, true, true, true, true, true, true, true, false, false, false, false, false, false, false, false, false, false, false, false, false, false, false, false, false, false, false, false, false, false, false] rfl rfl (by kernel_rfl) (fun _ _ _ h => h) (Or.inl ⟨by rfl, ?_⟩) ?_ ?_
          rotate_left
          · intro w'
            go_simp
            with_reducible rfl
          rotate_left
          · simp only [Act.put, List.setIfInBounds_toArray, List.set_cons_zero, List.set_cons_succ, i64_w, i32_w]
            rfl
          refine pure_ (i := 11) (N := some 120) (v := ?_) (a' := ?_) #[true, true, true, true, true, true, true, true, true, true, true, true, false, false, false, false, false, false, false, false, false, false, false, false, false, false, false, false, false, false, false, false, false, false] rfl rfl (by kernel_rfl) (fun _ _ _ h => h) (Or.inl ⟨by rfl, ?_⟩) ?_ ?_
          rotate_left
          · intro w'
            go_simp
            with_reducible rfl
          rotate_left
          · simp only [Act.put, List.setIfInBounds_toArray, List.set_cons_zero, List.set_cons_succ, i64_w, i32_w]
            rfl
          refine pure_ (i := 12) (N := some 121) (v := ?_) (a' := ?_) #[true, true, true, true, true, true, true, true, true, true, true, true, true, false, false, false, false, false, false, false, false, false, false, false, false, false, false, false, false, false, false, false, false, false] rfl rfl (by kernel_rfl) (fun _ _ _ h => h) (Or.inl ⟨by rfl, ?_⟩) ?_ ?_
          rotate_left
          · intro w'
            go_simp
            with_reducible rfl
          rotate_left
          · simp only [Act.put, List.setIfInBounds_toArray, List.set_cons_zero, List.set_cons_succ, i64_w, i32_w]
            rfl
          refine pure_ (i := 13) (N := some 122) (v := ?_) (a' := ?_) #[true, true, true, true, true, true, true, true, true, true, true, true, true, true, false, false, false, false, false, false, false, false, false, false, false, false, false, false, false, false, false, false, false, false] rfl rfl (by kernel_rfl) (fun _ _ _ h => h) (Or.inl ⟨by rfl, ?_⟩) ?_ ?_
          rotate_left
          · intro w'
            go_simp
            with_reducible rfl
          rotate_left
          · simp only [Act.put, List.setIfInBounds_toArray, List.set_cons_zero, List.set_cons_succ, i64_w, i32_w]
            rfl
          refine pure_ (i := 14) (N := some 123) (v := ?_) (a' := ?_) #[true, true, true, true, true, true, true, true, true, true, true, true, true, true, true, false, false, false, false, false, false, false, false, false, false, false, false, false, false, false, false, false, false, false] rfl rfl (by kernel_rfl) (fun _ _ _ h => h) (Or.inl ⟨by rfl, ?_⟩) ?_ ?_
          rotate_left
          · intro w'
            go_simp
            with_reducible rfl
          rotate_left
          · simp only [Act.put, List.setIfInBounds_toArray, List.set_cons_zero, List.set_cons_succ, i64_w, i32_w]
            rfl
          refine pure_ (i := 15) (N := some 124) (v := ?_) (a' := ?_) #[true, true, true, true, true, true, true, true, true, true, true, true, true, true, true, true, false, false, false, false, false, false, false, false, false, false, false, false, false, false, false, false, false, false] rfl rfl (by kernel_rfl) (fun _ _ _ h => h) (Or.inl ⟨by rfl, ?_⟩) ?_ ?_
          rotate_left
          · intro w'
            go_simp
            with_reducible rfl
          rotate_left
          · simp only [Act.put, List.setIfInBounds_toArray, List.set_cons_zero, List.set_cons_succ, i64_w, i32_w]
            rfl
          refine take_ (i := 17) (N := some 126) (v := ?_) (a' := ?_) #[true, true, true, true, true, true, true, true, true, true, true, true, true, true, true, true, false, true, false, false, false, false, false, false, false, false, false, false, false, false, false, false, false, false] rfl rfl (by kernel_rfl) (fun _ _ _ h => h) (Or.inl ⟨by rfl, ?_⟩) hHeld ?_ ?_
          rotate_left
          · rintro w' ⟨s0, s1, s2, s3, s4, s5, s6, s7, s8, s9, s10, s11⟩
            go_simp
            with_reducible rfl
          rotate_left
          · simp only [Act.put, List.setIfInBounds_toArray, List.set_cons_zero, List.set_cons_succ, i64_w, i32_w]
            rfl
          refine one_ (i := 16) (N := some 125) #[true, true, true, true, true, true, true, true, true, true, true, true, true, true, true, true, true, true, false, false, false, false, false, false, false, false, false, false, false, false, false, false, false, false] rfl rfl (by kernel_rfl) (by decide) (fun K hK => ?_)
          refine goes_ Try.func38 (by kernel_rfl) rfl #[.pointer (some ⟨p, 0, none⟩), .int .i64 (q : Int)] (by rfl) rfl rfl (by simp only [List.map_toArray, List.map_cons, List.map_nil]; rfl) ?_
          with_reducible refine (J_ValueX KB.out.ja HF.out (by have := HN.out; omega) HAT.out (q : Int) HY.out).mono ?_
          rintro e w22 ⟨P3, p3, P5, p5, rfl, hK, hb⟩
          refine ⟨_, rfl, ?_⟩
          have KC := Aside0.mk (BK_below KB.out hb)
          have KKC := Aside0.mk hK
          clear hK hb
          refine hK.out _ _ ⟨(BK_x KC.out).1, (BK_x KC.out).2.1, (BK_x KC.out).2.2.1, (BK_x KC.out).2.2.2.1, (BK_x KC.out).2.2.2.2.1, (BK_x KC.out).2.2.2.2.2, (BK_y KC.out).1, (BK_y KC.out).2.1, (BK_y KC.out).2.2.1, (BK_y KC.out).2.2.2.1, (BK_y KC.out).2.2.2.2.1, (BK_y KC.out).2.2.2.2.2⟩ (fun hHeld => ?_)
          clear hK K
          refine norm_ (a' := ?_) ?_ ?_
          rotate_left
          · show Act.put _ (some 125) _ = _
            simp only [Act.put, List.setIfInBounds_toArray, List.set_cons_zero, List.set_cons_succ, i64_w, i32_w]
            rfl
          refine one_ (i := 18) (N := some 127) #[true, true, true, true, true, true, true, true, true, true, true, true, true, true, true, true, true, true, true, false, false, false, false, false, false, false, false, false, false, false, false, false, false, false] rfl rfl (by kernel_rfl) (by decide) (fun K hK => ?_)
          refine goes_ Try.func40 (by kernel_rfl) rfl #[.agg #[.int .i64 y.f0, .int .i64 y.f1, .string y.f2, .slice P3 y.f3.length p3, .string y.f4, .slice P5 y.f5.length p5], .agg #[.int .i64 y.f0, .int .i64 y.f1, .string y.f2, .slice B3 y.f3.length d3, .string y.f4, .slice B5 y.f5.length d5]] (by rfl) rfl rfl (by simp only [List.map_toArray, List.map_cons, List.map_nil]; rfl) ?_
          with_reducible refine (same_y KC.out KKC.out).mono ?_
          rintro e w23 ⟨rfl, hb⟩
          refine ⟨_, rfl, ?_⟩
          have KD := Aside0.mk (BK_below KC.out hb)
          clear hb
          refine hK.out _ _ ⟨(BK_x KD.out).1, (BK_x KD.out).2.1, (BK_x KD.out).2.2.1, (BK_x KD.out).2.2.2.1, (BK_x KD.out).2.2.2.2.1, (BK_x KD.out).2.2.2.2.2, (BK_y KD.out).1, (BK_y KD.out).2.1, (BK_y KD.out).2.2.1, (BK_y KD.out).2.2.2.1, (BK_y KD.out).2.2.2.2.1, (BK_y KD.out).2.2.2.2.2⟩ (fun hHeld => ?_)
          clear hK K
          refine norm_ (a' := ?_) ?_ ?_
          rotate_left
          · show Act.put _ (some 127) _ = _
            simp only [Act.put, List.setIfInBounds_toArray, List.set_cons_zero, List.set_cons_succ, i64_w, i32_w]
            rfl
          refine pure_ (i := 19) (N := some 128) (v := ?_) (a' := ?_) #[true, true, true, true, true, true, true, true, true, true, true, true, true, true, true, true, true, true, true, true, false, false, false, false, false, false, false, false, false, false, false, false, false, false] rfl rfl (by kernel_rfl) (fun _ _ _ h => h) (Or.inl ⟨by rfl, ?_⟩) ?_ ?_
          rotate_left
          · intro w'
            go_simp
            with_reducible rfl
          rotate_left
          · simp only [Act.put, List.setIfInBounds_toArray, List.set_cons_zero, List.set_cons_succ, i64_w, i32_w]
            rfl
          refine pure_ (i := 20) (N := some 129) (v := ?_) (a' := ?_) #[true, true, true, true, true, true, true, true, true, true, true, true, true, true, true, true, true, true, true, true, true, false, false, false, false, false, false, false, false, false, false, false, false, false] rfl rfl (by kernel_rfl) (fun _ _ _ h => h) (Or.inl ⟨by rfl, ?_⟩) ?_ ?_
          rotate_left
          · intro w'
            go_simp
            with_reducible rfl
          rotate_left
          · simp only [Act.put, List.setIfInBounds_toArray, List.set_cons_zero, List.set_cons_succ, i64_w, i32_w]
            rfl
          refine pure_ (i := 21) (N := some 130) (v := ?_) (a' := ?_) #[true, true, true, true, true, true, true, true, true, true, true, true, true, true, true, true, true, true, true, true, true, true, false, false, false, false, false, false, false, false, false, false, false, false] rfl rfl (by kernel_rfl) (fun _ _ _ h => h) (Or.inl ⟨by rfl, ?_⟩) ?_ ?_
          rotate_left
          · intro w'
            go_simp
            with_reducible rfl
          rotate_left
          · simp only [Act.put, List.setIfInBounds_toArray, List.set_cons_zero, List.set_cons_succ, i64_w, i32_w]
            rfl
          refine take_ (i := 23) (N := some 132) (v := ?_) (a' := ?_) #[true, true, true, true, true, true, true, true, true, true, true, true, true, true, true, true, true, true, true, true, true, true, false, true, false, false, false, false, false, false, false, false, false, false] rfl rfl (by kernel_rfl) (fun _ _ _ h => h) (Or.inl ⟨by rfl, ?_⟩) hHeld ?_ ?_
          rotate_left
          · rintro w' ⟨s0, s1, s2, s3, s4, s5, s6, s7, s8, s9, s10, s11⟩
            go_simp
            with_reducible rfl
          rotate_left
          · simp only [Act.put, List.setIfInBounds_toArray, List.set_cons_zero, List.set_cons_succ, i64_w, i32_w]
            rfl
          refine one_ (i := 22) (N := some 131) #[true, true, true, true, true, true, true, true, true, true, true, true, true, true, true, true, true, true, true, true, true, true, true, true, false, false, false, false, false, false, false, false, false, false] rfl rfl (by kernel_rfl) (by decide) (fun K hK => ?_)
          refine goes_ Try.func38 (by kernel_rfl) rfl #[.pointer (some ⟨p, 0, none⟩), .int .i64 0] (by rfl) rfl rfl (by simp only [List.map_toArray, List.map_cons, List.map_nil]; rfl) ?_
          with_reducible refine (J_ValueX KD.out.ja HF.out (by have := HN.out; omega) HAT.out 0 HX.out).mono ?_
          rintro e w24 ⟨Q3, q3, Q5, q5, rfl, hK, hb⟩
          refine ⟨_, rfl, ?_⟩
          have KE := Aside0.mk (BK_below KD.out hb)
          have KKE := Aside0.mk hK
          clear hK hb
          refine hK.out _ _ ⟨(BK_x KE.out).1, (BK_x KE.out).2.1, (BK_x KE.out).2.2.1, (BK_x KE.out).2.2.2.1, (BK_x KE.out).2.2.2.2.1, (BK_x KE.out).2.2.2.2.2, (BK_y KE.out).1, (BK_y KE.out).2.1, (BK_y KE.out).2.2.1, (BK_y KE.out).2.2.2.1, (BK_y KE.out).2.2.2.2.1, (BK_y KE.out).2.2.2.2.2⟩ (fun hHeld => ?_)
          clear hK K
          refine norm_ (a' := ?_) ?_ ?_
          rotate_left
          · show Act.put _ (some 131) _ = _
            simp only [Act.put, List.setIfInBounds_toArray, List.set_cons_zero, List.set_cons_succ, i64_w, i32_w]
            rfl
          refine one_ (i := 24) (N := some 133) #[true, true, true, true, true, true, true, true, true, true, true, true, true, true, true, true, true, true, true, true, true, true, true, true, true, false, false, false, false, false, false, false, false, false] rfl rfl (by kernel_rfl) (by decide) (fun K hK => ?_)
          refine goes_ Try.func40 (by kernel_rfl) rfl #[.agg #[.int .i64 x.f0, .int .i64 x.f1, .string x.f2, .slice Q3 x.f3.length q3, .string x.f4, .slice Q5 x.f5.length q5], .agg #[.int .i64 x.f0, .int .i64 x.f1, .string x.f2, .slice A3 x.f3.length c3, .string x.f4, .slice A5 x.f5.length c5]] (by rfl) rfl rfl (by simp only [List.map_toArray, List.map_cons, List.map_nil]; rfl) ?_
          with_reducible refine (same_x KE.out KKE.out).mono ?_
          rintro e w25 ⟨rfl, hb⟩
          refine ⟨_, rfl, ?_⟩
          have KF := Aside0.mk (BK_below KE.out hb)
          clear hb
          refine hK.out _ _ ⟨(BK_x KF.out).1, (BK_x KF.out).2.1, (BK_x KF.out).2.2.1, (BK_x KF.out).2.2.2.1, (BK_x KF.out).2.2.2.2.1, (BK_x KF.out).2.2.2.2.2, (BK_y KF.out).1, (BK_y KF.out).2.1, (BK_y KF.out).2.2.1, (BK_y KF.out).2.2.2.1, (BK_y KF.out).2.2.2.2.1, (BK_y KF.out).2.2.2.2.2⟩ (fun hHeld => ?_)
          clear hK K
          refine norm_ (a' := ?_) ?_ ?_
          rotate_left
          · show Act.put _ (some 133) _ = _
            simp only [Act.put, List.setIfInBounds_toArray, List.set_cons_zero, List.set_cons_succ, i64_w, i32_w]
            rfl
          refine pure_ (i := 25) (N := some 134) (v := ?_) (a' := ?_) #[true, true, true, true, true, true, true, true, true, true, true, true, true, true, true, true, true, true, true, true, true, true, true, true, true, true, false, false, false, false, false, false, false, false] rfl rfl (by kernel_rfl) (fun _ _ _ h => h) (Or.inl ⟨by rfl, ?_⟩) ?_ ?_
          rotate_left
          · intro w'
            go_simp
            with_reducible rfl
          rotate_left
          · simp only [Act.put, List.setIfInBounds_toArray, List.set_cons_zero, List.set_cons_succ, i64_w, i32_w]
            rfl
          refine pure_ (i := 26) (N := some 135) (v := ?_) (a' := ?_) #[true, true, true, true, true, true, true, true, true, true, true, true, true, true, true, true, true, true, true, true, true, true, true, true, true, true, true, false, false, false, false, false, false, false] rfl rfl (by kernel_rfl) (fun _ _ _ h => h) (Or.inl ⟨by rfl, ?_⟩) ?_ ?_
          rotate_left
          · intro w'
            go_simp
            with_reducible rfl
          rotate_left
          · simp only [Act.put, List.setIfInBounds_toArray, List.set_cons_zero, List.set_cons_succ, i64_w, i32_w]
            rfl
          refine pure_ (i := 27) (N := some 136) (v := ?_) (a' := ?_) #[true, true, true, true, true, true, true, true, true, true, true, true, true, true, true, true, true, true, true, true, true, true, true, true, true, true, true, true, false, false, false, false, false, false] rfl rfl (by kernel_rfl) (fun _ _ _ h => h) (Or.inl ⟨by rfl, ?_⟩) ?_ ?_
          rotate_left
          · intro w'
            go_simp
            with_reducible rfl
          rotate_left
          · simp only [Act.put, List.setIfInBounds_toArray, List.set_cons_zero, List.set_cons_succ, i64_w, i32_w]
            rfl
          refine pure_ (i := 28) (N := some 137) (v := ?_) (a' := ?_) #[true, true, true, true, true, true, true, true, true, true, true, true, true, true, true, true, true, true, true, true, true, true, true, true, true, true, true, true, true, false, false, false, false, false] rfl rfl (by kernel_rfl) (fun _ _ _ h => h) (Or.inl ⟨by rfl, ?_⟩) ?_ ?_
          rotate_left
          · intro w'
            go_simp
            with_reducible rfl
          rotate_left
          · simp only [Act.put, List.setIfInBounds_toArray, List.set_cons_zero, List.set_cons_succ, i64_w, i32_w]
            rfl
          refine pure_ (i := 30) (N := some 139) (v := ?_) (a' := ?_) #[true, true, true, true, true, true, true, true, true, true, true, true, true, true, true, true, true, true, true, true, true, true, true, true, true, true, true, true, true, false, true, false, false, false] rfl rfl (by kernel_rfl) (fun _ _ _ h => h) (Or.inl ⟨by rfl, ?_⟩) ?_ ?_
          rotate_left
          · intro w'
            go_simp
            with_reducible rfl
          rotate_left
          · simp only [Act.put, List.setIfInBounds_toArray, List.set_cons_zero, List.set_cons_succ, i64_w, i32_w]
            rfl
          refine one_ (i := 29) (N := some 138) #[true, true, true, true, true, true, true, true, true, true, true, true, true, true, true, true, true, true, true, true, true, true, true, true, true, true, true, true, true, true, true, false, false, false] rfl rfl (by kernel_rfl) (by decide) (fun K hK => ?_)
          refine goes_ Try.func37 (by kernel_rfl) rfl #[.pointer (some ⟨p, 0, none⟩), .int .i64 (n : Int)] (by rfl) rfl rfl (by simp only [List.map_toArray, List.map_cons, List.map_nil]; rfl) ?_
          with_reducible refine (J_Parent KF.out.ja (n : Int) (q : Int) HU.out).mono ?_
          rintro e w26 ⟨rfl, rfl⟩
          refine ⟨_, rfl, ?_⟩
          refine hK.out _ _ ⟨(BK_x KF.out).1, (BK_x KF.out).2.1, (BK_x KF.out).2.2.1, (BK_x KF.out).2.2.2.1, (BK_x KF.out).2.2.2.2.1, (BK_x KF.out).2.2.2.2.2, (BK_y KF.out).1, (BK_y KF.out).2.1, (BK_y KF.out).2.2.1, (BK_y KF.out).2.2.2.1, (BK_y KF.out).2.2.2.2.1, (BK_y KF.out).2.2.2.2.2⟩ (fun hHeld => ?_)
          clear hK K
          refine norm_ (a' := ?_) ?_ ?_
          rotate_left
          · show Act.put _ (some 138) _ = _
            simp only [Act.put, List.setIfInBounds_toArray, List.set_cons_zero, List.set_cons_succ, i64_w, i32_w]
            rfl
          refine pure_ (i := 31) (N := some 140) (v := ?_) (a' := ?_) #[true, true, true, true, true, true, true, true, true, true, true, true, true, true, true, true, true, true, true, true, true, true, true, true, true, true, true, true, true, true, true, true, false, false] rfl rfl (by kernel_rfl) (fun _ _ _ h => h) (Or.inl ⟨by rfl, ?_⟩) ?_ ?_
          rotate_left
          · intro w'
            go_simp
            with_reducible rfl
          rotate_left
          · simp only [Act.put, List.setIfInBounds_toArray, List.set_cons_zero, List.set_cons_succ, i64_w, i32_w]
            rfl
          refine pure_ (i := 32) (N := some 141) (v := ?_) (a' := ?_) #[true, true, true, true, true, true, true, true, true, true, true, true, true, true, true, true, true, true, true, true, true, true, true, true, true, true, true, true, true, true, true, true, true, false] rfl rfl (by kernel_rfl) (fun _ _ _ h => h) (Or.inl ⟨by rfl, ?_⟩) ?_ ?_
          rotate_left
          · intro w'
            go_simp
            with_reducible rfl
          rotate_left
          · simp only [Act.put, List.setIfInBounds_toArray, List.set_cons_zero, List.set_cons_succ, i64_w, i32_w]
            rfl
          refine pure_ (i := 33) (N := some 4) (v := ?_) (a' := ?_) #[true, true, true, true, true, true, true, true, true, true, true, true, true, true, true, true, true, true, true, true, true, true, true, true, true, true, true, true, true, true, true, true, true, true] rfl rfl (by kernel_rfl) (fun _ _ _ h => h) (Or.inl ⟨by rfl, ?_⟩) ?_ ?_
          rotate_left
          · intro w'
            go_simp
            with_reducible rfl
          rotate_left
          · simp only [Act.put, List.setIfInBounds_toArray, List.set_cons_zero, List.set_cons_succ, i64_w, i32_w]
            rfl
          refine done_ (by kernel_rfl) ?_
          go_wp2
          go_ret
          exact ⟨by first | rfl | simp, JA_below KF.out.ja⟩
def marginalialaw05_ArenaBack.f (l0 : List S54) (a1 : Int) : Option (Bool) := some true
theorem marginalialaw05_ArenaBack.calls (A0 : Option Addr) (c0 : Nat) (l0 : List S54) (a1 : Int) (r : Bool) (w : World) (hr0 : Kd.C k54 w A0 l0.length l0) (hc0 : l0.length ≤ c0) (h : marginalialaw05_ArenaBack.f l0 a1 = some r) :
    Calls Try.prog 10 #[.slice A0 l0.length c0, .int .i64 a1] w fun e w' => e = .returned (.bool r) ∧ Below w.heap.size w w' := by
  obtain rfl := Option.some.inj h
  exact law_Back A0 c0 l0 a1 w hr0

end Go.Proofs.Ytnkaidaflegnlaa.A
