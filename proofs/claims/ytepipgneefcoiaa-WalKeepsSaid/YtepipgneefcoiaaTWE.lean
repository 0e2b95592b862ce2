/- The functions of the program that these laws reach, each as a plain Lean function, and the proof that the machine's call comes to it; no condition beyond those that each theorem names. Made by wip/xprint.py. -/
import Derived.Test.YtepipgneefcoiaaTWD
import Derived.Test.YtepipgneefcoiaaMBack
import Derived.Lib.SlBytesConst
import Derived.Test.YtepipgneefcoiaaDx0
namespace Go.Proofs.Ytepipgneefcoiaa.D
open Go.RowKit Go.Proofs.YtepipgneefcoiaaW.PrintWords Go.Proofs.YtepipgneefcoiaaW.PrintLast Go.Proofs.YtepipgneefcoiaaW.PrintMore
attribute [local go_sem] max2_int min2_int max_two min_two max_three min_three max_four min_four
set_option linter.unusedVariables false
set_option linter.unusedSimpArgs false
/- What is safe, and pending, and there. -/
set_option maxRecDepth 8000 in
theorem sp8_get {L X : List Int} {o : Nat} (h : o + X.length ≤ L.length) (i : Nat) : (sp8 L o X)[i]? = if o ≤ i ∧ i < o + X.length then X[i - o]? else L[i]? := by
  unfold sp8
  by_cases c1 : i < o
  · rw [if_neg (by omega), List.append_assoc, List.getElem?_append_left (by rw [List.length_take]; omega), List.getElem?_take, if_pos c1]
  · by_cases c2 : i < o + X.length
    · rw [if_pos ⟨by omega, c2⟩, List.getElem?_append_left (by rw [List.length_append, List.length_take]; omega), List.getElem?_append_right (by rw [List.length_take]; omega), List.length_take, Nat.min_eq_left (by omega)]
    · rw [if_neg (by omega), List.getElem?_append_right (by rw [List.length_append, List.length_take]; omega), List.length_append, List.length_take, List.getElem?_drop]
      congr 1
      omega
def aps (P : List Pc) (F : List Int) : List Int := P.foldl (fun F x => sp8 F (x.bl.toNat * 256 + x.at_.toNat) x.b) F
set_option maxRecDepth 8000 in
theorem rdP_eq {P : List Pc} {j : Nat} (h : j < P.length) : P[j]? = some (rdP P j) := by
  unfold rdP
  rw [List.getD_eq_getElem?_getD, List.getElem?_eq_getElem h]; rfl
set_option maxRecDepth 8000 in
theorem keepF_aps (P : List Pc) (F : List Int) : ∀ j, j ≤ P.length → keepF (fun _ => true) P j F = aps (P.take j) F
  | 0, _ => rfl
  | j + 1, hj => by
    have e : P.take (j + 1) = P.take j ++ [rdP P j] := by rw [List.take_add_one, rdP_eq (by omega)]; rfl
    unfold keepF
    rw [if_pos rfl, keepF_aps P F j (by omega), e]
    unfold aps
    rw [List.foldl_append]
    rfl
set_option maxRecDepth 8000 in
theorem keepF_all (P : List Pc) (F : List Int) : keepF (fun _ => true) P P.length F = aps P F := by
  rw [keepF_aps P F _ (Nat.le_refl _), List.take_of_length_le (Nat.le_refl _)]
def inB (x : Pc) (i : Nat) : Prop := x.bl.toNat * 256 ≤ i ∧ i < x.bl.toNat * 256 + 256
set_option maxRecDepth 8000 in
theorem keepF_far {s : Dk} (h : s.Ok) (kept : Nat → Bool) (i : Nat) : ∀ j, j ≤ s.pend.length → (∀ k, k < j → ¬ inB (rdP s.pend k) i) → (keepF kept s.pend j s.safe)[i]? = s.safe[i]?
  | 0, _, _ => rfl
  | j + 1, hj, hk => by
    have ih := keepF_far h kept i j (by omega) (fun k hk' => hk k (by omega))
    obtain ⟨h1, h2, h3, h4, h5⟩ := h.pend _ (rdP_mem (show j < s.pend.length by omega))
    have hf : (rdP s.pend j).bl.toNat * 256 + (rdP s.pend j).at_.toNat + (rdP s.pend j).b.length ≤ (keepF kept s.pend j s.safe).length := by rw [keepF_len h kept j (by omega), h5, h.safe]; omega
    unfold keepF
    split
    · have := hk j (by omega)
      unfold inB at this
      rw [sp8_get hf, if_neg (by rw [h5]; omega), ih]
    · exact ih
set_option maxRecDepth 8000 in
theorem backF_get {s : Dk} (h : s.Ok) (F : List Int) (hF : F.length = s.safe.length) (i : Nat) : ∀ j, j ≤ s.pend.length → (backF F s.pend j s.now)[i]? = F[i]? ∨ ((∀ k, k < j → ¬ inB (rdP s.pend k) i) ∧ (backF F s.pend j s.now)[i]? = s.now[i]?)
  | 0, _ => .inr ⟨fun k hk => by omega, rfl⟩
  | j + 1, hj => by
    have ih := backF_get h F hF i j (by omega)
    obtain ⟨h1, h2, h3, h4, h5⟩ := h.pend _ (rdP_mem (show j < s.pend.length by omega))
    have hc : (cut8 F ((rdP s.pend j).bl.toNat * 256) 256).length = 256 := cut8_len (by rw [hF, h.safe]; omega)
    have hf : (rdP s.pend j).bl.toNat * 256 + (cut8 F ((rdP s.pend j).bl.toNat * 256) 256).length ≤ (backF F s.pend j s.now).length := by rw [backF_len h F hF j (by omega), hc, h.now]; omega
    unfold backF
    rw [sp8_get hf, hc]
    by_cases c : (rdP s.pend j).bl.toNat * 256 ≤ i ∧ i < (rdP s.pend j).bl.toNat * 256 + 256
    · rw [if_pos c, cut8_at (by omega)]
      refine .inl ?_
      congr 1
      omega
    · rw [if_neg c]
      rcases ih with ih | ⟨ih1, ih2⟩
      · exact .inl ih
      · refine .inr ⟨fun k hk => ?_, ih2⟩
        by_cases e : k = j
        · subst e; exact c
        · exact ih1 k (by omega)
def Nw (s : Dk) : Prop := s.Ok ∧ s.now = aps s.pend s.safe
set_option maxRecDepth 8000 in
theorem stl_eq {s : Dk} (h : Nw s) (kept : Nat → Bool) : stl kept s = {s with safe := keepF kept s.pend s.pend.length s.safe, now := keepF kept s.pend s.pend.length s.safe, pend := []} := by
  obtain ⟨h, hn⟩ := h
  unfold stl
  congr 1
  apply List.ext_getElem?
  intro i
  rcases backF_get h _ (keepF_len h kept _ (Nat.le_refl _)) i _ (Nat.le_refl _) with e | ⟨e1, e2⟩
  · exact e
  · rw [e2, keepF_far h kept i _ (Nat.le_refl _) e1, hn, ← keepF_all, keepF_far h _ i _ (Nat.le_refl _) e1]
set_option maxRecDepth 8000 in
theorem stl_Nw {s : Dk} (h : Nw s) (kept : Nat → Bool) : Nw (stl kept s) := by
  refine ⟨stl_ok h.1 kept, ?_⟩
  rw [stl_eq h]
  rfl
set_option maxRecDepth 8000 in
theorem Nw_set {s s' : Dk} (h : Nw s) (h1 : s'.now = s.now) (h2 : s'.safe = s.safe) (h3 : s'.pend = s.pend) (h4 : s'.nb = s.nb) : Nw s' := by
  refine ⟨⟨by rw [h4]; exact h.1.nb0, by rw [h4]; exact h.1.nb1, by rw [h1, h4]; exact h.1.now, by rw [h2, h4]; exact h.1.safe, by rw [h3, h4]; exact h.1.pend⟩, by rw [h1, h2, h3]; exact h.2⟩
set_option maxRecDepth 8000 in
theorem pwx_Nw {s : Dk} (h : Nw s) : Nw (pwx s).1 :=
  Nw_set h (pwx_keeps s).2.2.1 (pwx_keeps s).2.2.2 (pwx_keeps s).1 (pwx_keeps s).2.1
set_option maxRecDepth 8000 in
theorem pcs_aps {L b : List Int} {n : Nat} (hb : b.length = 256) (hL : n * 256 + 256 ≤ L.length) : aps (pcs (n : Int) b) L = sp8 L (n * 256) b := by
  have l0 : (cut8 b 0 64).length = 64 := cut8_len (by omega)
  have l1 : (cut8 b 64 64).length = 64 := cut8_len (by omega)
  have l2 : (cut8 b 128 64).length = 64 := cut8_len (by omega)
  have l3 : (cut8 b 192 64).length = 64 := cut8_len (by omega)
  show sp8 (sp8 (sp8 (sp8 L (n * 256 + 0) (cut8 b 0 64)) (n * 256 + 64) (cut8 b 64 64)) (n * 256 + 128) (cut8 b 128 64)) (n * 256 + 192) (cut8 b 192 64) = _
  have f0 : n * 256 + 0 + (cut8 b 0 64).length ≤ L.length := by omega
  have m0 := sp8_len f0
  obtain ⟨L0, hL0⟩ : ∃ L0, L0 = sp8 L (n * 256 + 0) (cut8 b 0 64) := ⟨_, rfl⟩
  have g0 := fun i => sp8_get f0 i
  rw [← hL0] at m0 g0 ⊢
  have f1 : n * 256 + 64 + (cut8 b 64 64).length ≤ L0.length := by omega
  have m1 := sp8_len f1
  obtain ⟨L1, hL1⟩ : ∃ L1, L1 = sp8 L0 (n * 256 + 64) (cut8 b 64 64) := ⟨_, rfl⟩
  have g1 := fun i => sp8_get f1 i
  rw [← hL1] at m1 g1 ⊢
  have f2 : n * 256 + 128 + (cut8 b 128 64).length ≤ L1.length := by omega
  have m2 := sp8_len f2
  obtain ⟨L2, hL2⟩ : ∃ L2, L2 = sp8 L1 (n * 256 + 128) (cut8 b 128 64) := ⟨_, rfl⟩
  have g2 := fun i => sp8_get f2 i
  rw [← hL2] at m2 g2 ⊢
  have f3 : n * 256 + 192 + (cut8 b 192 64).length ≤ L2.length := by omega
  have f4 : n * 256 + b.length ≤ L.length := by omega
  apply List.ext_getElem?
  intro i
  rw [sp8_get f3, sp8_get f4, g2, g1, g0, l0, l1, l2, l3, hb]
  by_cases c : n * 256 ≤ i ∧ i < n * 256 + 256
  · rw [if_pos c]
    split
    · rw [cut8_at (by omega)]; congr 1; omega
    split
    · rw [cut8_at (by omega)]; congr 1; omega
    split
    · rw [cut8_at (by omega)]; congr 1; omega
    split
    · rw [cut8_at (by omega)]; congr 1; omega
    · omega
  · rw [if_neg c, if_neg (by omega), if_neg (by omega), if_neg (by omega), if_neg (by omega)]
set_option maxRecDepth 8000 in
theorem aps_len {s : Dk} (h : s.Ok) : (aps s.pend s.safe).length = s.nb * 256 := by
  rw [← keepF_all, keepF_len h _ _ (Nat.le_refl _), h.safe]
set_option maxRecDepth 8000 in
theorem wrx_Nw {s : Dk} (h : Nw s) (i : Int) (b : List Int) : Nw (wrx s i b).1 := by
  unfold wrx
  split
  · rename_i c
    have hp := pwx_Nw h
    obtain ⟨n, rfl, hn⟩ := hasB_nat c.1
    have k1 := (pwx_keeps s).2.1
    split
    · obtain ⟨t, ht⟩ : ∃ t, t = (pwx s).1 := ⟨_, rfl⟩
      rw [← ht] at hp k1 ⊢
      have ok := hp.1
      have hnow : n * 256 + 256 ≤ t.now.length := by rw [ok.now]; omega
      have L : ∀ o, o + 64 ≤ 256 → (cut8 b o 64).length = 64 := fun o ho => cut8_len (by rw [c.2]; omega)
      refine ⟨⟨ok.nb0, ok.nb1, ?_, ok.safe, ?_⟩, ?_⟩
      · show (sp8 t.now ((n : Int).toNat * 256) b).length = _
        rw [Int.toNat_natCast, sp8_len (by rw [c.2]; omega)]
        exact ok.now
      · intro x hx
        have hx : x ∈ t.pend ++ pcs (n : Int) b := hx
        rw [List.mem_append] at hx
        rcases hx with hx | hx
        · exact ok.pend x hx
        · show 0 ≤ x.bl ∧ x.bl < (t.nb : Int) ∧ _
          have : x = ⟨n, 0, cut8 b 0 64⟩ ∨ x = ⟨n, 64, cut8 b 64 64⟩ ∨ x = ⟨n, 128, cut8 b 128 64⟩ ∨ x = ⟨n, 192, cut8 b 192 64⟩ := by simpa [pcs] using hx
          rcases this with e | e | e | e <;> subst e <;> dsimp only <;> exact ⟨by omega, by omega, by omega, by omega, L _ (by omega)⟩
      · show sp8 t.now ((n : Int).toNat * 256) b = aps (t.pend ++ pcs (n : Int) b) t.safe
        have : aps (t.pend ++ pcs (n : Int) b) t.safe = aps (pcs (n : Int) b) (aps t.pend t.safe) := by unfold aps; rw [List.foldl_append]
        rw [this, ← hp.2, pcs_aps c.2 hnow, Int.toNat_natCast]
    · exact hp
  · exact h
set_option maxRecDepth 8000 in
theorem flx_Nw {s : Dk} (h : Nw s) : Nw (flx s).1 := by
  unfold flx
  split
  · exact stl_Nw (pwx_Nw h) _
  · exact pwx_Nw h
set_option maxRecDepth 8000 in
theorem fzx_Nw {s : Dk} (h : Nw s) (k : Int) : Nw (fzx s k) := by
  unfold fzx
  split
  · exact h
  · exact Nw_set h rfl rfl rfl rfl
set_option maxRecDepth 8000 in
theorem crx_Nw {s : Dk} (h : Nw s) (k : List Bool) : Nw (crx s k) := Nw_set (stl_Nw h _) rfl rfl rfl rfl
set_option maxRecDepth 8000 in
theorem new_Nw (n : Nat) (h0 : 1 ≤ n) (h1 : n ≤ 4096) : Nw ⟨n, List.replicate (n * 256) 0, List.replicate (n * 256) 0, [], false, 0, false⟩ :=
  ⟨⟨h0, h1, List.length_replicate .., List.length_replicate .., fun x hx => by cases hx⟩, rfl⟩
/- A disk of noughts has no cells. -/
def zc6 : S106 := ⟨0, 0, 0, 0, []⟩
def new8 (n : Nat) : Dk := ⟨n, List.replicate (n * 256) 0, List.replicate (n * 256) 0, [], false, 0, false⟩
theorem decZ_nought : decZ (List.replicate 64 0) = zc6 := by
  unfold decZ
  rw [if_neg]
  · rfl
  · rintro ⟨_, _, h, _⟩
    exact absurd h (by decide)
theorem cut_nought {n o m : Nat} (h : o + m ≤ n) : cut8 (List.replicate n 0) o m = List.replicate m (0 : Int) := by
  simp [cut8]
  omega
theorem sec_nought {n o m : Nat} (h : (o + m) * 64 ≤ n) : (secL (List.replicate n 0) o m).map decZ = List.replicate m zc6 := by
  refine List.ext_getElem (by simp [secL]) (fun i h1 h2 => ?_)
  have hi : i < m := by simpa using h2
  simp only [secL, List.getElem_map, List.getElem_range, List.getElem_replicate]
  rw [cut_nought (by omega), decZ_nought]
theorem lmax_z (m : Nat) : lmax (List.replicate m zc6) = 0 := by
  unfold lmax
  induction m with
  | zero => rfl
  | succ m ih => rw [List.replicate_succ, List.foldl_cons]; exact ih
theorem rec1_z (m : Nat) (ep : Int) : rec1 (List.replicate m zc6) ep = none := by
  unfold rec1
  cases m with
  | zero => rfl
  | succ m => rw [if_neg (by simp), if_pos (show (rd_T106 (List.replicate (m + 1) zc6) 0).f3 = 0 from rfl)]
theorem prs_z (k m : Nat) (ep least : Int) : prs ep k (List.replicate m zc6) least = ([], 0) := by
  cases k with
  | zero => rfl
  | succ k => unfold prs; rw [rec1_z]
theorem zeros_bytes (n : Nat) : CrcK.Bytes (List.replicate n (0 : Int)) := by
  intro x hx
  rw [(List.mem_replicate.1 hx).2]
  omega
/- The live question's cell, and its disk. -/
noncomputable def ab1 : S106 := ⟨5, 1, 0, 1, [97, 98]⟩
theorem ab_may : MayC ab1 := ⟨⟨by decide, by decide, by decide, by decide⟩, by intro x hx; simp [ab1] at hx; omega⟩
theorem ab_cut : CellLaws.cutn [97, 98] 5 1 ((CellLaws.many 2 : Nat) : Int) (CellLaws.many 2) = [ab1] := by rfl
theorem dec_enc {c : S106} (h0 : 0 ≤ c.f0 ∧ c.f0 < 18446744073709551616) (h1 : 0 ≤ c.f1 ∧ c.f1 < 18446744073709551616) (hm : MayC c) : decZ (encC c) = c := by
  obtain ⟨g, g0, g1, g2, g3, g4⟩ := CellLaws.enc_good (l := c.f4) h0 h1 hm.may
  unfold decZ encC
  rw [if_pos g, g0, g1, g2, g3, g4]
theorem encC_len {c : S106} (hm : MayC c) : (encC c).length = 64 := CellLaws.enc_length hm.may.2.2.2
noncomputable def abD : List Int := encC ab1 ++ List.replicate 192 0
theorem abD_len : abD.length = 256 := by rw [abD, List.length_append, encC_len ab_may, List.length_replicate]
theorem ab_secs : (secL abD 0 4).map decZ = ab1 :: List.replicate 3 zc6 := by
  have hl := encC_len ab_may
  have h0 : cut8 abD 0 64 = encC ab1 := by simp [cut8, abD, hl]
  have hz : ∀ i, 1 ≤ i → i < 4 → cut8 abD (i * 64) 64 = List.replicate 64 0 := fun i h1 h2 => by
    unfold cut8 abD
    rw [List.drop_append, List.drop_of_length_le (by omega), List.nil_append, hl]
    exact cut_nought (by omega)
  have e : secL abD 0 4 = [cut8 abD 0 64, cut8 abD (1 * 64) 64, cut8 abD (2 * 64) 64, cut8 abD (3 * 64) 64] := rfl
  rw [e, h0, hz 1 (by omega) (by omega), hz 2 (by omega) (by omega), hz 3 (by omega) (by omega)]
  simp only [List.map_cons, List.map_nil, decZ_nought, dec_enc (c := ab1) (by decide) (by decide) ab_may]
  rfl
theorem ab_row : CellLaws.Row [ab1] := by
  intro j h
  have : j = 0 := by simp at h; omega
  subst this
  exact ⟨rfl, rfl, rfl, rfl, (show ([97, 98] : List Int).length ≠ 0 by decide), (show ([97, 98] : List Int).length ≤ 39 by decide), fun h => absurd h (show ¬ 0 + 1 < 1 by decide)⟩
theorem ab_rec : rec1 (ab1 :: List.replicate 3 zc6) 5 = some ([97, 98], 1, 1) := by
  unfold rec1
  rw [if_neg (by simp), if_neg (show ¬ (rd_T106 (ab1 :: List.replicate 3 zc6) 0).f3 = 0 from by decide), if_neg (show ¬ (rd_T106 (ab1 :: List.replicate 3 zc6) 0).f3 > _ from by decide), if_neg (show ¬ (rd_T106 (ab1 :: List.replicate 3 zc6) 0).f0 ≠ 5 from by decide)]
  rw [if_pos (show CellLaws.Row ((ab1 :: List.replicate 3 zc6).take (rd_T106 (ab1 :: List.replicate 3 zc6) 0).f3.toNat) from ab_row)]
  rfl
theorem ab_prs (k : Nat) : prs 5 (k + 1) (ab1 :: List.replicate 3 zc6) 0 = ([[97, 98]], 1) := by
  unfold prs
  rw [ab_rec]
  simp only
  rw [if_neg (by decide), show (ab1 :: List.replicate 3 zc6).drop 1 = List.replicate 3 zc6 from rfl, prs_z]
  rfl
theorem ab_lmax : lmax (ab1 :: List.replicate 3 zc6) = 1 := by rfl
/- The log that the live question opens, appends to and flushes. -/
def ab0 : Wl := ⟨0, 1, 5, 1, 0, [], false, fun _ => False⟩
noncomputable def abS : Dk := (wrx (new8 1) 0 abD).1
theorem ab_wrx : wrx (new8 1) 0 abD = (abS, 0) := by
  have hl := abD_len
  unfold abS wrx
  rw [if_pos ⟨by decide, hl⟩]
  rfl
theorem sp_nought {X : List Int} {n : Nat} (h : X.length ≤ n) : sp8 (List.replicate n 0) 0 X = X ++ List.replicate (n - X.length) 0 := by
  unfold sp8
  rw [List.take_zero, List.nil_append, Nat.zero_add, List.drop_replicate]
theorem layx_one {fi : Nat} {s s' : Dk} {a k : Nat} {X B : List Int} (ho : s.of = false) (ha : a % 4 = 0) (hB : sp8 (cut8 s.now ((fi + a / 4) * 256) 256) 0 X = B) (hw : wrx s ((fi + a / 4 : Nat) : Int) B = (s', 0)) : layx fi (k + 2) s a [X] = (s', 0) := by
  have e : ([X].take (4 - a % 4)).flatten = X := by rw [ha]; simp
  have e2 : [X].drop (4 - a % 4) = [] := by rw [ha]; simp
  have z : ∀ (k : Nat) (s : Dk) (a : Nat), layx fi (k + 1) s a [] = (s, 0) := fun k s a => by unfold layx; rw [if_pos List.length_nil]
  rw [layx]
  rw [if_neg (by simp), if_neg (by simp [ho]), e, e2, ha, Nat.zero_mul, hB, hw, if_neg (by simp)]
  exact z _ _ _
set_option maxRecDepth 20000 in
theorem ab_lay : layx 0 2 (new8 1) 0 [encC ab1] = (abS, 0) := by
  have hl := encC_len ab_may
  refine layx_one (B := abD) rfl rfl ?_ ab_wrx
  have e : cut8 (new8 1).now ((0 + 0 / 4) * 256) 256 = List.replicate 256 0 := by
    unfold new8
    exact cut_nought (by omega)
  rw [e, sp_nought (by omega), hl]
  unfold abD
  rfl
set_option maxRecDepth 20000 in
theorem ab_apx : apx ab0 (new8 1) [97, 98] = (⟨0, 1, 5, 1, 1, [[97, 98]], false, fun _ => False⟩, abS, 0) := by
  have hr : ¬ rmx ab0 < (([97, 98] : List Int).length : Int) := by decide
  unfold apx
  rw [if_neg (by decide), if_neg (by decide), if_neg (by decide), if_neg hr]
  rw [show layx ab0.fi (CellLaws.many ([97, 98] : List Int).length + 1) (new8 1) ab0.en ((CellLaws.cutn [97, 98] ab0.ep ab0.li (CellLaws.many ([97, 98] : List Int).length : Int) (CellLaws.many ([97, 98] : List Int).length)).map encC) = (abS, 0) from ab_lay]
  rfl
theorem ab_now : abS.now = abD ∧ abS.of = false ∧ abS.nb = 1 ∧ abS.fu = false := by
  have hl := abD_len
  have e : sp8 (List.replicate (1 * 256) 0) (Int.toNat 0 * 256) abD = abD := by
    have := sp_nought (X := abD) (n := 256) (by omega)
    rw [hl, Nat.sub_self, List.replicate_zero, List.append_nil] at this
    exact this
  unfold abS wrx
  rw [if_pos ⟨by decide, hl⟩]
  exact ⟨e, rfl, rfl, rfl⟩
theorem pwx_Rest (s : Dk) : (pwx s).1.now = s.now ∧ (pwx s).1.safe = s.safe ∧ (pwx s).1.pend = s.pend ∧ (pwx s).1.nb = s.nb ∧ (pwx s).1.fu = s.fu ∧ ((pwx s).2 = true → (pwx s).1.of = s.of) := by
  unfold pwx
  split
  · exact ⟨rfl, rfl, rfl, rfl, rfl, fun h => by cases h⟩
  · exact ⟨rfl, rfl, rfl, rfl, rfl, fun _ => rfl⟩
/- A flush changes nothing that is read. -/
theorem flx_now {s : Dk} (h : Nw s) : (flx s).1.now = s.now ∧ (flx s).1.nb = s.nb := by
  obtain ⟨e1, e2, e3, e4, e5, e6⟩ := pwx_Rest s
  unfold flx
  split
  · rw [stl_eq (pwx_Nw h)]
    refine ⟨?_, e4⟩
    show keepF _ (pwx s).1.pend (pwx s).1.pend.length (pwx s).1.safe = s.now
    rw [keepF_all, e2, e3]
    exact h.2.symm
  · exact ⟨e1, e4⟩
theorem flx_ok {s : Dk} (h1 : s.of = false) (h2 : s.fu = false) : (flx s).2 = 0 ∧ (flx s).1.of = false := by
  have e : (pwx s).2 = true := by unfold pwx; rw [if_neg (by simp [h1, h2])]
  unfold flx
  rw [if_pos e]
  exact ⟨rfl, by show (pwx s).1.of = false; rw [(pwx_Rest s).2.2.2.2.2 e]; exact h1⟩
theorem ab_Nw : Nw abS := wrx_Nw (new_Nw 1 (by omega) (by omega)) _ _
set_option maxRecDepth 20000 in
theorem ab_flx : ∃ S, flx abS = (S, 0) ∧ S.now = abD ∧ S.of = false ∧ S.nb = 1 := by
  obtain ⟨h1, h2, h3, h4⟩ := ab_now
  obtain ⟨g1, g2⟩ := flx_now ab_Nw
  obtain ⟨g3, g4⟩ := flx_ok h2 h4
  rcases hf : flx abS with ⟨S, r⟩
  rw [hf] at g1 g2 g3 g4
  subst g3
  exact ⟨S, rfl, g1.trans h1, g4, g2.trans h3⟩
set_option maxRecDepth 20000 in
theorem abD_bytes : CrcK.Bytes abD := by
  intro x hx
  unfold abD at hx
  rcases List.mem_append.1 hx with h | h
  · exact CellLaws.enc_bytes (a0 := ab1.f0) (a1 := ab1.f1) (a2 := ab1.f2) (a3 := ab1.f3) ab_may.may.2.2.2 ab_may.by_ x h
  · exact zeros_bytes _ x h
/- The live question. -/
theorem A_New (w : World) : Calls Try.prog 14 #[.int .i64 1] w fun e w' => ∃ q, e = .returned (.tuple #[.pointer (some ⟨q, 0, none⟩), .int .i64 0]) ∧ JO w w' q (new8 1) (fun _ => False) := by
  refine Calls.mono (J_New w 1 (by omega) (by omega)) ?_
  rintro e w' ⟨p, rfl, h⟩
  exact ⟨p, rfl, J_JO h⟩
theorem A_Open {w0 w : World} {q : Nat} {s : Dk} {O : Nat → Prop} (h : JO w0 w q s O) (hby : CrcK.Bytes s.now) (ho : s.of = false) (hnb : s.nb = 1) (cs : List S106) (hcs : (secL s.now 0 4).map decZ = cs) (hl : lmax cs < 18446744073709551615) (l : Wl) (hlx : (⟨0, 1, 5, lmax cs + 1, (prs 5 (cs.length + 1) cs 0).2, (prs 5 (cs.length + 1) cs 0).1, false, fun _ => False⟩ : Wl) = l) :
    Calls Try.prog 35 #[.pointer (some ⟨q, 0, none⟩), .int .i64 0, .int .i64 1, .int .u64 5] w fun e w' => ∃ p, e = .returned (.tuple #[.pointer (some ⟨p, 0, none⟩), .int .i64 0]) ∧ LG w0 p q l s (fun k => O k ∨ (w.heap.size ≤ k ∧ k < w'.heap.size)) w' ∧ Below w.heap.size w w' := by
  refine L_Open0 h (fun _ => False) (fun _ hk => hk.elim) hby ho 0 1 5 (by omega) (by omega) (by omega) cs hcs.symm _ (fun e => by omega) (fun _ p w' l' e hG _ hb => ?_)
  subst e
  exact ⟨p, rfl, by rw [← hlx]; exact hG, hb⟩
theorem new8_cs : (secL (new8 1).now 0 4).map decZ = List.replicate 4 zc6 := by
  unfold new8
  exact sec_nought (by omega)
theorem LG_JO {w0 w : World} {p q : Nat} {l : Wl} {s : Dk} {O : Nat → Prop} (h : LG w0 p q l s O w) : JO w0 w q s O := by obtain ⟨_, _, _, _, h⟩ := h; exact h.d
theorem conv27 (W : World) : Sem.run Try.prog (convert 27 27 (.slice (some ⟨W.heap.size, 0, none⟩) 2 2)) (W.alloc (.cells #[.int .u8 97, .int .u8 98] 5)) = .ok (.slice (some ⟨W.heap.size, 0, none⟩) 2 2) (W.alloc (.cells #[.int .u8 97, .int .u8 98] 5 (2, 3))) :=
  Go.Lib.run_convert_bytes_const W 27 5 _ 2 2 Try.underlying27 Try.underlying5
set_option maxRecDepth 20000 in
theorem A_Append {w0 w : World} {p q : Nat} {O : Nat → Prop} (h : LG w0 p q ab0 (new8 1) O w) :
    Calls Try.prog 45 #[.pointer (some ⟨p, 0, none⟩), .slice (some ⟨w.heap.size, 0, none⟩) 2 2] (w.alloc (.cells #[.int .u8 97, .int .u8 98] 5 (2, 3))) fun e w' => e = .returned (.int .i64 0) ∧ ∃ O', (∀ k, O k → O' k) ∧ LG w0 p q ⟨0, 1, 5, 1, 1, [[97, 98]], false, fun _ => False⟩ abS O' w' := by
  obtain ⟨A, n, c, OV, hX⟩ := h
  have hlt := JO_O hX.d hX.op
  have hd := LX_deep hX (below_alloc (Below.refl _ _) (.cells #[.int .u8 97, .int .u8 98] 5 (2, 3)))
  have hb := blk_new w (.cells #[.int .u8 97, .int .u8 98] 5 (2, 3))
  refine (L_Append ⟨A, n, c, OV, hd⟩ (by decide) (by decide) (by decide) (by decide) (by decide) (some ⟨w.heap.size, 0, none⟩) 2 2 [97, 98] rfl (by decide) (fun W _ hk => ?_) (by intro x hx; simp at hx; omega) _ _ _ ab_apx).mono ?_
  · have e := (hk.2 w.heap.size ⟨.inr ⟨Nat.le_refl _, by simp⟩, by omega⟩).trans hb
    refine C_lit_int (k := .u8) [97, 98] (by decide) (fun j p hj => ?_)
    have h1 := cell_of_row W w.heap.size j _ 5 (2, 3) e
    rw [h1]
    match j, hj with
    | 0, hj => simpa using hj
    | 1, hj => simpa using hj
    | j + 2, hj => simp at hj
  · rintro e w' ⟨rfl, ⟨O', ho, hG⟩, _⟩
    exact ⟨rfl, O', fun k hk => ho k (.inl hk), hG⟩
set_option maxRecDepth 20000 in
set_option maxHeartbeats 40000000 in
theorem ab_pend : abS.pend.length ≤ 100000 := by
  unfold abS wrx
  rw [if_pos ⟨by decide, abD_len⟩]
  exact (by decide : 4 ≤ 100000)
theorem A_Sync {w0 w : World} {p q : Nat} {O : Nat → Prop} {S : Dk} (h : LG w0 p q ⟨0, 1, 5, 1, 1, [[97, 98]], false, fun _ => False⟩ abS O w) (hf : flx abS = (S, 0)) :
    Calls Try.prog 46 #[.pointer (some ⟨p, 0, none⟩)] w fun e w' => e = .returned (.int .i64 0) ∧ LG w0 p q ⟨0, 1, 5, 1, 1, [[97, 98]], false, fun _ => False⟩ S O w' := by
  refine (L_Sync h ab_pend ⟨0, 1, 5, 1, 1, [[97, 98]], false, fun _ => False⟩ S 0 (by unfold syx; rw [if_neg (by decide), hf]; rfl)).mono ?_
  rintro e w' ⟨rfl, hG, _⟩
  exact ⟨rfl, hG⟩
theorem A_held {w W : World} {A8 : Option Addr} {c8 : Nat} {ad : Addr} {v : Value} (hC : (Kd.int .u8).C w A8 [97, 98].length [97, 98]) (hz : w.cell? ad = some v) (hb : Below w.heap.size w W) :
    Sem.run Try.prog (convert 27 9 (.slice A8 2 c8)) W = .ok (.string ⟨#[97, 98]⟩) W ∧ W.cell? ad = some v := by
  refine ⟨Kd.C_string (P := Try.prog) (A := A8) (c := c8) Try.underlying27 Try.underlying5 Try.underlying9 (Kd.C_below hC hb), ?_⟩
  have hlt : ad.block < w.heap.size := by
    rcases Nat.lt_or_ge ad.block w.heap.size with h' | h'
    · exact h'
    · simp [World.cell?, Array.getElem?_eq_none h'] at hz
  exact (hb.cell hlt).trans hz
set_option maxRecDepth 20000 in
set_option maxHeartbeats 40000000 in
theorem L_alive (w : World) : Calls Try.prog 37 #[] w fun e w' => e = .returned (.bool true) ∧ Below w.heap.size w w' := by
  go_enter Try.func37, Try.ntmps37
  go_upto_region 6 with (first
    | (go_at_call 14; refine (A_New _).mono ?_; rintro e w1 ⟨q, rfl, hj⟩; have J1 := Aside0.mk hj; clear hj)
    | (go_at_call 35; refine (A_Open J1.out (zeros_bytes _) rfl rfl (List.replicate 4 zc6) new8_cs (by rw [lmax_z]; decide) ab0 (by rw [lmax_z, prs_z]; rfl)).mono ?_; rintro e w2 ⟨p, rfl, hg, hb⟩; have G2 := Aside0.mk hg; have B2 := Aside0.mk hb; clear hg hb)
    | (go_at_call 40; refine (L_Room G2.out (by decide) (by decide) 156 (by decide)).mono ?_; rintro e w3 ⟨rfl, hb⟩; have B3 := Aside0.mk hb; have G3 := Aside0.mk (LG_step G2.out hb); clear hb))
  have cv := conv27
  obtain ⟨S, hS, s1, s2, s3⟩ := ab_flx
  have FL := Aside0.mk hS
  have S1 := Aside0.mk s1
  have S2 := Aside0.mk s2
  have S3 := Aside0.mk s3
  clear hS s1 s2 s3
  go_upto_region 11 with (first
    | (go_at_call 45; refine (A_Append G3.out).mono ?_; rintro e w4 ⟨rfl, O4, ho, hg⟩; have G4 := Aside0.mk hg; clear hg ho)
    | (go_at_call 46; refine (A_Sync G4.out FL.out).mono ?_; rintro e w5 ⟨rfl, hg⟩; have G5 := Aside0.mk hg; clear hg)
    | (go_at_call 35; refine (A_Open (LG_JO G5.out) (by rw [S1.out]; exact abD_bytes) S2.out S3.out (ab1 :: List.replicate 3 zc6) (by rw [S1.out]; exact ab_secs) (by rw [ab_lmax]; decide) ⟨0, 1, 5, 2, 1, [[97, 98]], false, fun _ => False⟩ (by rw [ab_lmax, ab_prs]; rfl)).mono ?_; rintro e w6 ⟨p2, rfl, hg, hb⟩; have G6 := Aside0.mk hg; clear hg hb))
  go_upto_region 12 with (first
    | (go_at_call 39; refine (L_Records G6.out (by decide) (by decide)).mono ?_; rintro e w7 ⟨A7, n7, c7, rfl, hn7, hR, hb⟩; have G7 := Aside0.mk (LG_step G6.out hb); have N7 := Aside0.mk hn7; have R7 := Aside0.mk hR; clear hR hb hn7))
  obtain ⟨hn7, hc7, hC7⟩ := Kd.R_reads' R7.out
  obtain ⟨_, _, hrow⟩ := hC7
  obtain ⟨ad, rfl, hat⟩ := hrow (by decide)
  obtain ⟨vs, _, ⟨A8, c8, rfl, _, hC8⟩, hcell⟩ := hat 0 [97, 98] rfl
  have hz := hcell 0 _ rfl
  have had : ad.add (0 * kL.sz + 0) = ad := by rw [Nat.zero_mul]; unfold Addr.add; split <;> simp_all
  rw [had] at hz
  have C8 := Aside0.mk hC8
  have Z8 := Aside0.mk (show w7.cell? ad = some (.slice A8 2 c8) from hz)
  have hn1 : n7 = 1 := hn7
  subst hn1
  clear hz had hC8 hcell hat hrow hn7 hc7 N7
  go_wp2_with (first
    | (go_at_call 40; refine (L_Room G7.out (by decide) (by decide) 117 (by decide)).mono ?_; rintro e w8 ⟨rfl, hb⟩; have hh := A_held (c8 := c8) C8.out Z8.out hb; have h1 := hh.1; have h2 := hh.2; have G8 := Aside0.mk (LG_step G7.out hb); clear hb hh)
    | (go_at_call 42; refine (L_Life G8.out).mono ?_; rintro e w9 ⟨rfl, rfl⟩)
    | (go_at_call 43; refine (L_Epoch G8.out).mono ?_; rintro e w10 ⟨rfl, rfl⟩))
  go_ret
  exact ⟨rfl, JO_below (LG_JO G8.out)⟩
end Go.Proofs.Ytepipgneefcoiaa.D
