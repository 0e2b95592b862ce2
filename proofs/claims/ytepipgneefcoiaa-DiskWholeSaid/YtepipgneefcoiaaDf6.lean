/- The functions of the program that these laws reach, each as a plain Lean function, and the proof that the machine's call comes to it; no condition beyond those that each theorem names. Made by wip/xprint.py. -/
import Derived.Test.YtepipgneefcoiaaDx0
import Derived.Test.YtepipgneefcoiaaDf15
import Derived.Test.YtepipgneefcoiaaDf19
import Derived.Test.YtepipgneefcoiaaDf23
import Derived.Test.YtepipgneefcoiaaDf25
import Derived.Test.YtepipgneefcoiaaDh
namespace Go.Proofs.Ytepipgneefcoiaa.D
open Go.RowKit Go.Proofs.YtepipgneefcoiaaW.PrintWords Go.Proofs.YtepipgneefcoiaaW.PrintLast Go.Proofs.YtepipgneefcoiaaW.PrintMore
attribute [local go_sem] max2_int min2_int max_two min_two max_three min_three max_four min_four   -- for this text's walks alone
set_option linter.unusedVariables false
set_option linter.unusedSimpArgs false

/-! ### marginalialaw14_DiskWhole: function 6: by hand -/
theorem pick14_w (a0 m : Int) (h0 : 0 < m) (h1 : m ≤ 100) : ∃ r : Nat, marginalialaw14_pick.f a0 m = some (r : Int) ∧ (r : Int) < m := by
  unfold marginalialaw14_pick.f
  rw [if_neg (by omega)]
  have h1 : -m < Int.tmod a0 m ∧ Int.tmod a0 m < m := by
    have := Int.tmod_lt_of_pos a0 h0
    have h2 := Int.neg_tmod a0 m
    have := Int.tmod_lt_of_pos (-a0) h0
    omega
  have e : wrap64 (Int.tmod a0 m + m) = Int.tmod a0 m + m := IntWalk.wrap64_in _ (by omega)
  rw [e]
  have h3 : 0 ≤ Int.tmod (Int.tmod a0 m + m) m := Int.tmod_nonneg _ (by omega)
  exact ⟨(Int.tmod (Int.tmod a0 m + m) m).toNat, by rw [Int.toNat_of_nonneg h3], by rw [Int.toNat_of_nonneg h3]; exact Int.tmod_lt_of_pos _ h0⟩
theorem pcs_len_w (i : Int) (b : List Int) : (pcs i b).length = 4 := by simp [pcs]
theorem pwx_len_w (s : Dk) : (pwx s).1.pend = s.pend := (pwx_keeps s).1
theorem wrx_len_w (s : Dk) (i : Int) (b : List Int) : (wrx s i b).1.pend.length ≤ s.pend.length + 4 := by
  unfold wrx
  split
  · split
    · simp [pcs_len_w, pwx_len_w]
    · simp [pwx_len_w]
  · simp
theorem flx_len_w (s : Dk) : (flx s).1.pend.length ≤ s.pend.length := by
  unfold flx
  split
  · simp [stl]
  · simp [pwx_len_w]
theorem wrx_nb_w (s : Dk) (i : Int) (b : List Int) : (wrx s i b).1.nb = s.nb := by
  unfold wrx
  split
  · split
    · simp [pwx_keeps]
    · simp [pwx_keeps]
  · rfl
theorem flx_nb_w (s : Dk) : (flx s).1.nb = s.nb := by
  unfold flx
  split
  · simp [stl, pwx_keeps]
  · simp [pwx_keeps]
theorem crx_nb_w (s : Dk) (k : List Bool) : (crx s k).nb = s.nb := rfl
theorem fzx_nb_w (s : Dk) (k : Int) : (fzx s k).nb = s.nb := by unfold fzx; split <;> rfl
/- What is safe, and pending, and there. -/
set_option maxRecDepth 8000 in
theorem sp8_get_w {L X : List Int} {o : Nat} (h : o + X.length ≤ L.length) (i : Nat) : (sp8 L o X)[i]? = if o ≤ i ∧ i < o + X.length then X[i - o]? else L[i]? := by
  unfold sp8
  by_cases c1 : i < o
  · rw [if_neg (by omega), List.append_assoc, List.getElem?_append_left (by rw [List.length_take]; omega), List.getElem?_take, if_pos c1]
  · by_cases c2 : i < o + X.length
    · rw [if_pos ⟨by omega, c2⟩, List.getElem?_append_left (by rw [List.length_append, List.length_take]; omega), List.getElem?_append_right (by rw [List.length_take]; omega), List.length_take, Nat.min_eq_left (by omega)]
    · rw [if_neg (by omega), List.getElem?_append_right (by rw [List.length_append, List.length_take]; omega), List.length_append, List.length_take, List.getElem?_drop]
      congr 1
      omega
def aps_w (P : List Pc) (F : List Int) : List Int := P.foldl (fun F x => sp8 F (x.bl.toNat * 256 + x.at_.toNat) x.b) F
set_option maxRecDepth 8000 in
theorem rdP_eq_w {P : List Pc} {j : Nat} (h : j < P.length) : P[j]? = some (rdP P j) := by
  unfold rdP
  rw [List.getD_eq_getElem?_getD, List.getElem?_eq_getElem h]; rfl
set_option maxRecDepth 8000 in
theorem keepF_aps_w (P : List Pc) (F : List Int) : ∀ j, j ≤ P.length → keepF (fun _ => true) P j F = aps_w (P.take j) F
  | 0, _ => rfl
  | j + 1, hj => by
    have e : P.take (j + 1) = P.take j ++ [rdP P j] := by rw [List.take_add_one, rdP_eq_w (by omega)]; rfl
    unfold keepF
    rw [if_pos rfl, keepF_aps_w P F j (by omega), e]
    unfold aps_w
    rw [List.foldl_append]
    rfl
set_option maxRecDepth 8000 in
theorem keepF_all_w (P : List Pc) (F : List Int) : keepF (fun _ => true) P P.length F = aps_w P F := by
  rw [keepF_aps_w P F _ (Nat.le_refl _), List.take_of_length_le (Nat.le_refl _)]
def inB_w (x : Pc) (i : Nat) : Prop := x.bl.toNat * 256 ≤ i ∧ i < x.bl.toNat * 256 + 256
set_option maxRecDepth 8000 in
theorem keepF_far_w {s : Dk} (h : s.Ok) (kept : Nat → Bool) (i : Nat) : ∀ j, j ≤ s.pend.length → (∀ k, k < j → ¬ inB_w (rdP s.pend k) i) → (keepF kept s.pend j s.safe)[i]? = s.safe[i]?
  | 0, _, _ => rfl
  | j + 1, hj, hk => by
    have ih := keepF_far_w h kept i j (by omega) (fun k hk' => hk k (by omega))
    obtain ⟨h1, h2, h3, h4, h5⟩ := h.pend _ (rdP_mem (show j < s.pend.length by omega))
    have hf : (rdP s.pend j).bl.toNat * 256 + (rdP s.pend j).at_.toNat + (rdP s.pend j).b.length ≤ (keepF kept s.pend j s.safe).length := by rw [keepF_len h kept j (by omega), h5, h.safe]; omega
    unfold keepF
    split
    · have := hk j (by omega)
      unfold inB_w at this
      rw [sp8_get_w hf, if_neg (by rw [h5]; omega), ih]
    · exact ih
set_option maxRecDepth 8000 in
theorem backF_get_w {s : Dk} (h : s.Ok) (F : List Int) (hF : F.length = s.safe.length) (i : Nat) : ∀ j, j ≤ s.pend.length → (backF F s.pend j s.now)[i]? = F[i]? ∨ ((∀ k, k < j → ¬ inB_w (rdP s.pend k) i) ∧ (backF F s.pend j s.now)[i]? = s.now[i]?)
  | 0, _ => .inr ⟨fun k hk => by omega, rfl⟩
  | j + 1, hj => by
    have ih := backF_get_w h F hF i j (by omega)
    obtain ⟨h1, h2, h3, h4, h5⟩ := h.pend _ (rdP_mem (show j < s.pend.length by omega))
    have hc : (cut8 F ((rdP s.pend j).bl.toNat * 256) 256).length = 256 := cut8_len (by rw [hF, h.safe]; omega)
    have hf : (rdP s.pend j).bl.toNat * 256 + (cut8 F ((rdP s.pend j).bl.toNat * 256) 256).length ≤ (backF F s.pend j s.now).length := by rw [backF_len h F hF j (by omega), hc, h.now]; omega
    unfold backF
    rw [sp8_get_w hf, hc]
    by_cases c : (rdP s.pend j).bl.toNat * 256 ≤ i ∧ i < (rdP s.pend j).bl.toNat * 256 + 256
    · rw [if_pos c, cut8_at (by omega)]
      refine .inl ?_
      congr 1
      omega
    · rw [if_neg c]
      rcases ih with ih | ⟨ih1, ih2⟩
      · exact .inl ih
      · refine .inr ⟨fun k hk => ?_, ih2⟩
        by_cases e : k = j
        · subst e; exact c
        · exact ih1 k (by omega)
def Nw_w (s : Dk) : Prop := s.Ok ∧ s.now = aps_w s.pend s.safe
set_option maxRecDepth 8000 in
theorem stl_eq_w {s : Dk} (h : Nw_w s) (kept : Nat → Bool) : stl kept s = {s with safe := keepF kept s.pend s.pend.length s.safe, now := keepF kept s.pend s.pend.length s.safe, pend := []} := by
  obtain ⟨h, hn⟩ := h
  unfold stl
  congr 1
  apply List.ext_getElem?
  intro i
  rcases backF_get_w h _ (keepF_len h kept _ (Nat.le_refl _)) i _ (Nat.le_refl _) with e | ⟨e1, e2⟩
  · exact e
  · rw [e2, keepF_far_w h kept i _ (Nat.le_refl _) e1, hn, ← keepF_all_w, keepF_far_w h _ i _ (Nat.le_refl _) e1]
set_option maxRecDepth 8000 in
theorem stl_Nw_w {s : Dk} (h : Nw_w s) (kept : Nat → Bool) : Nw_w (stl kept s) := by
  refine ⟨stl_ok h.1 kept, ?_⟩
  rw [stl_eq_w h]
  rfl
set_option maxRecDepth 8000 in
theorem Nw_set_w {s s' : Dk} (h : Nw_w s) (h1 : s'.now = s.now) (h2 : s'.safe = s.safe) (h3 : s'.pend = s.pend) (h4 : s'.nb = s.nb) : Nw_w s' := by
  refine ⟨⟨by rw [h4]; exact h.1.nb0, by rw [h4]; exact h.1.nb1, by rw [h1, h4]; exact h.1.now, by rw [h2, h4]; exact h.1.safe, by rw [h3, h4]; exact h.1.pend⟩, by rw [h1, h2, h3]; exact h.2⟩
set_option maxRecDepth 8000 in
theorem pwx_Nw_w {s : Dk} (h : Nw_w s) : Nw_w (pwx s).1 :=
  Nw_set_w h (pwx_keeps s).2.2.1 (pwx_keeps s).2.2.2 (pwx_keeps s).1 (pwx_keeps s).2.1
set_option maxRecDepth 8000 in
theorem pcs_aps_w {L b : List Int} {n : Nat} (hb : b.length = 256) (hL : n * 256 + 256 ≤ L.length) : aps_w (pcs (n : Int) b) L = sp8 L (n * 256) b := by
  have l0 : (cut8 b 0 64).length = 64 := cut8_len (by omega)
  have l1 : (cut8 b 64 64).length = 64 := cut8_len (by omega)
  have l2 : (cut8 b 128 64).length = 64 := cut8_len (by omega)
  have l3 : (cut8 b 192 64).length = 64 := cut8_len (by omega)
  show sp8 (sp8 (sp8 (sp8 L (n * 256 + 0) (cut8 b 0 64)) (n * 256 + 64) (cut8 b 64 64)) (n * 256 + 128) (cut8 b 128 64)) (n * 256 + 192) (cut8 b 192 64) = _
  have f0 : n * 256 + 0 + (cut8 b 0 64).length ≤ L.length := by omega
  have m0 := sp8_len f0
  obtain ⟨L0, hL0⟩ : ∃ L0, L0 = sp8 L (n * 256 + 0) (cut8 b 0 64) := ⟨_, rfl⟩
  have g0 := fun i => sp8_get_w f0 i
  rw [← hL0] at m0 g0 ⊢
  have f1 : n * 256 + 64 + (cut8 b 64 64).length ≤ L0.length := by omega
  have m1 := sp8_len f1
  obtain ⟨L1, hL1⟩ : ∃ L1, L1 = sp8 L0 (n * 256 + 64) (cut8 b 64 64) := ⟨_, rfl⟩
  have g1 := fun i => sp8_get_w f1 i
  rw [← hL1] at m1 g1 ⊢
  have f2 : n * 256 + 128 + (cut8 b 128 64).length ≤ L1.length := by omega
  have m2 := sp8_len f2
  obtain ⟨L2, hL2⟩ : ∃ L2, L2 = sp8 L1 (n * 256 + 128) (cut8 b 128 64) := ⟨_, rfl⟩
  have g2 := fun i => sp8_get_w f2 i
  rw [← hL2] at m2 g2 ⊢
  have f3 : n * 256 + 192 + (cut8 b 192 64).length ≤ L2.length := by omega
  have f4 : n * 256 + b.length ≤ L.length := by omega
  apply List.ext_getElem?
  intro i
  rw [sp8_get_w f3, sp8_get_w f4, g2, g1, g0, l0, l1, l2, l3, hb]
  by_cases c : n * 256 ≤ i ∧ i < n * 256 + 256
  · rw [if_pos c]
    split
    · rw [cut8_at (by omega)]; congr 1; omega
    split
    · rw [cut8_at (by omega)]; congr 1; omega
    split
    · rw [cut8_at (by omega)]; congr 1; omega
    split
    · rw [cut8_at (by omega)]; congr 1; omega
    · omega
  · rw [if_neg c, if_neg (by omega), if_neg (by omega), if_neg (by omega), if_neg (by omega)]
set_option maxRecDepth 8000 in
theorem aps_len_w {s : Dk} (h : s.Ok) : (aps_w s.pend s.safe).length = s.nb * 256 := by
  rw [← keepF_all_w, keepF_len h _ _ (Nat.le_refl _), h.safe]
set_option maxRecDepth 8000 in
theorem wrx_Nw_w {s : Dk} (h : Nw_w s) (i : Int) (b : List Int) : Nw_w (wrx s i b).1 := by
  unfold wrx
  split
  · rename_i c
    have hp := pwx_Nw_w h
    obtain ⟨n, rfl, hn⟩ := hasB_nat c.1
    have k1 := (pwx_keeps s).2.1
    split
    · obtain ⟨t, ht⟩ : ∃ t, t = (pwx s).1 := ⟨_, rfl⟩
      rw [← ht] at hp k1 ⊢
      have ok := hp.1
      have hnow : n * 256 + 256 ≤ t.now.length := by rw [ok.now]; omega
      have L : ∀ o, o + 64 ≤ 256 → (cut8 b o 64).length = 64 := fun o ho => cut8_len (by rw [c.2]; omega)
      refine ⟨⟨ok.nb0, ok.nb1, ?_, ok.safe, ?_⟩, ?_⟩
      · show (sp8 t.now ((n : Int).toNat * 256) b).length = _
        rw [Int.toNat_natCast, sp8_len (by rw [c.2]; omega)]
        exact ok.now
      · intro x hx
        have hx : x ∈ t.pend ++ pcs (n : Int) b := hx
        rw [List.mem_append] at hx
        rcases hx with hx | hx
        · exact ok.pend x hx
        · show 0 ≤ x.bl ∧ x.bl < (t.nb : Int) ∧ _
          have : x = ⟨n, 0, cut8 b 0 64⟩ ∨ x = ⟨n, 64, cut8 b 64 64⟩ ∨ x = ⟨n, 128, cut8 b 128 64⟩ ∨ x = ⟨n, 192, cut8 b 192 64⟩ := by simpa [pcs] using hx
          rcases this with e | e | e | e <;> subst e <;> dsimp only <;> exact ⟨by omega, by omega, by omega, by omega, L _ (by omega)⟩
      · show sp8 t.now ((n : Int).toNat * 256) b = aps_w (t.pend ++ pcs (n : Int) b) t.safe
        have : aps_w (t.pend ++ pcs (n : Int) b) t.safe = aps_w (pcs (n : Int) b) (aps_w t.pend t.safe) := by unfold aps_w; rw [List.foldl_append]
        rw [this, ← hp.2, pcs_aps_w c.2 hnow, Int.toNat_natCast]
    · exact hp
  · exact h
set_option maxRecDepth 8000 in
theorem flx_Nw_w {s : Dk} (h : Nw_w s) : Nw_w (flx s).1 := by
  unfold flx
  split
  · exact stl_Nw_w (pwx_Nw_w h) _
  · exact pwx_Nw_w h
set_option maxRecDepth 8000 in
theorem fzx_Nw_w {s : Dk} (h : Nw_w s) (k : Int) : Nw_w (fzx s k) := by
  unfold fzx
  split
  · exact h
  · exact Nw_set_w h rfl rfl rfl rfl
set_option maxRecDepth 8000 in
theorem crx_Nw_w {s : Dk} (h : Nw_w s) (k : List Bool) : Nw_w (crx s k) := Nw_set_w (stl_Nw_w h _) rfl rfl rfl rfl
set_option maxRecDepth 8000 in
theorem new_Nw_w (n : Nat) (h0 : 1 ≤ n) (h1 : n ≤ 4096) : Nw_w ⟨n, List.replicate (n * 256) 0, List.replicate (n * 256) 0, [], false, 0, false⟩ :=
  ⟨⟨h0, h1, List.length_replicate .., List.length_replicate .., fun x hx => by cases hx⟩, rfl⟩
/- Writes one behind the other; a crash. -/
def psx_w (x : Pc) : Nat := x.bl.toNat * 256 + x.at_.toNat
def Wh_w (s : Dk) (all : List (List Int)) : Prop := Nw_w s ∧ s.nb = 3 ∧ s.of = false ∧ s.fu = false ∧ s.pend.length = 4 * all.length ∧ s.safe = List.replicate 768 0 ∧ (∀ x ∈ s.pend, psx_w x % 64 = 0 ∧ ∃ D, D ∈ all ∧ cut8 D (psx_w x) 64 = x.b) ∧ (∀ D, all.getLast? = some D → D = s.now) ∧ ∀ D ∈ all, D.length = 768
set_option maxRecDepth 8000 in
theorem new_Wh_w : Wh_w ⟨3, List.replicate (3 * 256) 0, List.replicate (3 * 256) 0, [], false, 0, false⟩ [] := by
  refine ⟨new_Nw_w 3 (by decide) (by decide), rfl, rfl, rfl, rfl, rfl, ?_, ?_, ?_⟩
  · intro x hx; cases hx
  · intro D hD; cases hD
  · intro D hD; cases hD
set_option maxRecDepth 8000 in
theorem step_Wh_w {s : Dk} {all : List (List Int)} (h : Wh_w s all) (n : Nat) (hn : n < 3) (b : List Int) (hb : b.length = 256) : ∃ s', wrx s (n : Int) b = (s', 0) ∧ Wh_w s' (all ++ [s'.now]) := by
  obtain ⟨hN, h3, ho, hf, hl, hs, hp, hla, hall⟩ := h
  have hh : hasB s (n : Int) = true := by unfold hasB; rw [h3]; simp; omega
  have p1 : (pwx s).2 = true ∧ (pwx s).1.of = false ∧ (pwx s).1.fu = false := by
    unfold pwx
    rw [ho, hf, if_neg (by simp)]
    exact ⟨rfl, rfl, rfl⟩
  have k := pwx_keeps s
  obtain ⟨s1, hs1⟩ : ∃ s1, s1 = (wrx s (n : Int) b).1 := ⟨_, rfl⟩
  have e1 : wrx s (n : Int) b = (s1, 0) := by
    rw [hs1]; unfold wrx; rw [if_pos ⟨hh, hb⟩, if_pos p1.1]
  have N1 : Nw_w s1 := by rw [hs1]; exact wrx_Nw_w hN _ _
  have q : s1.of = false ∧ s1.fu = false ∧ s1.nb = 3 ∧ s1.now = sp8 s.now (n * 256) b ∧ s1.pend = s.pend ++ pcs (n : Int) b ∧ s1.safe = s.safe := by
    rw [hs1]; unfold wrx; rw [if_pos ⟨hh, hb⟩, if_pos p1.1]
    refine ⟨p1.2.1, p1.2.2, k.2.1.trans h3, ?_, ?_, k.2.2.2⟩
    · show sp8 (pwx s).1.now ((n : Int).toNat * 256) b = _; rw [k.2.2.1, Int.toNat_natCast]
    · show (pwx s).1.pend ++ pcs (n : Int) b = _; rw [k.1]
  have L1 : s1.now.length = 768 := by rw [N1.1.now, q.2.2.1]
  refine ⟨s1, e1, N1, q.2.2.1, q.1, q.2.1, ?_, q.2.2.2.2.2.trans hs, ?_, ?_, ?_⟩
  · rw [q.2.2.2.2.1, List.length_append, List.length_append, hl, pcs_len_w]
    show 4 * all.length + 4 = 4 * (all.length + 1)
    omega
  · intro x hx
    rw [q.2.2.2.2.1, List.mem_append] at hx
    rcases hx with hx | hx
    · obtain ⟨g1, D, g2, g3⟩ := hp x hx
      exact ⟨g1, D, List.mem_append_left _ g2, g3⟩
    · have hfit : n * 256 + b.length ≤ s.now.length := by rw [hN.1.now, h3]; omega
      have key : ∀ o, o + 64 ≤ 256 → cut8 s1.now (n * 256 + o) 64 = cut8 b o 64 := by
        intro o ho
        apply List.ext_getElem?
        intro i
        by_cases c : i < 64
        · rw [cut8_at c, cut8_at c, q.2.2.2.1, sp8_get_w hfit, if_pos (by omega)]
          congr 1
          omega
        · rw [List.getElem?_eq_none (by rw [cut8_len (by rw [L1]; omega)]; omega), List.getElem?_eq_none (by rw [cut8_len (by omega)]; omega)]
      have : x = ⟨n, 0, cut8 b 0 64⟩ ∨ x = ⟨n, 64, cut8 b 64 64⟩ ∨ x = ⟨n, 128, cut8 b 128 64⟩ ∨ x = ⟨n, 192, cut8 b 192 64⟩ := by simpa [pcs] using hx
      rcases this with e | e | e | e <;> subst e
      · exact ⟨by show (n * 256 + 0) % 64 = 0; omega, s1.now, List.mem_append_right _ (List.mem_singleton.2 rfl), key 0 (by decide)⟩
      · exact ⟨by show (n * 256 + 64) % 64 = 0; omega, s1.now, List.mem_append_right _ (List.mem_singleton.2 rfl), key 64 (by decide)⟩
      · exact ⟨by show (n * 256 + 128) % 64 = 0; omega, s1.now, List.mem_append_right _ (List.mem_singleton.2 rfl), key 128 (by decide)⟩
      · exact ⟨by show (n * 256 + 192) % 64 = 0; omega, s1.now, List.mem_append_right _ (List.mem_singleton.2 rfl), key 192 (by decide)⟩
  · intro D hD
    rw [List.getLast?_concat] at hD
    injection hD with hD
    exact hD.symm
  · intro D hD
    rw [List.mem_append] at hD
    rcases hD with hD | hD
    · exact hall D hD
    · rw [List.mem_singleton.1 hD]; exact L1
set_option maxRecDepth 8000 in
theorem keepF_cong_w (P : List Pc) (F : List Int) (k k' : Nat → Bool) : ∀ j, (∀ i, i < j → k i = k' i) → keepF k P j F = keepF k' P j F
  | 0, _ => rfl
  | j + 1, h => by
    unfold keepF
    rw [keepF_cong_w P F k k' j (fun i hi => h i (by omega)), h j (by omega)]
set_option maxRecDepth 8000 in
theorem keepF_sec_w {s : Dk} (h : s.Ok) (kept : Nat → Bool) (hp : ∀ x ∈ s.pend, psx_w x % 64 = 0) (t : Nat) (ht : t * 64 + 64 ≤ s.nb * 256) : ∀ j, j ≤ s.pend.length → cut8 (keepF kept s.pend j s.safe) (t * 64) 64 = cut8 s.safe (t * 64) 64 ∨ ∃ x, x ∈ s.pend ∧ psx_w x = t * 64 ∧ cut8 (keepF kept s.pend j s.safe) (t * 64) 64 = x.b
  | 0, _ => .inl rfl
  | j + 1, hj => by
    have ih := keepF_sec_w h kept hp t ht j (by omega)
    have hm := rdP_mem (show j < s.pend.length by omega)
    obtain ⟨h1, h2, h3, h4, h5⟩ := h.pend _ hm
    have hq := hp _ hm
    have hl := keepF_len h kept j (by omega)
    have hf : (rdP s.pend j).bl.toNat * 256 + (rdP s.pend j).at_.toNat + (rdP s.pend j).b.length ≤ (keepF kept s.pend j s.safe).length := by rw [hl, h5, h.safe]; omega
    unfold keepF
    split
    · unfold psx_w at hq
      by_cases c : (rdP s.pend j).bl.toNat * 256 + (rdP s.pend j).at_.toNat = t * 64
      · refine .inr ⟨_, hm, c, ?_⟩
        apply List.ext_getElem?
        intro i
        by_cases ci : i < 64
        · rw [cut8_at ci, sp8_get_w hf, if_pos (by omega)]
          congr 1
          omega
        · rw [List.getElem?_eq_none (by rw [cut8_len (by rw [sp8_len hf, hl, h.safe]; omega)]; omega), List.getElem?_eq_none (by omega)]
      · have e : cut8 (sp8 (keepF kept s.pend j s.safe) ((rdP s.pend j).bl.toNat * 256 + (rdP s.pend j).at_.toNat) (rdP s.pend j).b) (t * 64) 64 = cut8 (keepF kept s.pend j s.safe) (t * 64) 64 := by
          apply List.ext_getElem?
          intro i
          by_cases ci : i < 64
          · rw [cut8_at ci, cut8_at ci, sp8_get_w hf, if_neg (by omega)]
          · rw [List.getElem?_eq_none (by rw [cut8_len (by rw [sp8_len hf, hl, h.safe]; omega)]; omega), List.getElem?_eq_none (by rw [cut8_len (by rw [hl, h.safe]; omega)]; omega)]
        rw [e]
        exact ih
    · exact ih
set_option maxRecDepth 8000 in
theorem crash_Wh_w {s : Dk} {all : List (List Int)} (h : Wh_w s all) (keep : List Bool) : (crx s keep).now.length = 768 ∧ (4 * all.length ≤ keep.length → (∀ i, i < 4 * all.length → kpB keep i = true) → ∀ D, all.getLast? = some D → (crx s keep).now = D) ∧ ∀ t, t < 12 → cut8 (crx s keep).now (t * 64) 64 = cut8 (List.replicate 768 0) (t * 64) 64 ∨ ∃ D, D ∈ all ∧ cut8 (crx s keep).now (t * 64) 64 = cut8 D (t * 64) 64 := by
  obtain ⟨hN, h3, ho, hf, hl, hs, hp, hla, hall⟩ := h
  have e : (crx s keep).now = keepF (kpB keep) s.pend s.pend.length s.safe := by
    show (stl (kpB keep) s).now = _
    rw [stl_eq_w hN]
  rw [e]
  refine ⟨by rw [keepF_len hN.1 _ _ (Nat.le_refl _), hN.1.safe, h3], fun h1 h2 D hD => ?_, fun t ht => ?_⟩
  · rw [keepF_cong_w _ _ _ (fun _ => true) _ (fun i hi => h2 i (by omega)), keepF_all_w, ← hN.2, hla D hD]
  · rcases keepF_sec_w hN.1 (kpB keep) (fun x hx => (hp x hx).1) t (by rw [h3]; omega) _ (Nat.le_refl _) with g | ⟨x, g1, g2, g3⟩
    · rw [hs] at g
      exact .inl (by rw [hs]; exact g)
    · obtain ⟨_, D, q1, q2⟩ := hp x g1
      exact .inr ⟨D, q1, by rw [g3, ← q2, g2]⟩
/- All dumps, in a row of rows. -/
def kD_w : Kd (List Int) := Kd.slice 5 (Kd.int .u8)
theorem RR_oth_w {w w' : World} {base base' : Nat} {ok : Nat → Prop} {v : Value} {xs : List (List Int)} (h : Kd.R kD_w 27 w base ok v xs) (k : oth w w') (hb : base' ≤ base) : Kd.R kD_w 27 w' base' ok v xs := by
  refine Kd.R_lower (Kd.R_mono (Kd.R_move (Kd.R_bound h) ?_) (fun i hi => hi.1)) hb
  rintro i ⟨e, _, hlt, q, hq, cells, hc⟩
  have hq' : q = 27 ∨ q = 5 := by simpa [kD_w, Kd.slice, Kd.int, Kd.scalar] using hq
  rw [hc]
  rcases hq' with rfl | rfl
  · exact k.2 i cells 27 hc (by decide) (by decide) (by decide)
  · exact k.2 i cells 5 hc (by decide) (by decide) (by decide)
def JW_w (w0 w : World) (p : Nat) (s : Dk) (A7 : Option Addr) (c7 : Nat) (was : List Int) (v8 : Value) (all : List (List Int)) : Prop := J w0 w p s ∧ Kd.R (Kd.int .u8) 5 w w0.heap.size (fun _ => True) (.slice A7 was.length c7) was ∧ Kd.R kD_w 27 w w0.heap.size (fun _ => True) v8 all
theorem JW_deep_w {w0 w w' : World} {p : Nat} {s : Dk} {A7 : Option Addr} {c7 : Nat} {was : List Int} {v8 : Value} {all : List (List Int)} (h : JW_w w0 w p s A7 c7 was v8 all) (b : Below w.heap.size w w') : JW_w w0 w' p s A7 c7 was v8 all :=
  ⟨J_deep h.1 b, Kd.R_below h.2.1 b, Kd.R_below h.2.2 b⟩
theorem JW_oth_w {w0 w w' : World} {p : Nat} {s s' : Dk} {A7 : Option Addr} {c7 : Nat} {was : List Int} {v8 : Value} {all : List (List Int)} (h : JW_w w0 w p s A7 c7 was v8 all) (hJ : J w0 w' p s') (ho : oth w w') : JW_w w0 w' p s' A7 c7 was v8 all :=
  ⟨hJ, Kd.R_mono (R_oth h.2.1 ho (Nat.le_refl _)) (fun _ _ => trivial), RR_oth_w h.2.2 ho (Nat.le_refl _)⟩
theorem J_grown_w {w0 w w1 : World} {p : Nat} {s : Dk} {v : Value} (h : J w0 w p s) (hg : w.grownBy w1 v.ownBlock) (hty : ∀ k, v.ownBlock = some k → ∃ cells, w.heap[k]? = some (.cells cells 27 (0, 0))) (hb : Below w0.heap.size w0 w1) : J w0 w1 p s := by
  obtain ⟨a, b, vP, h1, h2⟩ := h
  have far : ∀ (i : Nat) (cells : Array Value) (T : TypeId), w.heap[i]? = some (.cells cells T (0, 0)) → T ≠ 27 → w1.heap[i]? = some (.cells cells T (0, 0)) := by
    intro i cells T hi hT
    rw [hg.block i (blk_lt hi) (fun e => ?_)]
    · exact hi
    · obtain ⟨c', hc'⟩ := hty i e.symm
      exact blk_ne hi hc' hT rfl
  exact ⟨a, b, vP, ⟨far _ _ _ h1.box (by decide), far _ _ _ h1.now (by decide), far _ _ _ h1.safe (by decide), Kd.R_over' h1.pend hty (by decide) hg, h1.ne, h1.hp, h1.hn, h1.hf, h1.ok⟩, hb⟩
theorem kD_mk_w {w : World} {base base' : Nat} {ok : Nat → Prop} {A : Option Addr} {c : Nat} {l : List Int} (h : Kd.R (Kd.int .u8) 5 w base ok (.slice A l.length c) l) (hb : base' ≤ base) : kD_w.M w base' ok l [.slice A l.length c] := ⟨_, rfl, Kd.R_lower h hb⟩
theorem JW_app_w {w0 w w1 : World} {p : Nat} {s : Dk} {A7 : Option Addr} {c7 : Nat} {was : List Int} {v8 v1 : Value} {all all1 : List (List Int)} (h : JW_w w0 w p s A7 c7 was v8 all) (hg : w.grownBy w1 v8.ownBlock) (hb : Below w0.heap.size w0 w1) (hR : Kd.R kD_w 27 w1 w0.heap.size (fun _ => True) v1 all1) : JW_w w0 w1 p s A7 c7 was v1 all1 :=
  ⟨J_grown_w h.1 hg (Kd.R_typed h.2.2) hb, Kd.R_over' h.2.1 (Kd.R_typed h.2.2) (by decide) hg, hR⟩
theorem info27_w : (Try.prog.info? 27).map (fun i => (i.zero, i.size, i.bytes)) = some (some (.slice none 0 0), 1, 24) := by kernel_rfl
theorem run_cut_w (w : World) (A : Option Addr) (n c lo hi : Nat) (h1 : lo ≤ hi) (h2 : hi ≤ c) : Sem.run Try.prog (Instr.sliceAt 27 (.slice A n c) (some (.int .i64 (lo : Int))) (some (.int .i64 (hi : Int))) none) w = .ok (sliced A lo hi c 1) w := by
  have hu : Try.prog.underlying 27 = some (.slice (Try.prog.elem 27)) := by kernel_rfl
  have hs : (sizeOf (Try.prog.elem 27)).run Try.prog w = .ok 1 w := by
    obtain ⟨i, hi, hz⟩ := Option.map_eq_some_iff.1 info5
    simp only [Prod.mk.injEq] at hz
    have he : Try.prog.elem 27 = 5 := by kernel_rfl
    rw [he]
    simp [sizeOf, typeInfo, Sem.run_bind, hi, hz]
  rw [run_sliceAt_slice (P := Try.prog) w 27 (.slice A n c) (some (.int .i64 (lo : Int))) (some (.int .i64 (hi : Int))) none hu, run_slice_lh (P := Try.prog) w 27 A n c hu .i64 .i64 (lo : Int) (hi : Int) (by omega) (by omega) (by omega), hs]
  simp [Result.andThen]
theorem C_cut8_w {w : World} {A : Option Addr} {c : Nat} {L : List Int} (h : Kd.C (Kd.int .u8) w A L.length L) (hc : L.length ≤ c) (t : Nat) (ht : t * 64 + 64 ≤ L.length) : Kd.C (Kd.int .u8) w (A.map (·.add (t * 64))) (cut8 L (t * 64) 64).length (cut8 L (t * 64) 64) := by
  have h1 := Kd.C_drop h (m := t * 64) (by omega) hc
  rw [if_neg (by omega), show (Kd.int .u8).sz = 1 from rfl, Nat.mul_one] at h1
  exact Kd.C_take h1 (by rw [List.length_drop]; omega)
set_option maxRecDepth 20000 in
theorem small_ev_w (k n : Int) (b : List Int) (sh : Bool) (keep : List Bool) (h1 : b.length ≤ 300) (h2 : keep.length ≤ 300) : marginalialaw14_Act_small.f k n b sh keep = some true := by
  unfold marginalialaw14_Act_small.f
  rw [if_pos (by omega)]
  have : (keep.length : Int) ≤ 300 := by omega
  simp [this]
set_option maxRecDepth 20000 in
theorem small_no_w (k n : Int) (b : List Int) (sh : Bool) (keep : List Bool) (h : ¬ (b.length ≤ 300 ∧ keep.length ≤ 300)) : marginalialaw14_Act_small.f k n b sh keep = some false := by
  unfold marginalialaw14_Act_small.f
  split
  · have : ¬ (keep.length : Int) ≤ 300 := by omega
    simp [this]
  · rfl
theorem exec_conv_w {P : Program} {ρ : Operand → Value} {o : Oper} {s d : TypeId} {x : Operand} {w w1 : World} {v : Value} (ho : o.op = .convert s d x) (h : Sem.run P (convert s d (ρ x)) w = .ok v w1) :
    (execOp ρ o).run P w = .ok (.value v) w1 := by
  unfold execOp
  simp only [ho, Sem.run_bind, h, Result.andThen_ok, Sem.run_pure]
theorem act_at_w {w0 : World} {A : Option Addr} {l : List S35} (h : Kd.C k35 w0 A l.length l) (j : Nat) (hj : j < l.length) : ∃ ad A2 c2 A4 c4 k n b sh keep, A = some ad ∧ (∀ w, Below w0.heap.size w0 w → w.cell? (ad.add (j * 5)) = some (.int .i64 k) ∧ w.cell? ⟨(ad.add (j * 5)).block, (ad.add (j * 5)).off + 1, none⟩ = some (.int .i64 n) ∧ w.cell? ⟨(ad.add (j * 5)).block, (ad.add (j * 5)).off + 2, none⟩ = some (.slice A2 b.length c2) ∧ w.cell? ⟨(ad.add (j * 5)).block, (ad.add (j * 5)).off + 3, none⟩ = some (.bool sh) ∧ w.cell? ⟨(ad.add (j * 5)).block, (ad.add (j * 5)).off + 4, none⟩ = some (.slice A4 keep.length c4)) ∧ b.length ≤ c2 ∧ Kd.C (Kd.int .u8) w0 A2 b.length b ∧ keep.length ≤ c4 ∧ Kd.C Kd.bool w0 A4 keep.length keep := by
  obtain ⟨ad, A2, c2, A4, c4, ea, y0, y1, y2, y3, y4, l2, C2, l4, C4⟩ := at_T35 h (j : Int) (by omega) (by omega)
  simp only [Int.toNat_natCast] at y0 y1 y2 y3 y4
  exact ⟨ad, A2, c2, A4, c4, _, _, _, _, _, ea, fun w hb => ⟨pw_cell_below hb y0, pw_cell_below hb y1, pw_cell_below hb y2, pw_cell_below hb y3, pw_cell_below hb y4⟩, l2, C2, l4, C4⟩
theorem J_PendingN_w {w0 w : World} {p : Nat} {s : Dk} (h : J w0 w p s) (n : Int) (hn : (s.pend.length : Int) = n) : Calls Try.prog 18 #[.pointer (some ⟨p, 0, none⟩)] w fun e w' => e = .returned (.int .i64 n) ∧ J w0 w' p s ∧ Below w.heap.size w w' := by
  subst hn; exact J_Pending h
theorem all_at_w {w : World} {base : Nat} {ok : Nat → Prop} {A : Option Addr} {m c : Nat} {all : List (List Int)} (h : Kd.R kD_w 27 w base ok (.slice A m c) all) (i : Nat) (D : List Int) (hD : all[i]? = some D) : ∃ ad Ai ci, A = some ad ∧ w.cell? (ad.add i) = some (.slice Ai D.length ci) ∧ D.length ≤ ci ∧ Kd.C (Kd.int .u8) w Ai D.length D := by
  obtain ⟨rfl, _, hC⟩ := Kd.R_reads' h
  have hi := (List.getElem?_eq_some_iff.1 hD).1
  obtain ⟨ad, rfl, hc⟩ := hC.2.2 (by omega)
  obtain ⟨cs, _, ⟨Ai, ci, rfl, h1, h2⟩, h3⟩ := hc i D hD
  refine ⟨ad, Ai, ci, rfl, ?_, h1, h2⟩
  have := h3 0 _ rfl
  rwa [show i * kD_w.sz + 0 = i from by show i * 1 + 0 = i; omega] at this
set_option maxRecDepth 20000 in
set_option maxHeartbeats 100000000 in
theorem law_WholeA_w (A0 : Option Addr) (c0 : Nat) (l0 : List S35) (A1 : Option Addr) (c1 : Nat) (l1 : List Bool) (w : World) (hr0 : Kd.C k35 w A0 l0.length l0) (hr1 : Kd.C Kd.bool w A1 l1.length l1) (hc1 : l1.length ≤ c1) (hl : l0.length ≤ 20) : Calls Try.prog 6 #[.slice A0 l0.length c0, .slice A1 l1.length c1] w fun e w' => e = .returned (.bool true) ∧ Below w.heap.size w w' := by
  have HR0 := Aside0.mk hr0
  have HL := Aside0.mk hl
  clear hl
  have HR1 := Aside0.mk hr1
  have HC1 := Aside0.mk hc1
  have m0 := Kd.C_max hr0
  have m1 := Kd.C_max hr1
  clear hr0 hr1 hc1
  obtain ⟨was, hwas⟩ : ∃ L : List Int, L = List.replicate 768 0 := ⟨_, rfl⟩
  have HW := Aside0.mk hwas
  obtain ⟨s0, hs0⟩ : ∃ s : Dk, s = ⟨3, List.replicate (3 * 256) 0, List.replicate (3 * 256) 0, [], false, 0, false⟩ := ⟨_, rfl⟩
  have I0 := Aside0.mk (show Wh_w s0 [] ∧ s0.now = was by rw [hs0, hwas]; exact ⟨new_Wh_w, rfl⟩)
  have HS0 := Aside0.mk hs0
  clear hwas hs0
  go_enter Try.func6, Try.ntmps6
  go_wp2_with (first | (go_at_call 14; refine (J_New _ 3 (by decide) (by decide)).mono ?_; rintro e w1 ⟨p, rfl, hJ⟩; have J1 := Aside0.mk (show J w w1 p s0 by rw [HS0.out]; exact hJ); clear hJ) | (go_at_call 27; refine (J_Dump J1.out).mono ?_; rintro e w2 ⟨v7, rfl, hR, hJ, hb⟩; rw [I0.out.2] at hR; obtain ⟨A7, c7, rfl⟩ := Kd.R_slice hR; have J2 := Aside0.mk (show JW_w w w2 p s0 A7 c7 was (.slice none 0 0) [] from ⟨hJ, Kd.R_lower hR (J_below J1.out).size, Kd.R_nil _ _ _ _ _⟩); clear hR hJ hb J1))
  go_loopw [8, 9, 10, 11] (fun v8 v9 v10 v11 wr => ∃ (j : Nat) (s : Dk) (all : List (List Int)) (A8 : Option Addr) (c8 : Nat), v9 = .int .i64 (j : Int) ∧ v8 = .slice A8 all.length c8 ∧ j ≤ l0.length ∧ j ≤ 20 ∧ all.length ≤ j ∧ Aside0 (Wh_w s all) ∧ Aside0 (JW_w w wr p s A7 c7 was (.slice A8 all.length c8) all)) (fun v8 v9 v10 v11 _ => l0.length - (intOf v9).toNat)
  case atStart => exact ⟨0, _, [], none, 0, rfl, rfl, Nat.zero_le _, Nat.zero_le _, Nat.le_refl _, ⟨I0.out.1⟩, J2⟩
  case round =>
    clear J2
    obtain ⟨j, s, all, A8, c8, rfl, rfl, hj, hj2, hal, HI, HJ⟩ := hrel
    by_cases d0 : j < l0.length ∧ j < 20
    · obtain ⟨d1, d2⟩ := d0
      have d1b : decide (j < l0.length) = true := decide_eq_true d1
      have d2b : decide (j < 20) = true := decide_eq_true d2
      obtain ⟨ad, A5, c5, A6, c6, k, n, b, sh, keep, rfl, hy, l5, C5, l6, C6⟩ := act_at_w HR0.out j d1
      have HY := Aside0.mk hy
      have L5 := Aside0.mk l5
      have C5 := Aside0.mk C5
      have L6 := Aside0.mk l6
      have C6 := Aside0.mk C6
      obtain ⟨y0, y1, y2, y3, y4⟩ := hy _ (J_below HJ.out.1)
      clear hy l5 l6
      by_cases e1 : b.length ≤ 300 ∧ keep.length ≤ 300
      · have EV := Aside0.mk (small_ev_w k n b sh keep e1.1 e1.2)
        have LB := Aside0.mk e1.1
        clear e1
        obtain ⟨nn, hn, n1⟩ := pick14_w n 3 (by decide) (by decide)
        obtain ⟨s', hx, hW⟩ := step_Wh_w HI.out nn (by omega) (blkOf b) (blkOf_len b)
        have HN := Aside0.mk hn
        have HX := Aside0.mk hx
        have NI := Aside0.mk hW
        have PB := Aside0.mk (show s.pend.length ≤ 1000 by have := HI.out.2.2.2.2.1; omega)
        obtain ⟨D, hD⟩ : ∃ D, D = s'.now := ⟨_, rfl⟩
        rw [← hD] at NI
        have HD := Aside0.mk hD
        clear hn hx hW hD
        go_upto_region 14 with (first | (go_at_call 19; refine (marginalialaw14_Act_small.calls k n _ _ b sh _ _ keep true _ (Kd.C_below C5.out (J_below HJ.out.1)) L5.out (Kd.C_below C6.out (J_below HJ.out.1)) L6.out EV.out).mono ?_; rintro e w2 ⟨rfl, hb⟩; have J2 := Aside0.mk (JW_deep_w HJ.out hb); obtain ⟨z0, z1, z2, z3, z4⟩ := HY.out _ (J_below J2.out.1); clear hb HJ y0 y1 y2 y3 y4) | (go_at_call 25; refine (marginalialaw14_pick.calls n 3 nn _ HN.out).mono ?_; rintro e w3 ⟨rfl, hd⟩; have J3 := Aside0.mk (JW_deep_w J2.out (drawn_below hd)); obtain ⟨x0, x1, x2, x3, x4⟩ := HY.out _ (J_below J3.out.1); clear hd J2 z0 z1 z2 z3 z4) | (go_at_call 23; refine (marginaliaref14_Block.calls 300 _ _ b (blkOf b) _ (Kd.C_below C5.out (J_below J3.out.1)) L5.out (Block_ev b (by have := LB.out; omega))).mono ?_; rintro e w4 ⟨v4, rfl, hR, hb⟩; obtain ⟨A4, c4, rfl⟩ := Kd.R_slice hR; have R4 := Aside0.mk hR; have J4 := Aside0.mk (JW_deep_w J3.out hb); clear hR hb J3 x0 x1 x2 x3 x4) | (go_at_call 22; refine (J_Write J4.out.1 (by have := PB.out; omega) (nn : Int) _ _ _ _ _ R4.out _ _ HX.out).mono ?_; rintro e w5 ⟨rfl, hJ, ho⟩; have J5 := Aside0.mk (JW_oth_w J4.out hJ ho); clear hJ ho J4 R4) | (go_at_call 27; refine (J_Dump J5.out.1).mono ?_; rintro e w6 ⟨v6, rfl, hR, hJ, hb⟩; rw [← HD.out] at hR; obtain ⟨A9, c9, rfl⟩ := Kd.R_slice hR; have R6 := Aside0.mk (And.intro hR (J_below J5.out.1).size); have J6 := Aside0.mk (JW_deep_w J5.out hb); clear hR hJ hb J5))
        go_wp2_with ((with_reducible refine gate_builtin (b := .append) (xs := #[.tmp 65, .tmp 67]) rfl ?_); at_builtin; refine Kd.R_append kD_w (w0 := w) w.heap.size rfl (.tmp 65) (.tmp 67) 46 27 (.slice none 0 0) 24 rfl Try.underlying46 info27_w rfl (by decide) (by omega) (.slice A8 all.length c8) all D _ (fun _ => True) (fun k => some k = (Value.slice A9 D.length c9).ownBlock) rfl rfl ?aP ?aK (fun _ _ => trivial) ?aR ?aB ?aS ?aL ?_; (case aP => exact kD_mk_w (Kd.R_tight rfl R6.out.1) R6.out.2); (case aR => exact J6.out.2.2); (case aB => exact J_below J6.out.1); (case aS => exact (J_below J6.out.1).size); (case aL => omega); (case aK => intro k hk; refine ⟨trivial, fun e => ?_⟩; obtain ⟨q1, h1⟩ := Kd.R_typed R6.out.1 k hk.symm; obtain ⟨q2, h2⟩ := Kd.R_typed J6.out.2.2 k e.symm; exact blk_ne h1 h2 (by decide) rfl); intro v18 w7 ho hb hg hat; obtain ⟨A18, c18, rfl⟩ := Kd.R_slice ho; have J7 := Aside0.mk (JW_app_w J6.out hg hb ho); clear ho hb hg hat)
        go_roundw
        case rel => exact ⟨j + 1, s', all ++ [D], A18, c18, by go_num, by simp, by omega, by omega, by simp; omega, NI, J7⟩
        case measure => simp [intOf]; omega
      · have EV := Aside0.mk (small_no_w k n b sh keep e1)
        clear e1
        go_wp2_with (go_at_call 19; refine (marginalialaw14_Act_small.calls k n _ _ b sh _ _ keep false _ (Kd.C_below C5.out (J_below HJ.out.1)) L5.out (Kd.C_below C6.out (J_below HJ.out.1)) L6.out EV.out).mono ?_; rintro e w2 ⟨rfl, hb⟩; have J2 := Aside0.mk (JW_deep_w HJ.out hb); clear hb HJ y0 y1 y2 y3 y4)
        go_roundw
        case rel => exact ⟨j + 1, s, all, A8, c8, by go_num, rfl, by omega, by omega, by omega, HI, J2⟩
        case measure => simp [intOf]; omega
    · obtain ⟨t, ht⟩ : ∃ t, t = crx s l1 := ⟨_, rfl⟩
      have CW0 := crash_Wh_w HI.out l1
      rw [← ht] at CW0
      obtain ⟨now, hnow⟩ : ∃ L, L = t.now := ⟨_, rfl⟩
      rw [← hnow, ← HW.out] at CW0
      have CW := Aside0.mk CW0
      clear CW0
      have HT := Aside0.mk ht
      have HN := Aside0.mk hnow
      obtain ⟨m, hm⟩ : ∃ m, m = all.length := ⟨_, rfl⟩
      have HM := Aside0.mk hm
      have AL := Aside0.mk HI.out.2.2.2.2.2.2.2.2
      have PB := Aside0.mk (show s.pend.length ≤ 1000 by have := HI.out.2.2.2.2.1; omega)
      have PE := Aside0.mk (show (s.pend.length : Int) = (m : Int) * 4 by have := HI.out.2.2.2.2.1; omega)
      rw [← hm] at HJ ⊢
      have m20 : m ≤ 20 := by omega
      have wm : IntKind.i64.wrap ((m : Int) * 4) = (m : Int) * 4 := by rw [i64_w]; exact IntWalk.wrap64_in _ (by omega)
      clear hm hal ht hnow
      have d1 : ¬ j < l0.length := by have := HL.out; omega
      have d1b : decide (j < l0.length) = false := decide_eq_false d1
      go_wp2_with (first | (go_at_call 18; refine (J_PendingN_w HJ.out.1 ((m : Int) * 4) PE.out).mono ?_; rintro e w2 ⟨rfl, hJ, hb⟩; have J2 := Aside0.mk (JW_deep_w HJ.out hb); clear hJ hb HJ) | (go_at_call 21; refine (J_Crash J2.out.1 (by have := PB.out; omega) _ _ l1 (fun W _ hB => Kd.C_below HR1.out hB)).mono ?_; rintro e w3 ⟨rfl, hJ, ho⟩; rw [← HT.out] at hJ; have J3 := Aside0.mk (JW_oth_w J2.out hJ ho); clear hJ ho J2) | (go_at_call 27; refine (J_Dump J3.out.1).mono ?_; rintro e w4 ⟨v4, rfl, hR, hJ, hb⟩; rw [← HN.out] at hR; obtain ⟨A12, c12, e12⟩ := Kd.R_slice hR; rw [CW.out.1] at e12; subst e12; have R4 := Aside0.mk (Kd.R_lower hR (J_below J3.out.1).size); have J4 := Aside0.mk (JW_deep_w J3.out hb); clear hR hJ hb J3))
      clear d0 d1 d1b hj hj2
      go_loopw [13, 14] (fun v13 v14 wr => ∃ (i : Nat) (bb : Bool), v14 = .int .i64 (i : Int) ∧ v13 = .bool bb ∧ i ≤ l1.length ∧ Aside0 (bb = true → 4 * m ≤ l1.length ∧ ∀ k, k < i → k < 4 * m → kpB l1 k = true) ∧ Aside0 (JW_w w wr p t A7 c7 was (.slice A8 m c8) all ∧ Kd.R (Kd.int .u8) 5 wr w.heap.size (fun _ => True) (.slice A12 768 c12) now)) (fun v13 v14 _ => l1.length - (intOf v14).toNat)
      case atStart => exact ⟨0, _, rfl, rfl, Nat.zero_le _, ⟨fun e => ⟨by have := of_decide_eq_true e; omega, fun k hk => by omega⟩⟩, ⟨J4.out, R4.out⟩⟩
      case round =>
        clear J4 R4
        obtain ⟨i, bb, rfl, rfl, hi, HB, HJ⟩ := hrel
        by_cases d1 : i < l1.length
        · have d1b : decide (i < l1.length) = true := decide_eq_true d1
          obtain ⟨ad, ea, hx⟩ := Kd.at_bool (Kd.C_below HR1.out (J_below HJ.out.1.1)) (i : Int) (by omega) (by omega)
          cases ea
          simp only [Int.toNat_natCast] at hx
          obtain ⟨q, hq⟩ : ∃ q, q = rdOf false l1 (i : Int) := ⟨_, rfl⟩
          rw [← hq] at hx
          have E := Aside0.mk (show kpB l1 i = q by rw [hq]; simp [kpB, rdOf])
          clear hq
          cases bb with
          | false =>
            go_wp2
            go_roundw
            case rel => exact ⟨i + 1, false, by go_num, by rfl, by omega, ⟨fun e => by cases e⟩, HJ⟩
            case measure => simp [intOf]; omega
          | true =>
            cases q with
            | true =>
              go_wp2
              go_roundw
              case rel => exact ⟨i + 1, true, by go_num, by rfl, by omega, ⟨fun e => ⟨(HB.out rfl).1, fun k hk hk2 => by
                by_cases c : k = i
                · rw [c]; exact E.out
                · exact (HB.out rfl).2 k (by omega) hk2⟩⟩, HJ⟩
              case measure => simp [intOf]; omega
            | false =>
              by_cases d2 : 4 * m ≤ i
              · have d2b : decide ((m : Int) * 4 ≤ (i : Int)) = true := decide_eq_true (by omega)
                go_wp2
                go_roundw
                case rel => exact ⟨i + 1, true, by go_num, by rfl, by omega, ⟨fun e => ⟨(HB.out rfl).1, fun k hk hk2 => (HB.out rfl).2 k (by omega) hk2⟩⟩, HJ⟩
                case measure => simp [intOf]; omega
              · have d2b : decide ((m : Int) * 4 ≤ (i : Int)) = false := decide_eq_false (by omega)
                go_wp2
                go_roundw
                case rel => exact ⟨i + 1, false, by go_num, by rfl, by omega, ⟨fun e => by cases e⟩, HJ⟩
                case measure => simp [intOf]; omega
        · have d1b : decide (i < l1.length) = false := decide_eq_false d1
          go_upto_region 24 with (fail)
          go_cut [128] (fun v128 wc => v128 = .bool false ∧ wc = wr.drew)
          case first =>
            cases bb with
            | false =>
              go_region
              go_wp2
              go_meet
              case rel => exact ⟨rfl, rfl⟩
            | true =>
              by_cases d2 : 0 < m
              · have d2b : decide (0 < m) = true := decide_eq_true d2
                obtain ⟨M, hMM⟩ : ∃ M, M = m - 1 := ⟨_, rfl⟩
                have wm1 : wrap64 ((m : Int) - 1) = (M : Int) := by unfold wrap64; omega
                have hMm : M < m := by omega
                have hMb : (M : Int) < (m : Int) := by omega
                have hM0 : (0 : Int) ≤ (M : Int) := by omega
                obtain ⟨D, hD⟩ : ∃ D, all[m - 1]? = some D := ⟨_, List.getElem?_eq_getElem (show m - 1 < all.length by have := HM.out; omega)⟩
                have hND : now = D := CW.out.2.1 (by have := (HB.out rfl).1; have := HM.out; omega) (fun k hk => (HB.out rfl).2 k (by have := (HB.out rfl).1; have := HM.out; omega) (by have := HM.out; omega)) D (by rw [List.getLast?_eq_getElem?, ← HM.out]; exact hD)
                rw [← hMM] at hD
                obtain ⟨ad, Ai, ci, ea, hc8, hci, hC8⟩ := all_at_w HJ.out.1.2.2 M D hD
                clear hMM
                cases ea
                obtain ⟨S, hS⟩ : ∃ S, S = strOfNums now := ⟨_, rfl⟩
                have HS := Aside0.mk hS
                have C12 := Aside0.mk (show Kd.C (Kd.int .u8) wr A12 768 now by have h := (Kd.R_reads' HJ.out.2).2.2; rwa [CW.out.1] at h)
                have C8 := Aside0.mk hC8
                have Z8 := Aside0.mk hc8
                have HD := Aside0.mk hND
                clear hS hC8 hc8 hND
                refine start_ (n := 23) (S := fun w' => Sem.run Try.prog (convert 27 9 (.slice A12 768 c12)) w' = .ok (.string S) w' ∧ Sem.run Try.prog (convert 27 9 (.slice Ai D.length ci)) w' = .ok (.string S) w' ∧ w'.cell? (ad.add M) = some (.slice Ai D.length ci)) (ds := []) #[false, false, false, false, false, false, false, false, false, false, false, false, false, false, false, false, false, false, false, false, false, false, false] (by kernel_rfl) rfl rfl ⟨(by rw [HS.out]; exact Kd.C_string (P := Try.prog) (A := A12) (c := c12) Try.underlying27 Try.underlying5 Try.underlying9 (Kd.C_below C12.out (below_drew (Below.refl _ _)))), (by rw [HS.out, HD.out]; exact Kd.C_string (P := Try.prog) (A := Ai) (c := ci) Try.underlying27 Try.underlying5 Try.underlying9 (Kd.C_below C8.out (below_drew (Below.refl _ _)))), (by exact Z8.out)⟩ (fun hHeld => ?_)
                refine pure_ (i := 0) (N := some 106) (v := ?_) (a' := ?_) #[true, false, false, false, false, false, false, false, false, false, false, false, false, false, false, false, false, false, false, false, false, false, false] rfl rfl (by kernel_rfl) (fun _ _ _ h => h) (Or.inl ⟨by rfl, ?_⟩) ?_ ?_
                rotate_left
                · intro w'
                  go_simp
                  with_reducible rfl
                rotate_left
                · simp only [Act.put, List.setIfInBounds_toArray, List.set_cons_zero, List.set_cons_succ, i64_w, i32_w]
                  rfl
                refine pure_ (i := 1) (N := some 107) (v := ?_) (a' := ?_) #[true, true, false, false, false, false, false, false, false, false, false, false, false, false, false, false, false, false, false, false, false, false, false] rfl rfl (by kernel_rfl) (fun _ _ _ h => h) (Or.inl ⟨by rfl, ?_⟩) ?_ ?_
                rotate_left
                · intro w'
                  go_simp
                  with_reducible rfl
                rotate_left
                · simp only [Act.put, List.setIfInBounds_toArray, List.set_cons_zero, List.set_cons_succ, i64_w, i32_w]
                  rfl
                refine pure_ (i := 2) (N := some 108) (v := ?_) (a' := ?_) #[true, true, true, false, false, false, false, false, false, false, false, false, false, false, false, false, false, false, false, false, false, false, false] rfl rfl (by kernel_rfl) (fun _ _ _ h => h) (Or.inl ⟨by rfl, ?_⟩) ?_ ?_
                rotate_left
                · intro w'
                  go_simp
                  with_reducible rfl
                rotate_left
                · simp only [Act.put, List.setIfInBounds_toArray, List.set_cons_zero, List.set_cons_succ, i64_w, i32_w]
                  rfl
                refine pure_ (i := 3) (N := some 109) (v := ?_) (a' := ?_) #[true, true, true, true, false, false, false, false, false, false, false, false, false, false, false, false, false, false, false, false, false, false, false] rfl rfl (by kernel_rfl) (fun _ _ _ h => h) (Or.inl ⟨by rfl, ?_⟩) ?_ ?_
                rotate_left
                · intro w'
                  go_simp
                  with_reducible rfl
                rotate_left
                · simp only [Act.put, List.setIfInBounds_toArray, List.set_cons_zero, List.set_cons_succ, i64_w, i32_w]
                  rfl
                refine pure_ (i := 4) (N := some 110) (v := ?_) (a' := ?_) #[true, true, true, true, true, false, false, false, false, false, false, false, false, false, false, false, false, false, false, false, false, false, false] rfl rfl (by kernel_rfl) (fun _ _ _ h => h) (Or.inl ⟨by rfl, ?_⟩) ?_ ?_
                rotate_left
                · intro w'
                  go_simp
                  with_reducible rfl
                rotate_left
                · simp only [Act.put, List.setIfInBounds_toArray, List.set_cons_zero, List.set_cons_succ, i64_w, i32_w]
                  rfl
                refine pure_ (i := 5) (N := some 111) (v := ?_) (a' := ?_) #[true, true, true, true, true, true, false, false, false, false, false, false, false, false, false, false, false, false, false, false, false, false, false] rfl rfl (by kernel_rfl) (fun _ _ _ h => h) (Or.inl ⟨by rfl, ?_⟩) ?_ ?_
                rotate_left
                · intro w'
                  go_simp
                  with_reducible rfl
                rotate_left
                · simp only [Act.put, List.setIfInBounds_toArray, List.set_cons_zero, List.set_cons_succ, i64_w, i32_w]
                  rfl
                refine pure_ (i := 6) (N := some 112) (v := ?_) (a' := ?_) #[true, true, true, true, true, true, true, false, false, false, false, false, false, false, false, false, false, false, false, false, false, false, false] rfl rfl (by kernel_rfl) (fun _ _ _ h => h) (Or.inl ⟨by rfl, ?_⟩) ?_ ?_
                rotate_left
                · intro w'
                  go_simp
                  with_reducible rfl
                rotate_left
                · simp only [Act.put, List.setIfInBounds_toArray, List.set_cons_zero, List.set_cons_succ, i64_w, i32_w]
                  rfl
                refine pure_ (i := 7) (N := some 113) (v := ?_) (a' := ?_) #[true, true, true, true, true, true, true, true, false, false, false, false, false, false, false, false, false, false, false, false, false, false, false] rfl rfl (by kernel_rfl) (fun _ _ _ h => h) (Or.inl ⟨by rfl, ?_⟩) ?_ ?_
                rotate_left
                · intro w'
                  go_simp
                  with_reducible rfl
                rotate_left
                · simp only [Act.put, List.setIfInBounds_toArray, List.set_cons_zero, List.set_cons_succ, i64_w, i32_w]
                  rfl
                refine pure_ (i := 8) (N := some 114) (v := ?_) (a' := ?_) #[true, true, true, true, true, true, true, true, true, false, false, false, false, false, false, false, false, false, false, false, false, false, false] rfl rfl (by kernel_rfl) (fun _ _ _ h => h) (Or.inl ⟨by rfl, ?_⟩) ?_ ?_
                rotate_left
                · intro w'
                  go_simp
                  with_reducible rfl
                rotate_left
                · simp only [Act.put, List.setIfInBounds_toArray, List.set_cons_zero, List.set_cons_succ, i64_w, i32_w]
                  rfl
                refine pure_ (i := 9) (N := some 115) (v := ?_) (a' := ?_) #[true, true, true, true, true, true, true, true, true, true, false, false, false, false, false, false, false, false, false, false, false, false, false] rfl rfl (by kernel_rfl) (fun _ _ _ h => h) (Or.inl ⟨by rfl, ?_⟩) ?_ ?_
                rotate_left
                · intro w'
                  go_simp
                  with_reducible rfl
                rotate_left
                · simp only [Act.put, List.setIfInBounds_toArray, List.set_cons_zero, List.set_cons_succ, i64_w, i32_w]
                  rfl
                refine pure_ (i := 10) (N := some 116) (v := ?_) (a' := ?_) #[true, true, true, true, true, true, true, true, true, true, true, false, false, false, false, false, false, false, false, false, false, false, false] rfl rfl (by kernel_rfl) (fun _ _ _ h => h) (Or.inl ⟨by rfl, ?_⟩) ?_ ?_
                rotate_left
                · intro w'
                  go_simp
                  with_reducible rfl
                rotate_left
                · simp only [Act.put, List.setIfInBounds_toArray, List.set_cons_zero, List.set_cons_succ, i64_w, i32_w]
                  rfl
                refine pure_ (i := 11) (N := some 117) (v := ?_) (a' := ?_) #[true, true, true, true, true, true, true, true, true, true, true, true, false, false, false, false, false, false, false, false, false, false, false] rfl rfl (by kernel_rfl) (fun _ _ _ h => h) (Or.inl ⟨by rfl, ?_⟩) ?_ ?_
                rotate_left
                · intro w'
                  go_simp
                  with_reducible rfl
                rotate_left
                · simp only [Act.put, List.setIfInBounds_toArray, List.set_cons_zero, List.set_cons_succ, i64_w, i32_w]
                  rfl
                refine pure_ (i := 13) (N := some 119) (v := ?_) (a' := ?_) #[true, true, true, true, true, true, true, true, true, true, true, true, false, true, false, false, false, false, false, false, false, false, false] rfl rfl (by kernel_rfl) (fun _ _ _ h => h) (Or.inl ⟨by rfl, ?_⟩) ?_ ?_
                rotate_left
                · intro w'
                  go_simp
                  with_reducible rfl
                rotate_left
                · simp only [Act.put, List.setIfInBounds_toArray, List.set_cons_zero, List.set_cons_succ, i64_w, i32_w]
                  rfl
                refine pure_ (i := 14) (N := some 120) (v := ?_) (a' := ?_) #[true, true, true, true, true, true, true, true, true, true, true, true, false, true, true, false, false, false, false, false, false, false, false] rfl rfl (by kernel_rfl) (fun _ _ _ h => h) (Or.inl ⟨by rfl, ?_⟩) ?_ ?_
                rotate_left
                · intro w'
                  go_simp
                  with_reducible rfl
                rotate_left
                · simp only [Act.put, List.setIfInBounds_toArray, List.set_cons_zero, List.set_cons_succ, i64_w, i32_w]
                  rfl
                refine pure_ (i := 15) (N := some 121) (v := ?_) (a' := ?_) #[true, true, true, true, true, true, true, true, true, true, true, true, false, true, true, true, false, false, false, false, false, false, false] rfl rfl (by kernel_rfl) (fun _ _ _ h => h) (Or.inl ⟨by rfl, ?_⟩) ?_ ?_
                rotate_left
                · intro w'
                  go_simp
                  with_reducible rfl
                rotate_left
                · simp only [Act.put, List.setIfInBounds_toArray, List.set_cons_zero, List.set_cons_succ, i64_w, i32_w]
                  rfl
                refine pure_ (i := 16) (N := some 122) (v := ?_) (a' := ?_) #[true, true, true, true, true, true, true, true, true, true, true, true, false, true, true, true, true, false, false, false, false, false, false] rfl rfl (by kernel_rfl) (fun _ _ _ h => h) (Or.inl ⟨by rfl, ?_⟩) ?_ ?_
                rotate_left
                · intro w'
                  go_simp
                  with_reducible rfl
                rotate_left
                · simp only [Act.put, List.setIfInBounds_toArray, List.set_cons_zero, List.set_cons_succ, i64_w, i32_w]
                  rfl
                refine pure_ (i := 17) (N := some 123) (v := ?_) (a' := ?_) #[true, true, true, true, true, true, true, true, true, true, true, true, false, true, true, true, true, true, false, false, false, false, false] rfl rfl (by kernel_rfl) (fun _ _ _ h => h) (Or.inl ⟨by rfl, ?_⟩) ?_ ?_
                rotate_left
                · intro w'
                  go_simp
                  with_reducible rfl
                rotate_left
                · simp only [Act.put, List.setIfInBounds_toArray, List.set_cons_zero, List.set_cons_succ, i64_w, i32_w]
                  rfl
                refine take_ (i := 12) (N := some 118) (v := ?_) (a' := ?_) #[true, true, true, true, true, true, true, true, true, true, true, true, true, true, true, true, true, true, false, false, false, false, false] rfl rfl (by kernel_rfl) (fun _ _ _ h => h) (Or.inl ⟨by rfl, ?_⟩) hHeld ?_ ?_
                rotate_left
                · rintro w' ⟨s0, s1, s2⟩
                  go_simp
                  with_reducible rfl
                rotate_left
                · simp only [Act.put, List.setIfInBounds_toArray, List.set_cons_zero, List.set_cons_succ, i64_w, i32_w]
                  rfl
                refine take_ (i := 18) (N := some 124) (v := ?_) (a' := ?_) #[true, true, true, true, true, true, true, true, true, true, true, true, true, true, true, true, true, true, true, false, false, false, false] rfl rfl (by kernel_rfl) (fun _ _ _ h => h) (Or.inl ⟨by rfl, ?_⟩) hHeld ?_ ?_
                rotate_left
                · rintro w' ⟨s0, s1, s2⟩
                  go_simp
                  with_reducible rfl
                rotate_left
                · simp only [Act.put, List.setIfInBounds_toArray, List.set_cons_zero, List.set_cons_succ, i64_w, i32_w]
                  rfl
                refine take_ (i := 19) (N := some 125) (v := ?_) (a' := ?_) #[true, true, true, true, true, true, true, true, true, true, true, true, true, true, true, true, true, true, true, true, false, false, false] rfl rfl (by kernel_rfl) (fun _ _ _ h => h) (Or.inl ⟨by rfl, ?_⟩) hHeld ?_ ?_
                rotate_left
                · rintro w' ⟨s0, s1, s2⟩
                  go_simp
                  with_reducible rfl
                rotate_left
                · simp only [Act.put, List.setIfInBounds_toArray, List.set_cons_zero, List.set_cons_succ, i64_w, i32_w]
                  rfl
                refine pure_ (i := 20) (N := some 126) (v := ?_) (a' := ?_) #[true, true, true, true, true, true, true, true, true, true, true, true, true, true, true, true, true, true, true, true, true, false, false] rfl rfl (by kernel_rfl) (fun _ _ _ h => h) (Or.inl ⟨by rfl, ?_⟩) ?_ ?_
                rotate_left
                · intro w'
                  go_simp
                  with_reducible rfl
                rotate_left
                · simp only [Act.put, List.setIfInBounds_toArray, List.set_cons_zero, List.set_cons_succ, i64_w, i32_w]
                  rfl
                refine pure_ (i := 21) (N := some 127) (v := ?_) (a' := ?_) #[true, true, true, true, true, true, true, true, true, true, true, true, true, true, true, true, true, true, true, true, true, true, false] rfl rfl (by kernel_rfl) (fun _ _ _ h => h) (Or.inl ⟨by rfl, ?_⟩) ?_ ?_
                rotate_left
                · intro w'
                  go_simp
                  with_reducible rfl
                rotate_left
                · simp only [Act.put, List.setIfInBounds_toArray, List.set_cons_zero, List.set_cons_succ, i64_w, i32_w]
                  rfl
                refine pure_ (i := 22) (N := some 128) (v := ?_) (a' := ?_) #[true, true, true, true, true, true, true, true, true, true, true, true, true, true, true, true, true, true, true, true, true, true, true] rfl rfl (by kernel_rfl) (fun _ _ _ h => h) (Or.inl ⟨by rfl, ?_⟩) ?_ ?_
                rotate_left
                · intro w'
                  go_simp
                  with_reducible rfl
                rotate_left
                · simp only [Act.put, List.setIfInBounds_toArray, List.set_cons_zero, List.set_cons_succ, i64_w, i32_w]
                  rfl
                refine done_ (by kernel_rfl) ?_
                go_wp2
                go_meet
                case rel => exact ⟨rfl, rfl⟩
              · have d2b : decide (0 < m) = false := decide_eq_false d2
                go_region
                go_wp2
                go_meet
                case rel => exact ⟨rfl, rfl⟩
          case rest =>
            obtain ⟨rfl, rfl⟩ := hcut
            as_aux_lemma =>
              have HJ := Aside0.mk (show JW_w w wr.drew p t A7 c7 was (.slice A8 m c8) all ∧ Kd.R (Kd.int .u8) 5 wr.drew w.heap.size (fun _ => True) (.slice A12 768 c12) now from ⟨JW_deep_w HJ.out.1 (below_drew (Below.refl _ _)), Kd.R_below HJ.out.2 (below_drew (Below.refl _ _))⟩)
              go_wp2
              go_loopw [15, 16, 17, 18, 19] (fun v15 v16 v17 v18 v19 wr => ∃ (k : Nat), v15 = .int .i64 (k : Int) ∧ k ≤ 12 ∧ Aside0 (JW_w w wr p t A7 c7 was (.slice A8 m c8) all ∧ Kd.R (Kd.int .u8) 5 wr w.heap.size (fun _ => True) (.slice A12 768 c12) now)) (fun v15 v16 v17 v18 v19 _ => 12 - (intOf v15).toNat)
              case atStart => exact ⟨0, rfl, Nat.zero_le _, HJ⟩
              case round =>
                obtain ⟨k, rfl, hk, HJ⟩ := hrel
                by_cases e1 : k < 12
                · have e1b : decide ((k : Int) < 12) = true := decide_eq_true (by omega)
                  have wk1 : wrap64 ((k : Int) * 64) = ((k * 64 : Nat) : Int) := by unfold wrap64; omega
                  have wk2 : wrap64 (wrap64 ((k : Int) + 1) * 64) = ((k * 64 + 64 : Nat) : Int) := by unfold wrap64; omega
                  have K7 := Kd.R_reads' HJ.out.1.2.1
                  have K12 := Kd.R_reads' HJ.out.2
                  have l7 : was.length = 768 := by rw [HW.out]; exact List.length_replicate ..
                  have h0 : (0 : Int) ≤ (k : Int) * 64 := by omega
                  have h1 : (k : Int) * 64 ≤ ((k : Int) + 1) * 64 := by omega
                  have h2 : ((k : Int) + 1) * 64 ≤ (c12 : Int) := by have := K12.2.1; omega
                  have h3 : ((k : Int) + 1) * 64 ≤ (c7 : Int) := by have := K7.2.1; omega
                  have h4 : (0 : Int) ≤ ((k : Int) + 1) * 64 := by omega
                  have h5 : (k : Int) * 64 ≤ (k : Int) * 64 + 64 := by omega
                  have t1 : ((k : Int) * 64).toNat = k * 64 := by omega
                  have t2 : (((k : Int) + 1) * 64).toNat = k * 64 + 64 := by omega
                  have n1 : ¬ c12 = k * 64 := by omega
                  have n2 : ¬ c7 = k * 64 := by omega
                  have q12 := C_cut8_w K12.2.2 (c := c12) (by have := K12.2.1; have := K12.1; omega) k (by have := K12.1; omega)
                  have q7 := C_cut8_w K7.2.2 (c := c7) (by have := K7.2.1; omega) k (by omega)
                  rw [cut8_len (by have := K12.1; omega)] at q12
                  rw [cut8_len (by omega)] at q7
                  have Q12 := Aside0.mk q12
                  have Q7 := Aside0.mk q7
                  obtain ⟨S1, hS1⟩ : ∃ S, S = strOfNums (cut8 now (k * 64) 64) := ⟨_, rfl⟩
                  obtain ⟨S2, hS2⟩ : ∃ S, S = strOfNums (cut8 was (k * 64) 64) := ⟨_, rfl⟩
                  have HS1 := Aside0.mk hS1
                  have HS2 := Aside0.mk hS2
                  clear K7 K12 q12 q7 hS1 hS2 l7
                  go_upto_region 30 with (fail)
                  refine start_ (n := 12) (S := fun w' => Sem.run Try.prog (convert 27 9 (.slice (A12.map (·.add (k * 64))) 64 (c12 - k * 64))) w' = .ok (.string S1) w' ∧ Sem.run Try.prog (convert 27 9 (.slice (A7.map (·.add (k * 64))) 64 (c7 - k * 64))) w' = .ok (.string S2) w') (ds := []) #[false, false, false, false, false, false, false, false, false, false, false, false] (by kernel_rfl) rfl rfl ⟨(by rw [HS1.out]; exact Kd.C_string (P := Try.prog) (c := c12 - k * 64) Try.underlying27 Try.underlying5 Try.underlying9 (Kd.C_below Q12.out (below_drew (Below.refl _ _)))), (by rw [HS2.out]; exact Kd.C_string (P := Try.prog) (c := c7 - k * 64) Try.underlying27 Try.underlying5 Try.underlying9 (Kd.C_below Q7.out (below_drew (Below.refl _ _))))⟩ (fun hHeld => ?_)
                  refine pure_ (i := 0) (N := some 138) (v := ?_) (a' := ?_) #[true, false, false, false, false, false, false, false, false, false, false, false] rfl rfl (by kernel_rfl) (fun _ _ _ h => h) (Or.inl ⟨by rfl, ?_⟩) ?_ ?_
                  rotate_left
                  · intro w'
                    go_simp
                    with_reducible rfl
                  rotate_left
                  · simp only [Act.put, List.setIfInBounds_toArray, List.set_cons_zero, List.set_cons_succ, i64_w, i32_w]
                    rfl
                  refine pure_ (i := 1) (N := some 139) (v := ?_) (a' := ?_) #[true, true, false, false, false, false, false, false, false, false, false, false] rfl rfl (by kernel_rfl) (fun _ _ _ h => h) (Or.inl ⟨by rfl, ?_⟩) ?_ ?_
                  rotate_left
                  · intro w'
                    go_simp
                    with_reducible rfl
                  rotate_left
                  · simp only [Act.put, List.setIfInBounds_toArray, List.set_cons_zero, List.set_cons_succ, i64_w, i32_w]
                    rfl
                  refine pure_ (i := 2) (N := some 140) (v := ?_) (a' := ?_) #[true, true, true, false, false, false, false, false, false, false, false, false] rfl rfl (by kernel_rfl) (fun _ _ _ h => h) (Or.inl ⟨by rfl, ?_⟩) ?_ ?_
                  rotate_left
                  · intro w'
                    go_simp
                    with_reducible rfl
                  rotate_left
                  · simp only [Act.put, List.setIfInBounds_toArray, List.set_cons_zero, List.set_cons_succ, i64_w, i32_w]
                    rfl
                  refine pure_ (i := 3) (N := some 141) (v := ?_) (a' := ?_) #[true, true, true, true, false, false, false, false, false, false, false, false] rfl rfl (by kernel_rfl) (fun _ _ _ h => h) (Or.inl ⟨by rfl, ?_⟩) ?_ ?_
                  rotate_left
                  · intro w'
                    go_simp
                    with_reducible rfl
                  rotate_left
                  · simp only [Act.put, List.setIfInBounds_toArray, List.set_cons_zero, List.set_cons_succ, i64_w, i32_w]
                    rfl
                  refine pure_ (i := 5) (N := some 143) (v := ?_) (a' := ?_) #[true, true, true, true, false, true, false, false, false, false, false, false] rfl rfl (by kernel_rfl) (fun _ _ _ h => h) (Or.inl ⟨by rfl, ?_⟩) ?_ ?_
                  rotate_left
                  · intro w'
                    go_simp
                    with_reducible rfl
                  rotate_left
                  · simp only [Act.put, List.setIfInBounds_toArray, List.set_cons_zero, List.set_cons_succ, i64_w, i32_w]
                    rfl
                  refine pure_ (i := 6) (N := some 144) (v := ?_) (a' := ?_) #[true, true, true, true, false, true, true, false, false, false, false, false] rfl rfl (by kernel_rfl) (fun _ _ _ h => h) (Or.inl ⟨by rfl, ?_⟩) ?_ ?_
                  rotate_left
                  · intro w'
                    go_simp
                    with_reducible rfl
                  rotate_left
                  · simp only [Act.put, List.setIfInBounds_toArray, List.set_cons_zero, List.set_cons_succ, i64_w, i32_w]
                    rfl
                  refine pure_ (i := 7) (N := some 145) (v := ?_) (a' := ?_) #[true, true, true, true, false, true, true, true, false, false, false, false] rfl rfl (by kernel_rfl) (fun _ _ _ h => h) (Or.inl ⟨by rfl, ?_⟩) ?_ ?_
                  rotate_left
                  · intro w'
                    go_simp
                    with_reducible rfl
                  rotate_left
                  · simp only [Act.put, List.setIfInBounds_toArray, List.set_cons_zero, List.set_cons_succ, i64_w, i32_w]
                    rfl
                  refine pure_ (i := 8) (N := some 146) (v := ?_) (a' := ?_) #[true, true, true, true, false, true, true, true, true, false, false, false] rfl rfl (by kernel_rfl) (fun _ _ _ h => h) (Or.inl ⟨by rfl, ?_⟩) ?_ ?_
                  rotate_left
                  · intro w'
                    go_simp
                    with_reducible rfl
                  rotate_left
                  · simp only [Act.put, List.setIfInBounds_toArray, List.set_cons_zero, List.set_cons_succ, i64_w, i32_w]
                    rfl
                  refine take_ (i := 4) (N := some 142) (v := ?_) (a' := ?_) #[true, true, true, true, true, true, true, true, true, false, false, false] rfl rfl (by kernel_rfl) (fun _ _ _ h => h) (Or.inl ⟨by rfl, ?_⟩) hHeld ?_ ?_
                  rotate_left
                  · rintro w' ⟨s0, s1⟩
                    go_simp
                    with_reducible rfl
                  rotate_left
                  · simp only [Act.put, List.setIfInBounds_toArray, List.set_cons_zero, List.set_cons_succ, i64_w, i32_w]
                    rfl
                  refine take_ (i := 9) (N := some 147) (v := ?_) (a' := ?_) #[true, true, true, true, true, true, true, true, true, true, false, false] rfl rfl (by kernel_rfl) (fun _ _ _ h => h) (Or.inl ⟨by rfl, ?_⟩) hHeld ?_ ?_
                  rotate_left
                  · rintro w' ⟨s0, s1⟩
                    go_simp
                    with_reducible rfl
                  rotate_left
                  · simp only [Act.put, List.setIfInBounds_toArray, List.set_cons_zero, List.set_cons_succ, i64_w, i32_w]
                    rfl
                  refine pure_ (i := 10) (N := some 148) (v := ?_) (a' := ?_) #[true, true, true, true, true, true, true, true, true, true, true, false] rfl rfl (by kernel_rfl) (fun _ _ _ h => h) (Or.inl ⟨by rfl, ?_⟩) ?_ ?_
                  rotate_left
                  · intro w'
                    go_simp
                    with_reducible rfl
                  rotate_left
                  · simp only [Act.put, List.setIfInBounds_toArray, List.set_cons_zero, List.set_cons_succ, i64_w, i32_w]
                    rfl
                  refine pure_ (i := 11) (N := some 18) (v := ?_) (a' := ?_) #[true, true, true, true, true, true, true, true, true, true, true, true] rfl rfl (by kernel_rfl) (fun _ _ _ h => h) (Or.inl ⟨by rfl, ?_⟩) ?_ ?_
                  rotate_left
                  · intro w'
                    go_simp
                    with_reducible rfl
                  rotate_left
                  · simp only [Act.put, List.setIfInBounds_toArray, List.set_cons_zero, List.set_cons_succ, i64_w, i32_w]
                    rfl
                  refine done_ (by kernel_rfl) ?_
                  clear hHeld
                  have HJ := Aside0.mk (show JW_w w wr.drew p t A7 c7 was (.slice A8 m c8) all ∧ Kd.R (Kd.int .u8) 5 wr.drew w.heap.size (fun _ => True) (.slice A12 768 c12) now from ⟨JW_deep_w HJ.out.1 (below_drew (Below.refl _ _)), Kd.R_below HJ.out.2 (below_drew (Below.refl _ _))⟩)
                  obtain ⟨ok0, hok0⟩ : ∃ b, b = (S1.toList == S2.toList) := ⟨_, rfl⟩
                  have OK0 := Aside0.mk (show cut8 now (k * 64) 64 = cut8 was (k * 64) 64 → ok0 = true by intro e; rw [hok0, HS1.out, HS2.out, e]; exact beq_self_eq_true _)
                  rw [← hok0]
                  clear hok0 Q7 HS2
                  go_wp2
                  go_loopw [18, 19] (fun v18 v19 wr => ∃ (i : Nat) (ok : Bool), v19 = .int .i64 (i : Int) ∧ v18 = .bool ok ∧ i ≤ m ∧ Aside0 ((cut8 now (k * 64) 64 = cut8 was (k * 64) 64 ∨ ∃ i', i' < i ∧ ∃ D, all[i']? = some D ∧ cut8 now (k * 64) 64 = cut8 D (k * 64) 64) → ok = true) ∧ Aside0 (JW_w w wr p t A7 c7 was (.slice A8 m c8) all ∧ Kd.R (Kd.int .u8) 5 wr w.heap.size (fun _ => True) (.slice A12 768 c12) now)) (fun v18 v19 _ => m - (intOf v19).toNat)
                  case atStart => exact ⟨0, ok0, rfl, rfl, Nat.zero_le _, ⟨fun e => e.elim OK0.out (fun ⟨i', h, _⟩ => absurd h (by omega))⟩, HJ⟩
                  case round =>
                    clear HJ OK0
                    obtain ⟨i, ok, rfl, rfl, hi2, HO, HJ⟩ := hrel
                    by_cases e2 : i < m
                    · have e2b : decide (i < m) = true := decide_eq_true e2
                      cases ok with
                      | true =>
                        go_upto_region 34 with (fail)
                        go_region
                        have HJ := Aside0.mk (show JW_w w wr.drew p t A7 c7 was (.slice A8 m c8) all ∧ Kd.R (Kd.int .u8) 5 wr.drew w.heap.size (fun _ => True) (.slice A12 768 c12) now from ⟨JW_deep_w HJ.out.1 (below_drew (Below.refl _ _)), Kd.R_below HJ.out.2 (below_drew (Below.refl _ _))⟩)
                        go_wp2
                        go_roundw
                        case rel => exact ⟨i + 1, true, by go_num, by rfl, by omega, ⟨fun _ => rfl⟩, HJ⟩
                        case measure => simp [intOf]; omega
                      | false =>
                        obtain ⟨D, hD⟩ : ∃ D, all[i]? = some D := ⟨_, List.getElem?_eq_getElem (show i < all.length by have := HM.out; omega)⟩
                        obtain ⟨ad, Ai, ci, ea, hc8, hci, hC8⟩ := all_at_w HJ.out.1.2.2 i D hD
                        cases ea
                        have l8 : D.length = 768 := AL.out D (List.mem_of_getElem? hD)
                        have n3 : ¬ ci = k * 64 := by omega
                        have h6 : ((k : Int) + 1) * 64 ≤ (ci : Int) := by omega
                        have q8 := C_cut8_w hC8 (c := ci) hci k (by omega)
                        rw [cut8_len (by omega)] at q8
                        have Q8 := Aside0.mk q8
                        have K12 := Kd.R_reads' HJ.out.2
                        have q12 := C_cut8_w K12.2.2 (c := c12) (by have := K12.2.1; have := K12.1; omega) k (by have := K12.1; omega)
                        rw [cut8_len (by have := K12.1; omega)] at q12
                        have Q12 := Aside0.mk q12
                        obtain ⟨dl, hdl⟩ : ∃ dl, dl = D.length := ⟨_, rfl⟩
                        rw [← hdl] at hc8
                        obtain ⟨S3, hS3⟩ : ∃ S, S = strOfNums (cut8 D (k * 64) 64) := ⟨_, rfl⟩
                        have HS3 := Aside0.mk hS3
                        have Z8 := Aside0.mk hc8
                        have HD := Aside0.mk hD
                        have hi0 : (0 : Int) ≤ (i : Int) := by omega
                        have him : (i : Int) < (m : Int) := by omega
                        clear l8 hc8 hdl hS3 q8 q12 K12 hC8 hD hci
                        go_upto_region 34 with (fail)
                        refine start_ (n := 18) (S := fun w' => Sem.run Try.prog (convert 27 9 (.slice (A12.map (·.add (k * 64))) 64 (c12 - k * 64))) w' = .ok (.string S1) w' ∧ Sem.run Try.prog (convert 27 9 (.slice (Ai.map (·.add (k * 64))) 64 (ci - k * 64))) w' = .ok (.string S3) w' ∧ w'.cell? (ad.add i) = some (.slice Ai dl ci)) (ds := []) #[false, false, false, false, false, false, false, false, false, false, false, false, false, false, false, false, false, false] (by kernel_rfl) rfl rfl ⟨(by rw [HS1.out]; exact Kd.C_string (P := Try.prog) (c := c12 - k * 64) Try.underlying27 Try.underlying5 Try.underlying9 (Kd.C_below Q12.out (below_drew (Below.refl _ _)))), (by rw [HS3.out]; exact Kd.C_string (P := Try.prog) (c := ci - k * 64) Try.underlying27 Try.underlying5 Try.underlying9 (Kd.C_below Q8.out (below_drew (Below.refl _ _)))), (by exact Z8.out)⟩ (fun hHeld => ?_)
                        refine pure_ (i := 0) (N := some 155) (v := ?_) (a' := ?_) #[true, false, false, false, false, false, false, false, false, false, false, false, false, false, false, false, false, false] rfl rfl (by kernel_rfl) (fun _ _ _ h => h) (Or.inl ⟨by rfl, ?_⟩) ?_ ?_
                        rotate_left
                        · intro w'
                          go_simp
                          with_reducible rfl
                        rotate_left
                        · simp only [Act.put, List.setIfInBounds_toArray, List.set_cons_zero, List.set_cons_succ, i64_w, i32_w]
                          rfl
                        refine pure_ (i := 1) (N := some 156) (v := ?_) (a' := ?_) #[true, true, false, false, false, false, false, false, false, false, false, false, false, false, false, false, false, false] rfl rfl (by kernel_rfl) (fun _ _ _ h => h) (Or.inl ⟨by rfl, ?_⟩) ?_ ?_
                        rotate_left
                        · intro w'
                          go_simp
                          with_reducible rfl
                        rotate_left
                        · simp only [Act.put, List.setIfInBounds_toArray, List.set_cons_zero, List.set_cons_succ, i64_w, i32_w]
                          rfl
                        refine pure_ (i := 2) (N := some 157) (v := ?_) (a' := ?_) #[true, true, true, false, false, false, false, false, false, false, false, false, false, false, false, false, false, false] rfl rfl (by kernel_rfl) (fun _ _ _ h => h) (Or.inl ⟨by rfl, ?_⟩) ?_ ?_
                        rotate_left
                        · intro w'
                          go_simp
                          with_reducible rfl
                        rotate_left
                        · simp only [Act.put, List.setIfInBounds_toArray, List.set_cons_zero, List.set_cons_succ, i64_w, i32_w]
                          rfl
                        refine pure_ (i := 3) (N := some 158) (v := ?_) (a' := ?_) #[true, true, true, true, false, false, false, false, false, false, false, false, false, false, false, false, false, false] rfl rfl (by kernel_rfl) (fun _ _ _ h => h) (Or.inl ⟨by rfl, ?_⟩) ?_ ?_
                        rotate_left
                        · intro w'
                          go_simp
                          with_reducible rfl
                        rotate_left
                        · simp only [Act.put, List.setIfInBounds_toArray, List.set_cons_zero, List.set_cons_succ, i64_w, i32_w]
                          rfl
                        refine pure_ (i := 4) (N := some 159) (v := ?_) (a' := ?_) #[true, true, true, true, true, false, false, false, false, false, false, false, false, false, false, false, false, false] rfl rfl (by kernel_rfl) (fun _ _ _ h => h) (Or.inl ⟨by rfl, ?_⟩) ?_ ?_
                        rotate_left
                        · intro w'
                          go_simp
                          with_reducible rfl
                        rotate_left
                        · simp only [Act.put, List.setIfInBounds_toArray, List.set_cons_zero, List.set_cons_succ, i64_w, i32_w]
                          rfl
                        refine pure_ (i := 5) (N := some 160) (v := ?_) (a' := ?_) #[true, true, true, true, true, true, false, false, false, false, false, false, false, false, false, false, false, false] rfl rfl (by kernel_rfl) (fun _ _ _ h => h) (Or.inl ⟨by rfl, ?_⟩) ?_ ?_
                        rotate_left
                        · intro w'
                          go_simp
                          with_reducible rfl
                        rotate_left
                        · simp only [Act.put, List.setIfInBounds_toArray, List.set_cons_zero, List.set_cons_succ, i64_w, i32_w]
                          rfl
                        refine pure_ (i := 7) (N := some 162) (v := ?_) (a' := ?_) #[true, true, true, true, true, true, false, true, false, false, false, false, false, false, false, false, false, false] rfl rfl (by kernel_rfl) (fun _ _ _ h => h) (Or.inl ⟨by rfl, ?_⟩) ?_ ?_
                        rotate_left
                        · intro w'
                          go_simp
                          with_reducible rfl
                        rotate_left
                        · simp only [Act.put, List.setIfInBounds_toArray, List.set_cons_zero, List.set_cons_succ, i64_w, i32_w]
                          rfl
                        refine pure_ (i := 8) (N := some 163) (v := ?_) (a' := ?_) #[true, true, true, true, true, true, false, true, true, false, false, false, false, false, false, false, false, false] rfl rfl (by kernel_rfl) (fun _ _ _ h => h) (Or.inl ⟨by rfl, ?_⟩) ?_ ?_
                        rotate_left
                        · intro w'
                          go_simp
                          with_reducible rfl
                        rotate_left
                        · simp only [Act.put, List.setIfInBounds_toArray, List.set_cons_zero, List.set_cons_succ, i64_w, i32_w]
                          rfl
                        refine pure_ (i := 9) (N := some 164) (v := ?_) (a' := ?_) #[true, true, true, true, true, true, false, true, true, true, false, false, false, false, false, false, false, false] rfl rfl (by kernel_rfl) (fun _ _ _ h => h) (Or.inl ⟨by rfl, ?_⟩) ?_ ?_
                        rotate_left
                        · intro w'
                          go_simp
                          with_reducible rfl
                        rotate_left
                        · simp only [Act.put, List.setIfInBounds_toArray, List.set_cons_zero, List.set_cons_succ, i64_w, i32_w]
                          rfl
                        refine pure_ (i := 11) (N := some 166) (v := ?_) (a' := ?_) #[true, true, true, true, true, true, false, true, true, true, false, true, false, false, false, false, false, false] rfl rfl (by kernel_rfl) (fun _ _ _ h => h) (Or.inl ⟨by rfl, ?_⟩) ?_ ?_
                        rotate_left
                        · intro w'
                          go_simp
                          with_reducible rfl
                        rotate_left
                        · simp only [Act.put, List.setIfInBounds_toArray, List.set_cons_zero, List.set_cons_succ, i64_w, i32_w]
                          rfl
                        refine pure_ (i := 12) (N := some 167) (v := ?_) (a' := ?_) #[true, true, true, true, true, true, false, true, true, true, false, true, true, false, false, false, false, false] rfl rfl (by kernel_rfl) (fun _ _ _ h => h) (Or.inl ⟨by rfl, ?_⟩) ?_ ?_
                        rotate_left
                        · intro w'
                          go_simp
                          with_reducible rfl
                        rotate_left
                        · simp only [Act.put, List.setIfInBounds_toArray, List.set_cons_zero, List.set_cons_succ, i64_w, i32_w]
                          rfl
                        refine take_ (i := 6) (N := some 161) (v := ?_) (a' := ?_) #[true, true, true, true, true, true, true, true, true, true, false, true, true, false, false, false, false, false] rfl rfl (by kernel_rfl) (fun _ _ _ h => h) (Or.inl ⟨by rfl, ?_⟩) hHeld ?_ ?_
                        rotate_left
                        · rintro w' ⟨s0, s1, s2⟩
                          go_simp
                          with_reducible rfl
                        rotate_left
                        · simp only [Act.put, List.setIfInBounds_toArray, List.set_cons_zero, List.set_cons_succ, i64_w, i32_w]
                          rfl
                        refine take_ (i := 10) (N := some 165) (v := ?_) (a' := ?_) #[true, true, true, true, true, true, true, true, true, true, true, true, true, false, false, false, false, false] rfl rfl (by kernel_rfl) (fun _ _ _ h => h) (Or.inl ⟨by rfl, ?_⟩) hHeld ?_ ?_
                        rotate_left
                        · rintro w' ⟨s0, s1, s2⟩
                          go_simp
                          with_reducible rfl
                        rotate_left
                        · simp only [Act.put, List.setIfInBounds_toArray, List.set_cons_zero, List.set_cons_succ, i64_w, i32_w]
                          rfl
                        refine pure_ (i := 13) (N := some 168) (v := ?_) (a' := ?_) #[true, true, true, true, true, true, true, true, true, true, true, true, true, true, false, false, false, false] rfl rfl (by kernel_rfl) (fun _ _ _ h => h) (Or.inl ⟨by rfl, ?_⟩) ?_ ?_
                        rotate_left
                        · intro w'
                          go_simp
                          with_reducible rfl
                        rotate_left
                        · simp only [Act.put, List.setIfInBounds_toArray, List.set_cons_zero, List.set_cons_succ, i64_w, i32_w]
                          rfl
                        refine take_ (i := 14) (N := some 169) (v := ?_) (a' := ?_) #[true, true, true, true, true, true, true, true, true, true, true, true, true, true, true, false, false, false] rfl rfl (by kernel_rfl) (fun _ _ _ h => h) (Or.inl ⟨by rfl, ?_⟩) hHeld ?_ ?_
                        rotate_left
                        · rintro w' ⟨s0, s1, s2⟩
                          go_simp
                          with_reducible rfl
                        rotate_left
                        · simp only [Act.put, List.setIfInBounds_toArray, List.set_cons_zero, List.set_cons_succ, i64_w, i32_w]
                          rfl
                        refine pure_ (i := 15) (N := some 170) (v := ?_) (a' := ?_) #[true, true, true, true, true, true, true, true, true, true, true, true, true, true, true, true, false, false] rfl rfl (by kernel_rfl) (fun _ _ _ h => h) (Or.inl ⟨by rfl, ?_⟩) ?_ ?_
                        rotate_left
                        · intro w'
                          go_simp
                          with_reducible rfl
                        rotate_left
                        · simp only [Act.put, List.setIfInBounds_toArray, List.set_cons_zero, List.set_cons_succ, i64_w, i32_w]
                          rfl
                        refine pure_ (i := 16) (N := some 171) (v := ?_) (a' := ?_) #[true, true, true, true, true, true, true, true, true, true, true, true, true, true, true, true, true, false] rfl rfl (by kernel_rfl) (fun _ _ _ h => h) (Or.inl ⟨by rfl, ?_⟩) ?_ ?_
                        rotate_left
                        · intro w'
                          go_simp
                          with_reducible rfl
                        rotate_left
                        · simp only [Act.put, List.setIfInBounds_toArray, List.set_cons_zero, List.set_cons_succ, i64_w, i32_w]
                          rfl
                        refine pure_ (i := 17) (N := some 18) (v := ?_) (a' := ?_) #[true, true, true, true, true, true, true, true, true, true, true, true, true, true, true, true, true, true] rfl rfl (by kernel_rfl) (fun _ _ _ h => h) (Or.inl ⟨by rfl, ?_⟩) ?_ ?_
                        rotate_left
                        · intro w'
                          go_simp
                          with_reducible rfl
                        rotate_left
                        · simp only [Act.put, List.setIfInBounds_toArray, List.set_cons_zero, List.set_cons_succ, i64_w, i32_w]
                          rfl
                        refine done_ (by kernel_rfl) ?_
                        clear hHeld
                        have HJ := Aside0.mk (show JW_w w wr.drew p t A7 c7 was (.slice (some ad) m c8) all ∧ Kd.R (Kd.int .u8) 5 wr.drew w.heap.size (fun _ => True) (.slice A12 768 c12) now from ⟨JW_deep_w HJ.out.1 (below_drew (Below.refl _ _)), Kd.R_below HJ.out.2 (below_drew (Below.refl _ _))⟩)
                        obtain ⟨ok1, hok1⟩ : ∃ b, b = (S1.toList == S3.toList) := ⟨_, rfl⟩
                        have OK1 := Aside0.mk (show cut8 now (k * 64) 64 = cut8 D (k * 64) 64 → ok1 = true by intro e; rw [hok1, HS1.out, HS3.out, e]; exact beq_self_eq_true _)
                        rw [← hok1]
                        clear hok1 Q8 HS3 Q12
                        go_wp2
                        go_roundw
                        case rel => exact ⟨i + 1, ok1, by go_num, by rfl, by omega, ⟨fun e => by
                          rcases e with e | ⟨i', h1, D', h2, h3⟩
                          · exact absurd (HO.out (.inl e)) (by decide)
                          · by_cases c : i' = i
                            · subst c
                              rw [HD.out] at h2
                              injection h2 with h2
                              subst h2
                              exact OK1.out h3
                            · exact absurd (HO.out (.inr ⟨i', by omega, D', h2, h3⟩)) (by decide)⟩, HJ⟩
                        case measure => simp [intOf]; omega
                    · have e2b : decide (i < m) = false := decide_eq_false e2
                      have hok : ok = true := by
                        rcases CW.out.2.2 k e1 with e | ⟨D, h1, h2⟩
                        · exact HO.out (.inl e)
                        · obtain ⟨i', h3⟩ := List.getElem?_of_mem h1
                          exact HO.out (.inr ⟨i', by have := (List.getElem?_eq_some_iff.1 h3).1; have := HM.out; omega, D, h3, h2⟩)
                      subst hok
                      go_wp2
                      go_roundw
                      case rel => exact ⟨k + 1, by go_num, by omega, HJ⟩
                      case measure => simp [intOf]; omega
                · have e1b : decide ((k : Int) < 12) = false := decide_eq_false (by omega)
                  go_wp2_with (go_at_call 15; refine (disk_alive _).mono ?_; rintro e w9 ⟨rfl, hb⟩; have J9 := Aside0.mk (JW_deep_w HJ.out.1 hb); clear hb HJ)
                  go_ret
                  exact ⟨rfl, J_below J9.out.1⟩
set_option maxRecDepth 20000 in
set_option maxHeartbeats 100000000 in
theorem law_WholeB_w (A0 : Option Addr) (c0 : Nat) (l0 : List S35) (A1 : Option Addr) (c1 : Nat) (l1 : List Bool) (w : World) (hr0 : Kd.C k35 w A0 l0.length l0) (hr1 : Kd.C Kd.bool w A1 l1.length l1) (hc1 : l1.length ≤ c1) (hl : 20 < l0.length) : Calls Try.prog 6 #[.slice A0 l0.length c0, .slice A1 l1.length c1] w fun e w' => e = .returned (.bool true) ∧ Below w.heap.size w w' := by
  have HR0 := Aside0.mk hr0
  have HL := Aside0.mk hl
  clear hl
  have HR1 := Aside0.mk hr1
  have HC1 := Aside0.mk hc1
  have m0 := Kd.C_max hr0
  have m1 := Kd.C_max hr1
  clear hr0 hr1 hc1
  obtain ⟨was, hwas⟩ : ∃ L : List Int, L = List.replicate 768 0 := ⟨_, rfl⟩
  have HW := Aside0.mk hwas
  obtain ⟨s0, hs0⟩ : ∃ s : Dk, s = ⟨3, List.replicate (3 * 256) 0, List.replicate (3 * 256) 0, [], false, 0, false⟩ := ⟨_, rfl⟩
  have I0 := Aside0.mk (show Wh_w s0 [] ∧ s0.now = was by rw [hs0, hwas]; exact ⟨new_Wh_w, rfl⟩)
  have HS0 := Aside0.mk hs0
  clear hwas hs0
  go_enter Try.func6, Try.ntmps6
  go_wp2_with (first | (go_at_call 14; refine (J_New _ 3 (by decide) (by decide)).mono ?_; rintro e w1 ⟨p, rfl, hJ⟩; have J1 := Aside0.mk (show J w w1 p s0 by rw [HS0.out]; exact hJ); clear hJ) | (go_at_call 27; refine (J_Dump J1.out).mono ?_; rintro e w2 ⟨v7, rfl, hR, hJ, hb⟩; rw [I0.out.2] at hR; obtain ⟨A7, c7, rfl⟩ := Kd.R_slice hR; have J2 := Aside0.mk (show JW_w w w2 p s0 A7 c7 was (.slice none 0 0) [] from ⟨hJ, Kd.R_lower hR (J_below J1.out).size, Kd.R_nil _ _ _ _ _⟩); clear hR hJ hb J1))
  go_loopw [8, 9, 10, 11] (fun v8 v9 v10 v11 wr => ∃ (j : Nat) (s : Dk) (all : List (List Int)) (A8 : Option Addr) (c8 : Nat), v9 = .int .i64 (j : Int) ∧ v8 = .slice A8 all.length c8 ∧ j ≤ l0.length ∧ j ≤ 20 ∧ all.length ≤ j ∧ Aside0 (Wh_w s all) ∧ Aside0 (JW_w w wr p s A7 c7 was (.slice A8 all.length c8) all)) (fun v8 v9 v10 v11 _ => l0.length - (intOf v9).toNat)
  case atStart => exact ⟨0, _, [], none, 0, rfl, rfl, Nat.zero_le _, Nat.zero_le _, Nat.le_refl _, ⟨I0.out.1⟩, J2⟩
  case round =>
    clear J2
    obtain ⟨j, s, all, A8, c8, rfl, rfl, hj, hj2, hal, HI, HJ⟩ := hrel
    by_cases d0 : j < l0.length ∧ j < 20
    · obtain ⟨d1, d2⟩ := d0
      have d1b : decide (j < l0.length) = true := decide_eq_true d1
      have d2b : decide (j < 20) = true := decide_eq_true d2
      obtain ⟨ad, A5, c5, A6, c6, k, n, b, sh, keep, rfl, hy, l5, C5, l6, C6⟩ := act_at_w HR0.out j d1
      have HY := Aside0.mk hy
      have L5 := Aside0.mk l5
      have C5 := Aside0.mk C5
      have L6 := Aside0.mk l6
      have C6 := Aside0.mk C6
      obtain ⟨y0, y1, y2, y3, y4⟩ := hy _ (J_below HJ.out.1)
      clear hy l5 l6
      by_cases e1 : b.length ≤ 300 ∧ keep.length ≤ 300
      · have EV := Aside0.mk (small_ev_w k n b sh keep e1.1 e1.2)
        have LB := Aside0.mk e1.1
        clear e1
        obtain ⟨nn, hn, n1⟩ := pick14_w n 3 (by decide) (by decide)
        obtain ⟨s', hx, hW⟩ := step_Wh_w HI.out nn (by omega) (blkOf b) (blkOf_len b)
        have HN := Aside0.mk hn
        have HX := Aside0.mk hx
        have NI := Aside0.mk hW
        have PB := Aside0.mk (show s.pend.length ≤ 1000 by have := HI.out.2.2.2.2.1; omega)
        obtain ⟨D, hD⟩ : ∃ D, D = s'.now := ⟨_, rfl⟩
        rw [← hD] at NI
        have HD := Aside0.mk hD
        clear hn hx hW hD
        go_upto_region 14 with (first | (go_at_call 19; refine (marginalialaw14_Act_small.calls k n _ _ b sh _ _ keep true _ (Kd.C_below C5.out (J_below HJ.out.1)) L5.out (Kd.C_below C6.out (J_below HJ.out.1)) L6.out EV.out).mono ?_; rintro e w2 ⟨rfl, hb⟩; have J2 := Aside0.mk (JW_deep_w HJ.out hb); obtain ⟨z0, z1, z2, z3, z4⟩ := HY.out _ (J_below J2.out.1); clear hb HJ y0 y1 y2 y3 y4) | (go_at_call 25; refine (marginalialaw14_pick.calls n 3 nn _ HN.out).mono ?_; rintro e w3 ⟨rfl, hd⟩; have J3 := Aside0.mk (JW_deep_w J2.out (drawn_below hd)); obtain ⟨x0, x1, x2, x3, x4⟩ := HY.out _ (J_below J3.out.1); clear hd J2 z0 z1 z2 z3 z4) | (go_at_call 23; refine (marginaliaref14_Block.calls 300 _ _ b (blkOf b) _ (Kd.C_below C5.out (J_below J3.out.1)) L5.out (Block_ev b (by have := LB.out; omega))).mono ?_; rintro e w4 ⟨v4, rfl, hR, hb⟩; obtain ⟨A4, c4, rfl⟩ := Kd.R_slice hR; have R4 := Aside0.mk hR; have J4 := Aside0.mk (JW_deep_w J3.out hb); clear hR hb J3 x0 x1 x2 x3 x4) | (go_at_call 22; refine (J_Write J4.out.1 (by have := PB.out; omega) (nn : Int) _ _ _ _ _ R4.out _ _ HX.out).mono ?_; rintro e w5 ⟨rfl, hJ, ho⟩; have J5 := Aside0.mk (JW_oth_w J4.out hJ ho); clear hJ ho J4 R4) | (go_at_call 27; refine (J_Dump J5.out.1).mono ?_; rintro e w6 ⟨v6, rfl, hR, hJ, hb⟩; rw [← HD.out] at hR; obtain ⟨A9, c9, rfl⟩ := Kd.R_slice hR; have R6 := Aside0.mk (And.intro hR (J_below J5.out.1).size); have J6 := Aside0.mk (JW_deep_w J5.out hb); clear hR hJ hb J5))
        go_wp2_with ((with_reducible refine gate_builtin (b := .append) (xs := #[.tmp 65, .tmp 67]) rfl ?_); at_builtin; refine Kd.R_append kD_w (w0 := w) w.heap.size rfl (.tmp 65) (.tmp 67) 46 27 (.slice none 0 0) 24 rfl Try.underlying46 info27_w rfl (by decide) (by omega) (.slice A8 all.length c8) all D _ (fun _ => True) (fun k => some k = (Value.slice A9 D.length c9).ownBlock) rfl rfl ?aP ?aK (fun _ _ => trivial) ?aR ?aB ?aS ?aL ?_; (case aP => exact kD_mk_w (Kd.R_tight rfl R6.out.1) R6.out.2); (case aR => exact J6.out.2.2); (case aB => exact J_below J6.out.1); (case aS => exact (J_below J6.out.1).size); (case aL => omega); (case aK => intro k hk; refine ⟨trivial, fun e => ?_⟩; obtain ⟨q1, h1⟩ := Kd.R_typed R6.out.1 k hk.symm; obtain ⟨q2, h2⟩ := Kd.R_typed J6.out.2.2 k e.symm; exact blk_ne h1 h2 (by decide) rfl); intro v18 w7 ho hb hg hat; obtain ⟨A18, c18, rfl⟩ := Kd.R_slice ho; have J7 := Aside0.mk (JW_app_w J6.out hg hb ho); clear ho hb hg hat)
        go_roundw
        case rel => exact ⟨j + 1, s', all ++ [D], A18, c18, by go_num, by simp, by omega, by omega, by simp; omega, NI, J7⟩
        case measure => simp [intOf]; omega
      · have EV := Aside0.mk (small_no_w k n b sh keep e1)
        clear e1
        go_wp2_with (go_at_call 19; refine (marginalialaw14_Act_small.calls k n _ _ b sh _ _ keep false _ (Kd.C_below C5.out (J_below HJ.out.1)) L5.out (Kd.C_below C6.out (J_below HJ.out.1)) L6.out EV.out).mono ?_; rintro e w2 ⟨rfl, hb⟩; have J2 := Aside0.mk (JW_deep_w HJ.out hb); clear hb HJ y0 y1 y2 y3 y4)
        go_roundw
        case rel => exact ⟨j + 1, s, all, A8, c8, by go_num, rfl, by omega, by omega, by omega, HI, J2⟩
        case measure => simp [intOf]; omega
    · obtain ⟨t, ht⟩ : ∃ t, t = crx s l1 := ⟨_, rfl⟩
      have CW0 := crash_Wh_w HI.out l1
      rw [← ht] at CW0
      obtain ⟨now, hnow⟩ : ∃ L, L = t.now := ⟨_, rfl⟩
      rw [← hnow, ← HW.out] at CW0
      have CW := Aside0.mk CW0
      clear CW0
      have HT := Aside0.mk ht
      have HN := Aside0.mk hnow
      obtain ⟨m, hm⟩ : ∃ m, m = all.length := ⟨_, rfl⟩
      have HM := Aside0.mk hm
      have AL := Aside0.mk HI.out.2.2.2.2.2.2.2.2
      have PB := Aside0.mk (show s.pend.length ≤ 1000 by have := HI.out.2.2.2.2.1; omega)
      have PE := Aside0.mk (show (s.pend.length : Int) = (m : Int) * 4 by have := HI.out.2.2.2.2.1; omega)
      rw [← hm] at HJ ⊢
      have m20 : m ≤ 20 := by omega
      have wm : IntKind.i64.wrap ((m : Int) * 4) = (m : Int) * 4 := by rw [i64_w]; exact IntWalk.wrap64_in _ (by omega)
      clear hm hal ht hnow
      have d1 : j < l0.length := by have := HL.out; omega
      have d1b : decide (j < l0.length) = true := decide_eq_true d1
      have d2b : decide (j < 20) = false := decide_eq_false (by omega)
      have d2 : ¬ j < 20 := by omega
      go_wp2_with (first | (go_at_call 18; refine (J_PendingN_w HJ.out.1 ((m : Int) * 4) PE.out).mono ?_; rintro e w2 ⟨rfl, hJ, hb⟩; have J2 := Aside0.mk (JW_deep_w HJ.out hb); clear hJ hb HJ) | (go_at_call 21; refine (J_Crash J2.out.1 (by have := PB.out; omega) _ _ l1 (fun W _ hB => Kd.C_below HR1.out hB)).mono ?_; rintro e w3 ⟨rfl, hJ, ho⟩; rw [← HT.out] at hJ; have J3 := Aside0.mk (JW_oth_w J2.out hJ ho); clear hJ ho J2) | (go_at_call 27; refine (J_Dump J3.out.1).mono ?_; rintro e w4 ⟨v4, rfl, hR, hJ, hb⟩; rw [← HN.out] at hR; obtain ⟨A12, c12, e12⟩ := Kd.R_slice hR; rw [CW.out.1] at e12; subst e12; have R4 := Aside0.mk (Kd.R_lower hR (J_below J3.out.1).size); have J4 := Aside0.mk (JW_deep_w J3.out hb); clear hR hJ hb J3))
      clear d0 d1 d1b hj hj2
      go_loopw [13, 14] (fun v13 v14 wr => ∃ (i : Nat) (bb : Bool), v14 = .int .i64 (i : Int) ∧ v13 = .bool bb ∧ i ≤ l1.length ∧ Aside0 (bb = true → 4 * m ≤ l1.length ∧ ∀ k, k < i → k < 4 * m → kpB l1 k = true) ∧ Aside0 (JW_w w wr p t A7 c7 was (.slice A8 m c8) all ∧ Kd.R (Kd.int .u8) 5 wr w.heap.size (fun _ => True) (.slice A12 768 c12) now)) (fun v13 v14 _ => l1.length - (intOf v14).toNat)
      case atStart => exact ⟨0, _, rfl, rfl, Nat.zero_le _, ⟨fun e => ⟨by have := of_decide_eq_true e; omega, fun k hk => by omega⟩⟩, ⟨J4.out, R4.out⟩⟩
      case round =>
        clear J4 R4
        obtain ⟨i, bb, rfl, rfl, hi, HB, HJ⟩ := hrel
        by_cases d1 : i < l1.length
        · have d1b : decide (i < l1.length) = true := decide_eq_true d1
          obtain ⟨ad, ea, hx⟩ := Kd.at_bool (Kd.C_below HR1.out (J_below HJ.out.1.1)) (i : Int) (by omega) (by omega)
          cases ea
          simp only [Int.toNat_natCast] at hx
          obtain ⟨q, hq⟩ : ∃ q, q = rdOf false l1 (i : Int) := ⟨_, rfl⟩
          rw [← hq] at hx
          have E := Aside0.mk (show kpB l1 i = q by rw [hq]; simp [kpB, rdOf])
          clear hq
          cases bb with
          | false =>
            go_wp2
            go_roundw
            case rel => exact ⟨i + 1, false, by go_num, by rfl, by omega, ⟨fun e => by cases e⟩, HJ⟩
            case measure => simp [intOf]; omega
          | true =>
            cases q with
            | true =>
              go_wp2
              go_roundw
              case rel => exact ⟨i + 1, true, by go_num, by rfl, by omega, ⟨fun e => ⟨(HB.out rfl).1, fun k hk hk2 => by
                by_cases c : k = i
                · rw [c]; exact E.out
                · exact (HB.out rfl).2 k (by omega) hk2⟩⟩, HJ⟩
              case measure => simp [intOf]; omega
            | false =>
              by_cases d2 : 4 * m ≤ i
              · have d2b : decide ((m : Int) * 4 ≤ (i : Int)) = true := decide_eq_true (by omega)
                go_wp2
                go_roundw
                case rel => exact ⟨i + 1, true, by go_num, by rfl, by omega, ⟨fun e => ⟨(HB.out rfl).1, fun k hk hk2 => (HB.out rfl).2 k (by omega) hk2⟩⟩, HJ⟩
                case measure => simp [intOf]; omega
              · have d2b : decide ((m : Int) * 4 ≤ (i : Int)) = false := decide_eq_false (by omega)
                go_wp2
                go_roundw
                case rel => exact ⟨i + 1, false, by go_num, by rfl, by omega, ⟨fun e => by cases e⟩, HJ⟩
                case measure => simp [intOf]; omega
        · have d1b : decide (i < l1.length) = false := decide_eq_false d1
          go_upto_region 24 with (fail)
          go_cut [128] (fun v128 wc => v128 = .bool false ∧ wc = wr.drew)
          case first =>
            cases bb with
            | false =>
              go_region
              go_wp2
              go_meet
              case rel => exact ⟨rfl, rfl⟩
            | true =>
              by_cases d2 : 0 < m
              · have d2b : decide (0 < m) = true := decide_eq_true d2
                obtain ⟨M, hMM⟩ : ∃ M, M = m - 1 := ⟨_, rfl⟩
                have wm1 : wrap64 ((m : Int) - 1) = (M : Int) := by unfold wrap64; omega
                have hMm : M < m := by omega
                have hMb : (M : Int) < (m : Int) := by omega
                have hM0 : (0 : Int) ≤ (M : Int) := by omega
                obtain ⟨D, hD⟩ : ∃ D, all[m - 1]? = some D := ⟨_, List.getElem?_eq_getElem (show m - 1 < all.length by have := HM.out; omega)⟩
                have hND : now = D := CW.out.2.1 (by have := (HB.out rfl).1; have := HM.out; omega) (fun k hk => (HB.out rfl).2 k (by have := (HB.out rfl).1; have := HM.out; omega) (by have := HM.out; omega)) D (by rw [List.getLast?_eq_getElem?, ← HM.out]; exact hD)
                rw [← hMM] at hD
                obtain ⟨ad, Ai, ci, ea, hc8, hci, hC8⟩ := all_at_w HJ.out.1.2.2 M D hD
                clear hMM
                cases ea
                obtain ⟨S, hS⟩ : ∃ S, S = strOfNums now := ⟨_, rfl⟩
                have HS := Aside0.mk hS
                have C12 := Aside0.mk (show Kd.C (Kd.int .u8) wr A12 768 now by have h := (Kd.R_reads' HJ.out.2).2.2; rwa [CW.out.1] at h)
                have C8 := Aside0.mk hC8
                have Z8 := Aside0.mk hc8
                have HD := Aside0.mk hND
                clear hS hC8 hc8 hND
                refine start_ (n := 23) (S := fun w' => Sem.run Try.prog (convert 27 9 (.slice A12 768 c12)) w' = .ok (.string S) w' ∧ Sem.run Try.prog (convert 27 9 (.slice Ai D.length ci)) w' = .ok (.string S) w' ∧ w'.cell? (ad.add M) = some (.slice Ai D.length ci)) (ds := []) #[false, false, false, false, false, false, false, false, false, false, false, false, false, false, false, false, false, false, false, false, false, false, false] (by kernel_rfl) rfl rfl ⟨(by rw [HS.out]; exact Kd.C_string (P := Try.prog) (A := A12) (c := c12) Try.underlying27 Try.underlying5 Try.underlying9 (Kd.C_below C12.out (below_drew (Below.refl _ _)))), (by rw [HS.out, HD.out]; exact Kd.C_string (P := Try.prog) (A := Ai) (c := ci) Try.underlying27 Try.underlying5 Try.underlying9 (Kd.C_below C8.out (below_drew (Below.refl _ _)))), (by exact Z8.out)⟩ (fun hHeld => ?_)
                refine pure_ (i := 0) (N := some 106) (v := ?_) (a' := ?_) #[true, false, false, false, false, false, false, false, false, false, false, false, false, false, false, false, false, false, false, false, false, false, false] rfl rfl (by kernel_rfl) (fun _ _ _ h => h) (Or.inl ⟨by rfl, ?_⟩) ?_ ?_
                rotate_left
                · intro w'
                  go_simp
                  with_reducible rfl
                rotate_left
                · simp only [Act.put, List.setIfInBounds_toArray, List.set_cons_zero, List.set_cons_succ, i64_w, i32_w]
                  rfl
                refine pure_ (i := 1) (N := some 107) (v := ?_) (a' := ?_) #[true, true, false, false, false, false, false, false, false, false, false, false, false, false, false, false, false, false, false, false, false, false, false] rfl rfl (by kernel_rfl) (fun _ _ _ h => h) (Or.inl ⟨by rfl, ?_⟩) ?_ ?_
                rotate_left
                · intro w'
                  go_simp
                  with_reducible rfl
                rotate_left
                · simp only [Act.put, List.setIfInBounds_toArray, List.set_cons_zero, List.set_cons_succ, i64_w, i32_w]
                  rfl
                refine pure_ (i := 2) (N := some 108) (v := ?_) (a' := ?_) #[true, true, true, false, false, false, false, false, false, false, false, false, false, false, false, false, false, false, false, false, false, false, false] rfl rfl (by kernel_rfl) (fun _ _ _ h => h) (Or.inl ⟨by rfl, ?_⟩) ?_ ?_
                rotate_left
                · intro w'
                  go_simp
                  with_reducible rfl
                rotate_left
                · simp only [Act.put, List.setIfInBounds_toArray, List.set_cons_zero, List.set_cons_succ, i64_w, i32_w]
                  rfl
                refine pure_ (i := 3) (N := some 109) (v := ?_) (a' := ?_) #[true, true, true, true, false, false, false, false, false, false, false, false, false, false, false, false, false, false, false, false, false, false, false] rfl rfl (by kernel_rfl) (fun _ _ _ h => h) (Or.inl ⟨by rfl, ?_⟩) ?_ ?_
                rotate_left
                · intro w'
                  go_simp
                  with_reducible rfl
                rotate_left
                · simp only [Act.put, List.setIfInBounds_toArray, List.set_cons_zero, List.set_cons_succ, i64_w, i32_w]
                  rfl
                refine pure_ (i := 4) (N := some 110) (v := ?_) (a' := ?_) #[true, true, true, true, true, false, false, false, false, false, false, false, false, false, false, false, false, false, false, false, false, false, false] rfl rfl (by kernel_rfl) (fun _ _ _ h => h) (Or.inl ⟨by rfl, ?_⟩) ?_ ?_
                rotate_left
                · intro w'
                  go_simp
                  with_reducible rfl
                rotate_left
                · simp only [Act.put, List.setIfInBounds_toArray, List.set_cons_zero, List.set_cons_succ, i64_w, i32_w]
                  rfl
                refine pure_ (i := 5) (N := some 111) (v := ?_) (a' := ?_) #[true, true, true, true, true, true, false, false, false, false, false, false, false, false, false, false, false, false, false, false, false, false, false] rfl rfl (by kernel_rfl) (fun _ _ _ h => h) (Or.inl ⟨by rfl, ?_⟩) ?_ ?_
                rotate_left
                · intro w'
                  go_simp
                  with_reducible rfl
                rotate_left
                · simp only [Act.put, List.setIfInBounds_toArray, List.set_cons_zero, List.set_cons_succ, i64_w, i32_w]
                  rfl
                refine pure_ (i := 6) (N := some 112) (v := ?_) (a' := ?_) #[true, true, true, true, true, true, true, false, false, false, false, false, false, false, false, false, false, false, false, false, false, false, false] rfl rfl (by kernel_rfl) (fun _ _ _ h => h) (Or.inl ⟨by rfl, ?_⟩) ?_ ?_
                rotate_left
                · intro w'
                  go_simp
                  with_reducible rfl
                rotate_left
                · simp only [Act.put, List.setIfInBounds_toArray, List.set_cons_zero, List.set_cons_succ, i64_w, i32_w]
                  rfl
                refine pure_ (i := 7) (N := some 113) (v := ?_) (a' := ?_) #[true, true, true, true, true, true, true, true, false, false, false, false, false, false, false, false, false, false, false, false, false, false, false] rfl rfl (by kernel_rfl) (fun _ _ _ h => h) (Or.inl ⟨by rfl, ?_⟩) ?_ ?_
                rotate_left
                · intro w'
                  go_simp
                  with_reducible rfl
                rotate_left
                · simp only [Act.put, List.setIfInBounds_toArray, List.set_cons_zero, List.set_cons_succ, i64_w, i32_w]
                  rfl
                refine pure_ (i := 8) (N := some 114) (v := ?_) (a' := ?_) #[true, true, true, true, true, true, true, true, true, false, false, false, false, false, false, false, false, false, false, false, false, false, false] rfl rfl (by kernel_rfl) (fun _ _ _ h => h) (Or.inl ⟨by rfl, ?_⟩) ?_ ?_
                rotate_left
                · intro w'
                  go_simp
                  with_reducible rfl
                rotate_left
                · simp only [Act.put, List.setIfInBounds_toArray, List.set_cons_zero, List.set_cons_succ, i64_w, i32_w]
                  rfl
                refine pure_ (i := 9) (N := some 115) (v := ?_) (a' := ?_) #[true, true, true, true, true, true, true, true, true, true, false, false, false, false, false, false, false, false, false, false, false, false, false] rfl rfl (by kernel_rfl) (fun _ _ _ h => h) (Or.inl ⟨by rfl, ?_⟩) ?_ ?_
                rotate_left
                · intro w'
                  go_simp
                  with_reducible rfl
                rotate_left
                · simp only [Act.put, List.setIfInBounds_toArray, List.set_cons_zero, List.set_cons_succ, i64_w, i32_w]
                  rfl
                refine pure_ (i := 10) (N := some 116) (v := ?_) (a' := ?_) #[true, true, true, true, true, true, true, true, true, true, true, false, false, false, false, false, false, false, false, false, false, false, false] rfl rfl (by kernel_rfl) (fun _ _ _ h => h) (Or.inl ⟨by rfl, ?_⟩) ?_ ?_
                rotate_left
                · intro w'
                  go_simp
                  with_reducible rfl
                rotate_left
                · simp only [Act.put, List.setIfInBounds_toArray, List.set_cons_zero, List.set_cons_succ, i64_w, i32_w]
                  rfl
                refine pure_ (i := 11) (N := some 117) (v := ?_) (a' := ?_) #[true, true, true, true, true, true, true, true, true, true, true, true, false, false, false, false, false, false, false, false, false, false, false] rfl rfl (by kernel_rfl) (fun _ _ _ h => h) (Or.inl ⟨by rfl, ?_⟩) ?_ ?_
                rotate_left
                · intro w'
                  go_simp
                  with_reducible rfl
                rotate_left
                · simp only [Act.put, List.setIfInBounds_toArray, List.set_cons_zero, List.set_cons_succ, i64_w, i32_w]
                  rfl
                refine pure_ (i := 13) (N := some 119) (v := ?_) (a' := ?_) #[true, true, true, true, true, true, true, true, true, true, true, true, false, true, false, false, false, false, false, false, false, false, false] rfl rfl (by kernel_rfl) (fun _ _ _ h => h) (Or.inl ⟨by rfl, ?_⟩) ?_ ?_
                rotate_left
                · intro w'
                  go_simp
                  with_reducible rfl
                rotate_left
                · simp only [Act.put, List.setIfInBounds_toArray, List.set_cons_zero, List.set_cons_succ, i64_w, i32_w]
                  rfl
                refine pure_ (i := 14) (N := some 120) (v := ?_) (a' := ?_) #[true, true, true, true, true, true, true, true, true, true, true, true, false, true, true, false, false, false, false, false, false, false, false] rfl rfl (by kernel_rfl) (fun _ _ _ h => h) (Or.inl ⟨by rfl, ?_⟩) ?_ ?_
                rotate_left
                · intro w'
                  go_simp
                  with_reducible rfl
                rotate_left
                · simp only [Act.put, List.setIfInBounds_toArray, List.set_cons_zero, List.set_cons_succ, i64_w, i32_w]
                  rfl
                refine pure_ (i := 15) (N := some 121) (v := ?_) (a' := ?_) #[true, true, true, true, true, true, true, true, true, true, true, true, false, true, true, true, false, false, false, false, false, false, false] rfl rfl (by kernel_rfl) (fun _ _ _ h => h) (Or.inl ⟨by rfl, ?_⟩) ?_ ?_
                rotate_left
                · intro w'
                  go_simp
                  with_reducible rfl
                rotate_left
                · simp only [Act.put, List.setIfInBounds_toArray, List.set_cons_zero, List.set_cons_succ, i64_w, i32_w]
                  rfl
                refine pure_ (i := 16) (N := some 122) (v := ?_) (a' := ?_) #[true, true, true, true, true, true, true, true, true, true, true, true, false, true, true, true, true, false, false, false, false, false, false] rfl rfl (by kernel_rfl) (fun _ _ _ h => h) (Or.inl ⟨by rfl, ?_⟩) ?_ ?_
                rotate_left
                · intro w'
                  go_simp
                  with_reducible rfl
                rotate_left
                · simp only [Act.put, List.setIfInBounds_toArray, List.set_cons_zero, List.set_cons_succ, i64_w, i32_w]
                  rfl
                refine pure_ (i := 17) (N := some 123) (v := ?_) (a' := ?_) #[true, true, true, true, true, true, true, true, true, true, true, true, false, true, true, true, true, true, false, false, false, false, false] rfl rfl (by kernel_rfl) (fun _ _ _ h => h) (Or.inl ⟨by rfl, ?_⟩) ?_ ?_
                rotate_left
                · intro w'
                  go_simp
                  with_reducible rfl
                rotate_left
                · simp only [Act.put, List.setIfInBounds_toArray, List.set_cons_zero, List.set_cons_succ, i64_w, i32_w]
                  rfl
                refine take_ (i := 12) (N := some 118) (v := ?_) (a' := ?_) #[true, true, true, true, true, true, true, true, true, true, true, true, true, true, true, true, true, true, false, false, false, false, false] rfl rfl (by kernel_rfl) (fun _ _ _ h => h) (Or.inl ⟨by rfl, ?_⟩) hHeld ?_ ?_
                rotate_left
                · rintro w' ⟨s0, s1, s2⟩
                  go_simp
                  with_reducible rfl
                rotate_left
                · simp only [Act.put, List.setIfInBounds_toArray, List.set_cons_zero, List.set_cons_succ, i64_w, i32_w]
                  rfl
                refine take_ (i := 18) (N := some 124) (v := ?_) (a' := ?_) #[true, true, true, true, true, true, true, true, true, true, true, true, true, true, true, true, true, true, true, false, false, false, false] rfl rfl (by kernel_rfl) (fun _ _ _ h => h) (Or.inl ⟨by rfl, ?_⟩) hHeld ?_ ?_
                rotate_left
                · rintro w' ⟨s0, s1, s2⟩
                  go_simp
                  with_reducible rfl
                rotate_left
                · simp only [Act.put, List.setIfInBounds_toArray, List.set_cons_zero, List.set_cons_succ, i64_w, i32_w]
                  rfl
                refine take_ (i := 19) (N := some 125) (v := ?_) (a' := ?_) #[true, true, true, true, true, true, true, true, true, true, true, true, true, true, true, true, true, true, true, true, false, false, false] rfl rfl (by kernel_rfl) (fun _ _ _ h => h) (Or.inl ⟨by rfl, ?_⟩) hHeld ?_ ?_
                rotate_left
                · rintro w' ⟨s0, s1, s2⟩
                  go_simp
                  with_reducible rfl
                rotate_left
                · simp only [Act.put, List.setIfInBounds_toArray, List.set_cons_zero, List.set_cons_succ, i64_w, i32_w]
                  rfl
                refine pure_ (i := 20) (N := some 126) (v := ?_) (a' := ?_) #[true, true, true, true, true, true, true, true, true, true, true, true, true, true, true, true, true, true, true, true, true, false, false] rfl rfl (by kernel_rfl) (fun _ _ _ h => h) (Or.inl ⟨by rfl, ?_⟩) ?_ ?_
                rotate_left
                · intro w'
                  go_simp
                  with_reducible rfl
                rotate_left
                · simp only [Act.put, List.setIfInBounds_toArray, List.set_cons_zero, List.set_cons_succ, i64_w, i32_w]
                  rfl
                refine pure_ (i := 21) (N := some 127) (v := ?_) (a' := ?_) #[true, true, true, true, true, true, true, true, true, true, true, true, true, true, true, true, true, true, true, true, true, true, false] rfl rfl (by kernel_rfl) (fun _ _ _ h => h) (Or.inl ⟨by rfl, ?_⟩) ?_ ?_
                rotate_left
                · intro w'
                  go_simp
                  with_reducible rfl
                rotate_left
                · simp only [Act.put, List.setIfInBounds_toArray, List.set_cons_zero, List.set_cons_succ, i64_w, i32_w]
                  rfl
                refine pure_ (i := 22) (N := some 128) (v := ?_) (a' := ?_) #[true, true, true, true, true, true, true, true, true, true, true, true, true, true, true, true, true, true, true, true, true, true, true] rfl rfl (by kernel_rfl) (fun _ _ _ h => h) (Or.inl ⟨by rfl, ?_⟩) ?_ ?_
                rotate_left
                · intro w'
                  go_simp
                  with_reducible rfl
                rotate_left
                · simp only [Act.put, List.setIfInBounds_toArray, List.set_cons_zero, List.set_cons_succ, i64_w, i32_w]
                  rfl
                refine done_ (by kernel_rfl) ?_
                go_wp2
                go_meet
                case rel => exact ⟨rfl, rfl⟩
              · have d2b : decide (0 < m) = false := decide_eq_false d2
                go_region
                go_wp2
                go_meet
                case rel => exact ⟨rfl, rfl⟩
          case rest =>
            obtain ⟨rfl, rfl⟩ := hcut
            as_aux_lemma =>
              have HJ := Aside0.mk (show JW_w w wr.drew p t A7 c7 was (.slice A8 m c8) all ∧ Kd.R (Kd.int .u8) 5 wr.drew w.heap.size (fun _ => True) (.slice A12 768 c12) now from ⟨JW_deep_w HJ.out.1 (below_drew (Below.refl _ _)), Kd.R_below HJ.out.2 (below_drew (Below.refl _ _))⟩)
              go_wp2
              go_loopw [15, 16, 17, 18, 19] (fun v15 v16 v17 v18 v19 wr => ∃ (k : Nat), v15 = .int .i64 (k : Int) ∧ k ≤ 12 ∧ Aside0 (JW_w w wr p t A7 c7 was (.slice A8 m c8) all ∧ Kd.R (Kd.int .u8) 5 wr w.heap.size (fun _ => True) (.slice A12 768 c12) now)) (fun v15 v16 v17 v18 v19 _ => 12 - (intOf v15).toNat)
              case atStart => exact ⟨0, rfl, Nat.zero_le _, HJ⟩
              case round =>
                obtain ⟨k, rfl, hk, HJ⟩ := hrel
                by_cases e1 : k < 12
                · have e1b : decide ((k : Int) < 12) = true := decide_eq_true (by omega)
                  have wk1 : wrap64 ((k : Int) * 64) = ((k * 64 : Nat) : Int) := by unfold wrap64; omega
                  have wk2 : wrap64 (wrap64 ((k : Int) + 1) * 64) = ((k * 64 + 64 : Nat) : Int) := by unfold wrap64; omega
                  have K7 := Kd.R_reads' HJ.out.1.2.1
                  have K12 := Kd.R_reads' HJ.out.2
                  have l7 : was.length = 768 := by rw [HW.out]; exact List.length_replicate ..
                  have h0 : (0 : Int) ≤ (k : Int) * 64 := by omega
                  have h1 : (k : Int) * 64 ≤ ((k : Int) + 1) * 64 := by omega
                  have h2 : ((k : Int) + 1) * 64 ≤ (c12 : Int) := by have := K12.2.1; omega
                  have h3 : ((k : Int) + 1) * 64 ≤ (c7 : Int) := by have := K7.2.1; omega
                  have h4 : (0 : Int) ≤ ((k : Int) + 1) * 64 := by omega
                  have h5 : (k : Int) * 64 ≤ (k : Int) * 64 + 64 := by omega
                  have t1 : ((k : Int) * 64).toNat = k * 64 := by omega
                  have t2 : (((k : Int) + 1) * 64).toNat = k * 64 + 64 := by omega
                  have n1 : ¬ c12 = k * 64 := by omega
                  have n2 : ¬ c7 = k * 64 := by omega
                  have q12 := C_cut8_w K12.2.2 (c := c12) (by have := K12.2.1; have := K12.1; omega) k (by have := K12.1; omega)
                  have q7 := C_cut8_w K7.2.2 (c := c7) (by have := K7.2.1; omega) k (by omega)
                  rw [cut8_len (by have := K12.1; omega)] at q12
                  rw [cut8_len (by omega)] at q7
                  have Q12 := Aside0.mk q12
                  have Q7 := Aside0.mk q7
                  obtain ⟨S1, hS1⟩ : ∃ S, S = strOfNums (cut8 now (k * 64) 64) := ⟨_, rfl⟩
                  obtain ⟨S2, hS2⟩ : ∃ S, S = strOfNums (cut8 was (k * 64) 64) := ⟨_, rfl⟩
                  have HS1 := Aside0.mk hS1
                  have HS2 := Aside0.mk hS2
                  clear K7 K12 q12 q7 hS1 hS2 l7
                  go_upto_region 30 with (fail)
                  refine start_ (n := 12) (S := fun w' => Sem.run Try.prog (convert 27 9 (.slice (A12.map (·.add (k * 64))) 64 (c12 - k * 64))) w' = .ok (.string S1) w' ∧ Sem.run Try.prog (convert 27 9 (.slice (A7.map (·.add (k * 64))) 64 (c7 - k * 64))) w' = .ok (.string S2) w') (ds := []) #[false, false, false, false, false, false, false, false, false, false, false, false] (by kernel_rfl) rfl rfl ⟨(by rw [HS1.out]; exact Kd.C_string (P := Try.prog) (c := c12 - k * 64) Try.underlying27 Try.underlying5 Try.underlying9 (Kd.C_below Q12.out (below_drew (Below.refl _ _)))), (by rw [HS2.out]; exact Kd.C_string (P := Try.prog) (c := c7 - k * 64) Try.underlying27 Try.underlying5 Try.underlying9 (Kd.C_below Q7.out (below_drew (Below.refl _ _))))⟩ (fun hHeld => ?_)
                  refine pure_ (i := 0) (N := some 138) (v := ?_) (a' := ?_) #[true, false, false, false, false, false, false, false, false, false, false, false] rfl rfl (by kernel_rfl) (fun _ _ _ h => h) (Or.inl ⟨by rfl, ?_⟩) ?_ ?_
                  rotate_left
                  · intro w'
                    go_simp
                    with_reducible rfl
                  rotate_left
                  · simp only [Act.put, List.setIfInBounds_toArray, List.set_cons_zero, List.set_cons_succ, i64_w, i32_w]
                    rfl
                  refine pure_ (i := 1) (N := some 139) (v := ?_) (a' := ?_) #[true, true, false, false, false, false, false, false, false, false, false, false] rfl rfl (by kernel_rfl) (fun _ _ _ h => h) (Or.inl ⟨by rfl, ?_⟩) ?_ ?_
                  rotate_left
                  · intro w'
                    go_simp
                    with_reducible rfl
                  rotate_left
                  · simp only [Act.put, List.setIfInBounds_toArray, List.set_cons_zero, List.set_cons_succ, i64_w, i32_w]
                    rfl
                  refine pure_ (i := 2) (N := some 140) (v := ?_) (a' := ?_) #[true, true, true, false, false, false, false, false, false, false, false, false] rfl rfl (by kernel_rfl) (fun _ _ _ h => h) (Or.inl ⟨by rfl, ?_⟩) ?_ ?_
                  rotate_left
                  · intro w'
                    go_simp
                    with_reducible rfl
                  rotate_left
                  · simp only [Act.put, List.setIfInBounds_toArray, List.set_cons_zero, List.set_cons_succ, i64_w, i32_w]
                    rfl
                  refine pure_ (i := 3) (N := some 141) (v := ?_) (a' := ?_) #[true, true, true, true, false, false, false, false, false, false, false, false] rfl rfl (by kernel_rfl) (fun _ _ _ h => h) (Or.inl ⟨by rfl, ?_⟩) ?_ ?_
                  rotate_left
                  · intro w'
                    go_simp
                    with_reducible rfl
                  rotate_left
                  · simp only [Act.put, List.setIfInBounds_toArray, List.set_cons_zero, List.set_cons_succ, i64_w, i32_w]
                    rfl
                  refine pure_ (i := 5) (N := some 143) (v := ?_) (a' := ?_) #[true, true, true, true, false, true, false, false, false, false, false, false] rfl rfl (by kernel_rfl) (fun _ _ _ h => h) (Or.inl ⟨by rfl, ?_⟩) ?_ ?_
                  rotate_left
                  · intro w'
                    go_simp
                    with_reducible rfl
                  rotate_left
                  · simp only [Act.put, List.setIfInBounds_toArray, List.set_cons_zero, List.set_cons_succ, i64_w, i32_w]
                    rfl
                  refine pure_ (i := 6) (N := some 144) (v := ?_) (a' := ?_) #[true, true, true, true, false, true, true, false, false, false, false, false] rfl rfl (by kernel_rfl) (fun _ _ _ h => h) (Or.inl ⟨by rfl, ?_⟩) ?_ ?_
                  rotate_left
                  · intro w'
                    go_simp
                    with_reducible rfl
                  rotate_left
                  · simp only [Act.put, List.setIfInBounds_toArray, List.set_cons_zero, List.set_cons_succ, i64_w, i32_w]
                    rfl
                  refine pure_ (i := 7) (N := some 145) (v := ?_) (a' := ?_) #[true, true, true, true, false, true, true, true, false, false, false, false] rfl rfl (by kernel_rfl) (fun _ _ _ h => h) (Or.inl ⟨by rfl, ?_⟩) ?_ ?_
                  rotate_left
                  · intro w'
                    go_simp
                    with_reducible rfl
                  rotate_left
                  · simp only [Act.put, List.setIfInBounds_toArray, List.set_cons_zero, List.set_cons_succ, i64_w, i32_w]
                    rfl
                  refine pure_ (i := 8) (N := some 146) (v := ?_) (a' := ?_) #[true, true, true, true, false, true, true, true, true, false, false, false] rfl rfl (by kernel_rfl) (fun _ _ _ h => h) (Or.inl ⟨by rfl, ?_⟩) ?_ ?_
                  rotate_left
                  · intro w'
                    go_simp
                    with_reducible rfl
                  rotate_left
                  · simp only [Act.put, List.setIfInBounds_toArray, List.set_cons_zero, List.set_cons_succ, i64_w, i32_w]
                    rfl
                  refine take_ (i := 4) (N := some 142) (v := ?_) (a' := ?_) #[true, true, true, true, true, true, true, true, true, false, false, false] rfl rfl (by kernel_rfl) (fun _ _ _ h => h) (Or.inl ⟨by rfl, ?_⟩) hHeld ?_ ?_
                  rotate_left
                  · rintro w' ⟨s0, s1⟩
                    go_simp
                    with_reducible rfl
                  rotate_left
                  · simp only [Act.put, List.setIfInBounds_toArray, List.set_cons_zero, List.set_cons_succ, i64_w, i32_w]
                    rfl
                  refine take_ (i := 9) (N := some 147) (v := ?_) (a' := ?_) #[true, true, true, true, true, true, true, true, true, true, false, false] rfl rfl (by kernel_rfl) (fun _ _ _ h => h) (Or.inl ⟨by rfl, ?_⟩) hHeld ?_ ?_
                  rotate_left
                  · rintro w' ⟨s0, s1⟩
                    go_simp
                    with_reducible rfl
                  rotate_left
                  · simp only [Act.put, List.setIfInBounds_toArray, List.set_cons_zero, List.set_cons_succ, i64_w, i32_w]
                    rfl
                  refine pure_ (i := 10) (N := some 148) (v := ?_) (a' := ?_) #[true, true, true, true, true, true, true, true, true, true, true, false] rfl rfl (by kernel_rfl) (fun _ _ _ h => h) (Or.inl ⟨by rfl, ?_⟩) ?_ ?_
                  rotate_left
                  · intro w'
                    go_simp
                    with_reducible rfl
                  rotate_left
                  · simp only [Act.put, List.setIfInBounds_toArray, List.set_cons_zero, List.set_cons_succ, i64_w, i32_w]
                    rfl
                  refine pure_ (i := 11) (N := some 18) (v := ?_) (a' := ?_) #[true, true, true, true, true, true, true, true, true, true, true, true] rfl rfl (by kernel_rfl) (fun _ _ _ h => h) (Or.inl ⟨by rfl, ?_⟩) ?_ ?_
                  rotate_left
                  · intro w'
                    go_simp
                    with_reducible rfl
                  rotate_left
                  · simp only [Act.put, List.setIfInBounds_toArray, List.set_cons_zero, List.set_cons_succ, i64_w, i32_w]
                    rfl
                  refine done_ (by kernel_rfl) ?_
                  clear hHeld
                  have HJ := Aside0.mk (show JW_w w wr.drew p t A7 c7 was (.slice A8 m c8) all ∧ Kd.R (Kd.int .u8) 5 wr.drew w.heap.size (fun _ => True) (.slice A12 768 c12) now from ⟨JW_deep_w HJ.out.1 (below_drew (Below.refl _ _)), Kd.R_below HJ.out.2 (below_drew (Below.refl _ _))⟩)
                  obtain ⟨ok0, hok0⟩ : ∃ b, b = (S1.toList == S2.toList) := ⟨_, rfl⟩
                  have OK0 := Aside0.mk (show cut8 now (k * 64) 64 = cut8 was (k * 64) 64 → ok0 = true by intro e; rw [hok0, HS1.out, HS2.out, e]; exact beq_self_eq_true _)
                  rw [← hok0]
                  clear hok0 Q7 HS2
                  go_wp2
                  go_loopw [18, 19] (fun v18 v19 wr => ∃ (i : Nat) (ok : Bool), v19 = .int .i64 (i : Int) ∧ v18 = .bool ok ∧ i ≤ m ∧ Aside0 ((cut8 now (k * 64) 64 = cut8 was (k * 64) 64 ∨ ∃ i', i' < i ∧ ∃ D, all[i']? = some D ∧ cut8 now (k * 64) 64 = cut8 D (k * 64) 64) → ok = true) ∧ Aside0 (JW_w w wr p t A7 c7 was (.slice A8 m c8) all ∧ Kd.R (Kd.int .u8) 5 wr w.heap.size (fun _ => True) (.slice A12 768 c12) now)) (fun v18 v19 _ => m - (intOf v19).toNat)
                  case atStart => exact ⟨0, ok0, rfl, rfl, Nat.zero_le _, ⟨fun e => e.elim OK0.out (fun ⟨i', h, _⟩ => absurd h (by omega))⟩, HJ⟩
                  case round =>
                    clear HJ OK0
                    obtain ⟨i, ok, rfl, rfl, hi2, HO, HJ⟩ := hrel
                    by_cases e2 : i < m
                    · have e2b : decide (i < m) = true := decide_eq_true e2
                      cases ok with
                      | true =>
                        go_upto_region 34 with (fail)
                        go_region
                        have HJ := Aside0.mk (show JW_w w wr.drew p t A7 c7 was (.slice A8 m c8) all ∧ Kd.R (Kd.int .u8) 5 wr.drew w.heap.size (fun _ => True) (.slice A12 768 c12) now from ⟨JW_deep_w HJ.out.1 (below_drew (Below.refl _ _)), Kd.R_below HJ.out.2 (below_drew (Below.refl _ _))⟩)
                        go_wp2
                        go_roundw
                        case rel => exact ⟨i + 1, true, by go_num, by rfl, by omega, ⟨fun _ => rfl⟩, HJ⟩
                        case measure => simp [intOf]; omega
                      | false =>
                        obtain ⟨D, hD⟩ : ∃ D, all[i]? = some D := ⟨_, List.getElem?_eq_getElem (show i < all.length by have := HM.out; omega)⟩
                        obtain ⟨ad, Ai, ci, ea, hc8, hci, hC8⟩ := all_at_w HJ.out.1.2.2 i D hD
                        cases ea
                        have l8 : D.length = 768 := AL.out D (List.mem_of_getElem? hD)
                        have n3 : ¬ ci = k * 64 := by omega
                        have h6 : ((k : Int) + 1) * 64 ≤ (ci : Int) := by omega
                        have q8 := C_cut8_w hC8 (c := ci) hci k (by omega)
                        rw [cut8_len (by omega)] at q8
                        have Q8 := Aside0.mk q8
                        have K12 := Kd.R_reads' HJ.out.2
                        have q12 := C_cut8_w K12.2.2 (c := c12) (by have := K12.2.1; have := K12.1; omega) k (by have := K12.1; omega)
                        rw [cut8_len (by have := K12.1; omega)] at q12
                        have Q12 := Aside0.mk q12
                        obtain ⟨dl, hdl⟩ : ∃ dl, dl = D.length := ⟨_, rfl⟩
                        rw [← hdl] at hc8
                        obtain ⟨S3, hS3⟩ : ∃ S, S = strOfNums (cut8 D (k * 64) 64) := ⟨_, rfl⟩
                        have HS3 := Aside0.mk hS3
                        have Z8 := Aside0.mk hc8
                        have HD := Aside0.mk hD
                        have hi0 : (0 : Int) ≤ (i : Int) := by omega
                        have him : (i : Int) < (m : Int) := by omega
                        clear l8 hc8 hdl hS3 q8 q12 K12 hC8 hD hci
                        go_upto_region 34 with (fail)
                        refine start_ (n := 18) (S := fun w' => Sem.run Try.prog (convert 27 9 (.slice (A12.map (·.add (k * 64))) 64 (c12 - k * 64))) w' = .ok (.string S1) w' ∧ Sem.run Try.prog (convert 27 9 (.slice (Ai.map (·.add (k * 64))) 64 (ci - k * 64))) w' = .ok (.string S3) w' ∧ w'.cell? (ad.add i) = some (.slice Ai dl ci)) (ds := []) #[false, false, false, false, false, false, false, false, false, false, false, false, false, false, false, false, false, false] (by kernel_rfl) rfl rfl ⟨(by rw [HS1.out]; exact Kd.C_string (P := Try.prog) (c := c12 - k * 64) Try.underlying27 Try.underlying5 Try.underlying9 (Kd.C_below Q12.out (below_drew (Below.refl _ _)))), (by rw [HS3.out]; exact Kd.C_string (P := Try.prog) (c := ci - k * 64) Try.underlying27 Try.underlying5 Try.underlying9 (Kd.C_below Q8.out (below_drew (Below.refl _ _)))), (by exact Z8.out)⟩ (fun hHeld => ?_)
                        refine pure_ (i := 0) (N := some 155) (v := ?_) (a' := ?_) #[true, false, false, false, false, false, false, false, false, false, false, false, false, false, false, false, false, false] rfl rfl (by kernel_rfl) (fun _ _ _ h => h) (Or.inl ⟨by rfl, ?_⟩) ?_ ?_
                        rotate_left
                        · intro w'
                          go_simp
                          with_reducible rfl
                        rotate_left
                        · simp only [Act.put, List.setIfInBounds_toArray, List.set_cons_zero, List.set_cons_succ, i64_w, i32_w]
                          rfl
                        refine pure_ (i := 1) (N := some 156) (v := ?_) (a' := ?_) #[true, true, false, false, false, false, false, false, false, false, false, false, false, false, false, false, false, false] rfl rfl (by kernel_rfl) (fun _ _ _ h => h) (Or.inl ⟨by rfl, ?_⟩) ?_ ?_
                        rotate_left
                        · intro w'
                          go_simp
                          with_reducible rfl
                        rotate_left
                        · simp only [Act.put, List.setIfInBounds_toArray, List.set_cons_zero, List.set_cons_succ, i64_w, i32_w]
                          rfl
                        refine pure_ (i := 2) (N := some 157) (v := ?_) (a' := ?_) #[true, true, true, false, false, false, false, false, false, false, false, false, false, false, false, false, false, false] rfl rfl (by kernel_rfl) (fun _ _ _ h => h) (Or.inl ⟨by rfl, ?_⟩) ?_ ?_
                        rotate_left
                        · intro w'
                          go_simp
                          with_reducible rfl
                        rotate_left
                        · simp only [Act.put, List.setIfInBounds_toArray, List.set_cons_zero, List.set_cons_succ, i64_w, i32_w]
                          rfl
                        refine pure_ (i := 3) (N := some 158) (v := ?_) (a' := ?_) #[true, true, true, true, false, false, false, false, false, false, false, false, false, false, false, false, false, false] rfl rfl (by kernel_rfl) (fun _ _ _ h => h) (Or.inl ⟨by rfl, ?_⟩) ?_ ?_
                        rotate_left
                        · intro w'
                          go_simp
                          with_reducible rfl
                        rotate_left
                        · simp only [Act.put, List.setIfInBounds_toArray, List.set_cons_zero, List.set_cons_succ, i64_w, i32_w]
                          rfl
                        refine pure_ (i := 4) (N := some 159) (v := ?_) (a' := ?_) #[true, true, true, true, true, false, false, false, false, false, false, false, false, false, false, false, false, false] rfl rfl (by kernel_rfl) (fun _ _ _ h => h) (Or.inl ⟨by rfl, ?_⟩) ?_ ?_
                        rotate_left
                        · intro w'
                          go_simp
                          with_reducible rfl
                        rotate_left
                        · simp only [Act.put, List.setIfInBounds_toArray, List.set_cons_zero, List.set_cons_succ, i64_w, i32_w]
                          rfl
                        refine pure_ (i := 5) (N := some 160) (v := ?_) (a' := ?_) #[true, true, true, true, true, true, false, false, false, false, false, false, false, false, false, false, false, false] rfl rfl (by kernel_rfl) (fun _ _ _ h => h) (Or.inl ⟨by rfl, ?_⟩) ?_ ?_
                        rotate_left
                        · intro w'
                          go_simp
                          with_reducible rfl
                        rotate_left
                        · simp only [Act.put, List.setIfInBounds_toArray, List.set_cons_zero, List.set_cons_succ, i64_w, i32_w]
                          rfl
                        refine pure_ (i := 7) (N := some 162) (v := ?_) (a' := ?_) #[true, true, true, true, true, true, false, true, false, false, false, false, false, false, false, false, false, false] rfl rfl (by kernel_rfl) (fun _ _ _ h => h) (Or.inl ⟨by rfl, ?_⟩) ?_ ?_
                        rotate_left
                        · intro w'
                          go_simp
                          with_reducible rfl
                        rotate_left
                        · simp only [Act.put, List.setIfInBounds_toArray, List.set_cons_zero, List.set_cons_succ, i64_w, i32_w]
                          rfl
                        refine pure_ (i := 8) (N := some 163) (v := ?_) (a' := ?_) #[true, true, true, true, true, true, false, true, true, false, false, false, false, false, false, false, false, false] rfl rfl (by kernel_rfl) (fun _ _ _ h => h) (Or.inl ⟨by rfl, ?_⟩) ?_ ?_
                        rotate_left
                        · intro w'
                          go_simp
                          with_reducible rfl
                        rotate_left
                        · simp only [Act.put, List.setIfInBounds_toArray, List.set_cons_zero, List.set_cons_succ, i64_w, i32_w]
                          rfl
                        refine pure_ (i := 9) (N := some 164) (v := ?_) (a' := ?_) #[true, true, true, true, true, true, false, true, true, true, false, false, false, false, false, false, false, false] rfl rfl (by kernel_rfl) (fun _ _ _ h => h) (Or.inl ⟨by rfl, ?_⟩) ?_ ?_
                        rotate_left
                        · intro w'
                          go_simp
                          with_reducible rfl
                        rotate_left
                        · simp only [Act.put, List.setIfInBounds_toArray, List.set_cons_zero, List.set_cons_succ, i64_w, i32_w]
                          rfl
                        refine pure_ (i := 11) (N := some 166) (v := ?_) (a' := ?_) #[true, true, true, true, true, true, false, true, true, true, false, true, false, false, false, false, false, false] rfl rfl (by kernel_rfl) (fun _ _ _ h => h) (Or.inl ⟨by rfl, ?_⟩) ?_ ?_
                        rotate_left
                        · intro w'
                          go_simp
                          with_reducible rfl
                        rotate_left
                        · simp only [Act.put, List.setIfInBounds_toArray, List.set_cons_zero, List.set_cons_succ, i64_w, i32_w]
                          rfl
                        refine pure_ (i := 12) (N := some 167) (v := ?_) (a' := ?_) #[true, true, true, true, true, true, false, true, true, true, false, true, true, false, false, false, false, false] rfl rfl (by kernel_rfl) (fun _ _ _ h => h) (Or.inl ⟨by rfl, ?_⟩) ?_ ?_
                        rotate_left
                        · intro w'
                          go_simp
                          with_reducible rfl
                        rotate_left
                        · simp only [Act.put, List.setIfInBounds_toArray, List.set_cons_zero, List.set_cons_succ, i64_w, i32_w]
                          rfl
                        refine take_ (i := 6) (N := some 161) (v := ?_) (a' := ?_) #[true, true, true, true, true, true, true, true, true, true, false, true, true, false, false, false, false, false] rfl rfl (by kernel_rfl) (fun _ _ _ h => h) (Or.inl ⟨by rfl, ?_⟩) hHeld ?_ ?_
                        rotate_left
                        · rintro w' ⟨s0, s1, s2⟩
                          go_simp
                          with_reducible rfl
                        rotate_left
                        · simp only [Act.put, List.setIfInBounds_toArray, List.set_cons_zero, List.set_cons_succ, i64_w, i32_w]
                          rfl
                        refine take_ (i := 10) (N := some 165) (v := ?_) (a' := ?_) #[true, true, true, true, true, true, true, true, true, true, true, true, true, false, false, false, false, false] rfl rfl (by kernel_rfl) (fun _ _ _ h => h) (Or.inl ⟨by rfl, ?_⟩) hHeld ?_ ?_
                        rotate_left
                        · rintro w' ⟨s0, s1, s2⟩
                          go_simp
                          with_reducible rfl
                        rotate_left
                        · simp only [Act.put, List.setIfInBounds_toArray, List.set_cons_zero, List.set_cons_succ, i64_w, i32_w]
                          rfl
                        refine pure_ (i := 13) (N := some 168) (v := ?_) (a' := ?_) #[true, true, true, true, true, true, true, true, true, true, true, true, true, true, false, false, false, false] rfl rfl (by kernel_rfl) (fun _ _ _ h => h) (Or.inl ⟨by rfl, ?_⟩) ?_ ?_
                        rotate_left
                        · intro w'
                          go_simp
                          with_reducible rfl
                        rotate_left
                        · simp only [Act.put, List.setIfInBounds_toArray, List.set_cons_zero, List.set_cons_succ, i64_w, i32_w]
                          rfl
                        refine take_ (i := 14) (N := some 169) (v := ?_) (a' := ?_) #[true, true, true, true, true, true, true, true, true, true, true, true, true, true, true, false, false, false] rfl rfl (by kernel_rfl) (fun _ _ _ h => h) (Or.inl ⟨by rfl, ?_⟩) hHeld ?_ ?_
                        rotate_left
                        · rintro w' ⟨s0, s1, s2⟩
                          go_simp
                          with_reducible rfl
                        rotate_left
                        · simp only [Act.put, List.setIfInBounds_toArray, List.set_cons_zero, List.set_cons_succ, i64_w, i32_w]
                          rfl
                        refine pure_ (i := 15) (N := some 170) (v := ?_) (a' := ?_) #[true, true, true, true, true, true, true, true, true, true, true, true, true, true, true, true, false, false] rfl rfl (by kernel_rfl) (fun _ _ _ h => h) (Or.inl ⟨by rfl, ?_⟩) ?_ ?_
                        rotate_left
                        · intro w'
                          go_simp
                          with_reducible rfl
                        rotate_left
                        · simp only [Act.put, List.setIfInBounds_toArray, List.set_cons_zero, List.set_cons_succ, i64_w, i32_w]
                          rfl
                        refine pure_ (i := 16) (N := some 171) (v := ?_) (a' := ?_) #[true, true, true, true, true, true, true, true, true, true, true, true, true, true, true, true, true, false] rfl rfl (by kernel_rfl) (fun _ _ _ h => h) (Or.inl ⟨by rfl, ?_⟩) ?_ ?_
                        rotate_left
                        · intro w'
                          go_simp
                          with_reducible rfl
                        rotate_left
                        · simp only [Act.put, List.setIfInBounds_toArray, List.set_cons_zero, List.set_cons_succ, i64_w, i32_w]
                          rfl
                        refine pure_ (i := 17) (N := some 18) (v := ?_) (a' := ?_) #[true, true, true, true, true, true, true, true, true, true, true, true, true, true, true, true, true, true] rfl rfl (by kernel_rfl) (fun _ _ _ h => h) (Or.inl ⟨by rfl, ?_⟩) ?_ ?_
                        rotate_left
                        · intro w'
                          go_simp
                          with_reducible rfl
                        rotate_left
                        · simp only [Act.put, List.setIfInBounds_toArray, List.set_cons_zero, List.set_cons_succ, i64_w, i32_w]
                          rfl
                        refine done_ (by kernel_rfl) ?_
                        clear hHeld
                        have HJ := Aside0.mk (show JW_w w wr.drew p t A7 c7 was (.slice (some ad) m c8) all ∧ Kd.R (Kd.int .u8) 5 wr.drew w.heap.size (fun _ => True) (.slice A12 768 c12) now from ⟨JW_deep_w HJ.out.1 (below_drew (Below.refl _ _)), Kd.R_below HJ.out.2 (below_drew (Below.refl _ _))⟩)
                        obtain ⟨ok1, hok1⟩ : ∃ b, b = (S1.toList == S3.toList) := ⟨_, rfl⟩
                        have OK1 := Aside0.mk (show cut8 now (k * 64) 64 = cut8 D (k * 64) 64 → ok1 = true by intro e; rw [hok1, HS1.out, HS3.out, e]; exact beq_self_eq_true _)
                        rw [← hok1]
                        clear hok1 Q8 HS3 Q12
                        go_wp2
                        go_roundw
                        case rel => exact ⟨i + 1, ok1, by go_num, by rfl, by omega, ⟨fun e => by
                          rcases e with e | ⟨i', h1, D', h2, h3⟩
                          · exact absurd (HO.out (.inl e)) (by decide)
                          · by_cases c : i' = i
                            · subst c
                              rw [HD.out] at h2
                              injection h2 with h2
                              subst h2
                              exact OK1.out h3
                            · exact absurd (HO.out (.inr ⟨i', by omega, D', h2, h3⟩)) (by decide)⟩, HJ⟩
                        case measure => simp [intOf]; omega
                    · have e2b : decide (i < m) = false := decide_eq_false e2
                      have hok : ok = true := by
                        rcases CW.out.2.2 k e1 with e | ⟨D, h1, h2⟩
                        · exact HO.out (.inl e)
                        · obtain ⟨i', h3⟩ := List.getElem?_of_mem h1
                          exact HO.out (.inr ⟨i', by have := (List.getElem?_eq_some_iff.1 h3).1; have := HM.out; omega, D, h3, h2⟩)
                      subst hok
                      go_wp2
                      go_roundw
                      case rel => exact ⟨k + 1, by go_num, by omega, HJ⟩
                      case measure => simp [intOf]; omega
                · have e1b : decide ((k : Int) < 12) = false := decide_eq_false (by omega)
                  go_wp2_with (go_at_call 15; refine (disk_alive _).mono ?_; rintro e w9 ⟨rfl, hb⟩; have J9 := Aside0.mk (JW_deep_w HJ.out.1 hb); clear hb HJ)
                  go_ret
                  exact ⟨rfl, J_below J9.out.1⟩
theorem law_Whole_w (A0 : Option Addr) (c0 : Nat) (l0 : List S35) (A1 : Option Addr) (c1 : Nat) (l1 : List Bool) (w : World) (hr0 : Kd.C k35 w A0 l0.length l0) (hr1 : Kd.C Kd.bool w A1 l1.length l1) (hc1 : l1.length ≤ c1) : Calls Try.prog 6 #[.slice A0 l0.length c0, .slice A1 l1.length c1] w fun e w' => e = .returned (.bool true) ∧ Below w.heap.size w w' := by
  by_cases hl : l0.length ≤ 20
  · exact law_WholeA_w A0 c0 l0 A1 c1 l1 w hr0 hr1 hc1 hl
  · exact law_WholeB_w A0 c0 l0 A1 c1 l1 w hr0 hr1 hc1 (by omega)
def marginalialaw14_DiskWhole.f (l0 : List S35) (l1 : List Bool) : Option (Bool) := some true
theorem marginalialaw14_DiskWhole.calls (A0 : Option Addr) (c0 : Nat) (l0 : List S35) (A1 : Option Addr) (c1 : Nat) (l1 : List Bool) (r : Bool) (w : World) (hr0 : Kd.C k35 w A0 l0.length l0) (hc0 : l0.length ≤ c0) (hr1 : Kd.C Kd.bool w A1 l1.length l1) (hc1 : l1.length ≤ c1) (h : marginalialaw14_DiskWhole.f l0 l1 = some r) :
    Calls Try.prog 6 #[.slice A0 l0.length c0, .slice A1 l1.length c1] w fun e w' => e = .returned (.bool r) ∧ Below w.heap.size w w' := by
  obtain rfl := Option.some.inj h
  exact law_Whole_w A0 c0 l0 A1 c1 l1 w hr0 hr1 hc1

end Go.Proofs.Ytepipgneefcoiaa.D
