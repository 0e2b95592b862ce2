/- The functions of the program that these laws reach, each as a plain Lean function, and the proof that the machine's call comes to it; no condition beyond those that each theorem names. Made by wip/xprint.py. -/
import Derived.Test.YtepipgneefcoiaaTW9
import Derived.Test.YtepipgneefcoiaaMBack
import Derived.Test.YtepipgneefcoiaaDx0
namespace Go.Proofs.Ytepipgneefcoiaa.D
open Go.RowKit Go.Proofs.YtepipgneefcoiaaW.PrintWords Go.Proofs.YtepipgneefcoiaaW.PrintLast Go.Proofs.YtepipgneefcoiaaW.PrintMore
attribute [local go_sem] max2_int min2_int max_two min_two max_three min_three max_four min_four
set_option linter.unusedVariables false
set_option linter.unusedSimpArgs false
/- What is safe, and pending, and there. -/
set_option maxRecDepth 8000 in
theorem sp8_get {L X : List Int} {o : Nat} (h : o + X.length ≤ L.length) (i : Nat) : (sp8 L o X)[i]? = if o ≤ i ∧ i < o + X.length then X[i - o]? else L[i]? := by
  unfold sp8
  by_cases c1 : i < o
  · rw [if_neg (by omega), List.append_assoc, List.getElem?_append_left (by rw [List.length_take]; omega), List.getElem?_take, if_pos c1]
  · by_cases c2 : i < o + X.length
    · rw [if_pos ⟨by omega, c2⟩, List.getElem?_append_left (by rw [List.length_append, List.length_take]; omega), List.getElem?_append_right (by rw [List.length_take]; omega), List.length_take, Nat.min_eq_left (by omega)]
    · rw [if_neg (by omega), List.getElem?_append_right (by rw [List.length_append, List.length_take]; omega), List.length_append, List.length_take, List.getElem?_drop]
      congr 1
      omega
def aps (P : List Pc) (F : List Int) : List Int := P.foldl (fun F x => sp8 F (x.bl.toNat * 256 + x.at_.toNat) x.b) F
set_option maxRecDepth 8000 in
theorem rdP_eq {P : List Pc} {j : Nat} (h : j < P.length) : P[j]? = some (rdP P j) := by
  unfold rdP
  rw [List.getD_eq_getElem?_getD, List.getElem?_eq_getElem h]; rfl
set_option maxRecDepth 8000 in
theorem keepF_aps (P : List Pc) (F : List Int) : ∀ j, j ≤ P.length → keepF (fun _ => true) P j F = aps (P.take j) F
  | 0, _ => rfl
  | j + 1, hj => by
    have e : P.take (j + 1) = P.take j ++ [rdP P j] := by rw [List.take_add_one, rdP_eq (by omega)]; rfl
    unfold keepF
    rw [if_pos rfl, keepF_aps P F j (by omega), e]
    unfold aps
    rw [List.foldl_append]
    rfl
set_option maxRecDepth 8000 in
theorem keepF_all (P : List Pc) (F : List Int) : keepF (fun _ => true) P P.length F = aps P F := by
  rw [keepF_aps P F _ (Nat.le_refl _), List.take_of_length_le (Nat.le_refl _)]
def inB (x : Pc) (i : Nat) : Prop := x.bl.toNat * 256 ≤ i ∧ i < x.bl.toNat * 256 + 256
set_option maxRecDepth 8000 in
theorem keepF_far {s : Dk} (h : s.Ok) (kept : Nat → Bool) (i : Nat) : ∀ j, j ≤ s.pend.length → (∀ k, k < j → ¬ inB (rdP s.pend k) i) → (keepF kept s.pend j s.safe)[i]? = s.safe[i]?
  | 0, _, _ => rfl
  | j + 1, hj, hk => by
    have ih := keepF_far h kept i j (by omega) (fun k hk' => hk k (by omega))
    obtain ⟨h1, h2, h3, h4, h5⟩ := h.pend _ (rdP_mem (show j < s.pend.length by omega))
    have hf : (rdP s.pend j).bl.toNat * 256 + (rdP s.pend j).at_.toNat + (rdP s.pend j).b.length ≤ (keepF kept s.pend j s.safe).length := by rw [keepF_len h kept j (by omega), h5, h.safe]; omega
    unfold keepF
    split
    · have := hk j (by omega)
      unfold inB at this
      rw [sp8_get hf, if_neg (by rw [h5]; omega), ih]
    · exact ih
set_option maxRecDepth 8000 in
theorem backF_get {s : Dk} (h : s.Ok) (F : List Int) (hF : F.length = s.safe.length) (i : Nat) : ∀ j, j ≤ s.pend.length → (backF F s.pend j s.now)[i]? = F[i]? ∨ ((∀ k, k < j → ¬ inB (rdP s.pend k) i) ∧ (backF F s.pend j s.now)[i]? = s.now[i]?)
  | 0, _ => .inr ⟨fun k hk => by omega, rfl⟩
  | j + 1, hj => by
    have ih := backF_get h F hF i j (by omega)
    obtain ⟨h1, h2, h3, h4, h5⟩ := h.pend _ (rdP_mem (show j < s.pend.length by omega))
    have hc : (cut8 F ((rdP s.pend j).bl.toNat * 256) 256).length = 256 := cut8_len (by rw [hF, h.safe]; omega)
    have hf : (rdP s.pend j).bl.toNat * 256 + (cut8 F ((rdP s.pend j).bl.toNat * 256) 256).length ≤ (backF F s.pend j s.now).length := by rw [backF_len h F hF j (by omega), hc, h.now]; omega
    unfold backF
    rw [sp8_get hf, hc]
    by_cases c : (rdP s.pend j).bl.toNat * 256 ≤ i ∧ i < (rdP s.pend j).bl.toNat * 256 + 256
    · rw [if_pos c, cut8_at (by omega)]
      refine .inl ?_
      congr 1
      omega
    · rw [if_neg c]
      rcases ih with ih | ⟨ih1, ih2⟩
      · exact .inl ih
      · refine .inr ⟨fun k hk => ?_, ih2⟩
        by_cases e : k = j
        · subst e; exact c
        · exact ih1 k (by omega)
def Nw (s : Dk) : Prop := s.Ok ∧ s.now = aps s.pend s.safe
set_option maxRecDepth 8000 in
theorem stl_eq {s : Dk} (h : Nw s) (kept : Nat → Bool) : stl kept s = {s with safe := keepF kept s.pend s.pend.length s.safe, now := keepF kept s.pend s.pend.length s.safe, pend := []} := by
  obtain ⟨h, hn⟩ := h
  unfold stl
  congr 1
  apply List.ext_getElem?
  intro i
  rcases backF_get h _ (keepF_len h kept _ (Nat.le_refl _)) i _ (Nat.le_refl _) with e | ⟨e1, e2⟩
  · exact e
  · rw [e2, keepF_far h kept i _ (Nat.le_refl _) e1, hn, ← keepF_all, keepF_far h _ i _ (Nat.le_refl _) e1]
set_option maxRecDepth 8000 in
theorem stl_Nw {s : Dk} (h : Nw s) (kept : Nat → Bool) : Nw (stl kept s) := by
  refine ⟨stl_ok h.1 kept, ?_⟩
  rw [stl_eq h]
  rfl
set_option maxRecDepth 8000 in
theorem Nw_set {s s' : Dk} (h : Nw s) (h1 : s'.now = s.now) (h2 : s'.safe = s.safe) (h3 : s'.pend = s.pend) (h4 : s'.nb = s.nb) : Nw s' := by
  refine ⟨⟨by rw [h4]; exact h.1.nb0, by rw [h4]; exact h.1.nb1, by rw [h1, h4]; exact h.1.now, by rw [h2, h4]; exact h.1.safe, by rw [h3, h4]; exact h.1.pend⟩, by rw [h1, h2, h3]; exact h.2⟩
set_option maxRecDepth 8000 in
theorem pwx_Nw {s : Dk} (h : Nw s) : Nw (pwx s).1 :=
  Nw_set h (pwx_keeps s).2.2.1 (pwx_keeps s).2.2.2 (pwx_keeps s).1 (pwx_keeps s).2.1
set_option maxRecDepth 8000 in
theorem pcs_aps {L b : List Int} {n : Nat} (hb : b.length = 256) (hL : n * 256 + 256 ≤ L.length) : aps (pcs (n : Int) b) L = sp8 L (n * 256) b := by
  have l0 : (cut8 b 0 64).length = 64 := cut8_len (by omega)
  have l1 : (cut8 b 64 64).length = 64 := cut8_len (by omega)
  have l2 : (cut8 b 128 64).length = 64 := cut8_len (by omega)
  have l3 : (cut8 b 192 64).length = 64 := cut8_len (by omega)
  show sp8 (sp8 (sp8 (sp8 L (n * 256 + 0) (cut8 b 0 64)) (n * 256 + 64) (cut8 b 64 64)) (n * 256 + 128) (cut8 b 128 64)) (n * 256 + 192) (cut8 b 192 64) = _
  have f0 : n * 256 + 0 + (cut8 b 0 64).length ≤ L.length := by omega
  have m0 := sp8_len f0
  obtain ⟨L0, hL0⟩ : ∃ L0, L0 = sp8 L (n * 256 + 0) (cut8 b 0 64) := ⟨_, rfl⟩
  have g0 := fun i => sp8_get f0 i
  rw [← hL0] at m0 g0 ⊢
  have f1 : n * 256 + 64 + (cut8 b 64 64).length ≤ L0.length := by omega
  have m1 := sp8_len f1
  obtain ⟨L1, hL1⟩ : ∃ L1, L1 = sp8 L0 (n * 256 + 64) (cut8 b 64 64) := ⟨_, rfl⟩
  have g1 := fun i => sp8_get f1 i
  rw [← hL1] at m1 g1 ⊢
  have f2 : n * 256 + 128 + (cut8 b 128 64).length ≤ L1.length := by omega
  have m2 := sp8_len f2
  obtain ⟨L2, hL2⟩ : ∃ L2, L2 = sp8 L1 (n * 256 + 128) (cut8 b 128 64) := ⟨_, rfl⟩
  have g2 := fun i => sp8_get f2 i
  rw [← hL2] at m2 g2 ⊢
  have f3 : n * 256 + 192 + (cut8 b 192 64).length ≤ L2.length := by omega
  have f4 : n * 256 + b.length ≤ L.length := by omega
  apply List.ext_getElem?
  intro i
  rw [sp8_get f3, sp8_get f4, g2, g1, g0, l0, l1, l2, l3, hb]
  by_cases c : n * 256 ≤ i ∧ i < n * 256 + 256
  · rw [if_pos c]
    split
    · rw [cut8_at (by omega)]; congr 1; omega
    split
    · rw [cut8_at (by omega)]; congr 1; omega
    split
    · rw [cut8_at (by omega)]; congr 1; omega
    split
    · rw [cut8_at (by omega)]; congr 1; omega
    · omega
  · rw [if_neg c, if_neg (by omega), if_neg (by omega), if_neg (by omega), if_neg (by omega)]
set_option maxRecDepth 8000 in
theorem aps_len {s : Dk} (h : s.Ok) : (aps s.pend s.safe).length = s.nb * 256 := by
  rw [← keepF_all, keepF_len h _ _ (Nat.le_refl _), h.safe]
set_option maxRecDepth 8000 in
theorem wrx_Nw {s : Dk} (h : Nw s) (i : Int) (b : List Int) : Nw (wrx s i b).1 := by
  unfold wrx
  split
  · rename_i c
    have hp := pwx_Nw h
    obtain ⟨n, rfl, hn⟩ := hasB_nat c.1
    have k1 := (pwx_keeps s).2.1
    split
    · obtain ⟨t, ht⟩ : ∃ t, t = (pwx s).1 := ⟨_, rfl⟩
      rw [← ht] at hp k1 ⊢
      have ok := hp.1
      have hnow : n * 256 + 256 ≤ t.now.length := by rw [ok.now]; omega
      have L : ∀ o, o + 64 ≤ 256 → (cut8 b o 64).length = 64 := fun o ho => cut8_len (by rw [c.2]; omega)
      refine ⟨⟨ok.nb0, ok.nb1, ?_, ok.safe, ?_⟩, ?_⟩
      · show (sp8 t.now ((n : Int).toNat * 256) b).length = _
        rw [Int.toNat_natCast, sp8_len (by rw [c.2]; omega)]
        exact ok.now
      · intro x hx
        have hx : x ∈ t.pend ++ pcs (n : Int) b := hx
        rw [List.mem_append] at hx
        rcases hx with hx | hx
        · exact ok.pend x hx
        · show 0 ≤ x.bl ∧ x.bl < (t.nb : Int) ∧ _
          have : x = ⟨n, 0, cut8 b 0 64⟩ ∨ x = ⟨n, 64, cut8 b 64 64⟩ ∨ x = ⟨n, 128, cut8 b 128 64⟩ ∨ x = ⟨n, 192, cut8 b 192 64⟩ := by simpa [pcs] using hx
          rcases this with e | e | e | e <;> subst e <;> dsimp only <;> exact ⟨by omega, by omega, by omega, by omega, L _ (by omega)⟩
      · show sp8 t.now ((n : Int).toNat * 256) b = aps (t.pend ++ pcs (n : Int) b) t.safe
        have : aps (t.pend ++ pcs (n : Int) b) t.safe = aps (pcs (n : Int) b) (aps t.pend t.safe) := by unfold aps; rw [List.foldl_append]
        rw [this, ← hp.2, pcs_aps c.2 hnow, Int.toNat_natCast]
    · exact hp
  · exact h
set_option maxRecDepth 8000 in
theorem flx_Nw {s : Dk} (h : Nw s) : Nw (flx s).1 := by
  unfold flx
  split
  · exact stl_Nw (pwx_Nw h) _
  · exact pwx_Nw h
set_option maxRecDepth 8000 in
theorem fzx_Nw {s : Dk} (h : Nw s) (k : Int) : Nw (fzx s k) := by
  unfold fzx
  split
  · exact h
  · exact Nw_set h rfl rfl rfl rfl
set_option maxRecDepth 8000 in
theorem crx_Nw {s : Dk} (h : Nw s) (k : List Bool) : Nw (crx s k) := Nw_set (stl_Nw h _) rfl rfl rfl rfl
set_option maxRecDepth 8000 in
theorem new_Nw (n : Nat) (h0 : 1 ≤ n) (h1 : n ≤ 4096) : Nw ⟨n, List.replicate (n * 256) 0, List.replicate (n * 256) 0, [], false, 0, false⟩ :=
  ⟨⟨h0, h1, List.length_replicate .., List.length_replicate .., fun x hx => by cases hx⟩, rfl⟩
end Go.Proofs.Ytepipgneefcoiaa.D
