/- The functions of the program that these laws reach, each as a plain Lean function, and the proof that the machine's call comes to it; no condition beyond those that each theorem names. Made by wip/xprint.py. -/
import Derived.Test.YtepipgneefcoiaaDx0
import Derived.Test.YtepipgneefcoiaaDf15
import Derived.Test.YtepipgneefcoiaaDf19
import Derived.Test.YtepipgneefcoiaaDf25
import Derived.Test.YtepipgneefcoiaaDf28
import Derived.Test.YtepipgneefcoiaaDf29
import Derived.Test.YtepipgneefcoiaaDf30
import Derived.Test.YtepipgneefcoiaaDf31
import Derived.Test.YtepipgneefcoiaaDf34
import Derived.Test.YtepipgneefcoiaaDf52
import Derived.Test.YtepipgneefcoiaaDf53
import Derived.Test.YtepipgneefcoiaaDf55
import Derived.Test.YtepipgneefcoiaaDf60
import Derived.Test.YtepipgneefcoiaaDf61
import Derived.Test.YtepipgneefcoiaaDf62
import Derived.Test.YtepipgneefcoiaaDf63
import Derived.Test.YtepipgneefcoiaaDf65
import Derived.Test.YtepipgneefcoiaaDh
namespace Go.Proofs.Ytepipgneefcoiaa.D
open Go.RowKit Go.Proofs.YtepipgneefcoiaaW.PrintWords Go.Proofs.YtepipgneefcoiaaW.PrintLast Go.Proofs.YtepipgneefcoiaaW.PrintMore
attribute [local go_sem] max2_int min2_int max_two min_two max_three min_three max_four min_four   -- for this text's walks alone
set_option linter.unusedVariables false
set_option linter.unusedSimpArgs false

/-! ### marginalialaw14_DiskPlays: function 7: by hand -/
/- play. -/
def JR_p (w0 w : World) (p : Nat) (s : Dk) (A : Option Addr) (m : Nat) : Prop := ∃ a b v, dm w0.heap.size w p a b v s ∧ Below w0.heap.size w0 w ∧ m ≤ 9223372036854775807 ∧ (0 < m → ∃ (g : Nat) (cells : Array Value) (T : TypeId), A = some ⟨g, 0, none⟩ ∧ w.heap[g]? = some (.cells cells T (0, 0)) ∧ m ≤ cells.size ∧ w0.heap.size ≤ g ∧ g ≠ p ∧ g ≠ a ∧ g ≠ b ∧ ∀ q, q ∈ 100 :: kP.E → q ≠ T)
theorem JR_J_p {w0 w : World} {p : Nat} {s : Dk} {A : Option Addr} {m : Nat} (h : JR_p w0 w p s A m) : J w0 w p s := by
  obtain ⟨a, b, v, h1, h2, _⟩ := h
  exact ⟨a, b, v, h1, h2⟩
theorem JR_m_p {w0 w : World} {p : Nat} {s : Dk} {A : Option Addr} {m : Nat} (h : JR_p w0 w p s A m) : m ≤ 9223372036854775807 := by
  obtain ⟨a, b, v, h1, h2, h3, _⟩ := h
  exact h3
theorem JR_at_p {w0 w : World} {p : Nat} {s : Dk} {A : Option Addr} {m : Nat} (h : JR_p w0 w p s A m) (i : Nat) (hi : i < m) (u : Value) : ∃ g x, A = some ⟨g, 0, none⟩ ∧ w.cell? ⟨g, i, none⟩ = some x ∧ w.frozen? ⟨g, i, none⟩ = false ∧ JR_p w0 (w.setCell ⟨g, i, none⟩ u) p s A m := by
  obtain ⟨a, b, v, h1, h2, h3, h4⟩ := h
  obtain ⟨g, cells, T, rfl, hg, hm, hb, n1, n2, n3, hT⟩ := h4 (by omega)
  refine ⟨g, cells[i]'(by omega), rfl, by rw [blk_cell hg, Array.getElem?_eq_getElem (by omega)], blk_frozen hg i, a, b, v, ?_, below_set h2 hb, h3, fun _ => ⟨g, _, T, rfl, blk_set hg i u, by simp; omega, hb, n1, n2, n3, hT⟩⟩
  exact ⟨blk_far h1.box (p := ⟨g, i, none⟩) (Ne.symm n1) u, blk_far h1.now (p := ⟨g, i, none⟩) (Ne.symm n2) u, blk_far h1.safe (p := ⟨g, i, none⟩) (Ne.symm n3) u, Kd.R_set h1.pend hg hT i u, h1.ne, h1.hp, h1.hn, h1.hf, h1.ok⟩
theorem JR_of_p {w0 w w' : World} {p base m c : Nat} {s : Dk} {A : Option Addr} {ok : Nat → Prop} {b : List Int} (hR : Kd.R (Kd.int .u8) 5 w base ok (.slice A m c) b) (ho : oth w w') (h : J w0 w' p s) (hbase : w0.heap.size ≤ base) : JR_p w0 w' p s A m := by
  obtain ⟨a, b', v, h1, h2⟩ := h
  have hm := Kd.C_max (Kd.R_reads' hR).2.2
  obtain rfl := (Kd.R_reads' hR).1
  refine ⟨a, b', v, h1, h2, hm, fun h0 => ?_⟩
  obtain ⟨q, cap, e, hq, _, cells, hc⟩ := Kd.R_form hR h0
  injection e with e1 e2 e3
  subst e1
  have hc' := ho.2 q cells 5 hc (by decide) (by decide) (by decide)
  refine ⟨q, cells, 5, rfl, hc', ?_, by omega, blk_ne hc' h1.box (by decide), blk_ne hc' h1.now (by decide), blk_ne hc' h1.safe (by decide), by decide⟩
  have := (Kd.R_celln (0 : Int) hR ((b.length - 1 : Nat) : Int) (by omega) (by omega)).1
  rw [Int.toNat_natCast, blk_cell hc] at this
  have := (Array.getElem?_eq_some_iff.1 this).1
  omega
theorem JR_read_p {w0 w w' : World} {p : Nat} {s : Dk} {v : Value} {l : List Int} (h : J w0 w p s) (hb : Below w.heap.size w w') (hf : frs w w' v l) : ∃ A, v = .slice A l.length l.length ∧ JR_p w0 w' p s A l.length := by
  obtain ⟨a, b, vP, h1, h2⟩ := h
  rcases hf with ⟨rfl, rfl⟩ | ⟨g, rfl, hg, hl, hc⟩
  · exact ⟨none, rfl, a, b, vP, dm_below h1 hb, below_step h2 hb, by simp, fun h => by simp at h⟩
  · have e1 := blk_lt h1.box
    have e2 := blk_lt h1.now
    have e3 := blk_lt h1.safe
    exact ⟨some ⟨g, 0, none⟩, rfl, a, b, vP, dm_below h1 hb, below_step h2 hb, by omega, fun h => ⟨g, _, 96, rfl, hc, by simp [by8], by have := h2.size; omega, by omega, by omega, by omega, by decide⟩⟩
/- What an act writes; what an act does. -/
def wbx_p (b : List Int) (sh : Bool) : List Int := if sh = true then b else blkOf b
def plx_p (s : Dk) (k n : Int) (b : List Int) (sh : Bool) (keep : List Bool) : Dk × Int :=
  if k = 1 then wrx s n (wbx_p b sh) else if k = 2 then flx s else if k = 3 then (fzx s n, 0) else if k = 4 then (crx s keep, 0) else if k = 5 then (s, (rdx s n).2) else (s, 0)
theorem bytes_ev_p (k n : Int) (b : List Int) (sh : Bool) (keep : List Bool) (hb : b.length ≤ 300) : marginalialaw14_Act_bytes.f 300 k n b sh keep = some (wbx_p b sh) := by
  unfold marginalialaw14_Act_bytes.f wbx_p
  cases sh with
  | true => simp; omega
  | false => simp [Block_ev b (by omega)]
theorem pick14_p (a0 m : Int) (h0 : 0 < m) (h1 : m ≤ 100) : ∃ r : Nat, marginalialaw14_pick.f a0 m = some (r : Int) ∧ (r : Int) < m := by
  unfold marginalialaw14_pick.f
  rw [if_neg (by omega)]
  have h1 : -m < Int.tmod a0 m ∧ Int.tmod a0 m < m := by
    have := Int.tmod_lt_of_pos a0 h0
    have h2 := Int.neg_tmod a0 m
    have := Int.tmod_lt_of_pos (-a0) h0
    omega
  have e : wrap64 (Int.tmod a0 m + m) = Int.tmod a0 m + m := IntWalk.wrap64_in _ (by omega)
  rw [e]
  have h3 : 0 ≤ Int.tmod (Int.tmod a0 m + m) m := Int.tmod_nonneg _ (by omega)
  exact ⟨(Int.tmod (Int.tmod a0 m + m) m).toNat, by rw [Int.toNat_of_nonneg h3], by rw [Int.toNat_of_nonneg h3]; exact Int.tmod_lt_of_pos _ h0⟩
theorem pcs_len_p (i : Int) (b : List Int) : (pcs i b).length = 4 := by simp [pcs]
theorem pwx_len_p (s : Dk) : (pwx s).1.pend = s.pend := (pwx_keeps s).1
theorem wrx_len_p (s : Dk) (i : Int) (b : List Int) : (wrx s i b).1.pend.length ≤ s.pend.length + 4 := by
  unfold wrx
  split
  · split
    · simp [pcs_len_p, pwx_len_p]
    · simp [pwx_len_p]
  · simp
theorem flx_len_p (s : Dk) : (flx s).1.pend.length ≤ s.pend.length := by
  unfold flx
  split
  · simp [stl]
  · simp [pwx_len_p]
theorem wrx_nb_p (s : Dk) (i : Int) (b : List Int) : (wrx s i b).1.nb = s.nb := by
  unfold wrx
  split
  · split
    · simp [pwx_keeps]
    · simp [pwx_keeps]
  · rfl
theorem flx_nb_p (s : Dk) : (flx s).1.nb = s.nb := by
  unfold flx
  split
  · simp [stl, pwx_keeps]
  · simp [pwx_keeps]
theorem crx_nb_p (s : Dk) (k : List Bool) : (crx s k).nb = s.nb := rfl
theorem fzx_nb_p (s : Dk) (k : Int) : (fzx s k).nb = s.nb := by unfold fzx; split <;> rfl
theorem plx_len_p (s : Dk) (k n : Int) (b : List Int) (sh : Bool) (keep : List Bool) : (plx_p s k n b sh keep).1.pend.length ≤ s.pend.length + 4 := by
  unfold plx_p
  split
  · exact wrx_len_p _ _ _
  split
  · have := flx_len_p s; omega
  split
  · unfold fzx; split <;> simp
  split
  · simp [crx, stl]
  split <;> simp
theorem plx_nb_p (s : Dk) (k n : Int) (b : List Int) (sh : Bool) (keep : List Bool) : (plx_p s k n b sh keep).1.nb = s.nb := by
  unfold plx_p
  split
  · exact wrx_nb_p _ _ _
  split
  · exact flx_nb_p s
  split
  · exact fzx_nb_p s n
  split
  · rfl
  split <;> rfl
/- What is safe, and pending, and there. -/
set_option maxRecDepth 8000 in
theorem sp8_get_p {L X : List Int} {o : Nat} (h : o + X.length ≤ L.length) (i : Nat) : (sp8 L o X)[i]? = if o ≤ i ∧ i < o + X.length then X[i - o]? else L[i]? := by
  unfold sp8
  by_cases c1 : i < o
  · rw [if_neg (by omega), List.append_assoc, List.getElem?_append_left (by rw [List.length_take]; omega), List.getElem?_take, if_pos c1]
  · by_cases c2 : i < o + X.length
    · rw [if_pos ⟨by omega, c2⟩, List.getElem?_append_left (by rw [List.length_append, List.length_take]; omega), List.getElem?_append_right (by rw [List.length_take]; omega), List.length_take, Nat.min_eq_left (by omega)]
    · rw [if_neg (by omega), List.getElem?_append_right (by rw [List.length_append, List.length_take]; omega), List.length_append, List.length_take, List.getElem?_drop]
      congr 1
      omega
def aps_p (P : List Pc) (F : List Int) : List Int := P.foldl (fun F x => sp8 F (x.bl.toNat * 256 + x.at_.toNat) x.b) F
set_option maxRecDepth 8000 in
theorem rdP_eq_p {P : List Pc} {j : Nat} (h : j < P.length) : P[j]? = some (rdP P j) := by
  unfold rdP
  rw [List.getD_eq_getElem?_getD, List.getElem?_eq_getElem h]; rfl
set_option maxRecDepth 8000 in
theorem keepF_aps_p (P : List Pc) (F : List Int) : ∀ j, j ≤ P.length → keepF (fun _ => true) P j F = aps_p (P.take j) F
  | 0, _ => rfl
  | j + 1, hj => by
    have e : P.take (j + 1) = P.take j ++ [rdP P j] := by rw [List.take_add_one, rdP_eq_p (by omega)]; rfl
    unfold keepF
    rw [if_pos rfl, keepF_aps_p P F j (by omega), e]
    unfold aps_p
    rw [List.foldl_append]
    rfl
set_option maxRecDepth 8000 in
theorem keepF_all_p (P : List Pc) (F : List Int) : keepF (fun _ => true) P P.length F = aps_p P F := by
  rw [keepF_aps_p P F _ (Nat.le_refl _), List.take_of_length_le (Nat.le_refl _)]
def inB_p (x : Pc) (i : Nat) : Prop := x.bl.toNat * 256 ≤ i ∧ i < x.bl.toNat * 256 + 256
set_option maxRecDepth 8000 in
theorem keepF_far_p {s : Dk} (h : s.Ok) (kept : Nat → Bool) (i : Nat) : ∀ j, j ≤ s.pend.length → (∀ k, k < j → ¬ inB_p (rdP s.pend k) i) → (keepF kept s.pend j s.safe)[i]? = s.safe[i]?
  | 0, _, _ => rfl
  | j + 1, hj, hk => by
    have ih := keepF_far_p h kept i j (by omega) (fun k hk' => hk k (by omega))
    obtain ⟨h1, h2, h3, h4, h5⟩ := h.pend _ (rdP_mem (show j < s.pend.length by omega))
    have hf : (rdP s.pend j).bl.toNat * 256 + (rdP s.pend j).at_.toNat + (rdP s.pend j).b.length ≤ (keepF kept s.pend j s.safe).length := by rw [keepF_len h kept j (by omega), h5, h.safe]; omega
    unfold keepF
    split
    · have := hk j (by omega)
      unfold inB_p at this
      rw [sp8_get_p hf, if_neg (by rw [h5]; omega), ih]
    · exact ih
set_option maxRecDepth 8000 in
theorem backF_get_p {s : Dk} (h : s.Ok) (F : List Int) (hF : F.length = s.safe.length) (i : Nat) : ∀ j, j ≤ s.pend.length → (backF F s.pend j s.now)[i]? = F[i]? ∨ ((∀ k, k < j → ¬ inB_p (rdP s.pend k) i) ∧ (backF F s.pend j s.now)[i]? = s.now[i]?)
  | 0, _ => .inr ⟨fun k hk => by omega, rfl⟩
  | j + 1, hj => by
    have ih := backF_get_p h F hF i j (by omega)
    obtain ⟨h1, h2, h3, h4, h5⟩ := h.pend _ (rdP_mem (show j < s.pend.length by omega))
    have hc : (cut8 F ((rdP s.pend j).bl.toNat * 256) 256).length = 256 := cut8_len (by rw [hF, h.safe]; omega)
    have hf : (rdP s.pend j).bl.toNat * 256 + (cut8 F ((rdP s.pend j).bl.toNat * 256) 256).length ≤ (backF F s.pend j s.now).length := by rw [backF_len h F hF j (by omega), hc, h.now]; omega
    unfold backF
    rw [sp8_get_p hf, hc]
    by_cases c : (rdP s.pend j).bl.toNat * 256 ≤ i ∧ i < (rdP s.pend j).bl.toNat * 256 + 256
    · rw [if_pos c, cut8_at (by omega)]
      refine .inl ?_
      congr 1
      omega
    · rw [if_neg c]
      rcases ih with ih | ⟨ih1, ih2⟩
      · exact .inl ih
      · refine .inr ⟨fun k hk => ?_, ih2⟩
        by_cases e : k = j
        · subst e; exact c
        · exact ih1 k (by omega)
def Nw_p (s : Dk) : Prop := s.Ok ∧ s.now = aps_p s.pend s.safe
set_option maxRecDepth 8000 in
theorem stl_eq_p {s : Dk} (h : Nw_p s) (kept : Nat → Bool) : stl kept s = {s with safe := keepF kept s.pend s.pend.length s.safe, now := keepF kept s.pend s.pend.length s.safe, pend := []} := by
  obtain ⟨h, hn⟩ := h
  unfold stl
  congr 1
  apply List.ext_getElem?
  intro i
  rcases backF_get_p h _ (keepF_len h kept _ (Nat.le_refl _)) i _ (Nat.le_refl _) with e | ⟨e1, e2⟩
  · exact e
  · rw [e2, keepF_far_p h kept i _ (Nat.le_refl _) e1, hn, ← keepF_all_p, keepF_far_p h _ i _ (Nat.le_refl _) e1]
set_option maxRecDepth 8000 in
theorem stl_Nw_p {s : Dk} (h : Nw_p s) (kept : Nat → Bool) : Nw_p (stl kept s) := by
  refine ⟨stl_ok h.1 kept, ?_⟩
  rw [stl_eq_p h]
  rfl
set_option maxRecDepth 8000 in
theorem Nw_set_p {s s' : Dk} (h : Nw_p s) (h1 : s'.now = s.now) (h2 : s'.safe = s.safe) (h3 : s'.pend = s.pend) (h4 : s'.nb = s.nb) : Nw_p s' := by
  refine ⟨⟨by rw [h4]; exact h.1.nb0, by rw [h4]; exact h.1.nb1, by rw [h1, h4]; exact h.1.now, by rw [h2, h4]; exact h.1.safe, by rw [h3, h4]; exact h.1.pend⟩, by rw [h1, h2, h3]; exact h.2⟩
set_option maxRecDepth 8000 in
theorem pwx_Nw_p {s : Dk} (h : Nw_p s) : Nw_p (pwx s).1 :=
  Nw_set_p h (pwx_keeps s).2.2.1 (pwx_keeps s).2.2.2 (pwx_keeps s).1 (pwx_keeps s).2.1
set_option maxRecDepth 8000 in
theorem pcs_aps_p {L b : List Int} {n : Nat} (hb : b.length = 256) (hL : n * 256 + 256 ≤ L.length) : aps_p (pcs (n : Int) b) L = sp8 L (n * 256) b := by
  have l0 : (cut8 b 0 64).length = 64 := cut8_len (by omega)
  have l1 : (cut8 b 64 64).length = 64 := cut8_len (by omega)
  have l2 : (cut8 b 128 64).length = 64 := cut8_len (by omega)
  have l3 : (cut8 b 192 64).length = 64 := cut8_len (by omega)
  show sp8 (sp8 (sp8 (sp8 L (n * 256 + 0) (cut8 b 0 64)) (n * 256 + 64) (cut8 b 64 64)) (n * 256 + 128) (cut8 b 128 64)) (n * 256 + 192) (cut8 b 192 64) = _
  have f0 : n * 256 + 0 + (cut8 b 0 64).length ≤ L.length := by omega
  have m0 := sp8_len f0
  obtain ⟨L0, hL0⟩ : ∃ L0, L0 = sp8 L (n * 256 + 0) (cut8 b 0 64) := ⟨_, rfl⟩
  have g0 := fun i => sp8_get_p f0 i
  rw [← hL0] at m0 g0 ⊢
  have f1 : n * 256 + 64 + (cut8 b 64 64).length ≤ L0.length := by omega
  have m1 := sp8_len f1
  obtain ⟨L1, hL1⟩ : ∃ L1, L1 = sp8 L0 (n * 256 + 64) (cut8 b 64 64) := ⟨_, rfl⟩
  have g1 := fun i => sp8_get_p f1 i
  rw [← hL1] at m1 g1 ⊢
  have f2 : n * 256 + 128 + (cut8 b 128 64).length ≤ L1.length := by omega
  have m2 := sp8_len f2
  obtain ⟨L2, hL2⟩ : ∃ L2, L2 = sp8 L1 (n * 256 + 128) (cut8 b 128 64) := ⟨_, rfl⟩
  have g2 := fun i => sp8_get_p f2 i
  rw [← hL2] at m2 g2 ⊢
  have f3 : n * 256 + 192 + (cut8 b 192 64).length ≤ L2.length := by omega
  have f4 : n * 256 + b.length ≤ L.length := by omega
  apply List.ext_getElem?
  intro i
  rw [sp8_get_p f3, sp8_get_p f4, g2, g1, g0, l0, l1, l2, l3, hb]
  by_cases c : n * 256 ≤ i ∧ i < n * 256 + 256
  · rw [if_pos c]
    split
    · rw [cut8_at (by omega)]; congr 1; omega
    split
    · rw [cut8_at (by omega)]; congr 1; omega
    split
    · rw [cut8_at (by omega)]; congr 1; omega
    split
    · rw [cut8_at (by omega)]; congr 1; omega
    · omega
  · rw [if_neg c, if_neg (by omega), if_neg (by omega), if_neg (by omega), if_neg (by omega)]
set_option maxRecDepth 8000 in
theorem aps_len_p {s : Dk} (h : s.Ok) : (aps_p s.pend s.safe).length = s.nb * 256 := by
  rw [← keepF_all_p, keepF_len h _ _ (Nat.le_refl _), h.safe]
set_option maxRecDepth 8000 in
theorem wrx_Nw_p {s : Dk} (h : Nw_p s) (i : Int) (b : List Int) : Nw_p (wrx s i b).1 := by
  unfold wrx
  split
  · rename_i c
    have hp := pwx_Nw_p h
    obtain ⟨n, rfl, hn⟩ := hasB_nat c.1
    have k1 := (pwx_keeps s).2.1
    split
    · obtain ⟨t, ht⟩ : ∃ t, t = (pwx s).1 := ⟨_, rfl⟩
      rw [← ht] at hp k1 ⊢
      have ok := hp.1
      have hnow : n * 256 + 256 ≤ t.now.length := by rw [ok.now]; omega
      have L : ∀ o, o + 64 ≤ 256 → (cut8 b o 64).length = 64 := fun o ho => cut8_len (by rw [c.2]; omega)
      refine ⟨⟨ok.nb0, ok.nb1, ?_, ok.safe, ?_⟩, ?_⟩
      · show (sp8 t.now ((n : Int).toNat * 256) b).length = _
        rw [Int.toNat_natCast, sp8_len (by rw [c.2]; omega)]
        exact ok.now
      · intro x hx
        have hx : x ∈ t.pend ++ pcs (n : Int) b := hx
        rw [List.mem_append] at hx
        rcases hx with hx | hx
        · exact ok.pend x hx
        · show 0 ≤ x.bl ∧ x.bl < (t.nb : Int) ∧ _
          have : x = ⟨n, 0, cut8 b 0 64⟩ ∨ x = ⟨n, 64, cut8 b 64 64⟩ ∨ x = ⟨n, 128, cut8 b 128 64⟩ ∨ x = ⟨n, 192, cut8 b 192 64⟩ := by simpa [pcs] using hx
          rcases this with e | e | e | e <;> subst e <;> dsimp only <;> exact ⟨by omega, by omega, by omega, by omega, L _ (by omega)⟩
      · show sp8 t.now ((n : Int).toNat * 256) b = aps_p (t.pend ++ pcs (n : Int) b) t.safe
        have : aps_p (t.pend ++ pcs (n : Int) b) t.safe = aps_p (pcs (n : Int) b) (aps_p t.pend t.safe) := by unfold aps_p; rw [List.foldl_append]
        rw [this, ← hp.2, pcs_aps_p c.2 hnow, Int.toNat_natCast]
    · exact hp
  · exact h
set_option maxRecDepth 8000 in
theorem flx_Nw_p {s : Dk} (h : Nw_p s) : Nw_p (flx s).1 := by
  unfold flx
  split
  · exact stl_Nw_p (pwx_Nw_p h) _
  · exact pwx_Nw_p h
set_option maxRecDepth 8000 in
theorem fzx_Nw_p {s : Dk} (h : Nw_p s) (k : Int) : Nw_p (fzx s k) := by
  unfold fzx
  split
  · exact h
  · exact Nw_set_p h rfl rfl rfl rfl
set_option maxRecDepth 8000 in
theorem crx_Nw_p {s : Dk} (h : Nw_p s) (k : List Bool) : Nw_p (crx s k) := Nw_set_p (stl_Nw_p h _) rfl rfl rfl rfl
set_option maxRecDepth 8000 in
theorem new_Nw_p (n : Nat) (h0 : 1 ≤ n) (h1 : n ≤ 4096) : Nw_p ⟨n, List.replicate (n * 256) 0, List.replicate (n * 256) 0, [], false, 0, false⟩ :=
  ⟨⟨h0, h1, List.length_replicate .., List.length_replicate .., fun x hx => by cases hx⟩, rfl⟩
/- The document's disk: what is safe sector by sector. -/
theorem sn_app_p (a b : List Int) : strOfNums (a ++ b) = strOfNums a ++ strOfNums b := by
  apply ByteArray.ext
  simp [strOfNums]
theorem u8_back_p (u : UInt8) : UInt8.ofNat ((u.toNat : Int)).toNat = u := by
  rw [Int.toNat_natCast]; exact UInt8.ofNat_toNat
theorem sn_bytes_p (s : ByteArray) : strOfNums (bytesOf s) = s := by
  apply ByteArray.ext
  simp [strOfNums, bytesOf, Function.comp_def]
def secN_p (L : List Int) (i : Nat) : ByteArray := strOfNums (cut8 L (i * 64) 64)
def secs_p (L : List Int) (m : Nat) : List ByteArray := (List.range m).map (secN_p L)
theorem secs_len_p (L : List Int) (m : Nat) : (secs_p L m).length = m := by simp [secs_p]
theorem secs_at_p {L : List Int} {m i : Nat} (h : i < m) : (secs_p L m)[i]? = some (secN_p L i) := by simp [secs_p, h]
def pcr_p (x : Pc) : S111 := ⟨x.bl * 4 + x.at_ / 64, strOfNums x.b⟩
theorem cut_sp8_p {L X : List Int} {o i : Nat} (hX : X.length = 64) (hf : o * 64 + 64 ≤ L.length) (hi : i * 64 + 64 ≤ L.length) : cut8 (sp8 L (o * 64) X) (i * 64) 64 = if i = o then X else cut8 L (i * 64) 64 := by
  have hf' : o * 64 + X.length ≤ L.length := by omega
  apply List.ext_getElem?
  intro k
  by_cases c : k < 64
  · rw [cut8_at c, sp8_get_p hf']
    by_cases e : i = o
    · subst e
      rw [if_pos (by omega), if_pos rfl]
      congr 1; omega
    · rw [if_neg (by omega), if_neg e, cut8_at c]
  · have hl : (sp8 L (o * 64) X).length = L.length := sp8_len hf'
    rw [List.getElem?_eq_none (by rw [cut8_len (by omega)]; omega)]
    by_cases e : i = o
    · rw [if_pos e, List.getElem?_eq_none (by omega)]
    · rw [if_neg e, List.getElem?_eq_none (by rw [cut8_len (by omega)]; omega)]
theorem secs_set_p {L X : List Int} {m o : Nat} (hX : X.length = 64) (hL : L.length = m * 64) (ho : o < m) : secs_p (sp8 L (o * 64) X) m = (secs_p L m).set o (strOfNums X) := by
  apply List.ext_getElem?
  intro i
  by_cases c : i < m
  · rw [secs_at_p c, List.getElem?_set]
    unfold secN_p
    rw [cut_sp8_p hX (by omega) (by omega)]
    by_cases e : i = o
    · subst e
      rw [if_pos rfl, if_pos rfl, if_pos (by rw [secs_len_p]; omega)]
    · rw [if_neg e, if_neg (fun h => e h.symm), secs_at_p c]; rfl
  · rw [List.getElem?_eq_none (by rw [secs_len_p]; omega), List.getElem?_eq_none (by rw [List.length_set, secs_len_p]; omega)]
theorem nought_ev_p : marginaliaref14_nought.f = some (strOfNums (List.replicate 64 0)) := by
  unfold marginaliaref14_nought.f
  rw [if_pos (by decide)]
structure Rl (s : Dk) (F : List ByteArray) (P : List S111) (le : Int) (fu of : Bool) : Prop where
  nw : Nw_p s
  F : F = secs_p s.safe (s.nb * 4)
  P : P = s.pend.map pcr_p
  al : ∀ x ∈ s.pend, x.at_ % 64 = 0
  of : of = s.of
  fu : s.of = false → fu = s.fu ∧ (s.fu = true → le = s.le)
theorem Rl_at_p {s : Dk} (h : Nw_p s) (al : ∀ x ∈ s.pend, x.at_ % 64 = 0) {j : Nat} (hj : j < s.pend.length) : rd_T111 (s.pend.map pcr_p) (j : Int) = pcr_p (rdP s.pend j) ∧ ∃ o : Nat, (pcr_p (rdP s.pend j)).f0 = (o : Int) ∧ o < s.nb * 4 ∧ (rdP s.pend j).bl.toNat * 256 + (rdP s.pend j).at_.toNat = o * 64 ∧ (rdP s.pend j).b.length = 64 := by
  obtain ⟨h1, h2, h3, h4, h5⟩ := h.1.pend _ (rdP_mem hj)
  have h6 := al _ (rdP_mem hj)
  refine ⟨?_, ((rdP s.pend j).bl * 4 + (rdP s.pend j).at_ / 64).toNat, ?_, ?_, ?_, h5⟩
  · unfold rd_T111
    rw [Int.toNat_natCast, List.getD_eq_getElem?_getD, List.getElem?_map, rdP_eq_p hj]; rfl
  · show (rdP s.pend j).bl * 4 + (rdP s.pend j).at_ / 64 = _
    omega
  · omega
  · omega
theorem keep_secs_p {s : Dk} (h : Nw_p s) (al : ∀ x ∈ s.pend, x.at_ % 64 = 0) (kept : Nat → Bool) (j : Nat) (hj : j < s.pend.length) (o : Nat) (ho : o < s.nb * 4) (e : (rdP s.pend j).bl.toNat * 256 + (rdP s.pend j).at_.toNat = o * 64) (h5 : (rdP s.pend j).b.length = 64) : secs_p (keepF kept s.pend (j + 1) s.safe) (s.nb * 4) = if kept j = true then (secs_p (keepF kept s.pend j s.safe) (s.nb * 4)).set o (pcr_p (rdP s.pend j)).f1 else secs_p (keepF kept s.pend j s.safe) (s.nb * 4) := by
  have hl := keepF_len h.1 kept j (by omega)
  have hs := h.1.safe
  conv => lhs; unfold keepF
  split
  · rw [e, secs_set_p h5 (by omega) ho]; rfl
  · rfl
theorem Now_loop_p {s : Dk} (h : Nw_p s) (al : ∀ x ∈ s.pend, x.at_ % 64 = 0) (hl : s.pend.length ≤ 100000) (Z : List ByteArray) (le : Int) (fu of : Bool) : ∀ (m j k : Nat), j + m = s.pend.length → m < k → marginaliaref14_Now.l0 k (secs_p (keepF (fun _ => true) s.pend j s.safe) (s.nb * 4)) (j : Int) Z (s.pend.map pcr_p) le fu of = some (secs_p s.now (s.nb * 4))
  | 0, j, k, hj, hk => by
    obtain ⟨k, rfl⟩ : ∃ q, k = q + 1 := ⟨k - 1, by omega⟩
    rw [marginaliaref14_Now.l0, if_neg (by rw [List.length_map]; omega), show j = s.pend.length by omega, keepF_all_p, ← h.2]
  | m + 1, j, k, hj, hk => by
    obtain ⟨k, rfl⟩ : ∃ q, k = q + 1 := ⟨k - 1, by omega⟩
    obtain ⟨e1, o, e2, e3, e4, e5⟩ := Rl_at_p h al (show j < s.pend.length by omega)
    rw [marginaliaref14_Now.l0, if_pos (by rw [List.length_map]; omega), if_pos (by omega), e1, e2, if_pos (by omega), if_pos (by rw [secs_len_p]; omega), w64' (by omega) (by omega), Int.toNat_natCast]
    have := keep_secs_p h al (fun _ => true) j (by omega) o e3 e4 e5
    rw [if_pos rfl] at this
    rw [← this, show ((j : Int) + 1) = ((j + 1 : Nat) : Int) by omega]
    exact Now_loop_p h al hl Z le fu of m (j + 1) k (by omega) (by omega)
theorem Now_ev_p {s : Dk} {F : List ByteArray} {P : List S111} {le : Int} {fu of : Bool} (h : Rl s F P le fu of) (hl : s.pend.length ≤ 100000) (k : Nat) (hk : s.pend.length < k) : marginaliaref14_Now.f k F P le fu of = some (secs_p s.now (s.nb * 4)) := by
  obtain ⟨h1, rfl, rfl, h4, _, _⟩ := h
  unfold marginaliaref14_Now.f
  have := h1.1.nb1
  rw [Option.bind_some, if_pos (by rw [secs_len_p]; simp; omega), List.nil_append]
  exact Now_loop_p h1 h4 hl _ le fu of s.pend.length 0 k (by omega) hk
theorem Is_ev_p {s : Dk} {F : List ByteArray} {P : List S111} {le : Int} {fu of : Bool} (h : Rl s F P le fu of) (n : Int) : marginaliaref14_Is.f F P le fu of n = some (hasB s n) := by
  have h1 := h.nw.1.nb1
  unfold marginaliaref14_Is.f hasB
  rw [h.F, secs_len_p, w64' (by omega) (by omega), show ((s.nb * 4 : Nat) : Int) / 4 = (s.nb : Int) by omega]
  by_cases c : n ≥ 0
  · rw [if_pos c, decide_eq_true (show 0 ≤ n from c), Bool.true_and]
  · rw [if_neg c, decide_eq_false (show ¬ 0 ≤ n from c), Bool.false_and]
theorem sn_cuts_p (L : List Int) (o : Nat) : ∀ i, o * 64 + i * 64 ≤ L.length → strOfNums (((List.range i).map fun t => bytesOf (secN_p L (o + t))).flatten) = strOfNums (cut8 L (o * 64) (i * 64))
  | 0, _ => by simp [cut8, strOfNums]
  | i + 1, hi => by
    rw [List.range_succ, List.map_append, List.flatten_append, sn_app_p, sn_cuts_p L o i (by omega)]
    have : cut8 L (o * 64) ((i + 1) * 64) = cut8 L (o * 64) (i * 64) ++ cut8 L ((o + i) * 64) 64 := by
      apply List.ext_getElem?
      intro k
      by_cases c : k < i * 64
      · rw [List.getElem?_append_left (by rw [cut8_len (by omega)]; omega), cut8_at c, cut8_at (by omega)]
      · rw [List.getElem?_append_right (by rw [cut8_len (by omega)]; omega), cut8_len (by omega)]
        by_cases c' : k < (i + 1) * 64
        · rw [cut8_at c', cut8_at (by omega)]; congr 1; omega
        · rw [List.getElem?_eq_none (by rw [cut8_len (by omega)]; omega), List.getElem?_eq_none (by rw [cut8_len (by omega)]; omega)]
    rw [this, sn_app_p]
    congr 1
    simp only [List.map_cons, List.map_nil, List.flatten_cons, List.flatten_nil, List.append_nil]
    rw [sn_bytes_p]; rfl
theorem secN_size_p {L : List Int} {i : Nat} (h : i * 64 + 64 ≤ L.length) : (secN_p L i).size = 64 := by
  unfold secN_p; rw [strOfNums_size, cut8_len h]
theorem flat_len_p (L : List Int) (o : Nat) : ∀ i, o * 64 + i * 64 ≤ L.length → (((List.range i).map fun t => bytesOf (secN_p L (o + t))).flatten).length = i * 64
  | 0, _ => rfl
  | i + 1, hi => by
    rw [List.range_succ, List.map_append, List.flatten_append, List.length_append, flat_len_p L o i (by omega)]
    simp only [List.map_cons, List.map_nil, List.flatten_cons, List.flatten_nil, List.append_nil]
    rw [bytesOf_length, secN_size_p (by omega)]; omega
def flt_p (L : List Int) (o i : Nat) : List Int := ((List.range i).map fun t => bytesOf (secN_p L (o + t))).flatten
theorem flt_succ_p (L : List Int) (o i : Nat) : flt_p L o (i + 1) = flt_p L o i ++ bytesOf (secN_p L (o + i)) := by
  unfold flt_p
  rw [List.range_succ, List.map_append, List.flatten_append]
  simp only [List.map_cons, List.map_nil, List.flatten_cons, List.flatten_nil, List.append_nil]
theorem rd_secs_p {L : List Int} {m i : Nat} (h : i < m) : rdOf ByteArray.empty (secs_p L m) (i : Int) = secN_p L i := by
  unfold rdOf
  rw [Int.toNat_natCast, List.getD_eq_getElem?_getD, secs_at_p h]; rfl
theorem Read_ev_p {s : Dk} {F : List ByteArray} {P : List S111} {le : Int} {fu of : Bool} (h : Rl s F P le fu of) (hl : s.pend.length ≤ 100000) (k : Nat) (hk : s.pend.length < k) (hk4 : 4 < k) (n : Int) : ∃ r, marginaliaref14_Read.f k F P le fu of n = some (r, (rdx s n).2) ∧ strOfNums r = strOfNums (rdx s n).1 := by
  unfold marginaliaref14_Read.f rdx
  rw [Is_ev_p h n, Option.bind_some]
  by_cases c : hasB s n = true
  · rw [if_pos c, if_pos c]
    by_cases c2 : s.of = true
    · rw [if_pos c2, if_pos (h.of.trans c2)]
      exact ⟨[], rfl, rfl⟩
    · rw [if_neg c2, if_neg (fun e => c2 (h.of.symm.trans e)), Now_ev_p h hl k hk, Option.bind_some]
      obtain ⟨N, rfl, hN⟩ := hasB_nat c
      have hnow := h.nw.1.now
      have hb := h.nw.1.nb1
      have key : ∀ (m i k : Nat), i + m = 4 → m < k → marginaliaref14_Read.l0 k (N : Int) (secs_p s.now (s.nb * 4)) (flt_p s.now (N * 4) i) (i : Int) = some (flt_p s.now (N * 4) 4, 0) := by
        intro m
        induction m with
        | zero =>
          intro i k hi hk
          obtain ⟨k, rfl⟩ : ∃ q, k = q + 1 := ⟨k - 1, by omega⟩
          rw [marginaliaref14_Read.l0, if_neg (by omega), show i = 4 by omega]
        | succ m ih =>
          intro i k hi hk
          obtain ⟨k, rfl⟩ : ∃ q, k = q + 1 := ⟨k - 1, by omega⟩
          have e1 : wrap64 ((N : Int) * 4) = ((N * 4 : Nat) : Int) := by rw [w64' (by omega) (by omega)]; omega
          have e2 : wrap64 (((N * 4 : Nat) : Int) + (i : Int)) = ((N * 4 + i : Nat) : Int) := by rw [w64' (by omega) (by omega)]; omega
          rw [marginaliaref14_Read.l0, if_pos (by omega), e1, e2, if_pos (by omega), if_pos (by rw [secs_len_p]; omega), rd_secs_p (by omega), secN_size_p (by omega), if_pos (by unfold flt_p; rw [flat_len_p _ _ _ (by omega)]; omega), w64' (by omega) (by omega), ← flt_succ_p]
          exact ih (i + 1) k (by omega) (by omega)
      refine ⟨_, key 4 0 k rfl (by omega), ?_⟩
      rw [Int.toNat_natCast]
      show strOfNums (flt_p s.now (N * 4) 4) = strOfNums (cut8 s.now (N * 256) 256)
      unfold flt_p
      rw [sn_cuts_p s.now (N * 4) 4 (by omega)]
      congr 2
      omega
  · rw [if_neg c, if_neg c]
    exact ⟨[], rfl, rfl⟩
theorem Dump_ev_p {s : Dk} {F : List ByteArray} {P : List S111} {le : Int} {fu of : Bool} (h : Rl s F P le fu of) (hl : s.pend.length ≤ 100000) (k : Nat) (hk : s.pend.length < k) (hk4 : s.nb * 4 < k) : ∃ r, marginaliaref14_Dump.f k F P le fu of = some r ∧ strOfNums r = strOfNums s.now := by
  have hnow := h.nw.1.now
  have hb := h.nw.1.nb1
  unfold marginaliaref14_Dump.f
  rw [Now_ev_p h hl k hk, Option.bind_some]
  have key : ∀ (m i k : Nat), i + m = s.nb * 4 → m < k → marginaliaref14_Dump.l0 k (secs_p s.now (s.nb * 4)) (flt_p s.now 0 i) (i : Int) = some (flt_p s.now 0 (s.nb * 4)) := by
    intro m
    induction m with
    | zero =>
      intro i k hi hk
      obtain ⟨k, rfl⟩ : ∃ q, k = q + 1 := ⟨k - 1, by omega⟩
      rw [marginaliaref14_Dump.l0, if_neg (by rw [secs_len_p]; omega), show i = s.nb * 4 by omega]
    | succ m ih =>
      intro i k hi hk
      obtain ⟨k, rfl⟩ : ∃ q, k = q + 1 := ⟨k - 1, by omega⟩
      have e3 : flt_p s.now 0 (i + 1) = flt_p s.now 0 i ++ bytesOf (secN_p s.now i) := by rw [flt_succ_p, Nat.zero_add]
      rw [marginaliaref14_Dump.l0, if_pos (by rw [secs_len_p]; omega), if_pos (by omega), rd_secs_p (by omega), secN_size_p (by omega), if_pos (by unfold flt_p; rw [flat_len_p _ _ _ (by omega)]; omega), w64' (by omega) (by omega), ← e3]
      exact ih (i + 1) k (by omega) (by omega)
  refine ⟨_, key (s.nb * 4) 0 k (by omega) hk4, ?_⟩
  unfold flt_p
  rw [sn_cuts_p s.now 0 (s.nb * 4) (by omega)]
  congr 1
  unfold cut8
  rw [Nat.zero_mul, List.drop_zero, List.take_of_length_le (by omega)]
theorem spend_ev_p {s : Dk} {F : List ByteArray} {P : List S111} {le : Int} {fu of : Bool} (h : Rl s F P le fu of) (k : Nat) (hk : 0 < k) : ∃ le' fu' of', marginaliaref14_spend.f k F P le fu of = some (F, P, le', fu', of', (pwx s).2) ∧ Rl (pwx s).1 F P le' fu' of' := by
  obtain ⟨k, rfl⟩ : ∃ q, k = q + 1 := ⟨k - 1, by omega⟩
  have hN := pwx_Nw_p h.nw
  have hk := pwx_keeps s
  have ho := h.of
  unfold marginaliaref14_spend.f
  have mk : ∀ le' fu' of', of' = (pwx s).1.of → ((pwx s).1.of = false → fu' = (pwx s).1.fu ∧ ((pwx s).1.fu = true → le' = (pwx s).1.le)) → Rl (pwx s).1 F P le' fu' of' := fun le' fu' of' h1 h2 =>
    ⟨hN, by rw [hk.2.2.2, hk.2.1]; exact h.F, by rw [hk.1]; exact h.P, by rw [hk.1]; exact h.al, h1, h2⟩
  cases e : s.of with
  | true =>
    rw [e] at ho
    subst ho
    rw [if_pos rfl, marginaliaref14_spend.j0, if_pos rfl]
    have e1 : pwx s = ({s with of := true}, false) := by unfold pwx; rw [e]; rfl
    refine ⟨le, false, true, by rw [e1], mk _ _ _ (by rw [e1]) (fun e2 => ?_)⟩
    rw [e1] at e2
    cases e2
  | false =>
    rw [e] at ho
    subst ho
    rw [if_neg (by decide)]
    obtain ⟨f1, f2⟩ := h.fu e
    cases e3 : s.fu with
    | true =>
      rw [e3] at f1
      subst f1
      have f2 := f2 e3
      subst f2
      rw [if_pos rfl]
      cases e4 : (s.le == 0) with
      | true =>
        rw [marginaliaref14_spend.j0, if_pos rfl]
        have e1 : pwx s = ({s with of := true}, false) := by unfold pwx; rw [e, e3, e4]; rfl
        refine ⟨s.le, false, true, by rw [e1], mk _ _ _ (by rw [e1]) (fun e2 => ?_)⟩
        rw [e1] at e2
        cases e2
      | false =>
        rw [marginaliaref14_spend.j0, if_neg (by decide), if_pos rfl]
        have e1 : pwx s = ({s with le := wrap64 (s.le - 1)}, true) := by unfold pwx; rw [e, e3, e4]; rfl
        exact ⟨wrap64 (s.le - 1), true, false, by rw [e1], mk _ _ _ (by rw [e1]; exact e.symm) (fun _ => by rw [e1]; exact ⟨e3.symm, fun _ => rfl⟩)⟩
    | false =>
      rw [e3] at f1
      subst f1
      rw [if_neg (by decide), marginaliaref14_spend.j0, if_neg (by decide), if_neg (by decide)]
      have e1 : pwx s = ({s with le := wrap64 (s.le - 1)}, true) := by unfold pwx; rw [e, e3]; rfl
      exact ⟨le, false, false, by rw [e1], mk _ _ _ (by rw [e1]; exact e.symm) (fun _ => by rw [e1]; exact ⟨e3.symm, fun e5 => by rw [e3] at e5; cases e5⟩)⟩
theorem bytes_evk_p (k : Nat) (kk n : Int) (b : List Int) (sh : Bool) (keep : List Bool) (hb : b.length ≤ 300) (hk : 300 ≤ k) : marginalialaw14_Act_bytes.f k kk n b sh keep = some (wbx_p b sh) := by
  obtain ⟨d, rfl⟩ : ∃ d, k = 300 + d := ⟨k - 300, by omega⟩
  induction d with
  | zero => exact bytes_ev_p kk n b sh keep hb
  | succ d ih => exact marginalialaw14_Act_bytes.mono _ _ _ _ _ _ _ (ih (by omega))
theorem cut_td_p (b : List Int) (o : Nat) : (b.take (o + 64)).drop o = cut8 b o 64 := by
  unfold cut8
  rw [List.drop_take, Nat.add_sub_cancel_left]
theorem Write_step_p (N : Nat) (hN : N < 4096) (b : List Int) (c2 : b.length = 256) (F : List ByteArray) (P : List S111) (le' : Int) (fu' of' : Bool) (i k : Nat) (X : List S111) (hi : i < 4) (hX : X.length ≤ 200000) : marginaliaref14_Write.l0 (k + 1) (N : Int) b X (i : Int) F P le' fu' of' = marginaliaref14_Write.l0 k (N : Int) b (X ++ [(⟨(N : Int) * 4 + (i : Int), strOfNums (cut8 b (i * 64) 64)⟩ : S111)]) ((i + 1 : Nat) : Int) F P le' fu' of' := by
  have e4 : wrap64 ((N : Int) * 4) = (N : Int) * 4 := w64' (by omega) (by omega)
  have e5 : wrap64 ((i : Int) * 64) = ((i * 64 : Nat) : Int) := by rw [w64' (by omega) (by omega)]; omega
  have e6 : wrap64 ((i : Int) + 1) = ((i + 1 : Nat) : Int) := by rw [w64' (by omega) (by omega)]; omega
  have e7 : wrap64 (((i + 1 : Nat) : Int) * 64) = ((i * 64 + 64 : Nat) : Int) := by rw [w64' (by omega) (by omega)]; omega
  have e8 : wrap64 ((N : Int) * 4 + (i : Int)) = (N : Int) * 4 + (i : Int) := w64' (by omega) (by omega)
  have g1 : (i : Int) < 4 := by omega
  have g2 : (0 : Int) ≤ ((i * 64 : Nat) : Int) := by omega
  have g3 : ((i * 64 : Nat) : Int) ≤ ((i * 64 + 64 : Nat) : Int) := by omega
  have g4 : ((i * 64 + 64 : Nat) : Int) ≤ (b.length : Int) := by omega
  have g5 : X.length < 5864062014805 := by omega
  rw [marginaliaref14_Write.l0, if_pos g1, e5, e6, e7, e4, e8, if_pos g2, if_pos g3, if_pos g4, if_pos g5, Int.toNat_natCast, Int.toNat_natCast, cut_td_p]
theorem Write_ev_p {s : Dk} {F : List ByteArray} {P : List S111} {le : Int} {fu of : Bool} (h : Rl s F P le fu of) (hl : s.pend.length ≤ 100000) (k : Nat) (hk : 10 < k) (n : Int) (b : List Int) : ∃ F' P' le' fu' of', marginaliaref14_Write.f k F P le fu of n b = some (F', P', le', fu', of', (wrx s n b).2) ∧ Rl (wrx s n b).1 F' P' le' fu' of' := by
  obtain ⟨k, rfl⟩ : ∃ q, k = q + 1 := ⟨k - 1, by omega⟩
  have hb := h.nw.1.nb1
  unfold marginaliaref14_Write.f
  rw [Is_ev_p h n, Option.bind_some]
  have bad : ¬ (hasB s n = true ∧ b.length = 256) → wrx s n b = (s, 1) := fun e => by unfold wrx; rw [if_neg e]
  by_cases c : hasB s n = true
  · rw [if_pos c]
    by_cases c2 : b.length = 256
    · have e1 : ((b.length : Int) != 256) = false := by rw [c2]; rfl
      rw [e1, marginaliaref14_Write.j0, if_neg (by decide)]
      obtain ⟨le', fu', of', e2, R2⟩ := spend_ev_p h k (by omega)
      rw [e2, Option.bind_some]
      have hw : wrx s n b = if (pwx s).2 = true then ({(pwx s).1 with now := sp8 (pwx s).1.now (n.toNat * 256) b, pend := (pwx s).1.pend ++ pcs n b}, 0) else ((pwx s).1, 9) := by unfold wrx; rw [if_pos ⟨c, c2⟩]
      dsimp only
      by_cases c3 : (pwx s).2 = true
      · rw [if_pos c3] at hw ⊢
        obtain ⟨N, rfl, hN⟩ := hasB_nat c
        rw [Option.bind_some, if_pos (by rw [h.P]; simp; omega), List.nil_append]
        have step := fun (i k : Nat) (X : List S111) (hi : i < 4) (hX : X.length ≤ 200000) => Write_step_p N (by omega) b c2 F P le' fu' of' i k X hi hX
        obtain ⟨k, rfl⟩ : ∃ q, k = q + 1 + 1 + 1 + 1 + 1 := ⟨k - 5, by omega⟩
        have hP : P.length ≤ 100000 := by rw [h.P, List.length_map]; exact hl
        have s0 := step 0 (k + 1 + 1 + 1 + 1) P (by decide) (by omega)
        have s1 := step 1 (k + 1 + 1 + 1) _ (by decide) (show (P ++ [(⟨(N : Int) * 4 + ((0 : Nat) : Int), strOfNums (cut8 b (0 * 64) 64)⟩ : S111)]).length ≤ 200000 by simp; omega)
        have s2 := step 2 (k + 1 + 1) _ (by decide) (show (P ++ [(⟨(N : Int) * 4 + ((0 : Nat) : Int), strOfNums (cut8 b (0 * 64) 64)⟩ : S111)] ++ [(⟨(N : Int) * 4 + ((1 : Nat) : Int), strOfNums (cut8 b (1 * 64) 64)⟩ : S111)]).length ≤ 200000 by simp; omega)
        have s3 := step 3 (k + 1) _ (by decide) (show (P ++ [(⟨(N : Int) * 4 + ((0 : Nat) : Int), strOfNums (cut8 b (0 * 64) 64)⟩ : S111)] ++ [(⟨(N : Int) * 4 + ((1 : Nat) : Int), strOfNums (cut8 b (1 * 64) 64)⟩ : S111)] ++ [(⟨(N : Int) * 4 + ((2 : Nat) : Int), strOfNums (cut8 b (2 * 64) 64)⟩ : S111)]).length ≤ 200000 by simp; omega)
        rw [show (0 : Int) = ((0 : Nat) : Int) from rfl, s0, s1, s2, s3, marginaliaref14_Write.l0, if_neg (by omega)]
        refine ⟨_, _, _, _, _, by rw [hw], ?_⟩
        rw [hw]
        have hN := wrx_Nw_p h.nw (N : Int) b
        rw [hw] at hN
        have kk := pwx_keeps s
        refine ⟨hN, ?_, ?_, ?_, R2.of, R2.fu⟩
        · exact R2.F
        · show _ = ((pwx s).1.pend ++ pcs (N : Int) b).map pcr_p
          rw [List.map_append, ← R2.P, List.append_assoc, List.append_assoc, List.append_assoc]
          congr 1
        · intro x hx
          have hx : x ∈ (pwx s).1.pend ++ pcs (N : Int) b := hx
          rw [List.mem_append] at hx
          rcases hx with hx | hx
          · exact R2.al x hx
          · have : x = ⟨N, 0, cut8 b 0 64⟩ ∨ x = ⟨N, 64, cut8 b 64 64⟩ ∨ x = ⟨N, 128, cut8 b 128 64⟩ ∨ x = ⟨N, 192, cut8 b 192 64⟩ := by simpa [pcs] using hx
            rcases this with e | e | e | e <;> subst e <;> rfl
      · rw [if_neg c3] at hw ⊢
        exact ⟨_, _, _, _, _, by rw [hw], by rw [hw]; exact R2⟩
    · have e1 : ((b.length : Int) != 256) = true := by
        rw [bne_iff_ne]; omega
      rw [e1, marginaliaref14_Write.j0, if_pos rfl, bad (fun e => c2 e.2)]
      exact ⟨_, _, _, _, _, rfl, h⟩
  · rw [if_neg c, marginaliaref14_Write.j0, if_pos rfl, bad (fun e => c e.1)]
    exact ⟨_, _, _, _, _, rfl, h⟩
theorem Flush_ev_p {s : Dk} {F : List ByteArray} {P : List S111} {le : Int} {fu of : Bool} (h : Rl s F P le fu of) (hl : s.pend.length ≤ 100000) (k : Nat) (hk : s.pend.length < k) : ∃ F' P' le' fu' of', marginaliaref14_Flush.f k F P le fu of = some (F', P', le', fu', of', (flx s).2) ∧ Rl (flx s).1 F' P' le' fu' of' := by
  unfold marginaliaref14_Flush.f flx
  obtain ⟨le', fu', of', e2, R2⟩ := spend_ev_p h k (by omega)
  rw [e2, Option.bind_some]
  have kk := (pwx_keeps s).1
  dsimp only
  by_cases c3 : (pwx s).2 = true
  · rw [if_pos c3, if_pos c3, Now_ev_p R2 (by rw [kk]; exact hl) k (by rw [kk]; exact hk), Option.bind_some]
    refine ⟨_, _, _, _, _, rfl, ?_⟩
    have hs := stl_eq_p R2.nw (fun _ => true)
    rw [hs]
    have hN := stl_Nw_p R2.nw (fun _ => true)
    rw [hs] at hN
    refine ⟨hN, ?_, rfl, (fun x hx => by cases hx), R2.of, R2.fu⟩
    show _ = secs_p (keepF (fun _ => true) (pwx s).1.pend (pwx s).1.pend.length (pwx s).1.safe) _
    rw [keepF_all_p, ← R2.nw.2]
  · rw [if_neg c3, if_neg c3]
    exact ⟨_, _, _, _, _, rfl, R2⟩
theorem Arm_ev_p {s : Dk} {F : List ByteArray} {P : List S111} {le : Int} {fu of : Bool} (h : Rl s F P le fu of) (n : Int) : ∃ F' P' le' fu' of', marginaliaref14_Arm.f F P le fu of n = some (F', P', le', fu', of') ∧ Rl (fzx s n) F' P' le' fu' of' := by
  have hN := fzx_Nw_p h.nw n
  unfold marginaliaref14_Arm.f
  unfold fzx at hN ⊢
  have ho := h.of
  cases e : s.of with
  | true =>
    rw [e] at ho
    subst ho
    rw [if_pos rfl, if_pos rfl]
    exact ⟨_, _, _, _, _, rfl, h⟩
  | false =>
    rw [e] at ho
    subst ho
    rw [e, if_neg (by decide)] at hN
    have ff : ¬ (false = true) := by decide
    rw [if_neg ff, if_neg ff]
    by_cases c : n < 0
    · rw [if_pos c]
      exact ⟨_, _, _, _, _, rfl, ⟨hN, h.F, h.P, h.al, rfl, fun _ => ⟨rfl, fun _ => by show 0 = mx n 0; unfold mx; split <;> omega⟩⟩⟩
    · rw [if_neg c]
      exact ⟨_, _, _, _, _, rfl, ⟨hN, h.F, h.P, h.al, rfl, fun _ => ⟨rfl, fun _ => by show n = mx n 0; unfold mx; split <;> omega⟩⟩⟩
theorem Crash_ev_p {s : Dk} {F : List ByteArray} {P : List S111} {le : Int} {fu of : Bool} (h : Rl s F P le fu of) (hl : s.pend.length ≤ 100000) (k : Nat) (hk : s.pend.length < k) (keep : List Bool) : ∃ F' P' le' fu' of', marginaliaref14_Crash.f k F P le fu of keep = some (F', P', le', fu', of') ∧ Rl (crx s keep) F' P' le' fu' of' := by
  have key : ∀ (m j k : Nat), j + m = s.pend.length → m < k → marginaliaref14_Crash.l0 k keep (secs_p (keepF (kpB keep) s.pend j s.safe) (s.nb * 4)) (j : Int) F (s.pend.map pcr_p) le fu of = some (secs_p (keepF (kpB keep) s.pend s.pend.length s.safe) (s.nb * 4), [], 0, false, false) := by
    intro m
    induction m with
    | zero =>
      intro j k hj hk
      obtain ⟨k, rfl⟩ : ∃ q, k = q + 1 := ⟨k - 1, by omega⟩
      rw [marginaliaref14_Crash.l0, if_neg (by rw [List.length_map]; omega), show j = s.pend.length by omega]
    | succ m ih =>
      intro j k hj hk
      obtain ⟨k, rfl⟩ : ∃ q, k = q + 1 := ⟨k - 1, by omega⟩
      obtain ⟨e1, o, e2, e3, e4, e5⟩ := Rl_at_p h.nw h.al (show j < s.pend.length by omega)
      have hs := keep_secs_p h.nw h.al (kpB keep) j (by omega) o e3 e4 e5
      have ih := ih (j + 1) k (by omega) (by omega)
      rw [marginaliaref14_Crash.l0, if_pos (by rw [List.length_map]; omega), w64' (by omega) (by omega), show ((j : Int) + 1) = ((j + 1 : Nat) : Int) by omega]
      by_cases c : j < keep.length
      · rw [if_pos (by omega), if_pos (by omega)]
        have e6 : rdOf false keep (j : Int) = kpB keep j := by unfold rdOf kpB; rw [Int.toNat_natCast]
        rw [e6]
        by_cases c2 : kpB keep j = true
        · rw [if_pos c2, e1, e2, if_pos (by omega), if_pos (by rw [secs_len_p]; omega), Int.toNat_natCast]
          rw [if_pos c2] at hs
          rw [← hs]
          exact ih
        · rw [if_neg c2]
          rw [if_neg c2] at hs
          rw [← hs]
          exact ih
      · rw [if_neg (by omega)]
        have c2 : ¬ kpB keep j = true := by unfold kpB; rw [List.getD_eq_getElem?_getD, List.getElem?_eq_none (by omega)]; decide
        rw [if_neg c2] at hs
        rw [← hs]
        exact ih
  have hb := h.nw.1.nb1
  unfold marginaliaref14_Crash.f
  rw [Option.bind_some, if_pos (by rw [h.F, secs_len_p]; simp; omega), List.nil_append]
  have k0 := key s.pend.length 0 k (by omega) hk
  rw [h.P]
  conv => enter [1, F', 1, P', 1, le', 1, fu', 1, of', 1, 1, 3]; rw [h.F]
  refine ⟨_, _, _, _, _, k0, ?_⟩
  have hN := crx_Nw_p h.nw keep
  unfold crx at hN ⊢
  rw [stl_eq_p h.nw] at hN ⊢
  exact ⟨hN, rfl, rfl, (fun x hx => by cases hx), rfl, fun _ => ⟨rfl, fun e => by cases e⟩⟩
theorem model_ev_p {s : Dk} {F : List ByteArray} {P : List S111} {le : Int} {fu of : Bool} (h : Rl s F P le fu of) (hl : s.pend.length ≤ 100000) (k : Nat) (hk : s.pend.length < k) (hk2 : 300 ≤ k) (kk n : Int) (b : List Int) (sh : Bool) (keep : List Bool) (hb : b.length ≤ 300) : ∃ F' P' le' fu' of', marginalialaw14_model.f k F P le fu of kk n b sh keep = some (F', P', le', fu', of', (plx_p s kk n b sh keep).2) ∧ Rl (plx_p s kk n b sh keep).1 F' P' le' fu' of' := by
  unfold marginalialaw14_model.f plx_p
  by_cases c1 : kk = 1
  · rw [if_pos c1, if_pos c1]
    obtain ⟨F', P', le', fu', of', e, R⟩ := Write_ev_p h hl k (by omega) n (wbx_p b sh)
    have e0 : marginalialaw14_Act_bytes.f k kk n b sh keep = some (wbx_p b sh) := bytes_evk_p k kk n b sh keep hb hk2
    rw [e0, Option.bind_some, e, Option.bind_some]
    exact ⟨_, _, _, _, _, rfl, R⟩
  rw [if_neg c1, if_neg c1]
  by_cases c2 : kk = 2
  · rw [if_pos c2, if_pos c2]
    obtain ⟨F', P', le', fu', of', e, R⟩ := Flush_ev_p h hl k hk
    rw [e, Option.bind_some]
    exact ⟨_, _, _, _, _, rfl, R⟩
  rw [if_neg c2, if_neg c2]
  by_cases c3 : kk = 3
  · rw [if_pos c3, if_pos c3]
    obtain ⟨F', P', le', fu', of', e, R⟩ := Arm_ev_p h n
    rw [e, Option.bind_some]
    exact ⟨_, _, _, _, _, rfl, R⟩
  rw [if_neg c3, if_neg c3]
  by_cases c4 : kk = 4
  · rw [if_pos c4, if_pos c4]
    obtain ⟨F', P', le', fu', of', e, R⟩ := Crash_ev_p h hl k hk keep
    rw [e, Option.bind_some]
    exact ⟨_, _, _, _, _, rfl, R⟩
  rw [if_neg c4, if_neg c4]
  by_cases c5 : kk = 5
  · rw [if_pos c5, if_pos c5]
    obtain ⟨r, e, _⟩ := Read_ev_p h hl k hk (by omega) n
    rw [e, Option.bind_some]
    exact ⟨_, _, _, _, _, rfl, h⟩
  rw [if_neg c5, if_neg c5]
  exact ⟨_, _, _, _, _, rfl, h⟩
theorem New_ev_p (n : Nat) (h0 : 1 ≤ n) (h1 : n ≤ 4096) (k : Nat) (hk : n * 4 + 1 < k) : ∃ F, marginaliaref14_New.f k (n : Int) = some (F, [], 0, false, false, 0) ∧ Rl ⟨n, List.replicate (n * 256) 0, List.replicate (n * 256) 0, [], false, 0, false⟩ F [] 0 false false := by
  obtain ⟨k, rfl⟩ : ∃ q, k = q + 1 := ⟨k - 1, by omega⟩
  have hz : ∀ i, i < n * 4 → secN_p (List.replicate (n * 256) 0) i = strOfNums (List.replicate 64 0) := by
    intro i hi
    unfold secN_p cut8
    rw [List.drop_replicate, List.take_replicate, Nat.min_eq_left (by omega)]
  have key : ∀ (m i k : Nat), i + m = n * 4 → m < k → marginaliaref14_New.l0 k (n : Int) (strOfNums (List.replicate 64 0)) (i : Int) (secs_p (List.replicate (n * 256) 0) i) 0 false false = some (secs_p (List.replicate (n * 256) 0) (n * 4), [], 0, false, false, 0) := by
    intro m
    induction m with
    | zero =>
      intro i k hi hk
      obtain ⟨k, rfl⟩ : ∃ q, k = q + 1 := ⟨k - 1, by omega⟩
      rw [marginaliaref14_New.l0, w64' (by omega) (by omega), if_neg (by omega), show i = n * 4 by omega]
    | succ m ih =>
      intro i k hi hk
      obtain ⟨k, rfl⟩ : ∃ q, k = q + 1 := ⟨k - 1, by omega⟩
      have e : secs_p (List.replicate (n * 256) 0) i ++ [strOfNums (List.replicate 64 0)] = secs_p (List.replicate (n * 256) 0) (i + 1) := by
        unfold secs_p
        rw [List.range_succ, List.map_append, List.map_cons, List.map_nil, hz i (by omega)]
      rw [marginaliaref14_New.l0, w64' (by omega) (by omega), if_pos (by omega), if_pos (by rw [secs_len_p]; omega), w64' (by omega) (by omega), e]
      exact ih (i + 1) k (by omega) (by omega)
  refine ⟨_, ?_, ⟨new_Nw_p n h0 h1, rfl, rfl, (fun x hx => by cases hx), rfl, fun _ => ⟨rfl, fun e => by cases e⟩⟩⟩
  unfold marginaliaref14_New.f
  rw [if_neg (by omega), decide_eq_false (by omega), marginaliaref14_New.j0, if_neg (by decide), nought_ev_p, Option.bind_some]
  exact key (n * 4) 0 k (by omega) (by omega)
/- play, and what stays. -/
def JO_p (w0 w1 w : World) (p : Nat) (s : Dk) (A : Option Addr) (m : Nat) : Prop := JR_p w0 w p s A m ∧ oth w1 w ∧ (0 < m → ∃ g, A = some ⟨g, 0, none⟩ ∧ w1.heap.size ≤ g)
theorem JO_at_p {w0 w1 w : World} {p : Nat} {s : Dk} {A : Option Addr} {m : Nat} (h : JO_p w0 w1 w p s A m) (i : Nat) (hi : i < m) (u : Value) : ∃ g x, A = some ⟨g, 0, none⟩ ∧ w.cell? ⟨g, i, none⟩ = some x ∧ w.frozen? ⟨g, i, none⟩ = false ∧ JO_p w0 w1 (w.setCell ⟨g, i, none⟩ u) p s A m := by
  obtain ⟨h1, h2, h3⟩ := h
  obtain ⟨g, x, e, hx, hf, hN⟩ := JR_at_p h1 i hi u
  obtain ⟨g', e', hg⟩ := h3 (by omega)
  rw [e] at e'
  injection e' with e'
  injection e' with e'
  subst e'
  exact ⟨g, x, e, hx, hf, hN, ⟨by simp only [World.setCell, Array.size_modify]; exact h2.1, fun k c t hk a b d => blk_far (h2.2 k c t hk a b d) (p := ⟨g, i, none⟩) (by have := blk_lt hk; show k ≠ g; omega) u⟩, h3⟩
theorem JO_of_p {w0 w1 w w' : World} {p base m c : Nat} {s : Dk} {A : Option Addr} {ok : Nat → Prop} {b : List Int} (hR : Kd.R (Kd.int .u8) 5 w base ok (.slice A m c) b) (ho : oth w w') (h : J w0 w' p s) (hbase : w0.heap.size ≤ base) (hb1 : w1.heap.size ≤ base) (h1 : oth w1 w) : JO_p w0 w1 w' p s A m := by
  refine ⟨JR_of_p hR ho h hbase, oth_trans h1 ho, fun h0 => ?_⟩
  obtain rfl := (Kd.R_reads' hR).1
  obtain ⟨q, cap, e, hq, _, cells, hc⟩ := Kd.R_form hR h0
  injection e with e1 e2 e3
  exact ⟨q, e1, by omega⟩
theorem JO_read_p {w0 w1 w w' : World} {p : Nat} {s : Dk} {v : Value} {l : List Int} (h : J w0 w p s) (hb : Below w.heap.size w w') (hf : frs w w' v l) (h1 : oth w1 w) (hb1 : w1.heap.size ≤ w.heap.size) : ∃ A, v = .slice A l.length l.length ∧ JO_p w0 w1 w' p s A l.length := by
  obtain ⟨A, e, hJ⟩ := JR_read_p h hb hf
  refine ⟨A, e, hJ, oth_trans h1 (oth_below hb), fun h0 => ?_⟩
  rcases hf with ⟨rfl, rfl⟩ | ⟨g, rfl, hg, hl, hc⟩
  · simp at h0
  · injection e with e1 e2 e3
    exact ⟨g, e1.symm, by omega⟩
theorem R_oth2_p {α : Type} {d : Kd α} {e : Nat} {w w' : World} {base : Nat} {ok : Nat → Prop} {v : Value} {xs : List α} (h : Kd.R d e w base ok v xs) (k : oth w w') (hE : ∀ q, q ∈ e :: d.E → q ≠ 94 ∧ q ≠ 96 ∧ q ≠ 100) : Kd.R d e w' base ok v xs := by
  refine Kd.R_mono (Kd.R_move (Kd.R_bound h) ?_) (fun i hi => hi.1)
  rintro i ⟨_, _, hlt, q, hq, cells, hc⟩
  obtain ⟨a, b, c⟩ := hE q hq
  rw [hc]
  exact k.2 i cells q hc a b c
set_option maxRecDepth 20000 in
set_option maxHeartbeats 8000000 in
theorem J_playo_p {w0 w : World} {p : Nat} {s : Dk} (h : J w0 w p s) (hl : s.pend.length ≤ 100000) (k n : Int) (Ab : Option Addr) (cb : Nat) (b : List Int) (sh : Bool) (Ak : Option Addr) (ck : Nat) (keep : List Bool) (hb : Kd.C (Kd.int .u8) w0 Ab b.length b) (hcb : b.length ≤ cb) (hbl : b.length ≤ 300) (hk : Kd.C Kd.bool w0 Ak keep.length keep) (hck : keep.length ≤ ck) (s' : Dk) (e' : Int) (hx : plx_p s k n b sh keep = (s', e')) :
    Calls Try.prog 20 #[.pointer (some ⟨p, 0, none⟩), .agg #[.int .i64 k, .int .i64 n, .slice Ab b.length cb, .bool sh, .slice Ak keep.length ck]] w fun e w' => e = .returned (.int .i64 e') ∧ J w0 w' p s' ∧ oth w w' := by
  have J0 := Aside0.mk h
  have HL := Aside0.mk hl
  have HB := Aside0.mk hb
  have HBC := Aside0.mk hcb
  have HBL := Aside0.mk hbl
  have HK := Aside0.mk hk
  have HKC := Aside0.mk hck
  clear h hl hb hcb hbl hk hck
  by_cases k1 : k = 1
  · subst k1
    have HX := Aside0.mk (show wrx s n (wbx_p b sh) = (s', e') from hx)
    clear hx
    go_enter Try.func20, Try.ntmps20
    go_upto_region 5 with (first | (go_at_call 55; refine (marginalialaw14_Act_bytes.calls 300 _ _ _ _ b sh _ _ keep (wbx_p b sh) _ (Kd.C_below HB.out (J_below (J_deep J0.out (below_alloc (Below.refl _ _) _)))) HBC.out (Kd.C_below HK.out (J_below (J_deep J0.out (below_alloc (Below.refl _ _) _)))) HKC.out (bytes_ev_p _ _ _ _ _ HBL.out)).mono ?_; rintro e w1 ⟨v1, rfl, hR, hb1⟩; obtain ⟨A1, c1, rfl⟩ := Kd.R_slice hR; have R1 := Aside0.mk hR; have J1 := Aside0.mk (J_deep J0.out (below_step (below_alloc (Below.refl _ _) _) hb1)); have q1 : w1.cell? ⟨w.heap.size, 1, none⟩ = some (.int .i64 n) := (blk_cell (blk_below (blk_new _ _) hb1) 1).trans rfl; have OB := Aside0.mk (oth_below (below_step (below_alloc (Below.refl w.heap.size w) _) hb1)); clear hR hb1) | (go_at_call 22; refine (J_Write J1.out HL.out n _ _ _ _ _ R1.out _ _ HX.out).mono ?_; rintro e w2 ⟨rfl, hJ, ho⟩; have J2 := Aside0.mk (JO_of_p R1.out ho hJ (J_below (J_deep J0.out (below_alloc (Below.refl _ _) _))).size (below_alloc (Below.refl _ _) _).size OB.out); clear hJ ho J1 R1))
    obtain ⟨m, hm⟩ : ∃ m, m = (wbx_p b sh).length := ⟨_, rfl⟩
    rw [← hm] at J2
    simp only [← hm]
    clear hm
    have hm9 := JR_m_p J2.out.1
    go_wp2
    go_loopw [7] (fun v7 wr => ∃ i : Nat, v7 = .int .i64 (i : Int) ∧ i ≤ m ∧ Aside0 (JO_p w0 w wr p s' A1 m)) (fun v7 _ => m - (intOf v7).toNat)
    case atStart => exact ⟨0, rfl, Nat.zero_le _, J2⟩
    case round =>
      clear J2
      obtain ⟨i, rfl, hi, HJ⟩ := hrel
      by_cases e1 : i < m
      · have e1b : decide (i < m) = true := decide_eq_true e1
        obtain ⟨g, x, rfl, hx, hf, NJ⟩ := JO_at_p HJ.out i e1 (.int .u8 99)
        have NJ := Aside0.mk NJ
        go_wp2
        go_roundw
        case rel => exact ⟨i + 1, by go_num, by omega, NJ⟩
        case measure => simp [intOf]; omega
      · have e1b : decide (i < m) = false := decide_eq_false e1
        go_wp2
        go_ret
        exact ⟨rfl, JR_J_p HJ.out.1, HJ.out.2.1⟩
  by_cases k2 : k = 2
  · subst k2
    have HX := Aside0.mk (show flx s = (s', e') from hx)
    clear hx k1
    go_enter Try.func20, Try.ntmps20
    go_wp2_with (go_at_call 24; refine (J_Flush (J_deep J0.out (below_alloc (Below.refl _ _) _)) HL.out _ _ HX.out).mono ?_; rintro e w2 ⟨rfl, hJ, ho⟩; have J2 := Aside0.mk (And.intro hJ (oth_trans (oth_below (below_alloc (Below.refl w.heap.size w) _)) ho)); clear hJ ho)
    go_ret
    exact ⟨rfl, J2.out.1, J2.out.2⟩
  by_cases k3 : k = 3
  · subst k3
    have HX := Aside0.mk (show (fzx s n, (0 : Int)) = (s', e') from hx)
    clear hx k1 k2
    go_enter Try.func20, Try.ntmps20
    go_wp2_with (go_at_call 26; refine (J_Fuse (J_deep J0.out (below_alloc (Below.refl _ _) _)) n).mono ?_; rintro e w2 ⟨rfl, hJ, ho⟩; have J2 := Aside0.mk (And.intro hJ (oth_trans (oth_below (below_alloc (Below.refl w.heap.size w) _)) ho)); clear hJ ho)
    go_ret
    have hx := HX.out
    injection hx with e1 e2
    subst e1 e2
    exact ⟨rfl, J2.out.1, J2.out.2⟩
  by_cases k4 : k = 4
  · subst k4
    have HX := Aside0.mk (show (crx s keep, (0 : Int)) = (s', e') from hx)
    clear hx k1 k2 k3
    go_enter Try.func20, Try.ntmps20
    go_wp2_with (go_at_call 21; refine (J_Crash (J_deep J0.out (below_alloc (Below.refl _ _) _)) HL.out _ _ keep (fun W _ hB => Kd.C_below HK.out hB)).mono ?_; rintro e w2 ⟨rfl, hJ, ho⟩; have J2 := Aside0.mk (And.intro hJ (oth_trans (oth_below (below_alloc (Below.refl w.heap.size w) _)) ho)); clear hJ ho)
    go_ret
    have hx := HX.out
    injection hx with e1 e2
    subst e1 e2
    exact ⟨rfl, J2.out.1, J2.out.2⟩
  have d1 : decide (k = 1) = false := decide_eq_false k1
  have d2 : decide (k = 2) = false := decide_eq_false k2
  have d3 : decide (k = 3) = false := decide_eq_false k3
  have d4 : decide (k = 4) = false := decide_eq_false k4
  by_cases k5 : k = 5
  · subst k5
    have HX := Aside0.mk (show (s, (rdx s n).2) = (s', e') from hx)
    clear hx k1 k2 k3 k4 d1 d2 d3 d4
    go_enter Try.func20, Try.ntmps20
    go_upto_region 18 with (go_at_call 16; refine (J_Read (J_deep J0.out (below_alloc (Below.refl _ _) _)) n (rdx s n).1 (rdx s n).2 rfl).mono ?_; rintro e w1 ⟨v1, rfl, hf, hJ, hb⟩; obtain ⟨A1, rfl, j1⟩ := JO_read_p (J_deep J0.out (below_alloc (Below.refl _ _) _)) hb hf (oth_below (below_alloc (Below.refl w.heap.size w) _)) (below_alloc (Below.refl _ _) _).size; have J1 := Aside0.mk j1; clear hf hJ hb j1)
    obtain ⟨m, hm⟩ : ∃ m, m = (rdx s n).1.length := ⟨_, rfl⟩
    rw [← hm] at J1
    simp only [← hm]
    clear hm
    have hm9 := JR_m_p J1.out.1
    go_wp2
    go_loopw [10] (fun v10 wr => ∃ i : Nat, v10 = .int .i64 (i : Int) ∧ i ≤ m ∧ Aside0 (JO_p w0 w wr p s A1 m)) (fun v10 _ => m - (intOf v10).toNat)
    case atStart => exact ⟨0, rfl, Nat.zero_le _, J1⟩
    case round =>
      clear J1
      obtain ⟨i, rfl, hi, HJ⟩ := hrel
      by_cases e1 : i < m
      · have e1b : decide (i < m) = true := decide_eq_true e1
        obtain ⟨g, x, rfl, hx, hf, NJ⟩ := JO_at_p HJ.out i e1 (.int .u8 98)
        have NJ := Aside0.mk NJ
        go_wp2
        go_roundw
        case rel => exact ⟨i + 1, by go_num, by omega, NJ⟩
        case measure => simp [intOf]; omega
      · have e1b : decide (i < m) = false := decide_eq_false e1
        go_wp2
        go_ret
        have hx := HX.out
        injection hx with e1 e2
        subst e1 e2
        exact ⟨rfl, JR_J_p HJ.out.1, HJ.out.2.1⟩
  have d5 : decide (k = 5) = false := decide_eq_false k5
  have HX := Aside0.mk (show (s, (0 : Int)) = (s', e') by rw [← hx]; unfold plx_p; rw [if_neg k1, if_neg k2, if_neg k3, if_neg k4, if_neg k5])
  clear hx
  go_enter Try.func20, Try.ntmps20
  go_wp2
  go_ret
  have hx := HX.out
  injection hx with e1 e2
  subst e1 e2
  exact ⟨rfl, J_deep J0.out (below_alloc (Below.refl _ _) _), oth_below (below_alloc (Below.refl _ _) _)⟩
set_option maxRecDepth 20000 in
theorem small_ev_p (k n : Int) (b : List Int) (sh : Bool) (keep : List Bool) (h1 : b.length ≤ 300) (h2 : keep.length ≤ 300) : marginalialaw14_Act_small.f k n b sh keep = some true := by
  unfold marginalialaw14_Act_small.f
  rw [if_pos (by omega)]
  have : (keep.length : Int) ≤ 300 := by omega
  simp [this]
set_option maxRecDepth 20000 in
theorem small_no_p (k n : Int) (b : List Int) (sh : Bool) (keep : List Bool) (h : ¬ (b.length ≤ 300 ∧ keep.length ≤ 300)) : marginalialaw14_Act_small.f k n b sh keep = some false := by
  unfold marginalialaw14_Act_small.f
  split
  · have : ¬ (keep.length : Int) ≤ 300 := by omega
    simp [this]
  · rfl
theorem exec_conv_p {P : Program} {ρ : Operand → Value} {o : Oper} {s d : TypeId} {x : Operand} {w w1 : World} {v : Value} (ho : o.op = .convert s d x) (h : Sem.run P (convert s d (ρ x)) w = .ok v w1) :
    (execOp ρ o).run P w = .ok (.value v) w1 := by
  unfold execOp
  simp only [ho, Sem.run_bind, h, Result.andThen_ok, Sem.run_pure]
theorem act_at_p {w0 : World} {A : Option Addr} {l : List S35} (h : Kd.C k35 w0 A l.length l) (j : Nat) (hj : j < l.length) : ∃ ad A2 c2 A4 c4 k n b sh keep, A = some ad ∧ (∀ w, Below w0.heap.size w0 w → w.cell? (ad.add (j * 5)) = some (.int .i64 k) ∧ w.cell? ⟨(ad.add (j * 5)).block, (ad.add (j * 5)).off + 1, none⟩ = some (.int .i64 n) ∧ w.cell? ⟨(ad.add (j * 5)).block, (ad.add (j * 5)).off + 2, none⟩ = some (.slice A2 b.length c2) ∧ w.cell? ⟨(ad.add (j * 5)).block, (ad.add (j * 5)).off + 3, none⟩ = some (.bool sh) ∧ w.cell? ⟨(ad.add (j * 5)).block, (ad.add (j * 5)).off + 4, none⟩ = some (.slice A4 keep.length c4)) ∧ b.length ≤ c2 ∧ Kd.C (Kd.int .u8) w0 A2 b.length b ∧ keep.length ≤ c4 ∧ Kd.C Kd.bool w0 A4 keep.length keep := by
  obtain ⟨ad, A2, c2, A4, c4, ea, y0, y1, y2, y3, y4, l2, C2, l4, C4⟩ := at_T35 h (j : Int) (by omega) (by omega)
  simp only [Int.toNat_natCast] at y0 y1 y2 y3 y4
  exact ⟨ad, A2, c2, A4, c4, _, _, _, _, _, ea, fun w hb => ⟨pw_cell_below hb y0, pw_cell_below hb y1, pw_cell_below hb y2, pw_cell_below hb y3, pw_cell_below hb y4⟩, l2, C2, l4, C4⟩
/- The document's disk in memory. -/
def JM_p (w0 w : World) (p g8 : Nat) (s : Dk) (F : List ByteArray) (P : List S111) (le : Int) (fu of : Bool) : Prop := J w0 w p s ∧ w0.heap.size ≤ g8 ∧ ∃ u0 u1, w.heap[g8]? = some (.cells #[u0, u1, .int .i64 le, .bool fu, .bool of] 51 (0, 0)) ∧ Kd.R Kd.string 9 w w0.heap.size (fun k => some k = u0.ownBlock) u0 F ∧ Kd.R k111 111 w w0.heap.size (fun k => some k = u1.ownBlock) u1 P
theorem JM_deep_p {w0 w w' : World} {p g8 : Nat} {s : Dk} {F : List ByteArray} {P : List S111} {le : Int} {fu of : Bool} (h : JM_p w0 w p g8 s F P le fu of) (b : Below w.heap.size w w') : JM_p w0 w' p g8 s F P le fu of := by
  obtain ⟨h1, h2, u0, u1, h3, h4, h5⟩ := h
  exact ⟨J_deep h1 b, h2, u0, u1, blk_below h3 b, Kd.R_below h4 b, Kd.R_below h5 b⟩
theorem JM_oth_p {w0 w w' : World} {p g8 : Nat} {s s' : Dk} {F : List ByteArray} {P : List S111} {le : Int} {fu of : Bool} (h : JM_p w0 w p g8 s F P le fu of) (hJ : J w0 w' p s') (ho : oth w w') : JM_p w0 w' p g8 s' F P le fu of := by
  obtain ⟨h1, h2, u0, u1, h3, h4, h5⟩ := h
  exact ⟨hJ, h2, u0, u1, ho.2 _ _ _ h3 (by decide) (by decide) (by decide), R_oth2_p h4 ho (by decide), R_oth2_p h5 ho (by decide)⟩
theorem J_kept_p {w0 w w' : World} {p : Nat} {s : Dk} {S : Nat → Prop} (h : J w0 w p s) (hk : Kept w w' S) (hS : ∀ k, S k → ∃ cells T, w.heap[k]? = some (.cells cells T (0, 0)) ∧ (T = 9 ∨ T = 111)) (hb : Below w0.heap.size w0 w') : J w0 w' p s := by
  obtain ⟨a, b, vP, h1, h2⟩ := h
  have far : ∀ (i : Nat) (cells : Array Value) (T : TypeId), w.heap[i]? = some (.cells cells T (0, 0)) → T ≠ 9 → T ≠ 111 → w'.heap[i]? = some (.cells cells T (0, 0)) := by
    intro i cells T hi hT hT2
    rw [hk.2 i (blk_lt hi) (fun e => ?_)]
    · exact hi
    · obtain ⟨c', T', hc', e'⟩ := hS i e
      rcases e' with rfl | rfl
      · exact blk_ne hi hc' hT rfl
      · exact blk_ne hi hc' hT2 rfl
  refine ⟨a, b, vP, ⟨far _ _ _ h1.box (by decide) (by decide), far _ _ _ h1.now (by decide) (by decide), far _ _ _ h1.safe (by decide) (by decide), ?_, h1.ne, h1.hp, h1.hn, h1.hf, h1.ok⟩, hb⟩
  refine Kd.R_mono (Kd.R_move (Kd.R_bound h1.pend) ?_) (fun i hi => hi.1)
  rintro i ⟨_, _, hlt, q, hq, cells, hc⟩
  have hq' : q = 100 := by simpa [kP, kB, Kd.iso, Kd.pair, Kd.int, Kd.scalar, Kd.arr] using hq
  subst hq'
  rw [hc]
  exact far _ _ _ hc (by decide) (by decide)
theorem JM_model_p {w0 w w' : World} {p g8 : Nat} {s : Dk} {F F' : List ByteArray} {P P' : List S111} {le : Int} {fu of : Bool} {u0 u1 v0 v1 : Value} {o1 o2 : Nat → Prop} (h : J w0 w p s) (hg : w0.heap.size ≤ g8) (h3 : w.heap[g8]? = some (.cells #[u0, u1, .int .i64 le, .bool fu, .bool of] 51 (0, 0))) (h4 : Kd.R Kd.string 9 w w0.heap.size (fun k => some k = u0.ownBlock) u0 F) (h5 : Kd.R k111 111 w w0.heap.size (fun k => some k = u1.ownBlock) u1 P)
    (r0 : Kd.R Kd.string 9 w' w0.heap.size o1 v0 F') (r1 : Kd.R k111 111 w' w0.heap.size o2 v1 P') (hb : Below w0.heap.size w0 w') (hk : Kept w w' (fun k => some k = u0.ownBlock ∨ some k = u1.ownBlock)) :
    J w0 w' p s ∧ w'.heap[g8]? = some (.cells #[u0, u1, .int .i64 le, .bool fu, .bool of] 51 (0, 0)) ∧ Kd.R Kd.string 9 w' w0.heap.size (fun k => some k = v0.ownBlock) v0 F' ∧ Kd.R k111 111 w' w0.heap.size (fun k => some k = v1.ownBlock) v1 P' ∧ ∀ (i : Nat) (cells : Array Value) (T : TypeId), w.heap[i]? = some (.cells cells T (0, 0)) → T ≠ 9 → T ≠ 111 → w'.heap[i]? = some (.cells cells T (0, 0)) := by
  have hS : ∀ k, (some k = u0.ownBlock ∨ some k = u1.ownBlock) → ∃ cells T, w.heap[k]? = some (.cells cells T (0, 0)) ∧ (T = 9 ∨ T = 111) := by
    rintro k (e | e)
    · obtain ⟨c, hc⟩ := Kd.R_typed h4 k e.symm
      exact ⟨c, 9, hc, .inl rfl⟩
    · obtain ⟨c, hc⟩ := Kd.R_typed h5 k e.symm
      exact ⟨c, 111, hc, .inr rfl⟩
  have far : ∀ (i : Nat) (cells : Array Value) (T : TypeId), w.heap[i]? = some (.cells cells T (0, 0)) → T ≠ 9 → T ≠ 111 → w'.heap[i]? = some (.cells cells T (0, 0)) := by
    intro i cells T hi hT hT2
    rw [hk.2 i (blk_lt hi) (fun e => ?_)]
    · exact hi
    · obtain ⟨c', T', hc', e'⟩ := hS i e
      rcases e' with rfl | rfl
      · exact blk_ne hi hc' hT rfl
      · exact blk_ne hi hc' hT2 rfl
  exact ⟨J_kept_p h hk hS hb, far _ _ _ h3 (by decide) (by decide), Kd.R_tight rfl r0, Kd.R_tight rfl r1, far⟩
theorem J_lower_p {w0 w1 w : World} {p : Nat} {s : Dk} (h : J w1 w p s) (hb : Below w0.heap.size w0 w1) : J w0 w p s := by
  obtain ⟨a, b, v, h1, h2⟩ := h
  have hs := hb.size
  exact ⟨a, b, v, ⟨h1.box, h1.now, h1.safe, Kd.R_lower h1.pend hs, h1.ne, Nat.le_trans hs h1.hp, Nat.le_trans hs h1.hn, Nat.le_trans hs h1.hf, h1.ok⟩, below_step hb h2⟩
theorem JM_new_p {w0 w1 w2 w3 : World} {p : Nat} {s : Dk} {F : List ByteArray} {A0 A2 : Option Addr} {c0 c2 : Nat} {o1 o2 : Nat → Prop} (hb : Below w0.heap.size w0 w1) (h2 : J w1 w2 p s) (h : J w1 w3 p s) (r0 : Kd.R Kd.string 9 w3 w2.heap.size o1 (.slice A0 F.length c0) F) (r1 : Kd.R k111 111 w3 w2.heap.size o2 (.slice A2 ([] : List S111).length c2) []) : JM_p w0 (w3.alloc (.cells #[.slice A0 F.length c0, .slice A2 ([] : List S111).length c2, .int .i64 0, .bool false, .bool false] 51 (0, 0))) p w3.heap.size s F [] 0 false false := by
  have b := below_alloc (Below.refl w3.heap.size w3) (.cells #[.slice A0 F.length c0, .slice A2 ([] : List S111).length c2, .int .i64 0, .bool false, .bool false] 51 (0, 0))
  have l2 : w0.heap.size ≤ w2.heap.size := Nat.le_trans hb.size (J_below h2).size
  exact ⟨J_deep (J_lower_p h hb) b, Nat.le_trans hb.size (J_below h).size, _, _, blk_new _ _, Kd.R_tight rfl (Kd.R_lower (Kd.R_below r0 b) l2), Kd.R_tight rfl (Kd.R_lower (Kd.R_below r1 b) l2)⟩
theorem bx5_p {w : World} {g : Nat} {a b c d e : Value} {t : TypeId} (h : w.heap[g]? = some (.cells #[a, b, c, d, e] t (0, 0))) : w.cell? ⟨g, 0, none⟩ = some a ∧ w.cell? ⟨g, 1, none⟩ = some b ∧ w.cell? ⟨g, 2, none⟩ = some c ∧ w.cell? ⟨g, 3, none⟩ = some d ∧ w.cell? ⟨g, 4, none⟩ = some e :=
  ⟨(blk_cell h 0).trans rfl, (blk_cell h 1).trans rfl, (blk_cell h 2).trans rfl, (blk_cell h 3).trans rfl, (blk_cell h 4).trans rfl⟩
theorem J_set51_p {w0 w : World} {p g i : Nat} {s : Dk} {cells : Array Value} (h : J w0 w p s) (hg : w0.heap.size ≤ g) (hb : w.heap[g]? = some (.cells cells 51 (0, 0))) (u : Value) : J w0 (w.setCell ⟨g, i, none⟩ u) p s := by
  obtain ⟨a, b, v, h1, h2⟩ := h
  exact ⟨a, b, v, ⟨blk_far h1.box (p := ⟨g, i, none⟩) (blk_ne h1.box hb (by decide)) u, blk_far h1.now (p := ⟨g, i, none⟩) (blk_ne h1.now hb (by decide)) u, blk_far h1.safe (p := ⟨g, i, none⟩) (blk_ne h1.safe hb (by decide)) u, Kd.R_set h1.pend hb (by decide) i u, h1.ne, h1.hp, h1.hn, h1.hf, h1.ok⟩, below_set h2 hg⟩
theorem JM_store_p {w0 w : World} {p g8 g11 : Nat} {s : Dk} {F : List ByteArray} {P : List S111} {le : Int} {fu of : Bool} {a b c d e v0 v1 : Value} {X : Array Value} (h : J w0 w p s) (hg : w0.heap.size ≤ g8) (h3 : w.heap[g8]? = some (.cells #[a, b, c, d, e] 51 (0, 0))) (h4 : Kd.R Kd.string 9 w w0.heap.size (fun k => some k = v0.ownBlock) v0 F) (h5 : Kd.R k111 111 w w0.heap.size (fun k => some k = v1.ownBlock) v1 P) (h6 : w.heap[g11]? = some (.cells X 35 (0, 0))) :
    JM_p w0 (((((w.setCell ⟨g8, 0, none⟩ v0).setCell ⟨g8, 1, none⟩ v1).setCell ⟨g8, 2, none⟩ (.int .i64 le)).setCell ⟨g8, 3, none⟩ (.bool fu)).setCell ⟨g8, 4, none⟩ (.bool of)) p g8 s F P le fu of ∧ (((((w.setCell ⟨g8, 0, none⟩ v0).setCell ⟨g8, 1, none⟩ v1).setCell ⟨g8, 2, none⟩ (.int .i64 le)).setCell ⟨g8, 3, none⟩ (.bool fu)).setCell ⟨g8, 4, none⟩ (.bool of)).heap[g11]? = some (.cells X 35 (0, 0)) := by
  have step : ∀ (W : World) (Y : Array Value) (i : Nat) (u : Value), J w0 W p s → W.heap[g8]? = some (.cells Y 51 (0, 0)) → Kd.R Kd.string 9 W w0.heap.size (fun k => some k = v0.ownBlock) v0 F → Kd.R k111 111 W w0.heap.size (fun k => some k = v1.ownBlock) v1 P → W.heap[g11]? = some (.cells X 35 (0, 0)) →
      J w0 (W.setCell ⟨g8, i, none⟩ u) p s ∧ (W.setCell ⟨g8, i, none⟩ u).heap[g8]? = some (.cells (Y.setIfInBounds i u) 51 (0, 0)) ∧ Kd.R Kd.string 9 (W.setCell ⟨g8, i, none⟩ u) w0.heap.size (fun k => some k = v0.ownBlock) v0 F ∧ Kd.R k111 111 (W.setCell ⟨g8, i, none⟩ u) w0.heap.size (fun k => some k = v1.ownBlock) v1 P ∧ (W.setCell ⟨g8, i, none⟩ u).heap[g11]? = some (.cells X 35 (0, 0)) :=
    fun W Y i u q1 q2 q3 q4 q5 => ⟨J_set51_p q1 hg q2 u, blk_set q2 i u, Kd.R_set q3 q2 (by decide) i u, Kd.R_set q4 q2 (by decide) i u, blk_far q5 (p := ⟨g8, i, none⟩) (blk_ne q5 q2 (by decide)) u⟩
  obtain ⟨a1, a2, a3, a4, a5⟩ := step _ _ 0 v0 h h3 h4 h5 h6
  obtain ⟨b1, b2, b3, b4, b5⟩ := step _ _ 1 v1 a1 a2 a3 a4 a5
  obtain ⟨c1, c2, c3, c4, c5⟩ := step _ _ 2 (.int .i64 le) b1 b2 b3 b4 b5
  obtain ⟨d1, d2, d3, d4, d5⟩ := step _ _ 3 (.bool fu) c1 c2 c3 c4 c5
  obtain ⟨e1, e2, e3, e4, e5⟩ := step _ _ 4 (.bool of) d1 d2 d3 d4 d5
  exact ⟨⟨e1, hg, v0, v1, e2.trans rfl, e3, e4⟩, e5⟩
def RG_p (w0 w : World) (p g8 : Nat) (s : Dk) (F : List ByteArray) (P : List S111) (le : Int) (fu of : Bool) (A3 : Option Addr) (q3 : Nat) (A4 : Option Addr) (q4 : Nat) (A8 : Option Addr) (l8 : List Int) (A9 : Option Addr) (l9 : List Int) : Prop :=
  J w0 w p s ∧ w0.heap.size ≤ g8 ∧ w.heap[g8]? = some (.cells #[.slice A3 F.length q3, .slice A4 P.length q4, .int .i64 le, .bool fu, .bool of] 51 (0, 0)) ∧ Kd.R Kd.string 9 w w0.heap.size (fun k => some k = (Value.slice A3 F.length q3).ownBlock) (.slice A3 F.length q3) F ∧ Kd.R k111 111 w w0.heap.size (fun k => some k = (Value.slice A4 P.length q4).ownBlock) (.slice A4 P.length q4) P ∧ Kd.C (Kd.int .u8) w A8 l8.length l8 ∧ Kd.C (Kd.int .u8) w A9 l9.length l9
theorem RG_deep_p {w0 w w' : World} {p g8 : Nat} {s : Dk} {F : List ByteArray} {P : List S111} {le : Int} {fu of : Bool} {A3 : Option Addr} {q3 : Nat} {A4 : Option Addr} {q4 : Nat} {A8 : Option Addr} {l8 : List Int} {A9 : Option Addr} {l9 : List Int} (h : RG_p w0 w p g8 s F P le fu of A3 q3 A4 q4 A8 l8 A9 l9) (b : Below w.heap.size w w') : RG_p w0 w' p g8 s F P le fu of A3 q3 A4 q4 A8 l8 A9 l9 := by
  obtain ⟨h1, h2, h3, h4, h5, h6, h7⟩ := h
  exact ⟨J_deep h1 b, h2, blk_below h3 b, Kd.R_below h4 b, Kd.R_below h5 b, Kd.C_below h6 b, Kd.C_below h7 b⟩
theorem RG_JM_p {w0 w : World} {p g8 : Nat} {s : Dk} {F : List ByteArray} {P : List S111} {le : Int} {fu of : Bool} {A3 : Option Addr} {q3 : Nat} {A4 : Option Addr} {q4 : Nat} {A8 : Option Addr} {l8 : List Int} {A9 : Option Addr} {l9 : List Int} (h : RG_p w0 w p g8 s F P le fu of A3 q3 A4 q4 A8 l8 A9 l9) : JM_p w0 w p g8 s F P le fu of := by
  obtain ⟨h1, h2, h3, h4, h5, h6, h7⟩ := h
  exact ⟨h1, h2, _, _, h3, h4, h5⟩
theorem RG_facts_p {w0 w : World} {p g8 : Nat} {s : Dk} {F : List ByteArray} {P : List S111} {le : Int} {fu of : Bool} {A3 : Option Addr} {q3 : Nat} {A4 : Option Addr} {q4 : Nat} {A8 : Option Addr} {l8 : List Int} {A9 : Option Addr} {l9 : List Int} (h : RG_p w0 w p g8 s F P le fu of A3 q3 A4 q4 A8 l8 A9 l9) (S : ByteArray) (h8 : S = strOfNums l8) (h9 : strOfNums l9 = strOfNums l8) (m8 m9 c8 c9 : Nat) (e8 : m8 = l8.length) (e9 : m9 = l9.length) :
    Sem.run Try.prog (convert 27 9 (.slice A8 m8 c8)) w = .ok (.string S) w ∧ Sem.run Try.prog (convert 27 9 (.slice A9 m9 c9)) w = .ok (.string S) w ∧ w.cell? ⟨g8, 0, none⟩ = some (.slice A3 F.length q3) ∧ w.cell? ⟨g8, 1, none⟩ = some (.slice A4 P.length q4) ∧ w.cell? ⟨g8, 2, none⟩ = some (.int .i64 le) ∧ w.cell? ⟨g8, 3, none⟩ = some (.bool fu) ∧ w.cell? ⟨g8, 4, none⟩ = some (.bool of) := by
  obtain ⟨h1, h2, h3, h4, h5, h6, h7⟩ := h
  subst e8 e9 h8
  exact ⟨Kd.C_string (P := Try.prog) Try.underlying27 Try.underlying5 Try.underlying9 h6, by rw [← h9]; exact Kd.C_string (P := Try.prog) Try.underlying27 Try.underlying5 Try.underlying9 h7, bx5_p h3⟩
theorem J_PendingN_p {w0 w : World} {p : Nat} {s : Dk} (h : J w0 w p s) (n : Int) (hn : (s.pend.length : Int) = n) : Calls Try.prog 18 #[.pointer (some ⟨p, 0, none⟩)] w fun e w' => e = .returned (.int .i64 n) ∧ J w0 w' p s ∧ Below w.heap.size w w' := by
  subst hn; exact J_Pending h
theorem RG_J_p {w0 w : World} {p g8 : Nat} {s : Dk} {F : List ByteArray} {P : List S111} {le : Int} {fu of : Bool} {A3 : Option Addr} {q3 : Nat} {A4 : Option Addr} {q4 : Nat} {A8 : Option Addr} {l8 : List Int} {A9 : Option Addr} {l9 : List Int} (h : RG_p w0 w p g8 s F P le fu of A3 q3 A4 q4 A8 l8 A9 l9) : J w0 w p s := h.1
theorem RG_C_p {w0 w : World} {p g8 : Nat} {s : Dk} {F : List ByteArray} {P : List S111} {le : Int} {fu of : Bool} {A3 : Option Addr} {q3 : Nat} {A4 : Option Addr} {q4 : Nat} {A8 : Option Addr} {l8 : List Int} {A9 : Option Addr} {l9 : List Int} (h : RG_p w0 w p g8 s F P le fu of A3 q3 A4 q4 A8 l8 A9 l9) : (F.length ≤ q3 ∧ Kd.C Kd.string w A3 F.length F) ∧ P.length ≤ q4 ∧ Kd.C k111 w A4 P.length P :=
  ⟨(Kd.R_reads' h.2.2.2.1).2, (Kd.R_reads' h.2.2.2.2.1).2⟩
theorem J_BlocksN_p {w0 w : World} {p : Nat} {s : Dk} (h : J w0 w p s) (n : Int) (hn : (s.nb : Int) = n) : Calls Try.prog 17 #[.pointer (some ⟨p, 0, none⟩)] w fun e w' => e = .returned (.int .i64 n) ∧ J w0 w' p s ∧ Below w.heap.size w w' := by
  subst hn; exact J_Blocks h
theorem J_NewI_p (w : World) (i : Int) (n : Nat) (hi : i = (n : Int)) (h0 : 1 ≤ n) (h1 : n ≤ 4096) : Calls Try.prog 14 #[.int .i64 i] w fun e w' => ∃ p, e = .returned (.tuple #[.pointer (some ⟨p, 0, none⟩), .int .i64 0]) ∧ J w w' p ⟨n, List.replicate (n * 256) 0, List.replicate (n * 256) 0, [], false, 0, false⟩ := by
  subst hi; exact J_New w n h0 h1
theorem New_evI_p (i : Int) (n : Nat) (hi : i = (n : Int)) (h0 : 1 ≤ n) (h1 : n ≤ 4096) (k : Nat) (hk : n * 4 + 1 < k) : ∃ F, marginaliaref14_New.f k i = some (F, [], 0, false, false, 0) ∧ Rl ⟨n, List.replicate (n * 256) 0, List.replicate (n * 256) 0, [], false, 0, false⟩ F [] 0 false false := by
  subst hi; exact New_ev_p n h0 h1 k hk
set_option maxRecDepth 20000 in
set_option maxHeartbeats 100000000 in
theorem law_Plays_p (a0 : Int) (A1 : Option Addr) (c1 : Nat) (l1 : List S35) (w : World) (hr1 : Kd.C k35 w A1 l1.length l1) : Calls Try.prog 7 #[.int .i64 a0, .slice A1 l1.length c1] w fun e w' => e = .returned (.bool true) ∧ Below w.heap.size w w' := by
  have HR1 := Aside0.mk hr1
  have m1 := Kd.C_max hr1
  clear hr1
  obtain ⟨r, hn, n1⟩ := pick14_p a0 24 (by decide) (by decide)
  have HN := Aside0.mk hn
  go_enter Try.func7, Try.ntmps7
  go_upto_region 2 with (go_at_call 25; refine (marginalialaw14_pick.calls a0 24 r _ HN.out).mono ?_; rintro e w1 ⟨rfl, hd⟩; have B1 := Aside0.mk (drawn_below hd); clear hd)
  obtain ⟨N, hN⟩ : ∃ N : Int, N = 1 + (r : Int) := ⟨_, rfl⟩
  have hN0 : 0 ≤ N := by omega
  have hN1 : N ≤ 24 := by omega
  obtain ⟨F0, hf, hl⟩ := New_evI_p N (1 + r) (by omega) (by omega) (by omega) 1000 (by omega)
  have HF := Aside0.mk hf
  obtain ⟨s0, hs0⟩ : ∃ s : Dk, s = ⟨1 + r, List.replicate ((1 + r) * 256) 0, List.replicate ((1 + r) * 256) 0, [], false, 0, false⟩ := ⟨_, rfl⟩
  rw [← hs0] at hl
  have HS := Aside0.mk hs0
  have I0 := Aside0.mk (show Rl s0 F0 [] 0 false false ∧ s0.nb = 1 + r ∧ s0.pend.length ≤ 4 * 0 from ⟨hl, by rw [hs0], by rw [hs0]; simp⟩)
  have EN := Aside0.mk hN
  rw [← hN]
  clear hn hf hl hs0 hN
  go_upto_block 0 with (first | (go_at_call 14; refine (J_NewI_p _ N (1 + r) (by have := EN.out; omega) (by omega) (by omega)).mono ?_; rintro e w2 ⟨p, rfl, hJ⟩; rw [← HS.out] at hJ; have J2 := Aside0.mk hJ; clear hJ) | (go_at_call 28; refine (marginaliaref14_New.calls 1000 N F0 [] 0 false false 0 _ HF.out).mono ?_; rintro e w3 ⟨v0, v1, rfl, r0, r1, hb⟩; obtain ⟨A0, c0, rfl⟩ := Kd.R_slice r0; obtain ⟨A2, c2, rfl⟩ := Kd.R_slice r1; have J3 := Aside0.mk (And.intro (J_deep J2.out hb) (And.intro r0 r1)); clear r0 r1 hb))
  have K3 := Aside0.mk (JM_new_p B1.out J2.out J3.out.1 J3.out.2.1 J3.out.2.2)
  obtain ⟨g8, hg8⟩ : ∃ g, g = w3.heap.size := ⟨_, rfl⟩
  rw [← hg8] at K3 ⊢
  clear J2 J3 HF HN B1 hg8
  go_wp2
  go_loopw [10, 11, 12, 13, 14, 15, 16, 17, 18] (fun v10 v11 v12 v13 v14 v15 v16 v17 v18 wr => ∃ (j : Nat) (s : Dk) (F : List ByteArray) (P : List S111) (le : Int) (fu of : Bool), v10 = .int .i64 (j : Int) ∧ j ≤ l1.length ∧ j ≤ 40 ∧ Aside0 (Rl s F P le fu of ∧ s.nb = 1 + r ∧ s.pend.length ≤ 4 * j) ∧ Aside0 (JM_p w wr p g8 s F P le fu of)) (fun v10 v11 v12 v13 v14 v15 v16 v17 v18 _ => l1.length - (intOf v10).toNat)
  case atStart => exact ⟨0, s0, F0, [], 0, false, false, rfl, Nat.zero_le _, Nat.zero_le _, I0, K3⟩
  case round =>
    clear K3 I0 HS
    obtain ⟨j, s, F, P, le, fu, of, rfl, hj, hj2, HI, HJ⟩ := hrel
    by_cases d0 : j < l1.length ∧ j < 40
    · obtain ⟨d1, d2⟩ := d0
      have d1b : decide (j < l1.length) = true := decide_eq_true d1
      have d2b : decide (j < 40) = true := decide_eq_true d2
      obtain ⟨ad, A5, c5, A6, c6, k, n, b, sh, keep, rfl, hy, l5, C5, l6, C6⟩ := act_at_p HR1.out j d1
      have HY := Aside0.mk hy
      have L5 := Aside0.mk l5
      have C5 := Aside0.mk C5
      have L6 := Aside0.mk l6
      have C6 := Aside0.mk C6
      obtain ⟨y0, y1, y2, y3, y4⟩ := hy _ (J_below HJ.out.1)
      clear hy l5 l6
      by_cases e1 : b.length ≤ 300 ∧ keep.length ≤ 300
      · have EV := Aside0.mk (small_ev_p k n b sh keep e1.1 e1.2)
        have LB := Aside0.mk e1.1
        clear e1
        obtain ⟨⟨s', e'⟩, hx⟩ : ∃ x, plx_p s k n b sh keep = x := ⟨_, rfl⟩
        obtain ⟨F', P', le', fu', of', hm, hR⟩ := model_ev_p HI.out.1 (by have := HI.out.2.2; omega) 1000 (by have := HI.out.2.2; omega) (by omega) k n b sh keep LB.out
        rw [hx] at hm hR
        have NI := Aside0.mk (show Rl s' F' P' le' fu' of' ∧ s'.nb = 1 + r ∧ s'.pend.length ≤ 4 * (j + 1) by
          have h2 := plx_nb_p s k n b sh keep
          have h3 := plx_len_p s k n b sh keep
          rw [hx] at h2 h3
          have := HI.out.2
          exact ⟨hR, h2.trans this.1, by dsimp only at h3; omega⟩)
        have HX := Aside0.mk hx
        have HM := Aside0.mk hm
        clear hx hm hR
        have J1 := Aside0.mk (JM_deep_p HJ.out (below_alloc (Below.refl wr.heap.size wr) (.cells #[.int .i64 k, .int .i64 n, .slice A5 b.length c5, .bool sh, .slice A6 keep.length c6] 35)))
        have X1 := Aside0.mk (blk_new wr (.cells #[.int .i64 k, .int .i64 n, .slice A5 b.length c5, .bool sh, .slice A6 keep.length c6] 35 (0, 0)))
        go_upto_region 12 with (first | (go_at_call 19; refine (marginalialaw14_Act_small.calls k n _ _ b sh _ _ keep true _ (Kd.C_below C5.out (J_below J1.out.1)) L5.out (Kd.C_below C6.out (J_below J1.out.1)) L6.out EV.out).mono ?_; rintro e w2 ⟨rfl, hb⟩; have J2 := Aside0.mk (JM_deep_p J1.out hb); have X2 := Aside0.mk (blk_below X1.out hb); obtain ⟨z0, z1, z2, z3, z4⟩ := bx5_p X2.out; clear hb HJ J1 X1 y0 y1 y2 y3 y4) | (go_at_call 20; refine (J_playo_p J2.out.1 (by have := HI.out.2.2; omega) k n _ _ b sh _ _ keep C5.out L5.out LB.out C6.out L6.out s' e' HX.out).mono ?_; rintro e w3 ⟨rfl, hJ, ho⟩; have J3 := Aside0.mk (JM_oth_p J2.out hJ ho); have X3 := Aside0.mk (ho.2 _ _ _ X2.out (by decide) (by decide) (by decide)); clear hJ ho J2 X2 z0 z1 z2 z3 z4))
        obtain ⟨j1, j2, u0, u1, j3, j4, j5⟩ := J3.out
        obtain ⟨A0, q0, rfl⟩ := Kd.R_slice j4
        obtain ⟨A2, q2, rfl⟩ := Kd.R_slice j5
        obtain ⟨z0, z1, z2, z3, z4⟩ := bx5_p X3.out
        obtain ⟨y0, y1, y2, y3, y4⟩ := bx5_p j3
        have K3 := Aside0.mk (And.intro j1 (And.intro j2 (And.intro j3 (And.intro j4 j5))))
        have S3 := Aside0.mk (show ∀ q, (some q = (Value.slice A0 F.length q0).ownBlock ∨ some q = (Value.slice A2 P.length q2).ownBlock) → w.heap.size ≤ q from fun q hq => hq.elim (fun e => Kd.R_base j4 q e.symm) (fun e => Kd.R_base j5 q e.symm))
        clear J3 j1 j2 j3 j4 j5
        go_upto_region 13 with (go_at_call 29; refine (marginalialaw14_model.calls 1000 _ _ F _ _ P le fu of k n _ _ b sh _ _ keep F' P' le' fu' of' e' w _ (J_below K3.out.1) K3.out.2.2.2.1 K3.out.2.2.2.2 (Kd.C_kept_came (Kd.heap_int .u8) C5.out (J_below K3.out.1) S3.out) L5.out (Kd.C_kept_came Kd.heap_bool C6.out (J_below K3.out.1) S3.out) L6.out HM.out).mono ?_; rintro e w4 ⟨v0, v1, rfl, r0, r1, hb, hk⟩; obtain ⟨A3, q3, rfl⟩ := Kd.R_slice r0; obtain ⟨A4, q4, rfl⟩ := Kd.R_slice r1; have K4' := JM_model_p K3.out.1 K3.out.2.1 K3.out.2.2.1 K3.out.2.2.2.1 K3.out.2.2.2.2 r0 r1 hb hk; have X4 := Aside0.mk (K4'.2.2.2.2 _ _ _ X3.out (by decide) (by decide)); have K4 := Aside0.mk (And.intro K4'.1 (And.intro K4'.2.1 (And.intro K4'.2.2.1 K4'.2.2.2.1))); have G8 := Aside0.mk K3.out.2.1; clear K4' r0 r1 hb hk K3 X3 S3 z0 z1 z2 z3 z4 y0 y1 y2 y3 y4)
        have b5 := below_alloc (Below.refl w4.heap.size w4) (.cells #[.slice A3 F'.length q3, .slice A4 P'.length q4, .int .i64 le', .bool fu', .bool of'] 51)
        have K5 := Aside0.mk (JM_store_p (J_deep K4.out.1 b5) G8.out (blk_below K4.out.2.1 b5) (Kd.R_below K4.out.2.2.1 b5) (Kd.R_below K4.out.2.2.2 b5) (blk_below X4.out b5) (le := le') (fu := fu') (of := of'))
        obtain ⟨z0, z1, z2, z3, z4⟩ := bx5_p (blk_below K4.out.2.1 b5)
        have z5 := blk_frozen (blk_below K4.out.2.1 b5) 0
        have z6 := blk_frozen (blk_below K4.out.2.1 b5) 1
        have z7 := blk_frozen (blk_below K4.out.2.1 b5) 2
        have z8 := blk_frozen (blk_below K4.out.2.1 b5) 3
        have z9 := blk_frozen (blk_below K4.out.2.1 b5) 4
        obtain ⟨⟨lr, er⟩, hr⟩ : ∃ x, rdx s' n = x := ⟨_, rfl⟩
        obtain ⟨l9, hr1, hr2⟩ := Read_ev_p NI.out.1 (by have := NI.out.2.2; omega) 1000 (by have := NI.out.2.2; omega) (by omega) n
        obtain ⟨l10, hd1, hd2⟩ := Dump_ev_p NI.out.1 (by have := NI.out.2.2; omega) 1000 (by have := NI.out.2.2; omega) (by have := NI.out.2.1; omega)
        rw [hr] at hr1 hr2
        have HRD := Aside0.mk hr
        have HR9 := Aside0.mk hr1
        have HS9 := Aside0.mk hr2
        have HD1 := Aside0.mk hd1
        have HD2 := Aside0.mk hd2
        clear b5 K4 X4 hr hr1 hr2 hd1 hd2
        go_upto_region 14 with (fail)
        clear z0 z1 z2 z3 z4 z5 z6 z7 z8 z9
        generalize World.setCell _ ⟨g8, 4, none⟩ _ = W5 at K5 ⊢
        obtain ⟨z0, z1, z2, z3, z4⟩ := bx5_p K5.out.2
        go_upto_region 15 with (go_at_call 16; refine (J_Read K5.out.1.1 n lr er HRD.out).mono ?_; rintro e w6 ⟨v8, rfl, hf, hJ, hb⟩; obtain ⟨A8, rfl, c8'⟩ := frs_C hf; have C8 := Aside0.mk c8'; clear c8'; have K6 := Aside0.mk (JM_deep_p K5.out.1 hb); have X6 := Aside0.mk (blk_below K5.out.2 hb); clear hf hJ hb K5 z0 z1 z2 z3 z4)
        obtain ⟨j1, j2, u0, u1, j3, j4, j5⟩ := K6.out
        obtain ⟨A0, q0, rfl⟩ := Kd.R_slice j4
        obtain ⟨A2, q2, rfl⟩ := Kd.R_slice j5
        obtain ⟨z0, z1, z2, z3, z4⟩ := bx5_p X6.out
        obtain ⟨y0, y1, y2, y3, y4⟩ := bx5_p j3
        have K6 := Aside0.mk (And.intro j1 (And.intro j2 (And.intro j3 (And.intro j4 j5))))
        clear j1 j2 j3 j4 j5
        go_upto_region 16 with (go_at_call 30; refine (marginaliaref14_Read.calls 1000 _ _ F' _ _ P' le' fu' of' n l9 er _ (Kd.R_reads' K6.out.2.2.2.1).2.2 (Kd.R_reads' K6.out.2.2.2.1).2.1 (Kd.R_reads' K6.out.2.2.2.2).2.2 (Kd.R_reads' K6.out.2.2.2.2).2.1 HR9.out).mono ?_; rintro e w7 ⟨v9, rfl, hR, hb⟩; obtain ⟨A9, q9, rfl⟩ := Kd.R_slice hR; have K7 := Aside0.mk (show RG_p w w7 p g8 s' F' P' le' fu' of' A0 q0 A2 q2 A8 lr A9 l9 from ⟨J_deep K6.out.1 hb, K6.out.2.1, blk_below K6.out.2.2.1 hb, Kd.R_below K6.out.2.2.2.1 hb, Kd.R_below K6.out.2.2.2.2 hb, Kd.C_below C8.out hb, (Kd.R_reads' hR).2.2⟩); clear hR hb K6 X6 C8 z0 z1 z2 z3 z4 y0 y1 y2 y3 y4)
        obtain ⟨m8, e8⟩ : ∃ m, m = lr.length := ⟨_, rfl⟩
        obtain ⟨m9, e9⟩ : ∃ m, m = l9.length := ⟨_, rfl⟩
        obtain ⟨S, hS⟩ : ∃ S, S = strOfNums lr := ⟨_, rfl⟩
        obtain ⟨T, hT⟩ : ∃ S, S = strOfNums s'.now := ⟨_, rfl⟩
        rw [← e8, ← e9]
        have E8 := Aside0.mk e8
        have E9 := Aside0.mk e9
        have HS := Aside0.mk hS
        have HT := Aside0.mk hT
        have EP := Aside0.mk (show (s'.pend.length : Int) = (P'.length : Int) by rw [NI.out.1.P, List.length_map])
        clear e8 e9 hS hT
        refine start_ (n := 32) (S := fun w' => Sem.run Try.prog (convert 27 9 (.slice A8 m8 m8)) w' = .ok (.string S) w' ∧ Sem.run Try.prog (convert 27 9 (.slice A9 m9 q9)) w' = .ok (.string S) w' ∧ w'.cell? ⟨g8, 0, none⟩ = some (.slice A0 F'.length q0) ∧ w'.cell? ⟨g8, 1, none⟩ = some (.slice A2 P'.length q2) ∧ w'.cell? ⟨g8, 2, none⟩ = some (.int .i64 le') ∧ w'.cell? ⟨g8, 3, none⟩ = some (.bool fu') ∧ w'.cell? ⟨g8, 4, none⟩ = some (.bool of')) (ds := []) #[false, false, false, false, false, false, false, false, false, false, false, false, false, false, false, false, false, false, false, false, false, false, false, false, false, false, false, false, false, false, false, false] (by kernel_rfl) rfl rfl ⟨(RG_facts_p (RG_deep_p K7.out (below_drew (Below.refl _ _))) S HS.out HS9.out m8 m9 m8 q9 E8.out E9.out).1, (RG_facts_p (RG_deep_p K7.out (below_drew (Below.refl _ _))) S HS.out HS9.out m8 m9 m8 q9 E8.out E9.out).2.1, (RG_facts_p (RG_deep_p K7.out (below_drew (Below.refl _ _))) S HS.out HS9.out m8 m9 m8 q9 E8.out E9.out).2.2.1, (RG_facts_p (RG_deep_p K7.out (below_drew (Below.refl _ _))) S HS.out HS9.out m8 m9 m8 q9 E8.out E9.out).2.2.2.1, (RG_facts_p (RG_deep_p K7.out (below_drew (Below.refl _ _))) S HS.out HS9.out m8 m9 m8 q9 E8.out E9.out).2.2.2.2.1, (RG_facts_p (RG_deep_p K7.out (below_drew (Below.refl _ _))) S HS.out HS9.out m8 m9 m8 q9 E8.out E9.out).2.2.2.2.2.1, (RG_facts_p (RG_deep_p K7.out (below_drew (Below.refl _ _))) S HS.out HS9.out m8 m9 m8 q9 E8.out E9.out).2.2.2.2.2.2⟩ (fun hHeld => ?_)
        refine pure_ (i := 0) (N := some 83) (v := ?_) (a' := ?_) #[true, false, false, false, false, false, false, false, false, false, false, false, false, false, false, false, false, false, false, false, false, false, false, false, false, false, false, false, false, false, false, false] rfl rfl (by kernel_rfl) (fun _ _ _ h => h) (Or.inl ⟨by rfl, ?_⟩) ?_ ?_
        rotate_left
        · intro w'
          go_simp
          with_reducible rfl
        rotate_left
        · simp only [Act.put, List.setIfInBounds_toArray, List.set_cons_zero, List.set_cons_succ, i64_w, i32_w]
          rfl
        refine pure_ (i := 1) (N := some 84) (v := ?_) (a' := ?_) #[true, true, false, false, false, false, false, false, false, false, false, false, false, false, false, false, false, false, false, false, false, false, false, false, false, false, false, false, false, false, false, false] rfl rfl (by kernel_rfl) (fun _ _ _ h => h) (Or.inl ⟨by rfl, ?_⟩) ?_ ?_
        rotate_left
        · intro w'
          go_simp
          with_reducible rfl
        rotate_left
        · simp only [Act.put, List.setIfInBounds_toArray, List.set_cons_zero, List.set_cons_succ, i64_w, i32_w]
          rfl
        refine pure_ (i := 2) (N := some 85) (v := ?_) (a' := ?_) #[true, true, true, false, false, false, false, false, false, false, false, false, false, false, false, false, false, false, false, false, false, false, false, false, false, false, false, false, false, false, false, false] rfl rfl (by kernel_rfl) (fun _ _ _ h => h) (Or.inl ⟨by rfl, ?_⟩) ?_ ?_
        rotate_left
        · intro w'
          go_simp
          with_reducible rfl
        rotate_left
        · simp only [Act.put, List.setIfInBounds_toArray, List.set_cons_zero, List.set_cons_succ, i64_w, i32_w]
          rfl
        refine pure_ (i := 3) (N := some 86) (v := ?_) (a' := ?_) #[true, true, true, true, false, false, false, false, false, false, false, false, false, false, false, false, false, false, false, false, false, false, false, false, false, false, false, false, false, false, false, false] rfl rfl (by kernel_rfl) (fun _ _ _ h => h) (Or.inl ⟨by rfl, ?_⟩) ?_ ?_
        rotate_left
        · intro w'
          go_simp
          with_reducible rfl
        rotate_left
        · simp only [Act.put, List.setIfInBounds_toArray, List.set_cons_zero, List.set_cons_succ, i64_w, i32_w]
          rfl
        refine pure_ (i := 4) (N := some 87) (v := ?_) (a' := ?_) #[true, true, true, true, true, false, false, false, false, false, false, false, false, false, false, false, false, false, false, false, false, false, false, false, false, false, false, false, false, false, false, false] rfl rfl (by kernel_rfl) (fun _ _ _ h => h) (Or.inl ⟨by rfl, ?_⟩) ?_ ?_
        rotate_left
        · intro w'
          go_simp
          with_reducible rfl
        rotate_left
        · simp only [Act.put, List.setIfInBounds_toArray, List.set_cons_zero, List.set_cons_succ, i64_w, i32_w]
          rfl
        refine pure_ (i := 5) (N := some 88) (v := ?_) (a' := ?_) #[true, true, true, true, true, true, false, false, false, false, false, false, false, false, false, false, false, false, false, false, false, false, false, false, false, false, false, false, false, false, false, false] rfl rfl (by kernel_rfl) (fun _ _ _ h => h) (Or.inl ⟨by rfl, ?_⟩) ?_ ?_
        rotate_left
        · intro w'
          go_simp
          with_reducible rfl
        rotate_left
        · simp only [Act.put, List.setIfInBounds_toArray, List.set_cons_zero, List.set_cons_succ, i64_w, i32_w]
          rfl
        refine pure_ (i := 6) (N := some 89) (v := ?_) (a' := ?_) #[true, true, true, true, true, true, true, false, false, false, false, false, false, false, false, false, false, false, false, false, false, false, false, false, false, false, false, false, false, false, false, false] rfl rfl (by kernel_rfl) (fun _ _ _ h => h) (Or.inl ⟨by rfl, ?_⟩) ?_ ?_
        rotate_left
        · intro w'
          go_simp
          with_reducible rfl
        rotate_left
        · simp only [Act.put, List.setIfInBounds_toArray, List.set_cons_zero, List.set_cons_succ, i64_w, i32_w]
          rfl
        refine pure_ (i := 7) (N := some 90) (v := ?_) (a' := ?_) #[true, true, true, true, true, true, true, true, false, false, false, false, false, false, false, false, false, false, false, false, false, false, false, false, false, false, false, false, false, false, false, false] rfl rfl (by kernel_rfl) (fun _ _ _ h => h) (Or.inl ⟨by rfl, ?_⟩) ?_ ?_
        rotate_left
        · intro w'
          go_simp
          with_reducible rfl
        rotate_left
        · simp only [Act.put, List.setIfInBounds_toArray, List.set_cons_zero, List.set_cons_succ, i64_w, i32_w]
          rfl
        refine pure_ (i := 8) (N := some 91) (v := ?_) (a' := ?_) #[true, true, true, true, true, true, true, true, true, false, false, false, false, false, false, false, false, false, false, false, false, false, false, false, false, false, false, false, false, false, false, false] rfl rfl (by kernel_rfl) (fun _ _ _ h => h) (Or.inl ⟨by rfl, ?_⟩) ?_ ?_
        rotate_left
        · intro w'
          go_simp
          with_reducible rfl
        rotate_left
        · simp only [Act.put, List.setIfInBounds_toArray, List.set_cons_zero, List.set_cons_succ, i64_w, i32_w]
          rfl
        refine pure_ (i := 9) (N := some 92) (v := ?_) (a' := ?_) #[true, true, true, true, true, true, true, true, true, true, false, false, false, false, false, false, false, false, false, false, false, false, false, false, false, false, false, false, false, false, false, false] rfl rfl (by kernel_rfl) (fun _ _ _ h => h) (Or.inl ⟨by rfl, ?_⟩) ?_ ?_
        rotate_left
        · intro w'
          go_simp
          with_reducible rfl
        rotate_left
        · simp only [Act.put, List.setIfInBounds_toArray, List.set_cons_zero, List.set_cons_succ, i64_w, i32_w]
          rfl
        refine pure_ (i := 11) (N := some 94) (v := ?_) (a' := ?_) #[true, true, true, true, true, true, true, true, true, true, false, true, false, false, false, false, false, false, false, false, false, false, false, false, false, false, false, false, false, false, false, false] rfl rfl (by kernel_rfl) (fun _ _ _ h => h) (Or.inl ⟨by rfl, ?_⟩) ?_ ?_
        rotate_left
        · intro w'
          go_simp
          with_reducible rfl
        rotate_left
        · simp only [Act.put, List.setIfInBounds_toArray, List.set_cons_zero, List.set_cons_succ, i64_w, i32_w]
          rfl
        refine take_ (i := 10) (N := some 93) (v := ?_) (a' := ?_) #[true, true, true, true, true, true, true, true, true, true, true, true, false, false, false, false, false, false, false, false, false, false, false, false, false, false, false, false, false, false, false, false] rfl rfl (by kernel_rfl) (fun _ _ _ h => h) (Or.inl ⟨by rfl, ?_⟩) hHeld ?_ ?_
        rotate_left
        · rintro w' ⟨s0, s1, s2, s3, s4, s5, s6⟩
          go_simp
          with_reducible rfl
        rotate_left
        · simp only [Act.put, List.setIfInBounds_toArray, List.set_cons_zero, List.set_cons_succ, i64_w, i32_w]
          rfl
        refine take_ (i := 12) (N := some 95) (v := ?_) (a' := ?_) #[true, true, true, true, true, true, true, true, true, true, true, true, true, false, false, false, false, false, false, false, false, false, false, false, false, false, false, false, false, false, false, false] rfl rfl (by kernel_rfl) (fun _ _ _ h => h) (Or.inl ⟨by rfl, ?_⟩) hHeld ?_ ?_
        rotate_left
        · rintro w' ⟨s0, s1, s2, s3, s4, s5, s6⟩
          go_simp
          with_reducible rfl
        rotate_left
        · simp only [Act.put, List.setIfInBounds_toArray, List.set_cons_zero, List.set_cons_succ, i64_w, i32_w]
          rfl
        refine pure_ (i := 13) (N := some 96) (v := ?_) (a' := ?_) #[true, true, true, true, true, true, true, true, true, true, true, true, true, true, false, false, false, false, false, false, false, false, false, false, false, false, false, false, false, false, false, false] rfl rfl (by kernel_rfl) (fun _ _ _ h => h) (Or.inl ⟨by rfl, ?_⟩) ?_ ?_
        rotate_left
        · intro w'
          go_simp
          with_reducible rfl
        rotate_left
        · simp only [Act.put, List.setIfInBounds_toArray, List.set_cons_zero, List.set_cons_succ, i64_w, i32_w]
          rfl
        refine pure_ (i := 14) (N := some 97) (v := ?_) (a' := ?_) #[true, true, true, true, true, true, true, true, true, true, true, true, true, true, true, false, false, false, false, false, false, false, false, false, false, false, false, false, false, false, false, false] rfl rfl (by kernel_rfl) (fun _ _ _ h => h) (Or.inl ⟨by rfl, ?_⟩) ?_ ?_
        rotate_left
        · intro w'
          go_simp
          with_reducible rfl
        rotate_left
        · simp only [Act.put, List.setIfInBounds_toArray, List.set_cons_zero, List.set_cons_succ, i64_w, i32_w]
          rfl
        refine pure_ (i := 15) (N := some 98) (v := ?_) (a' := ?_) #[true, true, true, true, true, true, true, true, true, true, true, true, true, true, true, true, false, false, false, false, false, false, false, false, false, false, false, false, false, false, false, false] rfl rfl (by kernel_rfl) (fun _ _ _ h => h) (Or.inl ⟨by rfl, ?_⟩) ?_ ?_
        rotate_left
        · intro w'
          go_simp
          with_reducible rfl
        rotate_left
        · simp only [Act.put, List.setIfInBounds_toArray, List.set_cons_zero, List.set_cons_succ, i64_w, i32_w]
          rfl
        refine pure_ (i := 16) (N := some 99) (v := ?_) (a' := ?_) #[true, true, true, true, true, true, true, true, true, true, true, true, true, true, true, true, true, false, false, false, false, false, false, false, false, false, false, false, false, false, false, false] rfl rfl (by kernel_rfl) (fun _ _ _ h => h) (Or.inl ⟨by rfl, ?_⟩) ?_ ?_
        rotate_left
        · intro w'
          go_simp
          with_reducible rfl
        rotate_left
        · simp only [Act.put, List.setIfInBounds_toArray, List.set_cons_zero, List.set_cons_succ, i64_w, i32_w]
          rfl
        refine pure_ (i := 18) (N := some 101) (v := ?_) (a' := ?_) #[true, true, true, true, true, true, true, true, true, true, true, true, true, true, true, true, true, false, true, false, false, false, false, false, false, false, false, false, false, false, false, false] rfl rfl (by kernel_rfl) (fun _ _ _ h => h) (Or.inl ⟨by rfl, ?_⟩) ?_ ?_
        rotate_left
        · intro w'
          go_simp
          with_reducible rfl
        rotate_left
        · simp only [Act.put, List.setIfInBounds_toArray, List.set_cons_zero, List.set_cons_succ, i64_w, i32_w]
          rfl
        refine take_ (i := 19) (N := some 102) (v := ?_) (a' := ?_) #[true, true, true, true, true, true, true, true, true, true, true, true, true, true, true, true, true, false, true, true, false, false, false, false, false, false, false, false, false, false, false, false] rfl rfl (by kernel_rfl) (fun _ _ _ h => h) (Or.inl ⟨by rfl, ?_⟩) hHeld ?_ ?_
        rotate_left
        · rintro w' ⟨s0, s1, s2, s3, s4, s5, s6⟩
          go_simp
          with_reducible rfl
        rotate_left
        · simp only [Act.put, List.setIfInBounds_toArray, List.set_cons_zero, List.set_cons_succ, i64_w, i32_w]
          rfl
        refine pure_ (i := 20) (N := some 103) (v := ?_) (a' := ?_) #[true, true, true, true, true, true, true, true, true, true, true, true, true, true, true, true, true, false, true, true, true, false, false, false, false, false, false, false, false, false, false, false] rfl rfl (by kernel_rfl) (fun _ _ _ h => h) (Or.inl ⟨by rfl, ?_⟩) ?_ ?_
        rotate_left
        · intro w'
          go_simp
          with_reducible rfl
        rotate_left
        · simp only [Act.put, List.setIfInBounds_toArray, List.set_cons_zero, List.set_cons_succ, i64_w, i32_w]
          rfl
        refine one_ (i := 17) (N := some 100) #[true, true, true, true, true, true, true, true, true, true, true, true, true, true, true, true, true, true, true, true, true, false, false, false, false, false, false, false, false, false, false, false] rfl rfl (by kernel_rfl) (by decide) (fun K hK => ?_)
        refine goes_ Try.func18 (by kernel_rfl) rfl #[.pointer (some ⟨p, 0, none⟩)] (by rfl) rfl rfl (by simp only [List.map_toArray, List.map_cons, List.map_nil]; rfl) ?_
        with_reducible refine (J_PendingN_p (J_deep (RG_J_p K7.out) (below_drew (Below.refl _ _))) (P'.length : Int) EP.out).mono ?_
        rintro e w8 ⟨rfl, hJ, hb⟩
        refine ⟨_, rfl, ?_⟩
        have K8 := Aside0.mk (RG_deep_p (RG_deep_p K7.out (below_drew (Below.refl _ _))) hb); clear hJ hb
        refine hK.out _ _ ⟨(RG_facts_p (K8.out) S HS.out HS9.out m8 m9 m8 q9 E8.out E9.out).1, (RG_facts_p (K8.out) S HS.out HS9.out m8 m9 m8 q9 E8.out E9.out).2.1, (RG_facts_p (K8.out) S HS.out HS9.out m8 m9 m8 q9 E8.out E9.out).2.2.1, (RG_facts_p (K8.out) S HS.out HS9.out m8 m9 m8 q9 E8.out E9.out).2.2.2.1, (RG_facts_p (K8.out) S HS.out HS9.out m8 m9 m8 q9 E8.out E9.out).2.2.2.2.1, (RG_facts_p (K8.out) S HS.out HS9.out m8 m9 m8 q9 E8.out E9.out).2.2.2.2.2.1, (RG_facts_p (K8.out) S HS.out HS9.out m8 m9 m8 q9 E8.out E9.out).2.2.2.2.2.2⟩ (fun hHeld => ?_)
        clear hK K
        refine norm_ (a' := ?_) ?_ ?_
        rotate_left
        · show Act.put _ (some 100) _ = _
          simp only [Act.put, List.setIfInBounds_toArray, List.set_cons_zero, List.set_cons_succ, i64_w, i32_w]
          rfl
        refine pure_ (i := 21) (N := some 104) (v := ?_) (a' := ?_) #[true, true, true, true, true, true, true, true, true, true, true, true, true, true, true, true, true, true, true, true, true, true, false, false, false, false, false, false, false, false, false, false] rfl rfl (by kernel_rfl) (fun _ _ _ h => h) (Or.inl ⟨by rfl, ?_⟩) ?_ ?_
        rotate_left
        · intro w'
          go_simp
          with_reducible rfl
        rotate_left
        · simp only [Act.put, List.setIfInBounds_toArray, List.set_cons_zero, List.set_cons_succ, i64_w, i32_w]
          rfl
        refine pure_ (i := 22) (N := some 105) (v := ?_) (a' := ?_) #[true, true, true, true, true, true, true, true, true, true, true, true, true, true, true, true, true, true, true, true, true, true, true, false, false, false, false, false, false, false, false, false] rfl rfl (by kernel_rfl) (fun _ _ _ h => h) (Or.inl ⟨by rfl, ?_⟩) ?_ ?_
        rotate_left
        · intro w'
          go_simp
          with_reducible rfl
        rotate_left
        · simp only [Act.put, List.setIfInBounds_toArray, List.set_cons_zero, List.set_cons_succ, i64_w, i32_w]
          rfl
        refine pure_ (i := 23) (N := some 106) (v := ?_) (a' := ?_) #[true, true, true, true, true, true, true, true, true, true, true, true, true, true, true, true, true, true, true, true, true, true, true, true, false, false, false, false, false, false, false, false] rfl rfl (by kernel_rfl) (fun _ _ _ h => h) (Or.inl ⟨by rfl, ?_⟩) ?_ ?_
        rotate_left
        · intro w'
          go_simp
          with_reducible rfl
        rotate_left
        · simp only [Act.put, List.setIfInBounds_toArray, List.set_cons_zero, List.set_cons_succ, i64_w, i32_w]
          rfl
        refine pure_ (i := 24) (N := some 107) (v := ?_) (a' := ?_) #[true, true, true, true, true, true, true, true, true, true, true, true, true, true, true, true, true, true, true, true, true, true, true, true, true, false, false, false, false, false, false, false] rfl rfl (by kernel_rfl) (fun _ _ _ h => h) (Or.inl ⟨by rfl, ?_⟩) ?_ ?_
        rotate_left
        · intro w'
          go_simp
          with_reducible rfl
        rotate_left
        · simp only [Act.put, List.setIfInBounds_toArray, List.set_cons_zero, List.set_cons_succ, i64_w, i32_w]
          rfl
        refine take_ (i := 27) (N := some 110) (v := ?_) (a' := ?_) #[true, true, true, true, true, true, true, true, true, true, true, true, true, true, true, true, true, true, true, true, true, true, true, true, true, false, false, true, false, false, false, false] rfl rfl (by kernel_rfl) (fun _ _ _ h => h) (Or.inl ⟨by rfl, ?_⟩) hHeld ?_ ?_
        rotate_left
        · rintro w' ⟨s0, s1, s2, s3, s4, s5, s6⟩
          go_simp
          with_reducible rfl
        rotate_left
        · simp only [Act.put, List.setIfInBounds_toArray, List.set_cons_zero, List.set_cons_succ, i64_w, i32_w]
          rfl
        refine one_ (i := 25) (N := some 108) #[true, true, true, true, true, true, true, true, true, true, true, true, true, true, true, true, true, true, true, true, true, true, true, true, true, true, false, true, false, false, false, false] rfl rfl (by kernel_rfl) (by decide) (fun K hK => ?_)
        refine goes_ Try.func27 (by kernel_rfl) rfl #[.pointer (some ⟨p, 0, none⟩)] (by rfl) rfl rfl (by simp only [List.map_toArray, List.map_cons, List.map_nil]; rfl) ?_
        with_reducible refine (J_Dump (RG_J_p K8.out)).mono ?_
        rintro e w9 ⟨v9, rfl, hR, hJ, hb⟩
        refine ⟨_, rfl, ?_⟩
        obtain ⟨A10, q10, rfl⟩ := Kd.R_slice hR; have R9 := Aside0.mk hR; have K9 := Aside0.mk (RG_deep_p K8.out hb); clear hR hJ hb
        refine hK.out _ _ ⟨(RG_facts_p (K9.out) S HS.out HS9.out m8 m9 m8 q9 E8.out E9.out).1, (RG_facts_p (K9.out) S HS.out HS9.out m8 m9 m8 q9 E8.out E9.out).2.1, (RG_facts_p (K9.out) S HS.out HS9.out m8 m9 m8 q9 E8.out E9.out).2.2.1, (RG_facts_p (K9.out) S HS.out HS9.out m8 m9 m8 q9 E8.out E9.out).2.2.2.1, (RG_facts_p (K9.out) S HS.out HS9.out m8 m9 m8 q9 E8.out E9.out).2.2.2.2.1, (RG_facts_p (K9.out) S HS.out HS9.out m8 m9 m8 q9 E8.out E9.out).2.2.2.2.2.1, (RG_facts_p (K9.out) S HS.out HS9.out m8 m9 m8 q9 E8.out E9.out).2.2.2.2.2.2⟩ (fun hHeld => ?_)
        clear hK K
        refine norm_ (a' := ?_) ?_ ?_
        rotate_left
        · show Act.put _ (some 108) _ = _
          simp only [Act.put, List.setIfInBounds_toArray, List.set_cons_zero, List.set_cons_succ, i64_w, i32_w]
          rfl
        refine join_ (σ := Option Addr × Nat) 2 #[true, true, true, true, true, true, true, true, true, true, true, true, true, true, true, true, true, true, true, true, true, true, true, true, true, true, true, true, true, true, false, false] (fun s => [(109, .string T), (111, .slice s.1 l10.length s.2), (112, .string T)]) (fun s w' => RG_p w w' p g8 s' F' P' le' fu' of' A0 q0 A2 q2 A8 lr A9 l9) ?_ ?_
        rotate_left
        · intro hCont
          refine two_ (i := 26) (j := 28) (Ni := some 109) (Nj := some 111) #[true, true, true, true, true, true, true, true, true, true, true, true, true, true, true, true, true, true, true, true, true, true, true, true, true, true, true, true, false, false, false, false] #[true, true, true, true, true, true, true, true, true, true, true, true, true, true, true, true, true, true, true, true, true, true, true, true, true, true, false, true, true, false, false, false] rfl rfl rfl rfl (by kernel_rfl) (by decide) (by decide) (fun K hK => ?_) (fun K hK => ?_)
          · skip
            refine value_ (w1 := w9) (v := .string T) (by rfl) rfl (exec_conv_p rfl (by rw [HT.out]; exact Kd.C_string (P := Try.prog) (A := A10) (c := q10) Try.underlying27 Try.underlying5 Try.underlying9 ((Kd.R_reads' R9.out).2.2))) ?_
            refine hK.out _ _ ⟨(RG_facts_p (K9.out) S HS.out HS9.out m8 m9 m8 q9 E8.out E9.out).1, (RG_facts_p (K9.out) S HS.out HS9.out m8 m9 m8 q9 E8.out E9.out).2.1, (RG_facts_p (K9.out) S HS.out HS9.out m8 m9 m8 q9 E8.out E9.out).2.2.1, (RG_facts_p (K9.out) S HS.out HS9.out m8 m9 m8 q9 E8.out E9.out).2.2.2.1, (RG_facts_p (K9.out) S HS.out HS9.out m8 m9 m8 q9 E8.out E9.out).2.2.2.2.1, (RG_facts_p (K9.out) S HS.out HS9.out m8 m9 m8 q9 E8.out E9.out).2.2.2.2.2.1, (RG_facts_p (K9.out) S HS.out HS9.out m8 m9 m8 q9 E8.out E9.out).2.2.2.2.2.2⟩ (fun hHeld => ?_)
            clear hK K
            refine norm_ (a' := ?_) ?_ ?_
            rotate_left
            · show Act.put _ (some 109) _ = _
              simp only [Act.put, List.setIfInBounds_toArray, List.set_cons_zero, List.set_cons_succ, i64_w, i32_w]
              rfl
            refine one_ (i := 28) (N := some 111) #[true, true, true, true, true, true, true, true, true, true, true, true, true, true, true, true, true, true, true, true, true, true, true, true, true, true, true, true, true, false, false, false] rfl rfl (by kernel_rfl) (by decide) (fun K hK => ?_)
            refine goes_ Try.func31 (by kernel_rfl) rfl #[.agg #[.slice A0 F'.length q0, .slice A2 P'.length q2, .int .i64 le', .bool fu', .bool of']] (by rfl) rfl rfl (by simp only [List.map_toArray, List.map_cons, List.map_nil]; rfl) ?_
            with_reducible refine (marginaliaref14_Dump.calls 1000 _ _ F' _ _ P' le' fu' of' l10 _ (RG_C_p K9.out).1.2 (RG_C_p K9.out).1.1 (RG_C_p K9.out).2.2 (RG_C_p K9.out).2.1 HD1.out).mono ?_
            rintro e w10 ⟨v10, rfl, hR, hb⟩
            refine ⟨_, rfl, ?_⟩
            obtain ⟨A11, q11, rfl⟩ := Kd.R_slice hR; have R10 := Aside0.mk hR; have K10 := Aside0.mk (RG_deep_p K9.out hb); have B10 := Aside0.mk hb; clear hR hb
            refine hK.out _ _ ⟨(RG_facts_p (K10.out) S HS.out HS9.out m8 m9 m8 q9 E8.out E9.out).1, (RG_facts_p (K10.out) S HS.out HS9.out m8 m9 m8 q9 E8.out E9.out).2.1, (RG_facts_p (K10.out) S HS.out HS9.out m8 m9 m8 q9 E8.out E9.out).2.2.1, (RG_facts_p (K10.out) S HS.out HS9.out m8 m9 m8 q9 E8.out E9.out).2.2.2.1, (RG_facts_p (K10.out) S HS.out HS9.out m8 m9 m8 q9 E8.out E9.out).2.2.2.2.1, (RG_facts_p (K10.out) S HS.out HS9.out m8 m9 m8 q9 E8.out E9.out).2.2.2.2.2.1, (RG_facts_p (K10.out) S HS.out HS9.out m8 m9 m8 q9 E8.out E9.out).2.2.2.2.2.2⟩ (fun hHeld => ?_)
            clear hK K
            refine norm_ (a' := ?_) ?_ ?_
            rotate_left
            · show Act.put _ (some 111) _ = _
              simp only [Act.put, List.setIfInBounds_toArray, List.set_cons_zero, List.set_cons_succ, i64_w, i32_w]
              rfl
            refine one_ (i := 29) (N := some 112) #[true, true, true, true, true, true, true, true, true, true, true, true, true, true, true, true, true, true, true, true, true, true, true, true, true, true, true, true, true, true, false, false] rfl rfl (by kernel_rfl) (by decide) (fun K hK => ?_)
            refine value_ (w1 := w10) (v := .string T) (by rfl) rfl (exec_conv_p rfl (by rw [HT.out, ← HD2.out]; exact Kd.C_string (P := Try.prog) (A := A11) (c := q11) Try.underlying27 Try.underlying5 Try.underlying9 ((Kd.R_reads' R10.out).2.2))) ?_
            refine hK.out _ _ ⟨(RG_facts_p (K10.out) S HS.out HS9.out m8 m9 m8 q9 E8.out E9.out).1, (RG_facts_p (K10.out) S HS.out HS9.out m8 m9 m8 q9 E8.out E9.out).2.1, (RG_facts_p (K10.out) S HS.out HS9.out m8 m9 m8 q9 E8.out E9.out).2.2.1, (RG_facts_p (K10.out) S HS.out HS9.out m8 m9 m8 q9 E8.out E9.out).2.2.2.1, (RG_facts_p (K10.out) S HS.out HS9.out m8 m9 m8 q9 E8.out E9.out).2.2.2.2.1, (RG_facts_p (K10.out) S HS.out HS9.out m8 m9 m8 q9 E8.out E9.out).2.2.2.2.2.1, (RG_facts_p (K10.out) S HS.out HS9.out m8 m9 m8 q9 E8.out E9.out).2.2.2.2.2.2⟩ (fun hHeld => ?_)
            clear hK K
            refine norm_ (a' := ?_) ?_ ?_
            rotate_left
            · show Act.put _ (some 112) _ = _
              simp only [Act.put, List.setIfInBounds_toArray, List.set_cons_zero, List.set_cons_succ, i64_w, i32_w]
              rfl
            exact norm_ (by simp only [putAll, Act.put, List.setIfInBounds_toArray, List.set_cons_zero, List.set_cons_succ]) (hCont (A11, q11) _ K10.out)
          · skip
            refine goes_ Try.func31 (by kernel_rfl) rfl #[.agg #[.slice A0 F'.length q0, .slice A2 P'.length q2, .int .i64 le', .bool fu', .bool of']] (by rfl) rfl rfl (by simp only [List.map_toArray, List.map_cons, List.map_nil]; rfl) ?_
            with_reducible refine (marginaliaref14_Dump.calls 1000 _ _ F' _ _ P' le' fu' of' l10 _ (RG_C_p K9.out).1.2 (RG_C_p K9.out).1.1 (RG_C_p K9.out).2.2 (RG_C_p K9.out).2.1 HD1.out).mono ?_
            rintro e w10 ⟨v10, rfl, hR, hb⟩
            refine ⟨_, rfl, ?_⟩
            obtain ⟨A11, q11, rfl⟩ := Kd.R_slice hR; have R10 := Aside0.mk hR; have K10 := Aside0.mk (RG_deep_p K9.out hb); have B10 := Aside0.mk hb; clear hR hb
            refine hK.out _ _ ⟨(RG_facts_p (K10.out) S HS.out HS9.out m8 m9 m8 q9 E8.out E9.out).1, (RG_facts_p (K10.out) S HS.out HS9.out m8 m9 m8 q9 E8.out E9.out).2.1, (RG_facts_p (K10.out) S HS.out HS9.out m8 m9 m8 q9 E8.out E9.out).2.2.1, (RG_facts_p (K10.out) S HS.out HS9.out m8 m9 m8 q9 E8.out E9.out).2.2.2.1, (RG_facts_p (K10.out) S HS.out HS9.out m8 m9 m8 q9 E8.out E9.out).2.2.2.2.1, (RG_facts_p (K10.out) S HS.out HS9.out m8 m9 m8 q9 E8.out E9.out).2.2.2.2.2.1, (RG_facts_p (K10.out) S HS.out HS9.out m8 m9 m8 q9 E8.out E9.out).2.2.2.2.2.2⟩ (fun hHeld => ?_)
            clear hK K
            refine norm_ (a' := ?_) ?_ ?_
            rotate_left
            · show Act.put _ (some 111) _ = _
              simp only [Act.put, List.setIfInBounds_toArray, List.set_cons_zero, List.set_cons_succ, i64_w, i32_w]
              rfl
            refine two_ (i := 26) (j := 29) (Ni := some 109) (Nj := some 112) #[true, true, true, true, true, true, true, true, true, true, true, true, true, true, true, true, true, true, true, true, true, true, true, true, true, true, true, true, true, false, false, false] #[true, true, true, true, true, true, true, true, true, true, true, true, true, true, true, true, true, true, true, true, true, true, true, true, true, true, false, true, true, true, false, false] rfl rfl rfl rfl (by kernel_rfl) (by decide) (by decide) (fun K hK => ?_) (fun K hK => ?_)
            · skip
              refine value_ (w1 := w10) (v := .string T) (by rfl) rfl (exec_conv_p rfl (by rw [HT.out]; exact Kd.C_string (P := Try.prog) (A := A10) (c := q10) Try.underlying27 Try.underlying5 Try.underlying9 (Kd.C_below (Kd.R_reads' R9.out).2.2 B10.out))) ?_
              refine hK.out _ _ ⟨(RG_facts_p (K10.out) S HS.out HS9.out m8 m9 m8 q9 E8.out E9.out).1, (RG_facts_p (K10.out) S HS.out HS9.out m8 m9 m8 q9 E8.out E9.out).2.1, (RG_facts_p (K10.out) S HS.out HS9.out m8 m9 m8 q9 E8.out E9.out).2.2.1, (RG_facts_p (K10.out) S HS.out HS9.out m8 m9 m8 q9 E8.out E9.out).2.2.2.1, (RG_facts_p (K10.out) S HS.out HS9.out m8 m9 m8 q9 E8.out E9.out).2.2.2.2.1, (RG_facts_p (K10.out) S HS.out HS9.out m8 m9 m8 q9 E8.out E9.out).2.2.2.2.2.1, (RG_facts_p (K10.out) S HS.out HS9.out m8 m9 m8 q9 E8.out E9.out).2.2.2.2.2.2⟩ (fun hHeld => ?_)
              clear hK K
              refine norm_ (a' := ?_) ?_ ?_
              rotate_left
              · show Act.put _ (some 109) _ = _
                simp only [Act.put, List.setIfInBounds_toArray, List.set_cons_zero, List.set_cons_succ, i64_w, i32_w]
                rfl
              refine one_ (i := 29) (N := some 112) #[true, true, true, true, true, true, true, true, true, true, true, true, true, true, true, true, true, true, true, true, true, true, true, true, true, true, true, true, true, true, false, false] rfl rfl (by kernel_rfl) (by decide) (fun K hK => ?_)
              refine value_ (w1 := w10) (v := .string T) (by rfl) rfl (exec_conv_p rfl (by rw [HT.out, ← HD2.out]; exact Kd.C_string (P := Try.prog) (A := A11) (c := q11) Try.underlying27 Try.underlying5 Try.underlying9 ((Kd.R_reads' R10.out).2.2))) ?_
              refine hK.out _ _ ⟨(RG_facts_p (K10.out) S HS.out HS9.out m8 m9 m8 q9 E8.out E9.out).1, (RG_facts_p (K10.out) S HS.out HS9.out m8 m9 m8 q9 E8.out E9.out).2.1, (RG_facts_p (K10.out) S HS.out HS9.out m8 m9 m8 q9 E8.out E9.out).2.2.1, (RG_facts_p (K10.out) S HS.out HS9.out m8 m9 m8 q9 E8.out E9.out).2.2.2.1, (RG_facts_p (K10.out) S HS.out HS9.out m8 m9 m8 q9 E8.out E9.out).2.2.2.2.1, (RG_facts_p (K10.out) S HS.out HS9.out m8 m9 m8 q9 E8.out E9.out).2.2.2.2.2.1, (RG_facts_p (K10.out) S HS.out HS9.out m8 m9 m8 q9 E8.out E9.out).2.2.2.2.2.2⟩ (fun hHeld => ?_)
              clear hK K
              refine norm_ (a' := ?_) ?_ ?_
              rotate_left
              · show Act.put _ (some 112) _ = _
                simp only [Act.put, List.setIfInBounds_toArray, List.set_cons_zero, List.set_cons_succ, i64_w, i32_w]
                rfl
              exact norm_ (by simp only [putAll, Act.put, List.setIfInBounds_toArray, List.set_cons_zero, List.set_cons_succ]) (hCont (A11, q11) _ K10.out)
            · skip
              refine value_ (w1 := w10) (v := .string T) (by rfl) rfl (exec_conv_p rfl (by rw [HT.out, ← HD2.out]; exact Kd.C_string (P := Try.prog) (A := A11) (c := q11) Try.underlying27 Try.underlying5 Try.underlying9 ((Kd.R_reads' R10.out).2.2))) ?_
              refine hK.out _ _ ⟨(RG_facts_p (K10.out) S HS.out HS9.out m8 m9 m8 q9 E8.out E9.out).1, (RG_facts_p (K10.out) S HS.out HS9.out m8 m9 m8 q9 E8.out E9.out).2.1, (RG_facts_p (K10.out) S HS.out HS9.out m8 m9 m8 q9 E8.out E9.out).2.2.1, (RG_facts_p (K10.out) S HS.out HS9.out m8 m9 m8 q9 E8.out E9.out).2.2.2.1, (RG_facts_p (K10.out) S HS.out HS9.out m8 m9 m8 q9 E8.out E9.out).2.2.2.2.1, (RG_facts_p (K10.out) S HS.out HS9.out m8 m9 m8 q9 E8.out E9.out).2.2.2.2.2.1, (RG_facts_p (K10.out) S HS.out HS9.out m8 m9 m8 q9 E8.out E9.out).2.2.2.2.2.2⟩ (fun hHeld => ?_)
              clear hK K
              refine norm_ (a' := ?_) ?_ ?_
              rotate_left
              · show Act.put _ (some 112) _ = _
                simp only [Act.put, List.setIfInBounds_toArray, List.set_cons_zero, List.set_cons_succ, i64_w, i32_w]
                rfl
              refine one_ (i := 26) (N := some 109) #[true, true, true, true, true, true, true, true, true, true, true, true, true, true, true, true, true, true, true, true, true, true, true, true, true, true, true, true, true, true, false, false] rfl rfl (by kernel_rfl) (by decide) (fun K hK => ?_)
              refine value_ (w1 := w10) (v := .string T) (by rfl) rfl (exec_conv_p rfl (by rw [HT.out]; exact Kd.C_string (P := Try.prog) (A := A10) (c := q10) Try.underlying27 Try.underlying5 Try.underlying9 (Kd.C_below (Kd.R_reads' R9.out).2.2 B10.out))) ?_
              refine hK.out _ _ ⟨(RG_facts_p (K10.out) S HS.out HS9.out m8 m9 m8 q9 E8.out E9.out).1, (RG_facts_p (K10.out) S HS.out HS9.out m8 m9 m8 q9 E8.out E9.out).2.1, (RG_facts_p (K10.out) S HS.out HS9.out m8 m9 m8 q9 E8.out E9.out).2.2.1, (RG_facts_p (K10.out) S HS.out HS9.out m8 m9 m8 q9 E8.out E9.out).2.2.2.1, (RG_facts_p (K10.out) S HS.out HS9.out m8 m9 m8 q9 E8.out E9.out).2.2.2.2.1, (RG_facts_p (K10.out) S HS.out HS9.out m8 m9 m8 q9 E8.out E9.out).2.2.2.2.2.1, (RG_facts_p (K10.out) S HS.out HS9.out m8 m9 m8 q9 E8.out E9.out).2.2.2.2.2.2⟩ (fun hHeld => ?_)
              clear hK K
              refine norm_ (a' := ?_) ?_ ?_
              rotate_left
              · show Act.put _ (some 109) _ = _
                simp only [Act.put, List.setIfInBounds_toArray, List.set_cons_zero, List.set_cons_succ, i64_w, i32_w]
                rfl
              exact norm_ (by simp only [putAll, Act.put, List.setIfInBounds_toArray, List.set_cons_zero, List.set_cons_succ]) (hCont (A11, q11) _ K10.out)
        rintro ⟨A11, q11⟩ w10 hF
        have K10 := Aside0.mk (show RG_p w w10 p g8 s' F' P' le' fu' of' A0 q0 A2 q2 A8 lr A9 l9 from hF)
        have hHeld : Sem.run Try.prog (convert 27 9 (.slice A8 m8 m8)) w10 = .ok (.string S) w10 ∧ Sem.run Try.prog (convert 27 9 (.slice A9 m9 q9)) w10 = .ok (.string S) w10 ∧ w10.cell? ⟨g8, 0, none⟩ = some (.slice A0 F'.length q0) ∧ w10.cell? ⟨g8, 1, none⟩ = some (.slice A2 P'.length q2) ∧ w10.cell? ⟨g8, 2, none⟩ = some (.int .i64 le') ∧ w10.cell? ⟨g8, 3, none⟩ = some (.bool fu') ∧ w10.cell? ⟨g8, 4, none⟩ = some (.bool of') := ⟨(RG_facts_p (K10.out) S HS.out HS9.out m8 m9 m8 q9 E8.out E9.out).1, (RG_facts_p (K10.out) S HS.out HS9.out m8 m9 m8 q9 E8.out E9.out).2.1, (RG_facts_p (K10.out) S HS.out HS9.out m8 m9 m8 q9 E8.out E9.out).2.2.1, (RG_facts_p (K10.out) S HS.out HS9.out m8 m9 m8 q9 E8.out E9.out).2.2.2.1, (RG_facts_p (K10.out) S HS.out HS9.out m8 m9 m8 q9 E8.out E9.out).2.2.2.2.1, (RG_facts_p (K10.out) S HS.out HS9.out m8 m9 m8 q9 E8.out E9.out).2.2.2.2.2.1, (RG_facts_p (K10.out) S HS.out HS9.out m8 m9 m8 q9 E8.out E9.out).2.2.2.2.2.2⟩
        clear hF
        refine norm_ (a' := ?_) ?_ ?_
        rotate_left
        · simp only [putAll, Act.put, List.setIfInBounds_toArray, List.set_cons_zero, List.set_cons_succ]
          rfl
        refine pure_ (i := 30) (N := some 113) (v := ?_) (a' := ?_) #[true, true, true, true, true, true, true, true, true, true, true, true, true, true, true, true, true, true, true, true, true, true, true, true, true, true, true, true, true, true, true, false] rfl rfl (by kernel_rfl) (fun _ _ _ h => h) (Or.inl ⟨by rfl, ?_⟩) ?_ ?_
        rotate_left
        · intro w'
          go_simp
          with_reducible rfl
        rotate_left
        · simp only [Act.put, List.setIfInBounds_toArray, List.set_cons_zero, List.set_cons_succ, i64_w, i32_w]
          rfl
        refine pure_ (i := 31) (N := some 114) (v := ?_) (a' := ?_) #[true, true, true, true, true, true, true, true, true, true, true, true, true, true, true, true, true, true, true, true, true, true, true, true, true, true, true, true, true, true, true, true] rfl rfl (by kernel_rfl) (fun _ _ _ h => h) (Or.inl ⟨by rfl, ?_⟩) ?_ ?_
        rotate_left
        · intro w'
          go_simp
          with_reducible rfl
        rotate_left
        · simp only [Act.put, List.setIfInBounds_toArray, List.set_cons_zero, List.set_cons_succ, i64_w, i32_w]
          rfl
        refine done_ (by kernel_rfl) ?_
        clear hHeld
        have K11 := Aside0.mk (RG_JM_p K10.out)
        go_wp2
        go_roundw
        case rel => exact ⟨j + 1, s', F', P', le', fu', of', by go_num, by omega, by omega, NI, K11⟩
        case measure => simp [intOf]; omega
      · have EV := Aside0.mk (small_no_p k n b sh keep e1)
        clear e1
        have J1 := Aside0.mk (JM_deep_p HJ.out (below_alloc (Below.refl wr.heap.size wr) (.cells #[.int .i64 k, .int .i64 n, .slice A5 b.length c5, .bool sh, .slice A6 keep.length c6] 35)))
        go_wp2_with (go_at_call 19; refine (marginalialaw14_Act_small.calls k n _ _ b sh _ _ keep false _ (Kd.C_below C5.out (J_below J1.out.1)) L5.out (Kd.C_below C6.out (J_below J1.out.1)) L6.out EV.out).mono ?_; rintro e w2 ⟨rfl, hb⟩; have J2 := Aside0.mk (JM_deep_p J1.out hb); clear hb HJ J1 y0 y1 y2 y3 y4)
        go_roundw
        case rel => exact ⟨j + 1, s, F, P, le, fu, of, by go_num, by omega, by omega, ⟨HI.out.1, HI.out.2.1, by have := HI.out.2.2; omega⟩, J2⟩
        case measure => simp [intOf]; omega
    · have NB := Aside0.mk (show (s.nb : Int) = N by have := HI.out.2.1; have := EN.out; omega)
      by_cases d1 : j < l1.length
      · have d1b : decide (j < l1.length) = true := decide_eq_true d1
        have d2b : decide (j < 40) = false := decide_eq_false (by omega)
        have d2 : ¬ j < 40 := by omega
        go_wp2_with (first | (go_at_call 15; refine (disk_alive _).mono ?_; rintro e w2 ⟨rfl, hb⟩; have J2 := Aside0.mk (J_deep HJ.out.1 hb); clear hb) | (go_at_call 17; refine (J_BlocksN_p J2.out N NB.out).mono ?_; rintro e w3 ⟨rfl, hJ, hb⟩; have J3 := Aside0.mk hJ; clear hJ hb))
        go_ret
        exact ⟨by simp, J_below J3.out⟩
      · have d1b : decide (j < l1.length) = false := decide_eq_false d1
        go_wp2_with (first | (go_at_call 15; refine (disk_alive _).mono ?_; rintro e w2 ⟨rfl, hb⟩; have J2 := Aside0.mk (J_deep HJ.out.1 hb); clear hb) | (go_at_call 17; refine (J_BlocksN_p J2.out N NB.out).mono ?_; rintro e w3 ⟨rfl, hJ, hb⟩; have J3 := Aside0.mk hJ; clear hJ hb))
        go_ret
        exact ⟨by simp, J_below J3.out⟩
def marginalialaw14_DiskPlays.f (a0 : Int) (l1 : List S35) : Option (Bool) := some true
theorem marginalialaw14_DiskPlays.calls (a0 : Int) (A1 : Option Addr) (c1 : Nat) (l1 : List S35) (r : Bool) (w : World) (hr1 : Kd.C k35 w A1 l1.length l1) (hc1 : l1.length ≤ c1) (h : marginalialaw14_DiskPlays.f a0 l1 = some r) :
    Calls Try.prog 7 #[.int .i64 a0, .slice A1 l1.length c1] w fun e w' => e = .returned (.bool r) ∧ Below w.heap.size w w' := by
  obtain rfl := Option.some.inj h
  exact law_Plays_p a0 A1 c1 l1 w hr1

end Go.Proofs.Ytepipgneefcoiaa.D
