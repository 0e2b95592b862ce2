/- The functions of the program that these laws reach, each as a plain Lean function, and the proof that the machine's call comes to it; no condition beyond those that each theorem names. Made by wip/xprint.py. -/
import Derived.Test.YtepipgneefcoiaaDx0
import Derived.Test.YtepipgneefcoiaaDf15
import Derived.Test.YtepipgneefcoiaaDf19
import Derived.Test.YtepipgneefcoiaaDf23
import Derived.Test.YtepipgneefcoiaaDf55
import Derived.Test.YtepipgneefcoiaaDh
namespace Go.Proofs.Ytepipgneefcoiaa.D
open Go.RowKit Go.Proofs.YtepipgneefcoiaaW.PrintWords Go.Proofs.YtepipgneefcoiaaW.PrintLast Go.Proofs.YtepipgneefcoiaaW.PrintMore
attribute [local go_sem] max2_int min2_int max_two min_two max_three min_three max_four min_four   -- for this text's walks alone
set_option linter.unusedVariables false
set_option linter.unusedSimpArgs false

/-! ### marginalialaw14_DiskSafe: function 4: by hand -/
/- play. -/
def JR_s (w0 w : World) (p : Nat) (s : Dk) (A : Option Addr) (m : Nat) : Prop := ∃ a b v, dm w0.heap.size w p a b v s ∧ Below w0.heap.size w0 w ∧ m ≤ 9223372036854775807 ∧ (0 < m → ∃ (g : Nat) (cells : Array Value) (T : TypeId), A = some ⟨g, 0, none⟩ ∧ w.heap[g]? = some (.cells cells T (0, 0)) ∧ m ≤ cells.size ∧ w0.heap.size ≤ g ∧ g ≠ p ∧ g ≠ a ∧ g ≠ b ∧ ∀ q, q ∈ 100 :: kP.E → q ≠ T)
theorem JR_J_s {w0 w : World} {p : Nat} {s : Dk} {A : Option Addr} {m : Nat} (h : JR_s w0 w p s A m) : J w0 w p s := by
  obtain ⟨a, b, v, h1, h2, _⟩ := h
  exact ⟨a, b, v, h1, h2⟩
theorem JR_m_s {w0 w : World} {p : Nat} {s : Dk} {A : Option Addr} {m : Nat} (h : JR_s w0 w p s A m) : m ≤ 9223372036854775807 := by
  obtain ⟨a, b, v, h1, h2, h3, _⟩ := h
  exact h3
theorem JR_at_s {w0 w : World} {p : Nat} {s : Dk} {A : Option Addr} {m : Nat} (h : JR_s w0 w p s A m) (i : Nat) (hi : i < m) (u : Value) : ∃ g x, A = some ⟨g, 0, none⟩ ∧ w.cell? ⟨g, i, none⟩ = some x ∧ w.frozen? ⟨g, i, none⟩ = false ∧ JR_s w0 (w.setCell ⟨g, i, none⟩ u) p s A m := by
  obtain ⟨a, b, v, h1, h2, h3, h4⟩ := h
  obtain ⟨g, cells, T, rfl, hg, hm, hb, n1, n2, n3, hT⟩ := h4 (by omega)
  refine ⟨g, cells[i]'(by omega), rfl, by rw [blk_cell hg, Array.getElem?_eq_getElem (by omega)], blk_frozen hg i, a, b, v, ?_, below_set h2 hb, h3, fun _ => ⟨g, _, T, rfl, blk_set hg i u, by simp; omega, hb, n1, n2, n3, hT⟩⟩
  exact ⟨blk_far h1.box (p := ⟨g, i, none⟩) (Ne.symm n1) u, blk_far h1.now (p := ⟨g, i, none⟩) (Ne.symm n2) u, blk_far h1.safe (p := ⟨g, i, none⟩) (Ne.symm n3) u, Kd.R_set h1.pend hg hT i u, h1.ne, h1.hp, h1.hn, h1.hf, h1.ok⟩
theorem JR_of_s {w0 w w' : World} {p base m c : Nat} {s : Dk} {A : Option Addr} {ok : Nat → Prop} {b : List Int} (hR : Kd.R (Kd.int .u8) 5 w base ok (.slice A m c) b) (ho : oth w w') (h : J w0 w' p s) (hbase : w0.heap.size ≤ base) : JR_s w0 w' p s A m := by
  obtain ⟨a, b', v, h1, h2⟩ := h
  have hm := Kd.C_max (Kd.R_reads' hR).2.2
  obtain rfl := (Kd.R_reads' hR).1
  refine ⟨a, b', v, h1, h2, hm, fun h0 => ?_⟩
  obtain ⟨q, cap, e, hq, _, cells, hc⟩ := Kd.R_form hR h0
  injection e with e1 e2 e3
  subst e1
  have hc' := ho.2 q cells 5 hc (by decide) (by decide) (by decide)
  refine ⟨q, cells, 5, rfl, hc', ?_, by omega, blk_ne hc' h1.box (by decide), blk_ne hc' h1.now (by decide), blk_ne hc' h1.safe (by decide), by decide⟩
  have := (Kd.R_celln (0 : Int) hR ((b.length - 1 : Nat) : Int) (by omega) (by omega)).1
  rw [Int.toNat_natCast, blk_cell hc] at this
  have := (Array.getElem?_eq_some_iff.1 this).1
  omega
theorem JR_read_s {w0 w w' : World} {p : Nat} {s : Dk} {v : Value} {l : List Int} (h : J w0 w p s) (hb : Below w.heap.size w w') (hf : frs w w' v l) : ∃ A, v = .slice A l.length l.length ∧ JR_s w0 w' p s A l.length := by
  obtain ⟨a, b, vP, h1, h2⟩ := h
  rcases hf with ⟨rfl, rfl⟩ | ⟨g, rfl, hg, hl, hc⟩
  · exact ⟨none, rfl, a, b, vP, dm_below h1 hb, below_step h2 hb, by simp, fun h => by simp at h⟩
  · have e1 := blk_lt h1.box
    have e2 := blk_lt h1.now
    have e3 := blk_lt h1.safe
    exact ⟨some ⟨g, 0, none⟩, rfl, a, b, vP, dm_below h1 hb, below_step h2 hb, by omega, fun h => ⟨g, _, 96, rfl, hc, by simp [by8], by have := h2.size; omega, by omega, by omega, by omega, by decide⟩⟩
/- What an act writes; what an act does. -/
def wbx_s (b : List Int) (sh : Bool) : List Int := if sh = true then b else blkOf b
def plx_s (s : Dk) (k n : Int) (b : List Int) (sh : Bool) (keep : List Bool) : Dk × Int :=
  if k = 1 then wrx s n (wbx_s b sh) else if k = 2 then flx s else if k = 3 then (fzx s n, 0) else if k = 4 then (crx s keep, 0) else if k = 5 then (s, (rdx s n).2) else (s, 0)
theorem bytes_ev_s (k n : Int) (b : List Int) (sh : Bool) (keep : List Bool) (hb : b.length ≤ 300) : marginalialaw14_Act_bytes.f 300 k n b sh keep = some (wbx_s b sh) := by
  unfold marginalialaw14_Act_bytes.f wbx_s
  cases sh with
  | true => simp; omega
  | false => simp [Block_ev b (by omega)]
set_option maxRecDepth 20000 in
set_option maxHeartbeats 8000000 in
theorem J_play_s {w0 w : World} {p : Nat} {s : Dk} (h : J w0 w p s) (hl : s.pend.length ≤ 100000) (k n : Int) (Ab : Option Addr) (cb : Nat) (b : List Int) (sh : Bool) (Ak : Option Addr) (ck : Nat) (keep : List Bool) (hb : Kd.C (Kd.int .u8) w0 Ab b.length b) (hcb : b.length ≤ cb) (hbl : b.length ≤ 300) (hk : Kd.C Kd.bool w0 Ak keep.length keep) (hck : keep.length ≤ ck) (s' : Dk) (e' : Int) (hx : plx_s s k n b sh keep = (s', e')) :
    Calls Try.prog 20 #[.pointer (some ⟨p, 0, none⟩), .agg #[.int .i64 k, .int .i64 n, .slice Ab b.length cb, .bool sh, .slice Ak keep.length ck]] w fun e w' => e = .returned (.int .i64 e') ∧ J w0 w' p s' := by
  have J0 := Aside0.mk h
  have HL := Aside0.mk hl
  have HB := Aside0.mk hb
  have HBC := Aside0.mk hcb
  have HBL := Aside0.mk hbl
  have HK := Aside0.mk hk
  have HKC := Aside0.mk hck
  clear h hl hb hcb hbl hk hck
  by_cases k1 : k = 1
  · subst k1
    have HX := Aside0.mk (show wrx s n (wbx_s b sh) = (s', e') from hx)
    clear hx
    go_enter Try.func20, Try.ntmps20
    go_upto_region 5 with (first | (go_at_call 55; refine (marginalialaw14_Act_bytes.calls 300 _ _ _ _ b sh _ _ keep (wbx_s b sh) _ (Kd.C_below HB.out (J_below (J_deep J0.out (below_alloc (Below.refl _ _) _)))) HBC.out (Kd.C_below HK.out (J_below (J_deep J0.out (below_alloc (Below.refl _ _) _)))) HKC.out (bytes_ev_s _ _ _ _ _ HBL.out)).mono ?_; rintro e w1 ⟨v1, rfl, hR, hb1⟩; obtain ⟨A1, c1, rfl⟩ := Kd.R_slice hR; have R1 := Aside0.mk hR; have J1 := Aside0.mk (J_deep J0.out (below_step (below_alloc (Below.refl _ _) _) hb1)); have q1 : w1.cell? ⟨w.heap.size, 1, none⟩ = some (.int .i64 n) := (blk_cell (blk_below (blk_new _ _) hb1) 1).trans rfl; clear hR hb1) | (go_at_call 22; refine (J_Write J1.out HL.out n _ _ _ _ _ R1.out _ _ HX.out).mono ?_; rintro e w2 ⟨rfl, hJ, ho⟩; have J2 := Aside0.mk (JR_of_s R1.out ho hJ (J_below (J_deep J0.out (below_alloc (Below.refl _ _) _))).size); clear hJ ho J1 R1))
    obtain ⟨m, hm⟩ : ∃ m, m = (wbx_s b sh).length := ⟨_, rfl⟩
    rw [← hm] at J2
    simp only [← hm]
    clear hm
    have hm9 := JR_m_s J2.out
    go_wp2
    go_loopw [7] (fun v7 wr => ∃ i : Nat, v7 = .int .i64 (i : Int) ∧ i ≤ m ∧ Aside0 (JR_s w0 wr p s' A1 m)) (fun v7 _ => m - (intOf v7).toNat)
    case atStart => exact ⟨0, rfl, Nat.zero_le _, J2⟩
    case round =>
      clear J2
      obtain ⟨i, rfl, hi, HJ⟩ := hrel
      by_cases e1 : i < m
      · have e1b : decide (i < m) = true := decide_eq_true e1
        obtain ⟨g, x, rfl, hx, hf, NJ⟩ := JR_at_s HJ.out i e1 (.int .u8 99)
        have NJ := Aside0.mk NJ
        go_wp2
        go_roundw
        case rel => exact ⟨i + 1, by go_num, by omega, NJ⟩
        case measure => simp [intOf]; omega
      · have e1b : decide (i < m) = false := decide_eq_false e1
        go_wp2
        go_ret
        exact ⟨rfl, JR_J_s HJ.out⟩
  by_cases k2 : k = 2
  · subst k2
    have HX := Aside0.mk (show flx s = (s', e') from hx)
    clear hx k1
    go_enter Try.func20, Try.ntmps20
    go_wp2_with (go_at_call 24; refine (J_Flush (J_deep J0.out (below_alloc (Below.refl _ _) _)) HL.out _ _ HX.out).mono ?_; rintro e w2 ⟨rfl, hJ, ho⟩; have J2 := Aside0.mk hJ; clear hJ ho)
    go_ret
    exact ⟨rfl, J2.out⟩
  by_cases k3 : k = 3
  · subst k3
    have HX := Aside0.mk (show (fzx s n, (0 : Int)) = (s', e') from hx)
    clear hx k1 k2
    go_enter Try.func20, Try.ntmps20
    go_wp2_with (go_at_call 26; refine (J_Fuse (J_deep J0.out (below_alloc (Below.refl _ _) _)) n).mono ?_; rintro e w2 ⟨rfl, hJ, ho⟩; have J2 := Aside0.mk hJ; clear hJ ho)
    go_ret
    have hx := HX.out
    injection hx with e1 e2
    subst e1 e2
    exact ⟨rfl, J2.out⟩
  by_cases k4 : k = 4
  · subst k4
    have HX := Aside0.mk (show (crx s keep, (0 : Int)) = (s', e') from hx)
    clear hx k1 k2 k3
    go_enter Try.func20, Try.ntmps20
    go_wp2_with (go_at_call 21; refine (J_Crash (J_deep J0.out (below_alloc (Below.refl _ _) _)) HL.out _ _ keep (fun W _ hB => Kd.C_below HK.out hB)).mono ?_; rintro e w2 ⟨rfl, hJ, ho⟩; have J2 := Aside0.mk hJ; clear hJ ho)
    go_ret
    have hx := HX.out
    injection hx with e1 e2
    subst e1 e2
    exact ⟨rfl, J2.out⟩
  have d1 : decide (k = 1) = false := decide_eq_false k1
  have d2 : decide (k = 2) = false := decide_eq_false k2
  have d3 : decide (k = 3) = false := decide_eq_false k3
  have d4 : decide (k = 4) = false := decide_eq_false k4
  by_cases k5 : k = 5
  · subst k5
    have HX := Aside0.mk (show (s, (rdx s n).2) = (s', e') from hx)
    clear hx k1 k2 k3 k4 d1 d2 d3 d4
    go_enter Try.func20, Try.ntmps20
    go_upto_region 18 with (go_at_call 16; refine (J_Read (J_deep J0.out (below_alloc (Below.refl _ _) _)) n (rdx s n).1 (rdx s n).2 rfl).mono ?_; rintro e w1 ⟨v1, rfl, hf, hJ, hb⟩; obtain ⟨A1, rfl, j1⟩ := JR_read_s (J_deep J0.out (below_alloc (Below.refl _ _) _)) hb hf; have J1 := Aside0.mk j1; clear hf hJ hb j1)
    obtain ⟨m, hm⟩ : ∃ m, m = (rdx s n).1.length := ⟨_, rfl⟩
    rw [← hm] at J1
    simp only [← hm]
    clear hm
    have hm9 := JR_m_s J1.out
    go_wp2
    go_loopw [10] (fun v10 wr => ∃ i : Nat, v10 = .int .i64 (i : Int) ∧ i ≤ m ∧ Aside0 (JR_s w0 wr p s A1 m)) (fun v10 _ => m - (intOf v10).toNat)
    case atStart => exact ⟨0, rfl, Nat.zero_le _, J1⟩
    case round =>
      clear J1
      obtain ⟨i, rfl, hi, HJ⟩ := hrel
      by_cases e1 : i < m
      · have e1b : decide (i < m) = true := decide_eq_true e1
        obtain ⟨g, x, rfl, hx, hf, NJ⟩ := JR_at_s HJ.out i e1 (.int .u8 98)
        have NJ := Aside0.mk NJ
        go_wp2
        go_roundw
        case rel => exact ⟨i + 1, by go_num, by omega, NJ⟩
        case measure => simp [intOf]; omega
      · have e1b : decide (i < m) = false := decide_eq_false e1
        go_wp2
        go_ret
        have hx := HX.out
        injection hx with e1 e2
        subst e1 e2
        exact ⟨rfl, JR_J_s HJ.out⟩
  have d5 : decide (k = 5) = false := decide_eq_false k5
  have HX := Aside0.mk (show (s, (0 : Int)) = (s', e') by rw [← hx]; unfold plx_s; rw [if_neg k1, if_neg k2, if_neg k3, if_neg k4, if_neg k5])
  clear hx
  go_enter Try.func20, Try.ntmps20
  go_wp2
  go_ret
  have hx := HX.out
  injection hx with e1 e2
  subst e1 e2
  exact ⟨rfl, J_deep J0.out (below_alloc (Below.refl _ _) _)⟩
theorem pcs_len_s (i : Int) (b : List Int) : (pcs i b).length = 4 := by simp [pcs]
theorem pwx_len_s (s : Dk) : (pwx s).1.pend = s.pend := (pwx_keeps s).1
theorem wrx_len_s (s : Dk) (i : Int) (b : List Int) : (wrx s i b).1.pend.length ≤ s.pend.length + 4 := by
  unfold wrx
  split
  · split
    · simp [pcs_len_s, pwx_len_s]
    · simp [pwx_len_s]
  · simp
theorem flx_len_s (s : Dk) : (flx s).1.pend.length ≤ s.pend.length := by
  unfold flx
  split
  · simp [stl]
  · simp [pwx_len_s]
theorem wrx_nb_s (s : Dk) (i : Int) (b : List Int) : (wrx s i b).1.nb = s.nb := by
  unfold wrx
  split
  · split
    · simp [pwx_keeps]
    · simp [pwx_keeps]
  · rfl
theorem flx_nb_s (s : Dk) : (flx s).1.nb = s.nb := by
  unfold flx
  split
  · simp [stl, pwx_keeps]
  · simp [pwx_keeps]
theorem crx_nb_s (s : Dk) (k : List Bool) : (crx s k).nb = s.nb := rfl
theorem fzx_nb_s (s : Dk) (k : Int) : (fzx s k).nb = s.nb := by unfold fzx; split <;> rfl
theorem plx_len_s (s : Dk) (k n : Int) (b : List Int) (sh : Bool) (keep : List Bool) : (plx_s s k n b sh keep).1.pend.length ≤ s.pend.length + 4 := by
  unfold plx_s
  split
  · exact wrx_len_s _ _ _
  split
  · have := flx_len_s s; omega
  split
  · unfold fzx; split <;> simp
  split
  · simp [crx, stl]
  split <;> simp
theorem plx_nb_s (s : Dk) (k n : Int) (b : List Int) (sh : Bool) (keep : List Bool) : (plx_s s k n b sh keep).1.nb = s.nb := by
  unfold plx_s
  split
  · exact wrx_nb_s _ _ _
  split
  · exact flx_nb_s s
  split
  · exact fzx_nb_s s n
  split
  · rfl
  split <;> rfl
/- What is safe, and pending, and there. -/
set_option maxRecDepth 8000 in
theorem sp8_get_s {L X : List Int} {o : Nat} (h : o + X.length ≤ L.length) (i : Nat) : (sp8 L o X)[i]? = if o ≤ i ∧ i < o + X.length then X[i - o]? else L[i]? := by
  unfold sp8
  by_cases c1 : i < o
  · rw [if_neg (by omega), List.append_assoc, List.getElem?_append_left (by rw [List.length_take]; omega), List.getElem?_take, if_pos c1]
  · by_cases c2 : i < o + X.length
    · rw [if_pos ⟨by omega, c2⟩, List.getElem?_append_left (by rw [List.length_append, List.length_take]; omega), List.getElem?_append_right (by rw [List.length_take]; omega), List.length_take, Nat.min_eq_left (by omega)]
    · rw [if_neg (by omega), List.getElem?_append_right (by rw [List.length_append, List.length_take]; omega), List.length_append, List.length_take, List.getElem?_drop]
      congr 1
      omega
def aps_s (P : List Pc) (F : List Int) : List Int := P.foldl (fun F x => sp8 F (x.bl.toNat * 256 + x.at_.toNat) x.b) F
set_option maxRecDepth 8000 in
theorem rdP_eq_s {P : List Pc} {j : Nat} (h : j < P.length) : P[j]? = some (rdP P j) := by
  unfold rdP
  rw [List.getD_eq_getElem?_getD, List.getElem?_eq_getElem h]; rfl
set_option maxRecDepth 8000 in
theorem keepF_aps_s (P : List Pc) (F : List Int) : ∀ j, j ≤ P.length → keepF (fun _ => true) P j F = aps_s (P.take j) F
  | 0, _ => rfl
  | j + 1, hj => by
    have e : P.take (j + 1) = P.take j ++ [rdP P j] := by rw [List.take_add_one, rdP_eq_s (by omega)]; rfl
    unfold keepF
    rw [if_pos rfl, keepF_aps_s P F j (by omega), e]
    unfold aps_s
    rw [List.foldl_append]
    rfl
set_option maxRecDepth 8000 in
theorem keepF_all_s (P : List Pc) (F : List Int) : keepF (fun _ => true) P P.length F = aps_s P F := by
  rw [keepF_aps_s P F _ (Nat.le_refl _), List.take_of_length_le (Nat.le_refl _)]
def inB_s (x : Pc) (i : Nat) : Prop := x.bl.toNat * 256 ≤ i ∧ i < x.bl.toNat * 256 + 256
set_option maxRecDepth 8000 in
theorem keepF_far_s {s : Dk} (h : s.Ok) (kept : Nat → Bool) (i : Nat) : ∀ j, j ≤ s.pend.length → (∀ k, k < j → ¬ inB_s (rdP s.pend k) i) → (keepF kept s.pend j s.safe)[i]? = s.safe[i]?
  | 0, _, _ => rfl
  | j + 1, hj, hk => by
    have ih := keepF_far_s h kept i j (by omega) (fun k hk' => hk k (by omega))
    obtain ⟨h1, h2, h3, h4, h5⟩ := h.pend _ (rdP_mem (show j < s.pend.length by omega))
    have hf : (rdP s.pend j).bl.toNat * 256 + (rdP s.pend j).at_.toNat + (rdP s.pend j).b.length ≤ (keepF kept s.pend j s.safe).length := by rw [keepF_len h kept j (by omega), h5, h.safe]; omega
    unfold keepF
    split
    · have := hk j (by omega)
      unfold inB_s at this
      rw [sp8_get_s hf, if_neg (by rw [h5]; omega), ih]
    · exact ih
set_option maxRecDepth 8000 in
theorem backF_get_s {s : Dk} (h : s.Ok) (F : List Int) (hF : F.length = s.safe.length) (i : Nat) : ∀ j, j ≤ s.pend.length → (backF F s.pend j s.now)[i]? = F[i]? ∨ ((∀ k, k < j → ¬ inB_s (rdP s.pend k) i) ∧ (backF F s.pend j s.now)[i]? = s.now[i]?)
  | 0, _ => .inr ⟨fun k hk => by omega, rfl⟩
  | j + 1, hj => by
    have ih := backF_get_s h F hF i j (by omega)
    obtain ⟨h1, h2, h3, h4, h5⟩ := h.pend _ (rdP_mem (show j < s.pend.length by omega))
    have hc : (cut8 F ((rdP s.pend j).bl.toNat * 256) 256).length = 256 := cut8_len (by rw [hF, h.safe]; omega)
    have hf : (rdP s.pend j).bl.toNat * 256 + (cut8 F ((rdP s.pend j).bl.toNat * 256) 256).length ≤ (backF F s.pend j s.now).length := by rw [backF_len h F hF j (by omega), hc, h.now]; omega
    unfold backF
    rw [sp8_get_s hf, hc]
    by_cases c : (rdP s.pend j).bl.toNat * 256 ≤ i ∧ i < (rdP s.pend j).bl.toNat * 256 + 256
    · rw [if_pos c, cut8_at (by omega)]
      refine .inl ?_
      congr 1
      omega
    · rw [if_neg c]
      rcases ih with ih | ⟨ih1, ih2⟩
      · exact .inl ih
      · refine .inr ⟨fun k hk => ?_, ih2⟩
        by_cases e : k = j
        · subst e; exact c
        · exact ih1 k (by omega)
def Nw_s (s : Dk) : Prop := s.Ok ∧ s.now = aps_s s.pend s.safe
set_option maxRecDepth 8000 in
theorem stl_eq_s {s : Dk} (h : Nw_s s) (kept : Nat → Bool) : stl kept s = {s with safe := keepF kept s.pend s.pend.length s.safe, now := keepF kept s.pend s.pend.length s.safe, pend := []} := by
  obtain ⟨h, hn⟩ := h
  unfold stl
  congr 1
  apply List.ext_getElem?
  intro i
  rcases backF_get_s h _ (keepF_len h kept _ (Nat.le_refl _)) i _ (Nat.le_refl _) with e | ⟨e1, e2⟩
  · exact e
  · rw [e2, keepF_far_s h kept i _ (Nat.le_refl _) e1, hn, ← keepF_all_s, keepF_far_s h _ i _ (Nat.le_refl _) e1]
set_option maxRecDepth 8000 in
theorem stl_Nw_s {s : Dk} (h : Nw_s s) (kept : Nat → Bool) : Nw_s (stl kept s) := by
  refine ⟨stl_ok h.1 kept, ?_⟩
  rw [stl_eq_s h]
  rfl
set_option maxRecDepth 8000 in
theorem Nw_set_s {s s' : Dk} (h : Nw_s s) (h1 : s'.now = s.now) (h2 : s'.safe = s.safe) (h3 : s'.pend = s.pend) (h4 : s'.nb = s.nb) : Nw_s s' := by
  refine ⟨⟨by rw [h4]; exact h.1.nb0, by rw [h4]; exact h.1.nb1, by rw [h1, h4]; exact h.1.now, by rw [h2, h4]; exact h.1.safe, by rw [h3, h4]; exact h.1.pend⟩, by rw [h1, h2, h3]; exact h.2⟩
set_option maxRecDepth 8000 in
theorem pwx_Nw_s {s : Dk} (h : Nw_s s) : Nw_s (pwx s).1 :=
  Nw_set_s h (pwx_keeps s).2.2.1 (pwx_keeps s).2.2.2 (pwx_keeps s).1 (pwx_keeps s).2.1
set_option maxRecDepth 8000 in
theorem pcs_aps_s {L b : List Int} {n : Nat} (hb : b.length = 256) (hL : n * 256 + 256 ≤ L.length) : aps_s (pcs (n : Int) b) L = sp8 L (n * 256) b := by
  have l0 : (cut8 b 0 64).length = 64 := cut8_len (by omega)
  have l1 : (cut8 b 64 64).length = 64 := cut8_len (by omega)
  have l2 : (cut8 b 128 64).length = 64 := cut8_len (by omega)
  have l3 : (cut8 b 192 64).length = 64 := cut8_len (by omega)
  show sp8 (sp8 (sp8 (sp8 L (n * 256 + 0) (cut8 b 0 64)) (n * 256 + 64) (cut8 b 64 64)) (n * 256 + 128) (cut8 b 128 64)) (n * 256 + 192) (cut8 b 192 64) = _
  have f0 : n * 256 + 0 + (cut8 b 0 64).length ≤ L.length := by omega
  have m0 := sp8_len f0
  obtain ⟨L0, hL0⟩ : ∃ L0, L0 = sp8 L (n * 256 + 0) (cut8 b 0 64) := ⟨_, rfl⟩
  have g0 := fun i => sp8_get_s f0 i
  rw [← hL0] at m0 g0 ⊢
  have f1 : n * 256 + 64 + (cut8 b 64 64).length ≤ L0.length := by omega
  have m1 := sp8_len f1
  obtain ⟨L1, hL1⟩ : ∃ L1, L1 = sp8 L0 (n * 256 + 64) (cut8 b 64 64) := ⟨_, rfl⟩
  have g1 := fun i => sp8_get_s f1 i
  rw [← hL1] at m1 g1 ⊢
  have f2 : n * 256 + 128 + (cut8 b 128 64).length ≤ L1.length := by omega
  have m2 := sp8_len f2
  obtain ⟨L2, hL2⟩ : ∃ L2, L2 = sp8 L1 (n * 256 + 128) (cut8 b 128 64) := ⟨_, rfl⟩
  have g2 := fun i => sp8_get_s f2 i
  rw [← hL2] at m2 g2 ⊢
  have f3 : n * 256 + 192 + (cut8 b 192 64).length ≤ L2.length := by omega
  have f4 : n * 256 + b.length ≤ L.length := by omega
  apply List.ext_getElem?
  intro i
  rw [sp8_get_s f3, sp8_get_s f4, g2, g1, g0, l0, l1, l2, l3, hb]
  by_cases c : n * 256 ≤ i ∧ i < n * 256 + 256
  · rw [if_pos c]
    split
    · rw [cut8_at (by omega)]; congr 1; omega
    split
    · rw [cut8_at (by omega)]; congr 1; omega
    split
    · rw [cut8_at (by omega)]; congr 1; omega
    split
    · rw [cut8_at (by omega)]; congr 1; omega
    · omega
  · rw [if_neg c, if_neg (by omega), if_neg (by omega), if_neg (by omega), if_neg (by omega)]
set_option maxRecDepth 8000 in
theorem aps_len_s {s : Dk} (h : s.Ok) : (aps_s s.pend s.safe).length = s.nb * 256 := by
  rw [← keepF_all_s, keepF_len h _ _ (Nat.le_refl _), h.safe]
set_option maxRecDepth 8000 in
theorem wrx_Nw_s {s : Dk} (h : Nw_s s) (i : Int) (b : List Int) : Nw_s (wrx s i b).1 := by
  unfold wrx
  split
  · rename_i c
    have hp := pwx_Nw_s h
    obtain ⟨n, rfl, hn⟩ := hasB_nat c.1
    have k1 := (pwx_keeps s).2.1
    split
    · obtain ⟨t, ht⟩ : ∃ t, t = (pwx s).1 := ⟨_, rfl⟩
      rw [← ht] at hp k1 ⊢
      have ok := hp.1
      have hnow : n * 256 + 256 ≤ t.now.length := by rw [ok.now]; omega
      have L : ∀ o, o + 64 ≤ 256 → (cut8 b o 64).length = 64 := fun o ho => cut8_len (by rw [c.2]; omega)
      refine ⟨⟨ok.nb0, ok.nb1, ?_, ok.safe, ?_⟩, ?_⟩
      · show (sp8 t.now ((n : Int).toNat * 256) b).length = _
        rw [Int.toNat_natCast, sp8_len (by rw [c.2]; omega)]
        exact ok.now
      · intro x hx
        have hx : x ∈ t.pend ++ pcs (n : Int) b := hx
        rw [List.mem_append] at hx
        rcases hx with hx | hx
        · exact ok.pend x hx
        · show 0 ≤ x.bl ∧ x.bl < (t.nb : Int) ∧ _
          have : x = ⟨n, 0, cut8 b 0 64⟩ ∨ x = ⟨n, 64, cut8 b 64 64⟩ ∨ x = ⟨n, 128, cut8 b 128 64⟩ ∨ x = ⟨n, 192, cut8 b 192 64⟩ := by simpa [pcs] using hx
          rcases this with e | e | e | e <;> subst e <;> dsimp only <;> exact ⟨by omega, by omega, by omega, by omega, L _ (by omega)⟩
      · show sp8 t.now ((n : Int).toNat * 256) b = aps_s (t.pend ++ pcs (n : Int) b) t.safe
        have : aps_s (t.pend ++ pcs (n : Int) b) t.safe = aps_s (pcs (n : Int) b) (aps_s t.pend t.safe) := by unfold aps_s; rw [List.foldl_append]
        rw [this, ← hp.2, pcs_aps_s c.2 hnow, Int.toNat_natCast]
    · exact hp
  · exact h
set_option maxRecDepth 8000 in
theorem flx_Nw_s {s : Dk} (h : Nw_s s) : Nw_s (flx s).1 := by
  unfold flx
  split
  · exact stl_Nw_s (pwx_Nw_s h) _
  · exact pwx_Nw_s h
set_option maxRecDepth 8000 in
theorem fzx_Nw_s {s : Dk} (h : Nw_s s) (k : Int) : Nw_s (fzx s k) := by
  unfold fzx
  split
  · exact h
  · exact Nw_set_s h rfl rfl rfl rfl
set_option maxRecDepth 8000 in
theorem crx_Nw_s {s : Dk} (h : Nw_s s) (k : List Bool) : Nw_s (crx s k) := Nw_set_s (stl_Nw_s h _) rfl rfl rfl rfl
set_option maxRecDepth 8000 in
theorem new_Nw_s (n : Nat) (h0 : 1 ≤ n) (h1 : n ≤ 4096) : Nw_s ⟨n, List.replicate (n * 256) 0, List.replicate (n * 256) 0, [], false, 0, false⟩ :=
  ⟨⟨h0, h1, List.length_replicate .., List.length_replicate .., fun x hx => by cases hx⟩, rfl⟩
set_option maxRecDepth 8000 in
theorem plx_Nw_s {s : Dk} (h : Nw_s s) (k n : Int) (b : List Int) (sh : Bool) (keep : List Bool) : Nw_s (plx_s s k n b sh keep).1 := by
  unfold plx_s
  split
  · exact wrx_Nw_s h _ _
  split
  · exact flx_Nw_s h
  split
  · exact fzx_Nw_s h _
  split
  · exact crx_Nw_s h _
  split <;> exact h
/- A block is safe. -/
def Sf_s (s : Dk) (B : List Int) : Prop := Nw_s s ∧ s.nb = 24 ∧ (∀ i, i < 256 → s.safe[1792 + i]? = B[i]?) ∧ ∀ x ∈ s.pend, x.bl ≠ 7
set_option maxRecDepth 8000 in
theorem stl_Sf_s {s : Dk} {B : List Int} (h : Sf_s s B) (kept : Nat → Bool) : Sf_s (stl kept s) B := by
  refine ⟨stl_Nw_s h.1 kept, h.2.1, fun i hi => ?_, fun x hx => by cases hx⟩
  show (keepF kept s.pend s.pend.length s.safe)[1792 + i]? = _
  rw [keepF_far_s h.1.1 kept _ _ (Nat.le_refl _) (fun k hk hin => ?_)]
  · exact h.2.2.1 i hi
  · have h1 := h.2.2.2 _ (rdP_mem hk)
    have h2 := h.1.1.pend _ (rdP_mem hk)
    unfold inB_s at hin
    omega
set_option maxRecDepth 8000 in
theorem Sf_set_s {s s' : Dk} {B : List Int} (h : Sf_s s B) (h1 : s'.now = s.now) (h2 : s'.safe = s.safe) (h3 : s'.pend = s.pend) (h4 : s'.nb = s.nb) : Sf_s s' B :=
  ⟨Nw_set_s h.1 h1 h2 h3 h4, h4.trans h.2.1, by rw [h2]; exact h.2.2.1, by rw [h3]; exact h.2.2.2⟩
set_option maxRecDepth 8000 in
theorem pwx_Sf_s {s : Dk} {B : List Int} (h : Sf_s s B) : Sf_s (pwx s).1 B :=
  Sf_set_s h (pwx_keeps s).2.2.1 (pwx_keeps s).2.2.2 (pwx_keeps s).1 (pwx_keeps s).2.1
set_option maxRecDepth 8000 in
theorem plx_Sf_s {s : Dk} {B : List Int} (h : Sf_s s B) (k n : Int) (b : List Int) (sh : Bool) (keep : List Bool) (hn : ¬ (k = 1 ∧ n = 7)) : Sf_s (plx_s s k n b sh keep).1 B := by
  have hN := plx_Nw_s h.1 k n b sh keep
  have hb := plx_nb_s s k n b sh keep
  unfold plx_s at hN hb ⊢
  by_cases k1 : k = 1
  · rw [if_pos k1] at hN hb ⊢
    refine ⟨hN, hb.trans h.2.1, ?_, ?_⟩
    · unfold wrx
      split
      · split
        · have := (pwx_Sf_s h).2.2.1
          exact this
        · exact (pwx_Sf_s h).2.2.1
      · exact h.2.2.1
    · unfold wrx
      split
      · split
        · intro x hx
          have hx : x ∈ (pwx s).1.pend ++ pcs n (wbx_s b sh) := hx
          rw [List.mem_append] at hx
          rcases hx with hx | hx
          · exact (pwx_Sf_s h).2.2.2 x hx
          · have : x.bl = n := by
              have : x = ⟨n, 0, cut8 (wbx_s b sh) 0 64⟩ ∨ x = ⟨n, 64, cut8 (wbx_s b sh) 64 64⟩ ∨ x = ⟨n, 128, cut8 (wbx_s b sh) 128 64⟩ ∨ x = ⟨n, 192, cut8 (wbx_s b sh) 192 64⟩ := by simpa [pcs] using hx
              rcases this with e | e | e | e <;> rw [e]
            rw [this]
            exact fun e => hn ⟨k1, e⟩
        · exact (pwx_Sf_s h).2.2.2
      · exact h.2.2.2
  · rw [if_neg k1]
    split
    · unfold flx
      split
      · exact stl_Sf_s (pwx_Sf_s h) _
      · exact pwx_Sf_s h
    split
    · unfold fzx
      split
      · exact h
      · exact Sf_set_s h rfl rfl rfl rfl
    split
    · exact Sf_set_s (stl_Sf_s h _) rfl rfl rfl rfl
    split <;> exact h
/- Write and flush of block 7 behind a crash. -/
set_option maxRecDepth 8000 in
theorem hasB7_s {s : Dk} (h : s.nb = 24) : hasB s 7 = true := by unfold hasB; rw [h]; rfl
set_option maxRecDepth 8000 in
theorem pwx_on_s {s : Dk} (h1 : s.of = false) (h2 : s.fu = false) : (pwx s).2 = true ∧ (pwx s).1.of = false ∧ (pwx s).1.fu = false := by
  unfold pwx
  rw [h1, h2, if_neg (by simp)]
  exact ⟨rfl, rfl, rfl⟩
set_option maxRecDepth 8000 in
theorem put7_s {s : Dk} (h : Nw_s s) (hn : s.nb = 24) (B : List Int) (hB : B.length = 256) : ∃ s1 s2, wrx (crx s []) 7 B = (s1, 0) ∧ flx s1 = (s2, 0) ∧ Sf_s s2 B ∧ s1.pend.length ≤ 4 ∧ s2.pend.length = 0 := by
  obtain ⟨c, hc⟩ : ∃ c, c = crx s [] := ⟨_, rfl⟩
  have c1 : c.of = false ∧ c.fu = false ∧ c.nb = 24 ∧ c.pend = [] := by rw [hc]; exact ⟨rfl, rfl, hn, rfl⟩
  have cN : Nw_s c := by rw [hc]; exact crx_Nw_s h _
  rw [← hc]
  obtain ⟨p1, p2, p3⟩ := pwx_on_s c1.1 c1.2.1
  have k := pwx_keeps c
  obtain ⟨s1, hs1⟩ : ∃ s1, s1 = (wrx c 7 B).1 := ⟨_, rfl⟩
  have e1 : wrx c 7 B = (s1, 0) := by
    rw [hs1]; unfold wrx; rw [if_pos ⟨hasB7_s c1.2.2.1, hB⟩, if_pos p1]
  have N1 : Nw_s s1 := by rw [hs1]; exact wrx_Nw_s cN _ _
  have q : s1.of = false ∧ s1.fu = false ∧ s1.nb = 24 ∧ s1.now = sp8 c.now (7 * 256) B ∧ s1.pend = pcs 7 B := by
    rw [hs1]; unfold wrx; rw [if_pos ⟨hasB7_s c1.2.2.1, hB⟩, if_pos p1]
    refine ⟨p2, p3, k.2.1.trans c1.2.2.1, ?_, ?_⟩
    · show sp8 (pwx c).1.now (7 * 256) B = _; rw [k.2.2.1]
    · show (pwx c).1.pend ++ pcs 7 B = _; rw [k.1, c1.2.2.2]; rfl
  obtain ⟨r1, r2, r3⟩ := pwx_on_s q.1 q.2.1
  have k' := pwx_keeps s1
  have e2 : flx s1 = (stl (fun _ => true) (pwx s1).1, 0) := by unfold flx; rw [if_pos r1]
  refine ⟨s1, _, e1, e2, ⟨stl_Nw_s (pwx_Nw_s N1) _, k'.2.1.trans q.2.2.1, fun i hi => ?_, fun x hx => by cases hx⟩, by rw [q.2.2.2.2, pcs_len_s]; omega, rfl⟩
  show (keepF _ (pwx s1).1.pend (pwx s1).1.pend.length (pwx s1).1.safe)[1792 + i]? = _
  rw [keepF_all_s, ← (pwx_Nw_s N1).2, k'.2.2.1, q.2.2.2.1, sp8_get_s (by rw [hB, cN.1.now, c1.2.2.1]; decide), if_pos (by omega)]
  congr 1
  omega
set_option maxRecDepth 8000 in
theorem end7_s {s : Dk} {B : List Int} (h : Sf_s s B) (hB : B.length = 256) : rdx (crx s []) 7 = (B, 0) := by
  obtain ⟨c, hc⟩ : ∃ c, c = crx s [] := ⟨_, rfl⟩
  have c1 : c.of = false ∧ c.nb = 24 ∧ c.pend = [] := by rw [hc]; exact ⟨rfl, h.2.1, rfl⟩
  have cS : Sf_s c B := by rw [hc]; exact Sf_set_s (stl_Sf_s h _) rfl rfl rfl rfl
  rw [← hc]
  unfold rdx
  rw [if_pos (hasB7_s c1.2.1), c1.1, if_neg (by decide)]
  congr 1
  have e : c.now = c.safe := by rw [cS.1.2, c1.2.2]; rfl
  rw [e]
  apply List.ext_getElem?
  intro i
  by_cases c : i < 256
  · rw [cut8_at c]; exact cS.2.2.1 i c
  · rw [List.getElem?_eq_none (by rw [cut8_len (by rw [cS.1.1.safe, c1.2.1]; decide)]; omega), List.getElem?_eq_none (by omega)]
set_option maxRecDepth 20000 in
theorem small_ev_s (k n : Int) (b : List Int) (sh : Bool) (keep : List Bool) (h1 : b.length ≤ 300) (h2 : keep.length ≤ 300) : marginalialaw14_Act_small.f k n b sh keep = some true := by
  unfold marginalialaw14_Act_small.f
  rw [if_pos (by omega)]
  have : (keep.length : Int) ≤ 300 := by omega
  simp [this]
set_option maxRecDepth 20000 in
theorem small_no_s (k n : Int) (b : List Int) (sh : Bool) (keep : List Bool) (h : ¬ (b.length ≤ 300 ∧ keep.length ≤ 300)) : marginalialaw14_Act_small.f k n b sh keep = some false := by
  unfold marginalialaw14_Act_small.f
  split
  · have : ¬ (keep.length : Int) ≤ 300 := by omega
    simp [this]
  · rfl
theorem exec_conv_s {P : Program} {ρ : Operand → Value} {o : Oper} {s d : TypeId} {x : Operand} {w w1 : World} {v : Value} (ho : o.op = .convert s d x) (h : Sem.run P (convert s d (ρ x)) w = .ok v w1) :
    (execOp ρ o).run P w = .ok (.value v) w1 := by
  unfold execOp
  simp only [ho, Sem.run_bind, h, Result.andThen_ok, Sem.run_pure]
theorem act_at_s {w0 : World} {A : Option Addr} {l : List S35} (h : Kd.C k35 w0 A l.length l) (j : Nat) (hj : j < l.length) : ∃ ad A2 c2 A4 c4 k n b sh keep, A = some ad ∧ (∀ w, Below w0.heap.size w0 w → w.cell? (ad.add (j * 5)) = some (.int .i64 k) ∧ w.cell? ⟨(ad.add (j * 5)).block, (ad.add (j * 5)).off + 1, none⟩ = some (.int .i64 n) ∧ w.cell? ⟨(ad.add (j * 5)).block, (ad.add (j * 5)).off + 2, none⟩ = some (.slice A2 b.length c2) ∧ w.cell? ⟨(ad.add (j * 5)).block, (ad.add (j * 5)).off + 3, none⟩ = some (.bool sh) ∧ w.cell? ⟨(ad.add (j * 5)).block, (ad.add (j * 5)).off + 4, none⟩ = some (.slice A4 keep.length c4)) ∧ b.length ≤ c2 ∧ Kd.C (Kd.int .u8) w0 A2 b.length b ∧ keep.length ≤ c4 ∧ Kd.C Kd.bool w0 A4 keep.length keep := by
  obtain ⟨ad, A2, c2, A4, c4, ea, y0, y1, y2, y3, y4, l2, C2, l4, C4⟩ := at_T35 h (j : Int) (by omega) (by omega)
  simp only [Int.toNat_natCast] at y0 y1 y2 y3 y4
  exact ⟨ad, A2, c2, A4, c4, _, _, _, _, _, ea, fun w hb => ⟨pw_cell_below hb y0, pw_cell_below hb y1, pw_cell_below hb y2, pw_cell_below hb y3, pw_cell_below hb y4⟩, l2, C2, l4, C4⟩
set_option maxRecDepth 20000 in
set_option maxHeartbeats 16000000 in
theorem law_Safe_s (A0 : Option Addr) (c0 : Nat) (l0 : List S35) (A1 : Option Addr) (c1 : Nat) (l1 : List Int) (A2 : Option Addr) (c2 : Nat) (l2 : List S35) (w : World) (hr0 : Kd.C k35 w A0 l0.length l0) (hr1 : Kd.C (Kd.int .u8) w A1 l1.length l1) (hc1 : l1.length ≤ c1) (hr2 : Kd.C k35 w A2 l2.length l2) : Calls Try.prog 4 #[.slice A0 l0.length c0, .slice A1 l1.length c1, .slice A2 l2.length c2] w fun e w' => e = .returned (.bool true) ∧ Below w.heap.size w w' := by
  have HR0 := Aside0.mk hr0
  have HR1 := Aside0.mk hr1
  have HC1 := Aside0.mk hc1
  have HR2 := Aside0.mk hr2
  have m0 := Kd.C_max hr0
  have m1 := Kd.C_max hr1
  have m2 := Kd.C_max hr2
  clear hr0 hr1 hc1 hr2
  by_cases q1 : 300 < l1.length
  · have q1b : decide (300 < l1.length) = true := decide_eq_true q1
    go_enter Try.func4, Try.ntmps4
    go_wp2_with (go_at_call 14; refine (J_New _ 24 (by decide) (by decide)).mono ?_; rintro e w1 ⟨p, rfl, hJ⟩; have J1 := Aside0.mk hJ; clear hJ)
    go_ret
    exact ⟨rfl, J_below J1.out⟩
  have q1b : decide (300 < l1.length) = false := decide_eq_false q1
  have HL1 := Aside0.mk (show l1.length ≤ 300 by omega)
  go_enter Try.func4, Try.ntmps4
  go_wp2_with (go_at_call 14; refine (J_New _ 24 (by decide) (by decide)).mono ?_; rintro e w1 ⟨p, rfl, hJ⟩; have J1 := Aside0.mk hJ; clear hJ)
  go_loopw [9] (fun v9 wr => ∃ (j : Nat) (s : Dk), v9 = .int .i64 (j : Int) ∧ j ≤ l0.length ∧ j ≤ 40 ∧ Aside0 (Nw_s s ∧ s.nb = 24 ∧ s.pend.length ≤ 4 * j) ∧ Aside0 (J w wr p s)) (fun v9 _ => l0.length - (intOf v9).toNat)
  case atStart => exact ⟨0, _, rfl, Nat.zero_le _, Nat.zero_le _, ⟨new_Nw_s 24 (by decide) (by decide), rfl, by simp⟩, J1⟩
  case round =>
    clear J1
    obtain ⟨j, s, rfl, hj, hj2, HI, HJ⟩ := hrel
    by_cases d0 : j < l0.length ∧ j < 40
    · obtain ⟨d1, d2⟩ := d0
      have d1b : decide (j < l0.length) = true := decide_eq_true d1
      have d2b : decide (j < 40) = true := decide_eq_true d2
      obtain ⟨ad, A5, c5, A6, c6, k, n, b, sh, keep, rfl, hy, l5, C5, l6, C6⟩ := act_at_s HR0.out j d1
      have HY := Aside0.mk hy
      have L5 := Aside0.mk l5
      have C5 := Aside0.mk C5
      have L6 := Aside0.mk l6
      have C6 := Aside0.mk C6
      obtain ⟨y0, y1, y2, y3, y4⟩ := hy _ (J_below HJ.out)
      clear hy l5 l6
      by_cases e1 : b.length ≤ 300 ∧ keep.length ≤ 300
      · have EV := Aside0.mk (small_ev_s k n b sh keep e1.1 e1.2)
        have LB := Aside0.mk e1.1
        clear e1
        obtain ⟨⟨s', e'⟩, hx⟩ : ∃ x, plx_s s k n b sh keep = x := ⟨_, rfl⟩
        have NI := Aside0.mk (show Nw_s s' ∧ s'.nb = 24 ∧ s'.pend.length ≤ 4 * (j + 1) by
          have h1 := plx_Nw_s HI.out.1 k n b sh keep
          have h2 := plx_nb_s s k n b sh keep
          have h3 := plx_len_s s k n b sh keep
          rw [hx] at h1 h2 h3
          have := HI.out.2
          exact ⟨h1, h2.trans this.1, by dsimp only at h3; omega⟩)
        have HX := Aside0.mk hx
        clear hx
        go_wp2_with (first | (go_at_call 19; refine (marginalialaw14_Act_small.calls k n _ _ b sh _ _ keep true _ (Kd.C_below C5.out (J_below HJ.out)) L5.out (Kd.C_below C6.out (J_below HJ.out)) L6.out EV.out).mono ?_; rintro e w2 ⟨rfl, hb⟩; have J2 := Aside0.mk (J_deep HJ.out hb); obtain ⟨z0, z1, z2, z3, z4⟩ := HY.out _ (J_below J2.out); clear hb HJ y0 y1 y2 y3 y4) | (go_at_call 20; refine (J_play_s J2.out (by have := HI.out.2.2; omega) k n _ _ b sh _ _ keep C5.out L5.out LB.out C6.out L6.out s' e' HX.out).mono ?_; rintro e w3 ⟨rfl, hJ⟩; have J3 := Aside0.mk hJ; clear hJ J2 z0 z1 z2 z3 z4))
        go_roundw
        case rel => exact ⟨j + 1, s', by go_num, by omega, by omega, NI, J3⟩
        case measure => simp [intOf]; omega
      · have EV := Aside0.mk (small_no_s k n b sh keep e1)
        clear e1
        go_wp2_with (go_at_call 19; refine (marginalialaw14_Act_small.calls k n _ _ b sh _ _ keep false _ (Kd.C_below C5.out (J_below HJ.out)) L5.out (Kd.C_below C6.out (J_below HJ.out)) L6.out EV.out).mono ?_; rintro e w2 ⟨rfl, hb⟩; have J2 := Aside0.mk (J_deep HJ.out hb); clear hb HJ y0 y1 y2 y3 y4)
        go_roundw
        case rel => exact ⟨j + 1, s, by go_num, by omega, by omega, ⟨HI.out.1, HI.out.2.1, by have := HI.out.2.2; omega⟩, J2⟩
        case measure => simp [intOf]; omega
    · obtain ⟨B, hB⟩ : ∃ B, B = blkOf l1 := ⟨_, rfl⟩
      have BL := Aside0.mk (show B.length = 256 by rw [hB]; exact blkOf_len _)
      obtain ⟨s1, s2, g1, g2, g3, g4, g5⟩ := put7_s HI.out.1 HI.out.2.1 B BL.out
      have G1 := Aside0.mk g1
      have G2 := Aside0.mk g2
      have G3 := Aside0.mk (show Sf_s s2 B ∧ s2.pend.length ≤ 4 * 0 from ⟨g3, by omega⟩)
      have G4 := Aside0.mk g4
      have EVB := Aside0.mk (show marginaliaref14_Block.f 300 l1 = some B by rw [hB]; exact Block_ev l1 (by omega))
      clear g1 g2 g3 g4 g5 hB
      have dd : (decide (j < l0.length) && decide (j < 40)) = false := by
        cases h1 : decide (j < l0.length) with
        | false => rfl
        | true => cases h2 : decide (j < 40) with
          | false => rfl
          | true => exact absurd ⟨of_decide_eq_true h1, of_decide_eq_true h2⟩ d0
      have PB := Aside0.mk (show s.pend.length ≤ 1000 by have := HI.out.2.2; omega)
      by_cases d1 : j < l0.length
      · have d1b : decide (j < l0.length) = true := decide_eq_true d1
        have d2b : decide (j < 40) = false := decide_eq_false (by omega)
        have d2 : ¬ j < 40 := by omega
        clear dd
        go_wp2_with (first | (go_at_call 21; refine (J_Crash HJ.out (by have := PB.out; omega) _ _ [] (fun W _ _ => Kd.C_nil _ _)).mono ?_; rintro e w2 ⟨rfl, hJ, ho⟩; have J2 := Aside0.mk hJ; clear hJ ho HJ) | (go_at_call 23; refine (marginaliaref14_Block.calls 300 _ _ l1 B _ (Kd.C_below HR1.out (J_below J2.out)) HC1.out EVB.out).mono ?_; rintro e w3 ⟨v3, rfl, hR, hb⟩; obtain ⟨A3, c3, rfl⟩ := Kd.R_slice hR; have R3 := Aside0.mk hR; have J3 := Aside0.mk (J_deep J2.out hb); clear hR hb J2) | (go_at_call 22; refine (J_Write J3.out (by show ([] : List Pc).length ≤ 100000; decide) 7 _ _ _ _ _ R3.out _ _ G1.out).mono ?_; rintro e w4 ⟨rfl, hJ, ho⟩; have J4 := Aside0.mk hJ; clear hJ ho J3 R3) | (go_at_call 24; refine (J_Flush J4.out (by have := G4.out; omega) _ _ G2.out).mono ?_; rintro e w5 ⟨rfl, hJ, ho⟩; have J5 := Aside0.mk hJ; clear hJ ho J4))
        clear d0 d1 d1b hj hj2
        go_loopw [12] (fun v12 wr => ∃ (j : Nat) (s : Dk), v12 = .int .i64 (j : Int) ∧ j ≤ l2.length ∧ j ≤ 40 ∧ Aside0 (Sf_s s B ∧ s.pend.length ≤ 4 * j) ∧ Aside0 (J w wr p s)) (fun v12 _ => l2.length - (intOf v12).toNat)
        case atStart => exact ⟨0, _, rfl, Nat.zero_le _, Nat.zero_le _, G3, J5⟩
        case round =>
          clear J5 G3 PB HI G1 G2 G4
          obtain ⟨i, s, rfl, hj, hj2, HI, HJ⟩ := hrel
          by_cases d0 : i < l2.length ∧ i < 40
          · obtain ⟨d1, d2⟩ := d0
            have d1b : decide (i < l2.length) = true := decide_eq_true d1
            have d2b : decide (i < 40) = true := decide_eq_true d2
            obtain ⟨ad, A5, c5, A6, c6, k, n, b, sh, keep, rfl, hy, l5, C5, l6, C6⟩ := act_at_s HR2.out i d1
            have HY := Aside0.mk hy
            have L5 := Aside0.mk l5
            have C5 := Aside0.mk C5
            have L6 := Aside0.mk l6
            have C6 := Aside0.mk C6
            obtain ⟨y0, y1, y2, y3, y4⟩ := hy _ (J_below HJ.out)
            clear hy l5 l6
            by_cases e1 : b.length ≤ 300 ∧ keep.length ≤ 300
            · have EV := Aside0.mk (small_ev_s k n b sh keep e1.1 e1.2)
              have LB := Aside0.mk e1.1
              clear e1
              by_cases t1 : k = 1
              · subst t1
                by_cases t2 : n = 7
                · subst t2
                  go_wp2_with (go_at_call 19; refine (marginalialaw14_Act_small.calls 1 7 _ _ b sh _ _ keep true _ (Kd.C_below C5.out (J_below HJ.out)) L5.out (Kd.C_below C6.out (J_below HJ.out)) L6.out EV.out).mono ?_; rintro e w2 ⟨rfl, hb⟩; have J2 := Aside0.mk (J_deep HJ.out hb); obtain ⟨z0, z1, z2, z3, z4⟩ := HY.out _ (J_below J2.out); clear hb HJ y0 y1 y2 y3 y4)
                  go_roundw
                  case rel => exact ⟨i + 1, s, by go_num, by omega, by omega, ⟨HI.out.1, by have := HI.out.2; omega⟩, J2⟩
                  case measure => simp [intOf]; omega
                · have t2b : (n == 7) = false := by simp [t2]
                  obtain ⟨⟨s', e'⟩, hx⟩ : ∃ x, plx_s s 1 n b sh keep = x := ⟨_, rfl⟩
                  have NI := Aside0.mk (show Sf_s s' B ∧ s'.pend.length ≤ 4 * (i + 1) by
                    have h1 := plx_Sf_s HI.out.1 1 n b sh keep (fun e => by omega)
                    have h3 := plx_len_s s 1 n b sh keep
                    rw [hx] at h1 h3
                    have := HI.out.2
                    exact ⟨h1, by dsimp only at h3; omega⟩)
                  have HX := Aside0.mk hx
                  clear hx
                  go_wp2_with (first | (go_at_call 19; refine (marginalialaw14_Act_small.calls 1 n _ _ b sh _ _ keep true _ (Kd.C_below C5.out (J_below HJ.out)) L5.out (Kd.C_below C6.out (J_below HJ.out)) L6.out EV.out).mono ?_; rintro e w2 ⟨rfl, hb⟩; have J2 := Aside0.mk (J_deep HJ.out hb); obtain ⟨z0, z1, z2, z3, z4⟩ := HY.out _ (J_below J2.out); clear hb HJ y0 y1 y2 y3 y4) | (go_at_call 20; refine (J_play_s J2.out (by have := HI.out.2; omega) 1 n _ _ b sh _ _ keep C5.out L5.out LB.out C6.out L6.out s' e' HX.out).mono ?_; rintro e w3 ⟨rfl, hJ⟩; have J3 := Aside0.mk hJ; clear hJ J2 z0 z1 z2 z3 z4))
                  go_roundw
                  case rel => exact ⟨i + 1, s', by go_num, by omega, by omega, NI, J3⟩
                  case measure => simp [intOf]; omega
              · have t1b : (k == 1) = false := by simp [t1]
                obtain ⟨⟨s', e'⟩, hx⟩ : ∃ x, plx_s s k n b sh keep = x := ⟨_, rfl⟩
                have NI := Aside0.mk (show Sf_s s' B ∧ s'.pend.length ≤ 4 * (i + 1) by
                  have h1 := plx_Sf_s HI.out.1 k n b sh keep (fun e => by omega)
                  have h3 := plx_len_s s k n b sh keep
                  rw [hx] at h1 h3
                  have := HI.out.2
                  exact ⟨h1, by dsimp only at h3; omega⟩)
                have HX := Aside0.mk hx
                clear hx
                go_wp2_with (first | (go_at_call 19; refine (marginalialaw14_Act_small.calls k n _ _ b sh _ _ keep true _ (Kd.C_below C5.out (J_below HJ.out)) L5.out (Kd.C_below C6.out (J_below HJ.out)) L6.out EV.out).mono ?_; rintro e w2 ⟨rfl, hb⟩; have J2 := Aside0.mk (J_deep HJ.out hb); obtain ⟨z0, z1, z2, z3, z4⟩ := HY.out _ (J_below J2.out); clear hb HJ y0 y1 y2 y3 y4) | (go_at_call 20; refine (J_play_s J2.out (by have := HI.out.2; omega) k n _ _ b sh _ _ keep C5.out L5.out LB.out C6.out L6.out s' e' HX.out).mono ?_; rintro e w3 ⟨rfl, hJ⟩; have J3 := Aside0.mk hJ; clear hJ J2 z0 z1 z2 z3 z4))
                go_roundw
                case rel => exact ⟨i + 1, s', by go_num, by omega, by omega, NI, J3⟩
                case measure => simp [intOf]; omega
            · have EV := Aside0.mk (small_no_s k n b sh keep e1)
              clear e1
              go_wp2_with (go_at_call 19; refine (marginalialaw14_Act_small.calls k n _ _ b sh _ _ keep false _ (Kd.C_below C5.out (J_below HJ.out)) L5.out (Kd.C_below C6.out (J_below HJ.out)) L6.out EV.out).mono ?_; rintro e w2 ⟨rfl, hb⟩; have J2 := Aside0.mk (J_deep HJ.out hb); clear hb HJ y0 y1 y2 y3 y4)
              go_roundw
              case rel => exact ⟨i + 1, s, by go_num, by omega, by omega, ⟨HI.out.1, by have := HI.out.2; omega⟩, J2⟩
              case measure => simp [intOf]; omega
          · have EE := Aside0.mk (end7_s HI.out.1 BL.out)
            have PB := Aside0.mk (show s.pend.length ≤ 1000 by have := HI.out.2; omega)
            by_cases d1 : i < l2.length
            · have d1b : decide (i < l2.length) = true := decide_eq_true d1
              have d2b : decide (i < 40) = false := decide_eq_false (by omega)
              have d2 : ¬ i < 40 := by omega
              go_upto_region 19 with (first | (go_at_call 21; refine (J_Crash HJ.out (by have := PB.out; omega) _ _ [] (fun W _ _ => Kd.C_nil _ _)).mono ?_; rintro e w7 ⟨rfl, hJ, ho⟩; have J7 := Aside0.mk hJ; clear hJ ho HJ) | (go_at_call 16; refine (J_Read J7.out 7 _ _ EE.out).mono ?_; rintro e w8 ⟨v8, rfl, hf, hJ, hb⟩; have J8 := Aside0.mk hJ; have F8 := Aside0.mk hf; clear hJ hb hf J7))
              obtain ⟨A8, rfl, hC8⟩ := frs_C F8.out
              have C8 := Aside0.mk hC8
              obtain ⟨S, hS⟩ : ∃ S, S = strOfNums B := ⟨_, rfl⟩
              have HS := Aside0.mk hS
              clear hC8 F8 hS d0 d1 d1b
              refine start_ (n := 22) (S := fun w' => Sem.run Try.prog (convert 27 9 (.slice A8 B.length B.length)) w' = .ok (.string S) w') (ds := []) #[false, false, false, false, false, false, false, false, false, false, false, false, false, false, false, false, false, false, false, false, false, false] (by kernel_rfl) rfl rfl ((by rw [HS.out]; exact Kd.C_string (P := Try.prog) (A := A8) (c := B.length) Try.underlying27 Try.underlying5 Try.underlying9 (Kd.C_below C8.out (below_drew (Below.refl _ _))))) (fun hHeld => ?_)
              refine one_ (i := 0) (N := some 106) #[true, false, false, false, false, false, false, false, false, false, false, false, false, false, false, false, false, false, false, false, false, false] rfl rfl (by kernel_rfl) (by decide) (fun K hK => ?_)
              refine goes_ Try.func15 (by kernel_rfl) rfl #[] (by rfl) rfl rfl (by simp only [List.map_toArray, List.map_cons, List.map_nil]) ?_
              with_reducible refine (disk_alive _).mono ?_
              rintro e w9 ⟨rfl, hb⟩
              refine ⟨_, rfl, ?_⟩
              have J9 := Aside0.mk (J_deep J8.out (below_step (below_drew (Below.refl _ _)) hb)); have C9 := Aside0.mk (Kd.C_below C8.out (below_step (below_drew (Below.refl _ _)) hb)); clear hb
              refine hK.out _ _ ((by rw [HS.out]; exact Kd.C_string (P := Try.prog) (A := A8) (c := B.length) Try.underlying27 Try.underlying5 Try.underlying9 (C9.out))) (fun hHeld => ?_)
              clear hK K
              refine norm_ (a' := ?_) ?_ ?_
              rotate_left
              · show Act.put _ (some 106) _ = _
                simp only [Act.put, List.setIfInBounds_toArray, List.set_cons_zero, List.set_cons_succ, i64_w, i32_w]
                rfl
              refine pure_ (i := 1) (N := some 107) (v := ?_) (a' := ?_) #[true, true, false, false, false, false, false, false, false, false, false, false, false, false, false, false, false, false, false, false, false, false] rfl rfl (by kernel_rfl) (fun _ _ _ h => h) (Or.inl ⟨by rfl, ?_⟩) ?_ ?_
              rotate_left
              · intro w'
                go_simp
                with_reducible rfl
              rotate_left
              · simp only [Act.put, List.setIfInBounds_toArray, List.set_cons_zero, List.set_cons_succ, i64_w, i32_w]
                rfl
              refine pure_ (i := 2) (N := some 108) (v := ?_) (a' := ?_) #[true, true, true, false, false, false, false, false, false, false, false, false, false, false, false, false, false, false, false, false, false, false] rfl rfl (by kernel_rfl) (fun _ _ _ h => h) (Or.inl ⟨by rfl, ?_⟩) ?_ ?_
              rotate_left
              · intro w'
                go_simp
                with_reducible rfl
              rotate_left
              · simp only [Act.put, List.setIfInBounds_toArray, List.set_cons_zero, List.set_cons_succ, i64_w, i32_w]
                rfl
              refine pure_ (i := 3) (N := some 109) (v := ?_) (a' := ?_) #[true, true, true, true, false, false, false, false, false, false, false, false, false, false, false, false, false, false, false, false, false, false] rfl rfl (by kernel_rfl) (fun _ _ _ h => h) (Or.inl ⟨by rfl, ?_⟩) ?_ ?_
              rotate_left
              · intro w'
                go_simp
                with_reducible rfl
              rotate_left
              · simp only [Act.put, List.setIfInBounds_toArray, List.set_cons_zero, List.set_cons_succ, i64_w, i32_w]
                rfl
              refine pure_ (i := 4) (N := some 110) (v := ?_) (a' := ?_) #[true, true, true, true, true, false, false, false, false, false, false, false, false, false, false, false, false, false, false, false, false, false] rfl rfl (by kernel_rfl) (fun _ _ _ h => h) (Or.inl ⟨by rfl, ?_⟩) ?_ ?_
              rotate_left
              · intro w'
                go_simp
                with_reducible rfl
              rotate_left
              · simp only [Act.put, List.setIfInBounds_toArray, List.set_cons_zero, List.set_cons_succ, i64_w, i32_w]
                rfl
              refine pure_ (i := 5) (N := some 111) (v := ?_) (a' := ?_) #[true, true, true, true, true, true, false, false, false, false, false, false, false, false, false, false, false, false, false, false, false, false] rfl rfl (by kernel_rfl) (fun _ _ _ h => h) (Or.inl ⟨by rfl, ?_⟩) ?_ ?_
              rotate_left
              · intro w'
                go_simp
                with_reducible rfl
              rotate_left
              · simp only [Act.put, List.setIfInBounds_toArray, List.set_cons_zero, List.set_cons_succ, i64_w, i32_w]
                rfl
              refine pure_ (i := 6) (N := some 112) (v := ?_) (a' := ?_) #[true, true, true, true, true, true, true, false, false, false, false, false, false, false, false, false, false, false, false, false, false, false] rfl rfl (by kernel_rfl) (fun _ _ _ h => h) (Or.inl ⟨by rfl, ?_⟩) ?_ ?_
              rotate_left
              · intro w'
                go_simp
                with_reducible rfl
              rotate_left
              · simp only [Act.put, List.setIfInBounds_toArray, List.set_cons_zero, List.set_cons_succ, i64_w, i32_w]
                rfl
              refine pure_ (i := 7) (N := some 113) (v := ?_) (a' := ?_) #[true, true, true, true, true, true, true, true, false, false, false, false, false, false, false, false, false, false, false, false, false, false] rfl rfl (by kernel_rfl) (fun _ _ _ h => h) (Or.inl ⟨by rfl, ?_⟩) ?_ ?_
              rotate_left
              · intro w'
                go_simp
                with_reducible rfl
              rotate_left
              · simp only [Act.put, List.setIfInBounds_toArray, List.set_cons_zero, List.set_cons_succ, i64_w, i32_w]
                rfl
              refine pure_ (i := 8) (N := some 114) (v := ?_) (a' := ?_) #[true, true, true, true, true, true, true, true, true, false, false, false, false, false, false, false, false, false, false, false, false, false] rfl rfl (by kernel_rfl) (fun _ _ _ h => h) (Or.inl ⟨by rfl, ?_⟩) ?_ ?_
              rotate_left
              · intro w'
                go_simp
                with_reducible rfl
              rotate_left
              · simp only [Act.put, List.setIfInBounds_toArray, List.set_cons_zero, List.set_cons_succ, i64_w, i32_w]
                rfl
              refine pure_ (i := 9) (N := some 115) (v := ?_) (a' := ?_) #[true, true, true, true, true, true, true, true, true, true, false, false, false, false, false, false, false, false, false, false, false, false] rfl rfl (by kernel_rfl) (fun _ _ _ h => h) (Or.inl ⟨by rfl, ?_⟩) ?_ ?_
              rotate_left
              · intro w'
                go_simp
                with_reducible rfl
              rotate_left
              · simp only [Act.put, List.setIfInBounds_toArray, List.set_cons_zero, List.set_cons_succ, i64_w, i32_w]
                rfl
              refine pure_ (i := 10) (N := some 116) (v := ?_) (a' := ?_) #[true, true, true, true, true, true, true, true, true, true, true, false, false, false, false, false, false, false, false, false, false, false] rfl rfl (by kernel_rfl) (fun _ _ _ h => h) (Or.inl ⟨by rfl, ?_⟩) ?_ ?_
              rotate_left
              · intro w'
                go_simp
                with_reducible rfl
              rotate_left
              · simp only [Act.put, List.setIfInBounds_toArray, List.set_cons_zero, List.set_cons_succ, i64_w, i32_w]
                rfl
              refine pure_ (i := 11) (N := some 117) (v := ?_) (a' := ?_) #[true, true, true, true, true, true, true, true, true, true, true, true, false, false, false, false, false, false, false, false, false, false] rfl rfl (by kernel_rfl) (fun _ _ _ h => h) (Or.inl ⟨by rfl, ?_⟩) ?_ ?_
              rotate_left
              · intro w'
                go_simp
                with_reducible rfl
              rotate_left
              · simp only [Act.put, List.setIfInBounds_toArray, List.set_cons_zero, List.set_cons_succ, i64_w, i32_w]
                rfl
              refine pure_ (i := 12) (N := some 118) (v := ?_) (a' := ?_) #[true, true, true, true, true, true, true, true, true, true, true, true, true, false, false, false, false, false, false, false, false, false] rfl rfl (by kernel_rfl) (fun _ _ _ h => h) (Or.inl ⟨by rfl, ?_⟩) ?_ ?_
              rotate_left
              · intro w'
                go_simp
                with_reducible rfl
              rotate_left
              · simp only [Act.put, List.setIfInBounds_toArray, List.set_cons_zero, List.set_cons_succ, i64_w, i32_w]
                rfl
              refine pure_ (i := 13) (N := some 119) (v := ?_) (a' := ?_) #[true, true, true, true, true, true, true, true, true, true, true, true, true, true, false, false, false, false, false, false, false, false] rfl rfl (by kernel_rfl) (fun _ _ _ h => h) (Or.inl ⟨by rfl, ?_⟩) ?_ ?_
              rotate_left
              · intro w'
                go_simp
                with_reducible rfl
              rotate_left
              · simp only [Act.put, List.setIfInBounds_toArray, List.set_cons_zero, List.set_cons_succ, i64_w, i32_w]
                rfl
              refine pure_ (i := 14) (N := some 120) (v := ?_) (a' := ?_) #[true, true, true, true, true, true, true, true, true, true, true, true, true, true, true, false, false, false, false, false, false, false] rfl rfl (by kernel_rfl) (fun _ _ _ h => h) (Or.inl ⟨by rfl, ?_⟩) ?_ ?_
              rotate_left
              · intro w'
                go_simp
                with_reducible rfl
              rotate_left
              · simp only [Act.put, List.setIfInBounds_toArray, List.set_cons_zero, List.set_cons_succ, i64_w, i32_w]
                rfl
              refine pure_ (i := 16) (N := some 122) (v := ?_) (a' := ?_) #[true, true, true, true, true, true, true, true, true, true, true, true, true, true, true, false, true, false, false, false, false, false] rfl rfl (by kernel_rfl) (fun _ _ _ h => h) (Or.inl ⟨by rfl, ?_⟩) ?_ ?_
              rotate_left
              · intro w'
                go_simp
                with_reducible rfl
              rotate_left
              · simp only [Act.put, List.setIfInBounds_toArray, List.set_cons_zero, List.set_cons_succ, i64_w, i32_w]
                rfl
              refine take_ (i := 15) (N := some 121) (v := ?_) (a' := ?_) #[true, true, true, true, true, true, true, true, true, true, true, true, true, true, true, true, true, false, false, false, false, false] rfl rfl (by kernel_rfl) (fun _ _ _ h => h) (Or.inl ⟨by rfl, ?_⟩) hHeld ?_ ?_
              rotate_left
              · intro w' s0
                go_simp
                with_reducible rfl
              rotate_left
              · simp only [Act.put, List.setIfInBounds_toArray, List.set_cons_zero, List.set_cons_succ, i64_w, i32_w]
                rfl
              refine one_ (i := 17) (N := some 123) #[true, true, true, true, true, true, true, true, true, true, true, true, true, true, true, true, true, true, false, false, false, false] rfl rfl (by kernel_rfl) (by decide) (fun K hK => ?_)
              refine goes_ Try.func23 (by kernel_rfl) rfl #[.slice A1 l1.length c1] (by rfl) rfl rfl (by simp only [List.map_toArray, List.map_cons, List.map_nil]; rfl) ?_
              with_reducible refine (marginaliaref14_Block.calls 300 _ _ l1 B _ (Kd.C_below HR1.out (J_below J9.out)) HC1.out EVB.out).mono ?_
              rintro e w10 ⟨v10, rfl, hR, hb⟩
              refine ⟨_, rfl, ?_⟩
              obtain ⟨A10, c10, rfl⟩ := Kd.R_slice hR; have C10 := Aside0.mk (Kd.R_reads' hR).2.2; have J10 := Aside0.mk (J_deep J9.out hb); have D10 := Aside0.mk (Kd.C_below C9.out hb); clear hR hb
              refine hK.out _ _ ((by rw [HS.out]; exact Kd.C_string (P := Try.prog) (A := A8) (c := B.length) Try.underlying27 Try.underlying5 Try.underlying9 (D10.out))) (fun hHeld => ?_)
              clear hK K
              refine norm_ (a' := ?_) ?_ ?_
              rotate_left
              · show Act.put _ (some 123) _ = _
                simp only [Act.put, List.setIfInBounds_toArray, List.set_cons_zero, List.set_cons_succ, i64_w, i32_w]
                rfl
              refine one_ (i := 18) (N := some 124) #[true, true, true, true, true, true, true, true, true, true, true, true, true, true, true, true, true, true, true, false, false, false] rfl rfl (by kernel_rfl) (by decide) (fun K hK => ?_)
              refine value_ (w1 := w10) (v := .string S) (by rfl) rfl (exec_conv_s rfl (by rw [HS.out]; exact Kd.C_string (P := Try.prog) (c := c10) Try.underlying27 Try.underlying5 Try.underlying9 C10.out)) ?_
              refine hK.out _ _ ((by rw [HS.out]; exact Kd.C_string (P := Try.prog) (A := A8) (c := B.length) Try.underlying27 Try.underlying5 Try.underlying9 (D10.out))) (fun hHeld => ?_)
              clear hK K
              refine norm_ (a' := ?_) ?_ ?_
              rotate_left
              · show Act.put _ (some 124) _ = _
                simp only [Act.put, List.setIfInBounds_toArray, List.set_cons_zero, List.set_cons_succ, i64_w, i32_w]
                rfl
              refine pure_ (i := 19) (N := some 125) (v := ?_) (a' := ?_) #[true, true, true, true, true, true, true, true, true, true, true, true, true, true, true, true, true, true, true, true, false, false] rfl rfl (by kernel_rfl) (fun _ _ _ h => h) (Or.inl ⟨by rfl, ?_⟩) ?_ ?_
              rotate_left
              · intro w'
                go_simp
                with_reducible rfl
              rotate_left
              · simp only [Act.put, List.setIfInBounds_toArray, List.set_cons_zero, List.set_cons_succ, i64_w, i32_w]
                rfl
              refine pure_ (i := 20) (N := some 126) (v := ?_) (a' := ?_) #[true, true, true, true, true, true, true, true, true, true, true, true, true, true, true, true, true, true, true, true, true, false] rfl rfl (by kernel_rfl) (fun _ _ _ h => h) (Or.inl ⟨by rfl, ?_⟩) ?_ ?_
              rotate_left
              · intro w'
                go_simp
                with_reducible rfl
              rotate_left
              · simp only [Act.put, List.setIfInBounds_toArray, List.set_cons_zero, List.set_cons_succ, i64_w, i32_w]
                rfl
              refine pure_ (i := 21) (N := some 6) (v := ?_) (a' := ?_) #[true, true, true, true, true, true, true, true, true, true, true, true, true, true, true, true, true, true, true, true, true, true] rfl rfl (by kernel_rfl) (fun _ _ _ h => h) (Or.inl ⟨by rfl, ?_⟩) ?_ ?_
              rotate_left
              · intro w'
                go_simp
                with_reducible rfl
              rotate_left
              · simp only [Act.put, List.setIfInBounds_toArray, List.set_cons_zero, List.set_cons_succ, i64_w, i32_w]
                rfl
              refine done_ (by kernel_rfl) ?_
              go_wp2
              go_ret
              exact ⟨by simp, J_below J10.out⟩
            · have d1b : decide (i < l2.length) = false := decide_eq_false d1
              go_upto_region 19 with (first | (go_at_call 21; refine (J_Crash HJ.out (by have := PB.out; omega) _ _ [] (fun W _ _ => Kd.C_nil _ _)).mono ?_; rintro e w7 ⟨rfl, hJ, ho⟩; have J7 := Aside0.mk hJ; clear hJ ho HJ) | (go_at_call 16; refine (J_Read J7.out 7 _ _ EE.out).mono ?_; rintro e w8 ⟨v8, rfl, hf, hJ, hb⟩; have J8 := Aside0.mk hJ; have F8 := Aside0.mk hf; clear hJ hb hf J7))
              obtain ⟨A8, rfl, hC8⟩ := frs_C F8.out
              have C8 := Aside0.mk hC8
              obtain ⟨S, hS⟩ : ∃ S, S = strOfNums B := ⟨_, rfl⟩
              have HS := Aside0.mk hS
              clear hC8 F8 hS d0 d1 d1b
              refine start_ (n := 22) (S := fun w' => Sem.run Try.prog (convert 27 9 (.slice A8 B.length B.length)) w' = .ok (.string S) w') (ds := []) #[false, false, false, false, false, false, false, false, false, false, false, false, false, false, false, false, false, false, false, false, false, false] (by kernel_rfl) rfl rfl ((by rw [HS.out]; exact Kd.C_string (P := Try.prog) (A := A8) (c := B.length) Try.underlying27 Try.underlying5 Try.underlying9 (Kd.C_below C8.out (below_drew (Below.refl _ _))))) (fun hHeld => ?_)
              refine one_ (i := 0) (N := some 106) #[true, false, false, false, false, false, false, false, false, false, false, false, false, false, false, false, false, false, false, false, false, false] rfl rfl (by kernel_rfl) (by decide) (fun K hK => ?_)
              refine goes_ Try.func15 (by kernel_rfl) rfl #[] (by rfl) rfl rfl (by simp only [List.map_toArray, List.map_cons, List.map_nil]) ?_
              with_reducible refine (disk_alive _).mono ?_
              rintro e w9 ⟨rfl, hb⟩
              refine ⟨_, rfl, ?_⟩
              have J9 := Aside0.mk (J_deep J8.out (below_step (below_drew (Below.refl _ _)) hb)); have C9 := Aside0.mk (Kd.C_below C8.out (below_step (below_drew (Below.refl _ _)) hb)); clear hb
              refine hK.out _ _ ((by rw [HS.out]; exact Kd.C_string (P := Try.prog) (A := A8) (c := B.length) Try.underlying27 Try.underlying5 Try.underlying9 (C9.out))) (fun hHeld => ?_)
              clear hK K
              refine norm_ (a' := ?_) ?_ ?_
              rotate_left
              · show Act.put _ (some 106) _ = _
                simp only [Act.put, List.setIfInBounds_toArray, List.set_cons_zero, List.set_cons_succ, i64_w, i32_w]
                rfl
              refine pure_ (i := 1) (N := some 107) (v := ?_) (a' := ?_) #[true, true, false, false, false, false, false, false, false, false, false, false, false, false, false, false, false, false, false, false, false, false] rfl rfl (by kernel_rfl) (fun _ _ _ h => h) (Or.inl ⟨by rfl, ?_⟩) ?_ ?_
              rotate_left
              · intro w'
                go_simp
                with_reducible rfl
              rotate_left
              · simp only [Act.put, List.setIfInBounds_toArray, List.set_cons_zero, List.set_cons_succ, i64_w, i32_w]
                rfl
              refine pure_ (i := 2) (N := some 108) (v := ?_) (a' := ?_) #[true, true, true, false, false, false, false, false, false, false, false, false, false, false, false, false, false, false, false, false, false, false] rfl rfl (by kernel_rfl) (fun _ _ _ h => h) (Or.inl ⟨by rfl, ?_⟩) ?_ ?_
              rotate_left
              · intro w'
                go_simp
                with_reducible rfl
              rotate_left
              · simp only [Act.put, List.setIfInBounds_toArray, List.set_cons_zero, List.set_cons_succ, i64_w, i32_w]
                rfl
              refine pure_ (i := 3) (N := some 109) (v := ?_) (a' := ?_) #[true, true, true, true, false, false, false, false, false, false, false, false, false, false, false, false, false, false, false, false, false, false] rfl rfl (by kernel_rfl) (fun _ _ _ h => h) (Or.inl ⟨by rfl, ?_⟩) ?_ ?_
              rotate_left
              · intro w'
                go_simp
                with_reducible rfl
              rotate_left
              · simp only [Act.put, List.setIfInBounds_toArray, List.set_cons_zero, List.set_cons_succ, i64_w, i32_w]
                rfl
              refine pure_ (i := 4) (N := some 110) (v := ?_) (a' := ?_) #[true, true, true, true, true, false, false, false, false, false, false, false, false, false, false, false, false, false, false, false, false, false] rfl rfl (by kernel_rfl) (fun _ _ _ h => h) (Or.inl ⟨by rfl, ?_⟩) ?_ ?_
              rotate_left
              · intro w'
                go_simp
                with_reducible rfl
              rotate_left
              · simp only [Act.put, List.setIfInBounds_toArray, List.set_cons_zero, List.set_cons_succ, i64_w, i32_w]
                rfl
              refine pure_ (i := 5) (N := some 111) (v := ?_) (a' := ?_) #[true, true, true, true, true, true, false, false, false, false, false, false, false, false, false, false, false, false, false, false, false, false] rfl rfl (by kernel_rfl) (fun _ _ _ h => h) (Or.inl ⟨by rfl, ?_⟩) ?_ ?_
              rotate_left
              · intro w'
                go_simp
                with_reducible rfl
              rotate_left
              · simp only [Act.put, List.setIfInBounds_toArray, List.set_cons_zero, List.set_cons_succ, i64_w, i32_w]
                rfl
              refine pure_ (i := 6) (N := some 112) (v := ?_) (a' := ?_) #[true, true, true, true, true, true, true, false, false, false, false, false, false, false, false, false, false, false, false, false, false, false] rfl rfl (by kernel_rfl) (fun _ _ _ h => h) (Or.inl ⟨by rfl, ?_⟩) ?_ ?_
              rotate_left
              · intro w'
                go_simp
                with_reducible rfl
              rotate_left
              · simp only [Act.put, List.setIfInBounds_toArray, List.set_cons_zero, List.set_cons_succ, i64_w, i32_w]
                rfl
              refine pure_ (i := 7) (N := some 113) (v := ?_) (a' := ?_) #[true, true, true, true, true, true, true, true, false, false, false, false, false, false, false, false, false, false, false, false, false, false] rfl rfl (by kernel_rfl) (fun _ _ _ h => h) (Or.inl ⟨by rfl, ?_⟩) ?_ ?_
              rotate_left
              · intro w'
                go_simp
                with_reducible rfl
              rotate_left
              · simp only [Act.put, List.setIfInBounds_toArray, List.set_cons_zero, List.set_cons_succ, i64_w, i32_w]
                rfl
              refine pure_ (i := 8) (N := some 114) (v := ?_) (a' := ?_) #[true, true, true, true, true, true, true, true, true, false, false, false, false, false, false, false, false, false, false, false, false, false] rfl rfl (by kernel_rfl) (fun _ _ _ h => h) (Or.inl ⟨by rfl, ?_⟩) ?_ ?_
              rotate_left
              · intro w'
                go_simp
                with_reducible rfl
              rotate_left
              · simp only [Act.put, List.setIfInBounds_toArray, List.set_cons_zero, List.set_cons_succ, i64_w, i32_w]
                rfl
              refine pure_ (i := 9) (N := some 115) (v := ?_) (a' := ?_) #[true, true, true, true, true, true, true, true, true, true, false, false, false, false, false, false, false, false, false, false, false, false] rfl rfl (by kernel_rfl) (fun _ _ _ h => h) (Or.inl ⟨by rfl, ?_⟩) ?_ ?_
              rotate_left
              · intro w'
                go_simp
                with_reducible rfl
              rotate_left
              · simp only [Act.put, List.setIfInBounds_toArray, List.set_cons_zero, List.set_cons_succ, i64_w, i32_w]
                rfl
              refine pure_ (i := 10) (N := some 116) (v := ?_) (a' := ?_) #[true, true, true, true, true, true, true, true, true, true, true, false, false, false, false, false, false, false, false, false, false, false] rfl rfl (by kernel_rfl) (fun _ _ _ h => h) (Or.inl ⟨by rfl, ?_⟩) ?_ ?_
              rotate_left
              · intro w'
                go_simp
                with_reducible rfl
              rotate_left
              · simp only [Act.put, List.setIfInBounds_toArray, List.set_cons_zero, List.set_cons_succ, i64_w, i32_w]
                rfl
              refine pure_ (i := 11) (N := some 117) (v := ?_) (a' := ?_) #[true, true, true, true, true, true, true, true, true, true, true, true, false, false, false, false, false, false, false, false, false, false] rfl rfl (by kernel_rfl) (fun _ _ _ h => h) (Or.inl ⟨by rfl, ?_⟩) ?_ ?_
              rotate_left
              · intro w'
                go_simp
                with_reducible rfl
              rotate_left
              · simp only [Act.put, List.setIfInBounds_toArray, List.set_cons_zero, List.set_cons_succ, i64_w, i32_w]
                rfl
              refine pure_ (i := 12) (N := some 118) (v := ?_) (a' := ?_) #[true, true, true, true, true, true, true, true, true, true, true, true, true, false, false, false, false, false, false, false, false, false] rfl rfl (by kernel_rfl) (fun _ _ _ h => h) (Or.inl ⟨by rfl, ?_⟩) ?_ ?_
              rotate_left
              · intro w'
                go_simp
                with_reducible rfl
              rotate_left
              · simp only [Act.put, List.setIfInBounds_toArray, List.set_cons_zero, List.set_cons_succ, i64_w, i32_w]
                rfl
              refine pure_ (i := 13) (N := some 119) (v := ?_) (a' := ?_) #[true, true, true, true, true, true, true, true, true, true, true, true, true, true, false, false, false, false, false, false, false, false] rfl rfl (by kernel_rfl) (fun _ _ _ h => h) (Or.inl ⟨by rfl, ?_⟩) ?_ ?_
              rotate_left
              · intro w'
                go_simp
                with_reducible rfl
              rotate_left
              · simp only [Act.put, List.setIfInBounds_toArray, List.set_cons_zero, List.set_cons_succ, i64_w, i32_w]
                rfl
              refine pure_ (i := 14) (N := some 120) (v := ?_) (a' := ?_) #[true, true, true, true, true, true, true, true, true, true, true, true, true, true, true, false, false, false, false, false, false, false] rfl rfl (by kernel_rfl) (fun _ _ _ h => h) (Or.inl ⟨by rfl, ?_⟩) ?_ ?_
              rotate_left
              · intro w'
                go_simp
                with_reducible rfl
              rotate_left
              · simp only [Act.put, List.setIfInBounds_toArray, List.set_cons_zero, List.set_cons_succ, i64_w, i32_w]
                rfl
              refine pure_ (i := 16) (N := some 122) (v := ?_) (a' := ?_) #[true, true, true, true, true, true, true, true, true, true, true, true, true, true, true, false, true, false, false, false, false, false] rfl rfl (by kernel_rfl) (fun _ _ _ h => h) (Or.inl ⟨by rfl, ?_⟩) ?_ ?_
              rotate_left
              · intro w'
                go_simp
                with_reducible rfl
              rotate_left
              · simp only [Act.put, List.setIfInBounds_toArray, List.set_cons_zero, List.set_cons_succ, i64_w, i32_w]
                rfl
              refine take_ (i := 15) (N := some 121) (v := ?_) (a' := ?_) #[true, true, true, true, true, true, true, true, true, true, true, true, true, true, true, true, true, false, false, false, false, false] rfl rfl (by kernel_rfl) (fun _ _ _ h => h) (Or.inl ⟨by rfl, ?_⟩) hHeld ?_ ?_
              rotate_left
              · intro w' s0
                go_simp
                with_reducible rfl
              rotate_left
              · simp only [Act.put, List.setIfInBounds_toArray, List.set_cons_zero, List.set_cons_succ, i64_w, i32_w]
                rfl
              refine one_ (i := 17) (N := some 123) #[true, true, true, true, true, true, true, true, true, true, true, true, true, true, true, true, true, true, false, false, false, false] rfl rfl (by kernel_rfl) (by decide) (fun K hK => ?_)
              refine goes_ Try.func23 (by kernel_rfl) rfl #[.slice A1 l1.length c1] (by rfl) rfl rfl (by simp only [List.map_toArray, List.map_cons, List.map_nil]; rfl) ?_
              with_reducible refine (marginaliaref14_Block.calls 300 _ _ l1 B _ (Kd.C_below HR1.out (J_below J9.out)) HC1.out EVB.out).mono ?_
              rintro e w10 ⟨v10, rfl, hR, hb⟩
              refine ⟨_, rfl, ?_⟩
              obtain ⟨A10, c10, rfl⟩ := Kd.R_slice hR; have C10 := Aside0.mk (Kd.R_reads' hR).2.2; have J10 := Aside0.mk (J_deep J9.out hb); have D10 := Aside0.mk (Kd.C_below C9.out hb); clear hR hb
              refine hK.out _ _ ((by rw [HS.out]; exact Kd.C_string (P := Try.prog) (A := A8) (c := B.length) Try.underlying27 Try.underlying5 Try.underlying9 (D10.out))) (fun hHeld => ?_)
              clear hK K
              refine norm_ (a' := ?_) ?_ ?_
              rotate_left
              · show Act.put _ (some 123) _ = _
                simp only [Act.put, List.setIfInBounds_toArray, List.set_cons_zero, List.set_cons_succ, i64_w, i32_w]
                rfl
              refine one_ (i := 18) (N := some 124) #[true, true, true, true, true, true, true, true, true, true, true, true, true, true, true, true, true, true, true, false, false, false] rfl rfl (by kernel_rfl) (by decide) (fun K hK => ?_)
              refine value_ (w1 := w10) (v := .string S) (by rfl) rfl (exec_conv_s rfl (by rw [HS.out]; exact Kd.C_string (P := Try.prog) (c := c10) Try.underlying27 Try.underlying5 Try.underlying9 C10.out)) ?_
              refine hK.out _ _ ((by rw [HS.out]; exact Kd.C_string (P := Try.prog) (A := A8) (c := B.length) Try.underlying27 Try.underlying5 Try.underlying9 (D10.out))) (fun hHeld => ?_)
              clear hK K
              refine norm_ (a' := ?_) ?_ ?_
              rotate_left
              · show Act.put _ (some 124) _ = _
                simp only [Act.put, List.setIfInBounds_toArray, List.set_cons_zero, List.set_cons_succ, i64_w, i32_w]
                rfl
              refine pure_ (i := 19) (N := some 125) (v := ?_) (a' := ?_) #[true, true, true, true, true, true, true, true, true, true, true, true, true, true, true, true, true, true, true, true, false, false] rfl rfl (by kernel_rfl) (fun _ _ _ h => h) (Or.inl ⟨by rfl, ?_⟩) ?_ ?_
              rotate_left
              · intro w'
                go_simp
                with_reducible rfl
              rotate_left
              · simp only [Act.put, List.setIfInBounds_toArray, List.set_cons_zero, List.set_cons_succ, i64_w, i32_w]
                rfl
              refine pure_ (i := 20) (N := some 126) (v := ?_) (a' := ?_) #[true, true, true, true, true, true, true, true, true, true, true, true, true, true, true, true, true, true, true, true, true, false] rfl rfl (by kernel_rfl) (fun _ _ _ h => h) (Or.inl ⟨by rfl, ?_⟩) ?_ ?_
              rotate_left
              · intro w'
                go_simp
                with_reducible rfl
              rotate_left
              · simp only [Act.put, List.setIfInBounds_toArray, List.set_cons_zero, List.set_cons_succ, i64_w, i32_w]
                rfl
              refine pure_ (i := 21) (N := some 6) (v := ?_) (a' := ?_) #[true, true, true, true, true, true, true, true, true, true, true, true, true, true, true, true, true, true, true, true, true, true] rfl rfl (by kernel_rfl) (fun _ _ _ h => h) (Or.inl ⟨by rfl, ?_⟩) ?_ ?_
              rotate_left
              · intro w'
                go_simp
                with_reducible rfl
              rotate_left
              · simp only [Act.put, List.setIfInBounds_toArray, List.set_cons_zero, List.set_cons_succ, i64_w, i32_w]
                rfl
              refine done_ (by kernel_rfl) ?_
              go_wp2
              go_ret
              exact ⟨by simp, J_below J10.out⟩
      · have d1b : decide (j < l0.length) = false := decide_eq_false d1
        clear dd
        go_wp2_with (first | (go_at_call 21; refine (J_Crash HJ.out (by have := PB.out; omega) _ _ [] (fun W _ _ => Kd.C_nil _ _)).mono ?_; rintro e w2 ⟨rfl, hJ, ho⟩; have J2 := Aside0.mk hJ; clear hJ ho HJ) | (go_at_call 23; refine (marginaliaref14_Block.calls 300 _ _ l1 B _ (Kd.C_below HR1.out (J_below J2.out)) HC1.out EVB.out).mono ?_; rintro e w3 ⟨v3, rfl, hR, hb⟩; obtain ⟨A3, c3, rfl⟩ := Kd.R_slice hR; have R3 := Aside0.mk hR; have J3 := Aside0.mk (J_deep J2.out hb); clear hR hb J2) | (go_at_call 22; refine (J_Write J3.out (by show ([] : List Pc).length ≤ 100000; decide) 7 _ _ _ _ _ R3.out _ _ G1.out).mono ?_; rintro e w4 ⟨rfl, hJ, ho⟩; have J4 := Aside0.mk hJ; clear hJ ho J3 R3) | (go_at_call 24; refine (J_Flush J4.out (by have := G4.out; omega) _ _ G2.out).mono ?_; rintro e w5 ⟨rfl, hJ, ho⟩; have J5 := Aside0.mk hJ; clear hJ ho J4))
        clear d0 d1 d1b hj hj2
        go_loopw [12] (fun v12 wr => ∃ (j : Nat) (s : Dk), v12 = .int .i64 (j : Int) ∧ j ≤ l2.length ∧ j ≤ 40 ∧ Aside0 (Sf_s s B ∧ s.pend.length ≤ 4 * j) ∧ Aside0 (J w wr p s)) (fun v12 _ => l2.length - (intOf v12).toNat)
        case atStart => exact ⟨0, _, rfl, Nat.zero_le _, Nat.zero_le _, G3, J5⟩
        case round =>
          clear J5 G3 PB HI G1 G2 G4
          obtain ⟨i, s, rfl, hj, hj2, HI, HJ⟩ := hrel
          by_cases d0 : i < l2.length ∧ i < 40
          · obtain ⟨d1, d2⟩ := d0
            have d1b : decide (i < l2.length) = true := decide_eq_true d1
            have d2b : decide (i < 40) = true := decide_eq_true d2
            obtain ⟨ad, A5, c5, A6, c6, k, n, b, sh, keep, rfl, hy, l5, C5, l6, C6⟩ := act_at_s HR2.out i d1
            have HY := Aside0.mk hy
            have L5 := Aside0.mk l5
            have C5 := Aside0.mk C5
            have L6 := Aside0.mk l6
            have C6 := Aside0.mk C6
            obtain ⟨y0, y1, y2, y3, y4⟩ := hy _ (J_below HJ.out)
            clear hy l5 l6
            by_cases e1 : b.length ≤ 300 ∧ keep.length ≤ 300
            · have EV := Aside0.mk (small_ev_s k n b sh keep e1.1 e1.2)
              have LB := Aside0.mk e1.1
              clear e1
              by_cases t1 : k = 1
              · subst t1
                by_cases t2 : n = 7
                · subst t2
                  go_wp2_with (go_at_call 19; refine (marginalialaw14_Act_small.calls 1 7 _ _ b sh _ _ keep true _ (Kd.C_below C5.out (J_below HJ.out)) L5.out (Kd.C_below C6.out (J_below HJ.out)) L6.out EV.out).mono ?_; rintro e w2 ⟨rfl, hb⟩; have J2 := Aside0.mk (J_deep HJ.out hb); obtain ⟨z0, z1, z2, z3, z4⟩ := HY.out _ (J_below J2.out); clear hb HJ y0 y1 y2 y3 y4)
                  go_roundw
                  case rel => exact ⟨i + 1, s, by go_num, by omega, by omega, ⟨HI.out.1, by have := HI.out.2; omega⟩, J2⟩
                  case measure => simp [intOf]; omega
                · have t2b : (n == 7) = false := by simp [t2]
                  obtain ⟨⟨s', e'⟩, hx⟩ : ∃ x, plx_s s 1 n b sh keep = x := ⟨_, rfl⟩
                  have NI := Aside0.mk (show Sf_s s' B ∧ s'.pend.length ≤ 4 * (i + 1) by
                    have h1 := plx_Sf_s HI.out.1 1 n b sh keep (fun e => by omega)
                    have h3 := plx_len_s s 1 n b sh keep
                    rw [hx] at h1 h3
                    have := HI.out.2
                    exact ⟨h1, by dsimp only at h3; omega⟩)
                  have HX := Aside0.mk hx
                  clear hx
                  go_wp2_with (first | (go_at_call 19; refine (marginalialaw14_Act_small.calls 1 n _ _ b sh _ _ keep true _ (Kd.C_below C5.out (J_below HJ.out)) L5.out (Kd.C_below C6.out (J_below HJ.out)) L6.out EV.out).mono ?_; rintro e w2 ⟨rfl, hb⟩; have J2 := Aside0.mk (J_deep HJ.out hb); obtain ⟨z0, z1, z2, z3, z4⟩ := HY.out _ (J_below J2.out); clear hb HJ y0 y1 y2 y3 y4) | (go_at_call 20; refine (J_play_s J2.out (by have := HI.out.2; omega) 1 n _ _ b sh _ _ keep C5.out L5.out LB.out C6.out L6.out s' e' HX.out).mono ?_; rintro e w3 ⟨rfl, hJ⟩; have J3 := Aside0.mk hJ; clear hJ J2 z0 z1 z2 z3 z4))
                  go_roundw
                  case rel => exact ⟨i + 1, s', by go_num, by omega, by omega, NI, J3⟩
                  case measure => simp [intOf]; omega
              · have t1b : (k == 1) = false := by simp [t1]
                obtain ⟨⟨s', e'⟩, hx⟩ : ∃ x, plx_s s k n b sh keep = x := ⟨_, rfl⟩
                have NI := Aside0.mk (show Sf_s s' B ∧ s'.pend.length ≤ 4 * (i + 1) by
                  have h1 := plx_Sf_s HI.out.1 k n b sh keep (fun e => by omega)
                  have h3 := plx_len_s s k n b sh keep
                  rw [hx] at h1 h3
                  have := HI.out.2
                  exact ⟨h1, by dsimp only at h3; omega⟩)
                have HX := Aside0.mk hx
                clear hx
                go_wp2_with (first | (go_at_call 19; refine (marginalialaw14_Act_small.calls k n _ _ b sh _ _ keep true _ (Kd.C_below C5.out (J_below HJ.out)) L5.out (Kd.C_below C6.out (J_below HJ.out)) L6.out EV.out).mono ?_; rintro e w2 ⟨rfl, hb⟩; have J2 := Aside0.mk (J_deep HJ.out hb); obtain ⟨z0, z1, z2, z3, z4⟩ := HY.out _ (J_below J2.out); clear hb HJ y0 y1 y2 y3 y4) | (go_at_call 20; refine (J_play_s J2.out (by have := HI.out.2; omega) k n _ _ b sh _ _ keep C5.out L5.out LB.out C6.out L6.out s' e' HX.out).mono ?_; rintro e w3 ⟨rfl, hJ⟩; have J3 := Aside0.mk hJ; clear hJ J2 z0 z1 z2 z3 z4))
                go_roundw
                case rel => exact ⟨i + 1, s', by go_num, by omega, by omega, NI, J3⟩
                case measure => simp [intOf]; omega
            · have EV := Aside0.mk (small_no_s k n b sh keep e1)
              clear e1
              go_wp2_with (go_at_call 19; refine (marginalialaw14_Act_small.calls k n _ _ b sh _ _ keep false _ (Kd.C_below C5.out (J_below HJ.out)) L5.out (Kd.C_below C6.out (J_below HJ.out)) L6.out EV.out).mono ?_; rintro e w2 ⟨rfl, hb⟩; have J2 := Aside0.mk (J_deep HJ.out hb); clear hb HJ y0 y1 y2 y3 y4)
              go_roundw
              case rel => exact ⟨i + 1, s, by go_num, by omega, by omega, ⟨HI.out.1, by have := HI.out.2; omega⟩, J2⟩
              case measure => simp [intOf]; omega
          · have EE := Aside0.mk (end7_s HI.out.1 BL.out)
            have PB := Aside0.mk (show s.pend.length ≤ 1000 by have := HI.out.2; omega)
            by_cases d1 : i < l2.length
            · have d1b : decide (i < l2.length) = true := decide_eq_true d1
              have d2b : decide (i < 40) = false := decide_eq_false (by omega)
              have d2 : ¬ i < 40 := by omega
              go_upto_region 19 with (first | (go_at_call 21; refine (J_Crash HJ.out (by have := PB.out; omega) _ _ [] (fun W _ _ => Kd.C_nil _ _)).mono ?_; rintro e w7 ⟨rfl, hJ, ho⟩; have J7 := Aside0.mk hJ; clear hJ ho HJ) | (go_at_call 16; refine (J_Read J7.out 7 _ _ EE.out).mono ?_; rintro e w8 ⟨v8, rfl, hf, hJ, hb⟩; have J8 := Aside0.mk hJ; have F8 := Aside0.mk hf; clear hJ hb hf J7))
              obtain ⟨A8, rfl, hC8⟩ := frs_C F8.out
              have C8 := Aside0.mk hC8
              obtain ⟨S, hS⟩ : ∃ S, S = strOfNums B := ⟨_, rfl⟩
              have HS := Aside0.mk hS
              clear hC8 F8 hS d0 d1 d1b
              refine start_ (n := 22) (S := fun w' => Sem.run Try.prog (convert 27 9 (.slice A8 B.length B.length)) w' = .ok (.string S) w') (ds := []) #[false, false, false, false, false, false, false, false, false, false, false, false, false, false, false, false, false, false, false, false, false, false] (by kernel_rfl) rfl rfl ((by rw [HS.out]; exact Kd.C_string (P := Try.prog) (A := A8) (c := B.length) Try.underlying27 Try.underlying5 Try.underlying9 (Kd.C_below C8.out (below_drew (Below.refl _ _))))) (fun hHeld => ?_)
              refine one_ (i := 0) (N := some 106) #[true, false, false, false, false, false, false, false, false, false, false, false, false, false, false, false, false, false, false, false, false, false] rfl rfl (by kernel_rfl) (by decide) (fun K hK => ?_)
              refine goes_ Try.func15 (by kernel_rfl) rfl #[] (by rfl) rfl rfl (by simp only [List.map_toArray, List.map_cons, List.map_nil]) ?_
              with_reducible refine (disk_alive _).mono ?_
              rintro e w9 ⟨rfl, hb⟩
              refine ⟨_, rfl, ?_⟩
              have J9 := Aside0.mk (J_deep J8.out (below_step (below_drew (Below.refl _ _)) hb)); have C9 := Aside0.mk (Kd.C_below C8.out (below_step (below_drew (Below.refl _ _)) hb)); clear hb
              refine hK.out _ _ ((by rw [HS.out]; exact Kd.C_string (P := Try.prog) (A := A8) (c := B.length) Try.underlying27 Try.underlying5 Try.underlying9 (C9.out))) (fun hHeld => ?_)
              clear hK K
              refine norm_ (a' := ?_) ?_ ?_
              rotate_left
              · show Act.put _ (some 106) _ = _
                simp only [Act.put, List.setIfInBounds_toArray, List.set_cons_zero, List.set_cons_succ, i64_w, i32_w]
                rfl
              refine pure_ (i := 1) (N := some 107) (v := ?_) (a' := ?_) #[true, true, false, false, false, false, false, false, false, false, false, false, false, false, false, false, false, false, false, false, false, false] rfl rfl (by kernel_rfl) (fun _ _ _ h => h) (Or.inl ⟨by rfl, ?_⟩) ?_ ?_
              rotate_left
              · intro w'
                go_simp
                with_reducible rfl
              rotate_left
              · simp only [Act.put, List.setIfInBounds_toArray, List.set_cons_zero, List.set_cons_succ, i64_w, i32_w]
                rfl
              refine pure_ (i := 2) (N := some 108) (v := ?_) (a' := ?_) #[true, true, true, false, false, false, false, false, false, false, false, false, false, false, false, false, false, false, false, false, false, false] rfl rfl (by kernel_rfl) (fun _ _ _ h => h) (Or.inl ⟨by rfl, ?_⟩) ?_ ?_
              rotate_left
              · intro w'
                go_simp
                with_reducible rfl
              rotate_left
              · simp only [Act.put, List.setIfInBounds_toArray, List.set_cons_zero, List.set_cons_succ, i64_w, i32_w]
                rfl
              refine pure_ (i := 3) (N := some 109) (v := ?_) (a' := ?_) #[true, true, true, true, false, false, false, false, false, false, false, false, false, false, false, false, false, false, false, false, false, false] rfl rfl (by kernel_rfl) (fun _ _ _ h => h) (Or.inl ⟨by rfl, ?_⟩) ?_ ?_
              rotate_left
              · intro w'
                go_simp
                with_reducible rfl
              rotate_left
              · simp only [Act.put, List.setIfInBounds_toArray, List.set_cons_zero, List.set_cons_succ, i64_w, i32_w]
                rfl
              refine pure_ (i := 4) (N := some 110) (v := ?_) (a' := ?_) #[true, true, true, true, true, false, false, false, false, false, false, false, false, false, false, false, false, false, false, false, false, false] rfl rfl (by kernel_rfl) (fun _ _ _ h => h) (Or.inl ⟨by rfl, ?_⟩) ?_ ?_
              rotate_left
              · intro w'
                go_simp
                with_reducible rfl
              rotate_left
              · simp only [Act.put, List.setIfInBounds_toArray, List.set_cons_zero, List.set_cons_succ, i64_w, i32_w]
                rfl
              refine pure_ (i := 5) (N := some 111) (v := ?_) (a' := ?_) #[true, true, true, true, true, true, false, false, false, false, false, false, false, false, false, false, false, false, false, false, false, false] rfl rfl (by kernel_rfl) (fun _ _ _ h => h) (Or.inl ⟨by rfl, ?_⟩) ?_ ?_
              rotate_left
              · intro w'
                go_simp
                with_reducible rfl
              rotate_left
              · simp only [Act.put, List.setIfInBounds_toArray, List.set_cons_zero, List.set_cons_succ, i64_w, i32_w]
                rfl
              refine pure_ (i := 6) (N := some 112) (v := ?_) (a' := ?_) #[true, true, true, true, true, true, true, false, false, false, false, false, false, false, false, false, false, false, false, false, false, false] rfl rfl (by kernel_rfl) (fun _ _ _ h => h) (Or.inl ⟨by rfl, ?_⟩) ?_ ?_
              rotate_left
              · intro w'
                go_simp
                with_reducible rfl
              rotate_left
              · simp only [Act.put, List.setIfInBounds_toArray, List.set_cons_zero, List.set_cons_succ, i64_w, i32_w]
                rfl
              refine pure_ (i := 7) (N := some 113) (v := ?_) (a' := ?_) #[true, true, true, true, true, true, true, true, false, false, false, false, false, false, false, false, false, false, false, false, false, false] rfl rfl (by kernel_rfl) (fun _ _ _ h => h) (Or.inl ⟨by rfl, ?_⟩) ?_ ?_
              rotate_left
              · intro w'
                go_simp
                with_reducible rfl
              rotate_left
              · simp only [Act.put, List.setIfInBounds_toArray, List.set_cons_zero, List.set_cons_succ, i64_w, i32_w]
                rfl
              refine pure_ (i := 8) (N := some 114) (v := ?_) (a' := ?_) #[true, true, true, true, true, true, true, true, true, false, false, false, false, false, false, false, false, false, false, false, false, false] rfl rfl (by kernel_rfl) (fun _ _ _ h => h) (Or.inl ⟨by rfl, ?_⟩) ?_ ?_
              rotate_left
              · intro w'
                go_simp
                with_reducible rfl
              rotate_left
              · simp only [Act.put, List.setIfInBounds_toArray, List.set_cons_zero, List.set_cons_succ, i64_w, i32_w]
                rfl
              refine pure_ (i := 9) (N := some 115) (v := ?_) (a' := ?_) #[true, true, true, true, true, true, true, true, true, true, false, false, false, false, false, false, false, false, false, false, false, false] rfl rfl (by kernel_rfl) (fun _ _ _ h => h) (Or.inl ⟨by rfl, ?_⟩) ?_ ?_
              rotate_left
              · intro w'
                go_simp
                with_reducible rfl
              rotate_left
              · simp only [Act.put, List.setIfInBounds_toArray, List.set_cons_zero, List.set_cons_succ, i64_w, i32_w]
                rfl
              refine pure_ (i := 10) (N := some 116) (v := ?_) (a' := ?_) #[true, true, true, true, true, true, true, true, true, true, true, false, false, false, false, false, false, false, false, false, false, false] rfl rfl (by kernel_rfl) (fun _ _ _ h => h) (Or.inl ⟨by rfl, ?_⟩) ?_ ?_
              rotate_left
              · intro w'
                go_simp
                with_reducible rfl
              rotate_left
              · simp only [Act.put, List.setIfInBounds_toArray, List.set_cons_zero, List.set_cons_succ, i64_w, i32_w]
                rfl
              refine pure_ (i := 11) (N := some 117) (v := ?_) (a' := ?_) #[true, true, true, true, true, true, true, true, true, true, true, true, false, false, false, false, false, false, false, false, false, false] rfl rfl (by kernel_rfl) (fun _ _ _ h => h) (Or.inl ⟨by rfl, ?_⟩) ?_ ?_
              rotate_left
              · intro w'
                go_simp
                with_reducible rfl
              rotate_left
              · simp only [Act.put, List.setIfInBounds_toArray, List.set_cons_zero, List.set_cons_succ, i64_w, i32_w]
                rfl
              refine pure_ (i := 12) (N := some 118) (v := ?_) (a' := ?_) #[true, true, true, true, true, true, true, true, true, true, true, true, true, false, false, false, false, false, false, false, false, false] rfl rfl (by kernel_rfl) (fun _ _ _ h => h) (Or.inl ⟨by rfl, ?_⟩) ?_ ?_
              rotate_left
              · intro w'
                go_simp
                with_reducible rfl
              rotate_left
              · simp only [Act.put, List.setIfInBounds_toArray, List.set_cons_zero, List.set_cons_succ, i64_w, i32_w]
                rfl
              refine pure_ (i := 13) (N := some 119) (v := ?_) (a' := ?_) #[true, true, true, true, true, true, true, true, true, true, true, true, true, true, false, false, false, false, false, false, false, false] rfl rfl (by kernel_rfl) (fun _ _ _ h => h) (Or.inl ⟨by rfl, ?_⟩) ?_ ?_
              rotate_left
              · intro w'
                go_simp
                with_reducible rfl
              rotate_left
              · simp only [Act.put, List.setIfInBounds_toArray, List.set_cons_zero, List.set_cons_succ, i64_w, i32_w]
                rfl
              refine pure_ (i := 14) (N := some 120) (v := ?_) (a' := ?_) #[true, true, true, true, true, true, true, true, true, true, true, true, true, true, true, false, false, false, false, false, false, false] rfl rfl (by kernel_rfl) (fun _ _ _ h => h) (Or.inl ⟨by rfl, ?_⟩) ?_ ?_
              rotate_left
              · intro w'
                go_simp
                with_reducible rfl
              rotate_left
              · simp only [Act.put, List.setIfInBounds_toArray, List.set_cons_zero, List.set_cons_succ, i64_w, i32_w]
                rfl
              refine pure_ (i := 16) (N := some 122) (v := ?_) (a' := ?_) #[true, true, true, true, true, true, true, true, true, true, true, true, true, true, true, false, true, false, false, false, false, false] rfl rfl (by kernel_rfl) (fun _ _ _ h => h) (Or.inl ⟨by rfl, ?_⟩) ?_ ?_
              rotate_left
              · intro w'
                go_simp
                with_reducible rfl
              rotate_left
              · simp only [Act.put, List.setIfInBounds_toArray, List.set_cons_zero, List.set_cons_succ, i64_w, i32_w]
                rfl
              refine take_ (i := 15) (N := some 121) (v := ?_) (a' := ?_) #[true, true, true, true, true, true, true, true, true, true, true, true, true, true, true, true, true, false, false, false, false, false] rfl rfl (by kernel_rfl) (fun _ _ _ h => h) (Or.inl ⟨by rfl, ?_⟩) hHeld ?_ ?_
              rotate_left
              · intro w' s0
                go_simp
                with_reducible rfl
              rotate_left
              · simp only [Act.put, List.setIfInBounds_toArray, List.set_cons_zero, List.set_cons_succ, i64_w, i32_w]
                rfl
              refine one_ (i := 17) (N := some 123) #[true, true, true, true, true, true, true, true, true, true, true, true, true, true, true, true, true, true, false, false, false, false] rfl rfl (by kernel_rfl) (by decide) (fun K hK => ?_)
              refine goes_ Try.func23 (by kernel_rfl) rfl #[.slice A1 l1.length c1] (by rfl) rfl rfl (by simp only [List.map_toArray, List.map_cons, List.map_nil]; rfl) ?_
              with_reducible refine (marginaliaref14_Block.calls 300 _ _ l1 B _ (Kd.C_below HR1.out (J_below J9.out)) HC1.out EVB.out).mono ?_
              rintro e w10 ⟨v10, rfl, hR, hb⟩
              refine ⟨_, rfl, ?_⟩
              obtain ⟨A10, c10, rfl⟩ := Kd.R_slice hR; have C10 := Aside0.mk (Kd.R_reads' hR).2.2; have J10 := Aside0.mk (J_deep J9.out hb); have D10 := Aside0.mk (Kd.C_below C9.out hb); clear hR hb
              refine hK.out _ _ ((by rw [HS.out]; exact Kd.C_string (P := Try.prog) (A := A8) (c := B.length) Try.underlying27 Try.underlying5 Try.underlying9 (D10.out))) (fun hHeld => ?_)
              clear hK K
              refine norm_ (a' := ?_) ?_ ?_
              rotate_left
              · show Act.put _ (some 123) _ = _
                simp only [Act.put, List.setIfInBounds_toArray, List.set_cons_zero, List.set_cons_succ, i64_w, i32_w]
                rfl
              refine one_ (i := 18) (N := some 124) #[true, true, true, true, true, true, true, true, true, true, true, true, true, true, true, true, true, true, true, false, false, false] rfl rfl (by kernel_rfl) (by decide) (fun K hK => ?_)
              refine value_ (w1 := w10) (v := .string S) (by rfl) rfl (exec_conv_s rfl (by rw [HS.out]; exact Kd.C_string (P := Try.prog) (c := c10) Try.underlying27 Try.underlying5 Try.underlying9 C10.out)) ?_
              refine hK.out _ _ ((by rw [HS.out]; exact Kd.C_string (P := Try.prog) (A := A8) (c := B.length) Try.underlying27 Try.underlying5 Try.underlying9 (D10.out))) (fun hHeld => ?_)
              clear hK K
              refine norm_ (a' := ?_) ?_ ?_
              rotate_left
              · show Act.put _ (some 124) _ = _
                simp only [Act.put, List.setIfInBounds_toArray, List.set_cons_zero, List.set_cons_succ, i64_w, i32_w]
                rfl
              refine pure_ (i := 19) (N := some 125) (v := ?_) (a' := ?_) #[true, true, true, true, true, true, true, true, true, true, true, true, true, true, true, true, true, true, true, true, false, false] rfl rfl (by kernel_rfl) (fun _ _ _ h => h) (Or.inl ⟨by rfl, ?_⟩) ?_ ?_
              rotate_left
              · intro w'
                go_simp
                with_reducible rfl
              rotate_left
              · simp only [Act.put, List.setIfInBounds_toArray, List.set_cons_zero, List.set_cons_succ, i64_w, i32_w]
                rfl
              refine pure_ (i := 20) (N := some 126) (v := ?_) (a' := ?_) #[true, true, true, true, true, true, true, true, true, true, true, true, true, true, true, true, true, true, true, true, true, false] rfl rfl (by kernel_rfl) (fun _ _ _ h => h) (Or.inl ⟨by rfl, ?_⟩) ?_ ?_
              rotate_left
              · intro w'
                go_simp
                with_reducible rfl
              rotate_left
              · simp only [Act.put, List.setIfInBounds_toArray, List.set_cons_zero, List.set_cons_succ, i64_w, i32_w]
                rfl
              refine pure_ (i := 21) (N := some 6) (v := ?_) (a' := ?_) #[true, true, true, true, true, true, true, true, true, true, true, true, true, true, true, true, true, true, true, true, true, true] rfl rfl (by kernel_rfl) (fun _ _ _ h => h) (Or.inl ⟨by rfl, ?_⟩) ?_ ?_
              rotate_left
              · intro w'
                go_simp
                with_reducible rfl
              rotate_left
              · simp only [Act.put, List.setIfInBounds_toArray, List.set_cons_zero, List.set_cons_succ, i64_w, i32_w]
                rfl
              refine done_ (by kernel_rfl) ?_
              go_wp2
              go_ret
              exact ⟨by simp, J_below J10.out⟩
            · have d1b : decide (i < l2.length) = false := decide_eq_false d1
              go_upto_region 19 with (first | (go_at_call 21; refine (J_Crash HJ.out (by have := PB.out; omega) _ _ [] (fun W _ _ => Kd.C_nil _ _)).mono ?_; rintro e w7 ⟨rfl, hJ, ho⟩; have J7 := Aside0.mk hJ; clear hJ ho HJ) | (go_at_call 16; refine (J_Read J7.out 7 _ _ EE.out).mono ?_; rintro e w8 ⟨v8, rfl, hf, hJ, hb⟩; have J8 := Aside0.mk hJ; have F8 := Aside0.mk hf; clear hJ hb hf J7))
              obtain ⟨A8, rfl, hC8⟩ := frs_C F8.out
              have C8 := Aside0.mk hC8
              obtain ⟨S, hS⟩ : ∃ S, S = strOfNums B := ⟨_, rfl⟩
              have HS := Aside0.mk hS
              clear hC8 F8 hS d0 d1 d1b
              refine start_ (n := 22) (S := fun w' => Sem.run Try.prog (convert 27 9 (.slice A8 B.length B.length)) w' = .ok (.string S) w') (ds := []) #[false, false, false, false, false, false, false, false, false, false, false, false, false, false, false, false, false, false, false, false, false, false] (by kernel_rfl) rfl rfl ((by rw [HS.out]; exact Kd.C_string (P := Try.prog) (A := A8) (c := B.length) Try.underlying27 Try.underlying5 Try.underlying9 (Kd.C_below C8.out (below_drew (Below.refl _ _))))) (fun hHeld => ?_)
              refine one_ (i := 0) (N := some 106) #[true, false, false, false, false, false, false, false, false, false, false, false, false, false, false, false, false, false, false, false, false, false] rfl rfl (by kernel_rfl) (by decide) (fun K hK => ?_)
              refine goes_ Try.func15 (by kernel_rfl) rfl #[] (by rfl) rfl rfl (by simp only [List.map_toArray, List.map_cons, List.map_nil]) ?_
              with_reducible refine (disk_alive _).mono ?_
              rintro e w9 ⟨rfl, hb⟩
              refine ⟨_, rfl, ?_⟩
              have J9 := Aside0.mk (J_deep J8.out (below_step (below_drew (Below.refl _ _)) hb)); have C9 := Aside0.mk (Kd.C_below C8.out (below_step (below_drew (Below.refl _ _)) hb)); clear hb
              refine hK.out _ _ ((by rw [HS.out]; exact Kd.C_string (P := Try.prog) (A := A8) (c := B.length) Try.underlying27 Try.underlying5 Try.underlying9 (C9.out))) (fun hHeld => ?_)
              clear hK K
              refine norm_ (a' := ?_) ?_ ?_
              rotate_left
              · show Act.put _ (some 106) _ = _
                simp only [Act.put, List.setIfInBounds_toArray, List.set_cons_zero, List.set_cons_succ, i64_w, i32_w]
                rfl
              refine pure_ (i := 1) (N := some 107) (v := ?_) (a' := ?_) #[true, true, false, false, false, false, false, false, false, false, false, false, false, false, false, false, false, false, false, false, false, false] rfl rfl (by kernel_rfl) (fun _ _ _ h => h) (Or.inl ⟨by rfl, ?_⟩) ?_ ?_
              rotate_left
              · intro w'
                go_simp
                with_reducible rfl
              rotate_left
              · simp only [Act.put, List.setIfInBounds_toArray, List.set_cons_zero, List.set_cons_succ, i64_w, i32_w]
                rfl
              refine pure_ (i := 2) (N := some 108) (v := ?_) (a' := ?_) #[true, true, true, false, false, false, false, false, false, false, false, false, false, false, false, false, false, false, false, false, false, false] rfl rfl (by kernel_rfl) (fun _ _ _ h => h) (Or.inl ⟨by rfl, ?_⟩) ?_ ?_
              rotate_left
              · intro w'
                go_simp
                with_reducible rfl
              rotate_left
              · simp only [Act.put, List.setIfInBounds_toArray, List.set_cons_zero, List.set_cons_succ, i64_w, i32_w]
                rfl
              refine pure_ (i := 3) (N := some 109) (v := ?_) (a' := ?_) #[true, true, true, true, false, false, false, false, false, false, false, false, false, false, false, false, false, false, false, false, false, false] rfl rfl (by kernel_rfl) (fun _ _ _ h => h) (Or.inl ⟨by rfl, ?_⟩) ?_ ?_
              rotate_left
              · intro w'
                go_simp
                with_reducible rfl
              rotate_left
              · simp only [Act.put, List.setIfInBounds_toArray, List.set_cons_zero, List.set_cons_succ, i64_w, i32_w]
                rfl
              refine pure_ (i := 4) (N := some 110) (v := ?_) (a' := ?_) #[true, true, true, true, true, false, false, false, false, false, false, false, false, false, false, false, false, false, false, false, false, false] rfl rfl (by kernel_rfl) (fun _ _ _ h => h) (Or.inl ⟨by rfl, ?_⟩) ?_ ?_
              rotate_left
              · intro w'
                go_simp
                with_reducible rfl
              rotate_left
              · simp only [Act.put, List.setIfInBounds_toArray, List.set_cons_zero, List.set_cons_succ, i64_w, i32_w]
                rfl
              refine pure_ (i := 5) (N := some 111) (v := ?_) (a' := ?_) #[true, true, true, true, true, true, false, false, false, false, false, false, false, false, false, false, false, false, false, false, false, false] rfl rfl (by kernel_rfl) (fun _ _ _ h => h) (Or.inl ⟨by rfl, ?_⟩) ?_ ?_
              rotate_left
              · intro w'
                go_simp
                with_reducible rfl
              rotate_left
              · simp only [Act.put, List.setIfInBounds_toArray, List.set_cons_zero, List.set_cons_succ, i64_w, i32_w]
                rfl
              refine pure_ (i := 6) (N := some 112) (v := ?_) (a' := ?_) #[true, true, true, true, true, true, true, false, false, false, false, false, false, false, false, false, false, false, false, false, false, false] rfl rfl (by kernel_rfl) (fun _ _ _ h => h) (Or.inl ⟨by rfl, ?_⟩) ?_ ?_
              rotate_left
              · intro w'
                go_simp
                with_reducible rfl
              rotate_left
              · simp only [Act.put, List.setIfInBounds_toArray, List.set_cons_zero, List.set_cons_succ, i64_w, i32_w]
                rfl
              refine pure_ (i := 7) (N := some 113) (v := ?_) (a' := ?_) #[true, true, true, true, true, true, true, true, false, false, false, false, false, false, false, false, false, false, false, false, false, false] rfl rfl (by kernel_rfl) (fun _ _ _ h => h) (Or.inl ⟨by rfl, ?_⟩) ?_ ?_
              rotate_left
              · intro w'
                go_simp
                with_reducible rfl
              rotate_left
              · simp only [Act.put, List.setIfInBounds_toArray, List.set_cons_zero, List.set_cons_succ, i64_w, i32_w]
                rfl
              refine pure_ (i := 8) (N := some 114) (v := ?_) (a' := ?_) #[true, true, true, true, true, true, true, true, true, false, false, false, false, false, false, false, false, false, false, false, false, false] rfl rfl (by kernel_rfl) (fun _ _ _ h => h) (Or.inl ⟨by rfl, ?_⟩) ?_ ?_
              rotate_left
              · intro w'
                go_simp
                with_reducible rfl
              rotate_left
              · simp only [Act.put, List.setIfInBounds_toArray, List.set_cons_zero, List.set_cons_succ, i64_w, i32_w]
                rfl
              refine pure_ (i := 9) (N := some 115) (v := ?_) (a' := ?_) #[true, true, true, true, true, true, true, true, true, true, false, false, false, false, false, false, false, false, false, false, false, false] rfl rfl (by kernel_rfl) (fun _ _ _ h => h) (Or.inl ⟨by rfl, ?_⟩) ?_ ?_
              rotate_left
              · intro w'
                go_simp
                with_reducible rfl
              rotate_left
              · simp only [Act.put, List.setIfInBounds_toArray, List.set_cons_zero, List.set_cons_succ, i64_w, i32_w]
                rfl
              refine pure_ (i := 10) (N := some 116) (v := ?_) (a' := ?_) #[true, true, true, true, true, true, true, true, true, true, true, false, false, false, false, false, false, false, false, false, false, false] rfl rfl (by kernel_rfl) (fun _ _ _ h => h) (Or.inl ⟨by rfl, ?_⟩) ?_ ?_
              rotate_left
              · intro w'
                go_simp
                with_reducible rfl
              rotate_left
              · simp only [Act.put, List.setIfInBounds_toArray, List.set_cons_zero, List.set_cons_succ, i64_w, i32_w]
                rfl
              refine pure_ (i := 11) (N := some 117) (v := ?_) (a' := ?_) #[true, true, true, true, true, true, true, true, true, true, true, true, false, false, false, false, false, false, false, false, false, false] rfl rfl (by kernel_rfl) (fun _ _ _ h => h) (Or.inl ⟨by rfl, ?_⟩) ?_ ?_
              rotate_left
              · intro w'
                go_simp
                with_reducible rfl
              rotate_left
              · simp only [Act.put, List.setIfInBounds_toArray, List.set_cons_zero, List.set_cons_succ, i64_w, i32_w]
                rfl
              refine pure_ (i := 12) (N := some 118) (v := ?_) (a' := ?_) #[true, true, true, true, true, true, true, true, true, true, true, true, true, false, false, false, false, false, false, false, false, false] rfl rfl (by kernel_rfl) (fun _ _ _ h => h) (Or.inl ⟨by rfl, ?_⟩) ?_ ?_
              rotate_left
              · intro w'
                go_simp
                with_reducible rfl
              rotate_left
              · simp only [Act.put, List.setIfInBounds_toArray, List.set_cons_zero, List.set_cons_succ, i64_w, i32_w]
                rfl
              refine pure_ (i := 13) (N := some 119) (v := ?_) (a' := ?_) #[true, true, true, true, true, true, true, true, true, true, true, true, true, true, false, false, false, false, false, false, false, false] rfl rfl (by kernel_rfl) (fun _ _ _ h => h) (Or.inl ⟨by rfl, ?_⟩) ?_ ?_
              rotate_left
              · intro w'
                go_simp
                with_reducible rfl
              rotate_left
              · simp only [Act.put, List.setIfInBounds_toArray, List.set_cons_zero, List.set_cons_succ, i64_w, i32_w]
                rfl
              refine pure_ (i := 14) (N := some 120) (v := ?_) (a' := ?_) #[true, true, true, true, true, true, true, true, true, true, true, true, true, true, true, false, false, false, false, false, false, false] rfl rfl (by kernel_rfl) (fun _ _ _ h => h) (Or.inl ⟨by rfl, ?_⟩) ?_ ?_
              rotate_left
              · intro w'
                go_simp
                with_reducible rfl
              rotate_left
              · simp only [Act.put, List.setIfInBounds_toArray, List.set_cons_zero, List.set_cons_succ, i64_w, i32_w]
                rfl
              refine pure_ (i := 16) (N := some 122) (v := ?_) (a' := ?_) #[true, true, true, true, true, true, true, true, true, true, true, true, true, true, true, false, true, false, false, false, false, false] rfl rfl (by kernel_rfl) (fun _ _ _ h => h) (Or.inl ⟨by rfl, ?_⟩) ?_ ?_
              rotate_left
              · intro w'
                go_simp
                with_reducible rfl
              rotate_left
              · simp only [Act.put, List.setIfInBounds_toArray, List.set_cons_zero, List.set_cons_succ, i64_w, i32_w]
                rfl
              refine take_ (i := 15) (N := some 121) (v := ?_) (a' := ?_) #[true, true, true, true, true, true, true, true, true, true, true, true, true, true, true, true, true, false, false, false, false, false] rfl rfl (by kernel_rfl) (fun _ _ _ h => h) (Or.inl ⟨by rfl, ?_⟩) hHeld ?_ ?_
              rotate_left
              · intro w' s0
                go_simp
                with_reducible rfl
              rotate_left
              · simp only [Act.put, List.setIfInBounds_toArray, List.set_cons_zero, List.set_cons_succ, i64_w, i32_w]
                rfl
              refine one_ (i := 17) (N := some 123) #[true, true, true, true, true, true, true, true, true, true, true, true, true, true, true, true, true, true, false, false, false, false] rfl rfl (by kernel_rfl) (by decide) (fun K hK => ?_)
              refine goes_ Try.func23 (by kernel_rfl) rfl #[.slice A1 l1.length c1] (by rfl) rfl rfl (by simp only [List.map_toArray, List.map_cons, List.map_nil]; rfl) ?_
              with_reducible refine (marginaliaref14_Block.calls 300 _ _ l1 B _ (Kd.C_below HR1.out (J_below J9.out)) HC1.out EVB.out).mono ?_
              rintro e w10 ⟨v10, rfl, hR, hb⟩
              refine ⟨_, rfl, ?_⟩
              obtain ⟨A10, c10, rfl⟩ := Kd.R_slice hR; have C10 := Aside0.mk (Kd.R_reads' hR).2.2; have J10 := Aside0.mk (J_deep J9.out hb); have D10 := Aside0.mk (Kd.C_below C9.out hb); clear hR hb
              refine hK.out _ _ ((by rw [HS.out]; exact Kd.C_string (P := Try.prog) (A := A8) (c := B.length) Try.underlying27 Try.underlying5 Try.underlying9 (D10.out))) (fun hHeld => ?_)
              clear hK K
              refine norm_ (a' := ?_) ?_ ?_
              rotate_left
              · show Act.put _ (some 123) _ = _
                simp only [Act.put, List.setIfInBounds_toArray, List.set_cons_zero, List.set_cons_succ, i64_w, i32_w]
                rfl
              refine one_ (i := 18) (N := some 124) #[true, true, true, true, true, true, true, true, true, true, true, true, true, true, true, true, true, true, true, false, false, false] rfl rfl (by kernel_rfl) (by decide) (fun K hK => ?_)
              refine value_ (w1 := w10) (v := .string S) (by rfl) rfl (exec_conv_s rfl (by rw [HS.out]; exact Kd.C_string (P := Try.prog) (c := c10) Try.underlying27 Try.underlying5 Try.underlying9 C10.out)) ?_
              refine hK.out _ _ ((by rw [HS.out]; exact Kd.C_string (P := Try.prog) (A := A8) (c := B.length) Try.underlying27 Try.underlying5 Try.underlying9 (D10.out))) (fun hHeld => ?_)
              clear hK K
              refine norm_ (a' := ?_) ?_ ?_
              rotate_left
              · show Act.put _ (some 124) _ = _
                simp only [Act.put, List.setIfInBounds_toArray, List.set_cons_zero, List.set_cons_succ, i64_w, i32_w]
                rfl
              refine pure_ (i := 19) (N := some 125) (v := ?_) (a' := ?_) #[true, true, true, true, true, true, true, true, true, true, true, true, true, true, true, true, true, true, true, true, false, false] rfl rfl (by kernel_rfl) (fun _ _ _ h => h) (Or.inl ⟨by rfl, ?_⟩) ?_ ?_
              rotate_left
              · intro w'
                go_simp
                with_reducible rfl
              rotate_left
              · simp only [Act.put, List.setIfInBounds_toArray, List.set_cons_zero, List.set_cons_succ, i64_w, i32_w]
                rfl
              refine pure_ (i := 20) (N := some 126) (v := ?_) (a' := ?_) #[true, true, true, true, true, true, true, true, true, true, true, true, true, true, true, true, true, true, true, true, true, false] rfl rfl (by kernel_rfl) (fun _ _ _ h => h) (Or.inl ⟨by rfl, ?_⟩) ?_ ?_
              rotate_left
              · intro w'
                go_simp
                with_reducible rfl
              rotate_left
              · simp only [Act.put, List.setIfInBounds_toArray, List.set_cons_zero, List.set_cons_succ, i64_w, i32_w]
                rfl
              refine pure_ (i := 21) (N := some 6) (v := ?_) (a' := ?_) #[true, true, true, true, true, true, true, true, true, true, true, true, true, true, true, true, true, true, true, true, true, true] rfl rfl (by kernel_rfl) (fun _ _ _ h => h) (Or.inl ⟨by rfl, ?_⟩) ?_ ?_
              rotate_left
              · intro w'
                go_simp
                with_reducible rfl
              rotate_left
              · simp only [Act.put, List.setIfInBounds_toArray, List.set_cons_zero, List.set_cons_succ, i64_w, i32_w]
                rfl
              refine done_ (by kernel_rfl) ?_
              go_wp2
              go_ret
              exact ⟨by simp, J_below J10.out⟩
def marginalialaw14_DiskSafe.f (l0 : List S35) (l1 : List Int) (l2 : List S35) : Option (Bool) := some true
theorem marginalialaw14_DiskSafe.calls (A0 : Option Addr) (c0 : Nat) (l0 : List S35) (A1 : Option Addr) (c1 : Nat) (l1 : List Int) (A2 : Option Addr) (c2 : Nat) (l2 : List S35) (r : Bool) (w : World) (hr0 : Kd.C k35 w A0 l0.length l0) (hc0 : l0.length ≤ c0) (hr1 : Kd.C (Kd.int .u8) w A1 l1.length l1) (hc1 : l1.length ≤ c1) (hr2 : Kd.C k35 w A2 l2.length l2) (hc2 : l2.length ≤ c2) (h : marginalialaw14_DiskSafe.f l0 l1 l2 = some r) :
    Calls Try.prog 4 #[.slice A0 l0.length c0, .slice A1 l1.length c1, .slice A2 l2.length c2] w fun e w' => e = .returned (.bool r) ∧ Below w.heap.size w w' := by
  obtain rfl := Option.some.inj h
  exact law_Safe_s A0 c0 l0 A1 c1 l1 A2 c2 l2 w hr0 hr1 hc1 hr2

end Go.Proofs.Ytepipgneefcoiaa.D
