/- The functions of the program that these laws reach, each as a plain Lean function, and the proof that the machine's call comes to it; no condition beyond those that each theorem names. Made by wip/xprint.py. -/
import Derived.Test.YtmdmoohkdkooaaaSx0
import Derived.Test.YtmdmoohkdkooaaaSf35
import Derived.Test.YtmdmoohkdkooaaaSf38
import Derived.Test.YtmdmoohkdkooaaaSf39
import Derived.Test.YtmdmoohkdkooaaaSf41
import Derived.Test.YtmdmoohkdkooaaaSf42
import Derived.Test.YtmdmoohkdkooaaaSf43
import Derived.Test.YtmdmoohkdkooaaaSf44
import Derived.Test.YtmdmoohkdkooaaaSf45
import Derived.Test.YtmdmoohkdkooaaaSf61
import Derived.Test.YtmdmoohkdkooaaaSh
namespace Go.Proofs.Ytmdmoohkdkooaaa.S
open Go.RowKit Go.Proofs.YtmdmoohkdkooaaaW.PrintWords Go.Proofs.YtmdmoohkdkooaaaW.PrintLast Go.Proofs.YtmdmoohkdkooaaaW.PrintMore
attribute [local go_sem] max2_int min2_int max_two min_two max_three min_three max_four min_four   -- for this text's walks alone
set_option linter.unusedVariables false
set_option linter.unusedSimpArgs false

/-! ### marginalialaw18_SpacePlays: function 10: by hand -/
/- The document's space by the list of what is taken. -/
theorem w64 {x : Int} (h0 : 0 ≤ x) (h1 : x ≤ 1000000) : wrap64 x = x := IntWalk.wrap64_in x (by omega)
theorem ref_New {n : Int} (h1 : 1 ≤ n) (h2 : n ≤ 4096) : marginaliaref18_New.f n = some (List.replicate n.toNat false, 0) := by
  unfold marginaliaref18_New.f
  rw [if_neg (by omega), if_neg (by omega), if_pos (by omega), if_pos (by omega)]
theorem ref_Taken (l : List Bool) (i : Int) : marginaliaref18_Taken.f l i = some (tkn l i) := by
  unfold marginaliaref18_Taken.f tkn
  by_cases h1 : 0 ≤ i
  · rw [if_pos h1]
    by_cases h2 : i < (l.length : Int)
    · rw [if_pos h2, if_pos h1, decide_eq_true h1, decide_eq_true h2]; rfl
    · rw [if_neg h2, decide_eq_true h1, decide_eq_false h2]; rfl
  · rw [if_neg h1, decide_eq_false h1]; rfl
theorem fre_drop {l : List Bool} {j : Nat} (h : j < l.length) : fre j (l.drop j) = if rdOf false l (j : Int) then fre (j + 1) (l.drop (j + 1)) else (j : Int) :: fre (j + 1) (l.drop (j + 1)) := by
  have : rdOf false l (j : Int) = l[j] := by simp [rdOf, List.getD_eq_getElem?_getD, h]
  rw [List.drop_eq_getElem_cons h, this]
  rfl
theorem ref_Free_l {l : List Bool} (hl : l.length ≤ 4096) : ∀ (k j : Nat) (c : Int), j ≤ l.length → l.length < k + j → 0 ≤ c → c + ((fre j (l.drop j)).length : Int) ≤ 4096 → marginaliaref18_Free.l0 k l c (j : Int) = some (c + ((fre j (l.drop j)).length : Int))
  | 0, j, c, hj, hk, hc, hm => by omega
  | k + 1, j, c, hj, hk, hc, hm => by
    unfold marginaliaref18_Free.l0
    by_cases h : j < l.length
    · rw [if_pos (by omega), if_pos (by omega), w64 (x := (j : Int) + 1) (by omega) (by omega)]
      have e := fre_drop h
      cases hb : rdOf false l (j : Int) with
      | true =>
        rw [hb, if_pos rfl] at e
        rw [e] at hm
        rw [if_pos rfl, e]
        exact ref_Free_l hl k (j + 1) c (by omega) (by omega) hc hm
      | false =>
        rw [hb, if_neg (by decide)] at e
        rw [e, List.length_cons] at hm
        rw [if_neg (by decide), w64 (x := c + 1) (by omega) (by omega), e, List.length_cons]
        have := ref_Free_l hl k (j + 1) (c + 1) (by omega) (by omega) (by omega) (by omega)
        refine this.trans ?_
        congr 1
        omega
    · rw [if_neg (by omega), List.drop_of_length_le (by omega)]
      simp [fre]
theorem ref_Free {l : List Bool} (hl : l.length ≤ 4096) : marginaliaref18_Free.f 5000 l = some ((fre 0 l).length : Int) := by
  unfold marginaliaref18_Free.f
  have := ref_Free_l hl 5000 0 0 (by omega) (by omega) (by omega) (by have := fre_len l 0; simp; omega)
  simpa using this
theorem ref_set {l : List Bool} {i : Int} {b : Bool} (hl : l.length ≤ 4096) (h0 : 0 ≤ i) (h1 : i < (l.length : Int)) : marginaliaref18_set.f l i b = some (l.set i.toNat b) := by
  unfold marginaliaref18_set.f
  rw [Option.bind_some, List.length_nil, if_pos (by omega), Option.bind_some, List.nil_append, if_pos h0, if_pos h1]
theorem ref_Give {l : List Bool} (hl : l.length ≤ 4096) (i : Int) : marginaliaref18_Give.f l i = some ((gvx l i).2, (gvx l i).1) := by
  unfold marginaliaref18_Give.f gvx
  rw [ref_Taken, Option.bind_some]
  cases hb : tkn l i with
  | true =>
    obtain ⟨h0, h1, _⟩ := tkn_lt hb
    rw [if_pos rfl, if_pos rfl, ref_set hl h0 h1]; rfl
  | false => rw [if_neg (by decide), if_neg (by decide)]
theorem ref_Take_l {l : List Bool} (hl : l.length ≤ 4096) : ∀ (k j : Nat), j ≤ l.length → l.length < k + j → marginaliaref18_Take.l0 k l (j : Int) = some (match fre j (l.drop j) with | [] => (l, 0, 3) | i :: _ => (l.set i.toNat true, i, 0))
  | 0, j, hj, hk => by omega
  | k + 1, j, hj, hk => by
    unfold marginaliaref18_Take.l0
    by_cases h : j < l.length
    · rw [if_pos (by omega), if_pos (by omega), w64 (x := (j : Int) + 1) (by omega) (by omega), fre_drop h]
      cases hb : rdOf false l (j : Int) with
      | true =>
        rw [if_pos rfl, if_pos rfl]
        exact ref_Take_l hl k (j + 1) (by omega) (by omega)
      | false =>
        rw [if_neg (by decide), if_neg (by decide), ref_set hl (by omega) (by omega)]
        rfl
    · rw [if_neg (by omega), List.drop_of_length_le (by omega)]
      rfl
theorem ref_Take {l : List Bool} (hl : l.length ≤ 4096) : marginaliaref18_Take.f 5000 l = some ((tkx l).2.2, (tkx l).1, (tkx l).2.1) := by
  unfold marginaliaref18_Take.f tkx
  have := ref_Take_l hl 5000 0 (by omega) (by omega)
  refine this.trans ?_
  rw [List.drop_zero]
  cases fre 0 l <;> rfl
theorem ref_Only_l {l : List Bool} (hl : l.length ≤ 4096) {ns : List Int} (hn : ns.length ≤ 1000) : ∀ (k j : Nat) (a : List Bool), a.length = l.length → j ≤ ns.length → 2 * ns.length < k + 2 * j → marginaliaref18_Only.l0 k l ns a (j : Int) = some (match onl l.length a (ns.drop j) with | none => (l, 1) | some t => (t, 0))
  | 0, j, a, ha, hj, hk => by omega
  | k + 1, j, a, ha, hj, hk => by
    unfold marginaliaref18_Only.l0
    by_cases h : j < ns.length
    · rw [if_pos (by omega), if_pos (by omega), onl_drop h]
      obtain ⟨k, rfl⟩ : ∃ k', k = k' + 1 := ⟨k - 1, by omega⟩
      obtain ⟨x, ex⟩ : ∃ x, x = rd ns (j : Int) := ⟨_, rfl⟩
      rw [← ex]
      have hj1 : marginaliaref18_Only.j1 (k + 1) l ns a (j : Int) true = some (l, 1) := by unfold marginaliaref18_Only.j1; rw [if_pos rfl]
      by_cases c1 : x < 0
      · rw [if_pos c1, hj1, if_neg (by omega)]
      · rw [if_neg c1]
        by_cases c2 : x ≥ (l.length : Int)
        · rw [if_pos c2, hj1, if_neg (by omega)]
        · rw [if_neg c2, if_pos (by omega), if_pos (by rw [ha]; omega)]
          cases hb : rdOf false a x with
          | true => rw [hj1, if_neg (fun h => absurd h.2.2 (by decide))]
          | false =>
            rw [if_pos ⟨by omega, by omega, rfl⟩]
            unfold marginaliaref18_Only.j1
            rw [← ex, if_neg (by decide), if_pos (by omega), if_pos (by omega), if_pos (by omega), if_pos (by rw [ha]; omega), w64 (x := (j : Int) + 1) (by omega) (by omega)]
            exact ref_Only_l hl hn k (j + 1) _ (by rw [List.length_set, ha]) (by omega) (by omega)
    · rw [if_neg (by omega), List.drop_of_length_le (by omega)]
      rfl
theorem ref_Only {l : List Bool} (hl : l.length ≤ 4096) {ns : List Int} (hn : ns.length ≤ 1000) : marginaliaref18_Only.f 5000 l ns = some ((onx l ns).2, (onx l ns).1) := by
  unfold marginaliaref18_Only.f onx
  rw [if_pos (by omega), if_pos (by omega), Int.toNat_natCast]
  refine (ref_Only_l hl hn 5000 0 _ (List.length_replicate ..) (by omega) (by omega)).trans ?_
  rw [List.drop_zero]
  cases onl l.length (List.replicate l.length false) ns <;> rfl
theorem J_slice {w0 w : World} {p : Nat} {tk : List Bool} {vL : Value} {l : List Bool} (h : J w0 w p tk vL l) : ∃ A c, vL = .slice A l.length c := Kd.R_slice (J_row h)
theorem J_rFree {w0 w : World} {p : Nat} {tk : List Bool} {vL : Value} {l : List Bool} (h : J w0 w p tk vL l) (hl : l.length ≤ 4096) :
    Calls Try.prog 44 #[vL] w fun e w' => e = .returned (.int .i64 ((fre 0 l).length : Int)) ∧ J w0 w' p tk vL l ∧ Drawn0 w w' := by
  obtain ⟨A, c, rfl⟩ := J_slice h
  have r := Kd.R_reads' (J_row h)
  refine (marginaliaref18_Free.calls 5000 A c l _ w r.2.2 r.2.1 (ref_Free hl)).mono ?_
  rintro e w' ⟨rfl, hd⟩
  exact ⟨rfl, J_drawn h hd, hd⟩
theorem J_rTaken {w0 w : World} {p : Nat} {tk : List Bool} {vL : Value} {l : List Bool} (h : J w0 w p tk vL l) (i : Int) (b : Bool) (hb : tkn l i = b) :
    Calls Try.prog 45 #[vL, .int .i64 i] w fun e w' => e = .returned (.bool b) ∧ J w0 w' p tk vL l ∧ Drawn0 w w' := by
  obtain ⟨A, c, rfl⟩ := J_slice h
  subst hb
  have r := Kd.R_reads' (J_row h)
  refine (marginaliaref18_Taken.calls A c l i _ w r.2.2 r.2.1 (ref_Taken l i)).mono ?_
  rintro e w' ⟨rfl, hd⟩
  exact ⟨rfl, J_drawn h hd, hd⟩
theorem J_tight {w0 w : World} {p : Nat} {tk : List Bool} {vL : Value} {l : List Bool} (h : J w0 w p tk vL l) : Kd.R Kd.bool 4 w w0.heap.size (fun k => some k = vL.ownBlock) vL l := Kd.R_tight rfl (J_row h)
theorem J_rTake {w0 w : World} {p : Nat} {tk : List Bool} {vL : Value} {l : List Bool} (h : J w0 w p tk vL l) (hl : l.length ≤ 4096) (x e l' : _) (hx : tkx l = (x, e, l')) :
    Calls Try.prog 41 #[vL] w fun r w' => ∃ v, r = .returned (.tuple #[v, .int .i64 x, .int .i64 e]) ∧ J w0 w' p tk v l' ∧ tyk w w' := by
  have hf := ref_Take hl
  rw [hx] at hf
  refine (marginaliaref18_Take.calls 5000 _ vL l _ _ _ w0 w (J_below h) (J_tight h) hf).mono ?_
  rintro r w' ⟨v, rfl, hR, hB, hK⟩
  exact ⟨v, rfl, J_ref (ok := fun _ => True) h hR hB hK, row_tyk h hK⟩
theorem J_rGive {w0 w : World} {p : Nat} {tk : List Bool} {vL : Value} {l : List Bool} (h : J w0 w p tk vL l) (hl : l.length ≤ 4096) (i e l' : _) (hx : gvx l i = (e, l')) :
    Calls Try.prog 42 #[vL, .int .i64 i] w fun r w' => ∃ v, r = .returned (.tuple #[v, .int .i64 e]) ∧ J w0 w' p tk v l' ∧ tyk w w' := by
  have hf := ref_Give hl i
  rw [hx] at hf
  refine (marginaliaref18_Give.calls _ vL l i _ _ w0 w (J_below h) (J_tight h) hf).mono ?_
  rintro r w' ⟨v, rfl, hR, hB, hK⟩
  exact ⟨v, rfl, J_ref (ok := fun _ => True) h hR hB hK, row_tyk h hK⟩
theorem C_same {w0 W : World} {A : Option Addr} {n : Nat} {xs : List Int} (h : Kd.C (Kd.int .i64) w0 A n xs) (hK : ∀ k, k < w0.heap.size → W.heap[k]? = w0.heap[k]?) : Kd.C (Kd.int .i64) W A n xs := by
  have r := Kd.reads_of_C (enc := Value.int .i64) (d := (0 : Int)) (h1 := fun _ => rfl) h
  refine Kd.C_of_reads (enc := Value.int .i64) (d := (0 : Int)) ⟨r.1, r.2.1, fun hn => ?_⟩
  obtain ⟨ad, e, hc⟩ := r.2.2 hn
  refine ⟨ad, e, fun j hj => ?_⟩
  have := hc j hj
  rw [← this]
  refine World.cell?_of_block (hK _ ?_)
  by_cases hlt : (ad.add j).block < w0.heap.size
  · exact hlt
  · unfold World.cell? at this
    rw [Array.getElem?_eq_none (by omega)] at this
    exact absurd this (by simp)
theorem J_rOnly {w0 w : World} {p : Nat} {tk : List Bool} {vL : Value} {l : List Bool} (h : J w0 w p tk vL l) (hl : l.length ≤ 4096) (A : Option Addr) (c : Nat) (ns : List Int) (hr : Kd.C (Kd.int .i64) w0 A ns.length ns) (hc : ns.length ≤ c) (hn : ns.length ≤ 1000) (e l' : _) (hx : onx l ns = (e, l')) :
    Calls Try.prog 43 #[vL, .slice A ns.length c] w fun r w' => ∃ v, r = .returned (.tuple #[v, .int .i64 e]) ∧ J w0 w' p tk v l' ∧ tyk w w' := by
  have hf := ref_Only hl hn
  rw [hx] at hf
  have hb := J_below h
  refine (marginaliaref18_Only.calls 5000 _ vL l A c ns _ _ w0 w hb (J_tight h) ?_ hc hf).mono ?_
  · intro W hK
    refine C_same hr (fun k hk => (hK.2 k (Nat.lt_of_lt_of_le hk hb.size) (fun e => ?_)).trans (hb.block k hk))
    have := Kd.R_base (J_row h) k e.symm
    omega
  · rintro r w' ⟨v, rfl, hR, hB, hK⟩
    exact ⟨v, rfl, J_ref (ok := fun _ => True) h hR hB hK, row_tyk h hK⟩
theorem tkx_len {tk t : List Bool} {x e : Int} (h : tkx tk = (x, e, t)) : t.length = tk.length := by
  unfold tkx at h
  split at h
  · injection h with _ h; injection h with _ h; rw [← h]
  · injection h with _ h; injection h with _ h; rw [← h, List.length_set]
theorem gvx_len {tk t : List Bool} {i e : Int} (h : gvx tk i = (e, t)) : t.length = tk.length := by
  unfold gvx at h
  split at h
  · injection h with _ h; rw [← h, List.length_set]
  · injection h with _ h; rw [← h]
theorem onx_len {tk t : List Bool} {ns : List Int} {e : Int} (h : onx tk ns = (e, t)) : t.length = tk.length := by
  unfold onx at h
  split at h
  · injection h with _ h; rw [← h]
  · rename_i t' e'
    injection h with _ h
    rw [← h, onl_len _ _ _ e', List.length_replicate]
theorem plx_len {tk t : List Bool} {a b x e : Int} {ns : List Int} (h : plx tk a b ns = (x, e, t)) : t.length = tk.length := by
  unfold plx at h
  split at h
  · exact tkx_len h
  · split at h
    · injection h with _ h; exact gvx_len h
    · split at h
      · injection h with _ h; exact onx_len h
      · injection h with _ h; injection h with _ h; rw [← h]
theorem pick_ok (a0 : Int) : ∃ r, marginalialaw18_pick.f a0 40 = some r ∧ 0 ≤ r ∧ r < 40 := by
  unfold marginalialaw18_pick.f
  rw [if_neg (by decide)]
  refine ⟨_, rfl, ?_⟩
  have h1 : -40 < Int.tmod a0 40 ∧ Int.tmod a0 40 < 40 := by
    have := Int.tmod_lt_of_pos a0 (show (0 : Int) < 40 by decide)
    have h2 := Int.neg_tmod a0 40
    have := Int.tmod_lt_of_pos (-a0) (show (0 : Int) < 40 by decide)
    omega
  have e : wrap64 (Int.tmod a0 40 + 40) = Int.tmod a0 40 + 40 := IntWalk.wrap64_in _ (by omega)
  rw [e]
  exact ⟨Int.tmod_nonneg _ (by omega), Int.tmod_lt_of_pos _ (by decide)⟩
set_option maxRecDepth 20000 in
set_option maxHeartbeats 16000000 in
theorem law_Plays (a0 : Int) (A1 : Option Addr) (c1 : Nat) (l1 : List S54) (w : World) (hr1 : Kd.C k54 w A1 l1.length l1) : Calls Try.prog 10 #[.int .i64 a0, .slice A1 l1.length c1] w fun e w' => e = .returned (.bool true) ∧ Below w.heap.size w w' := by
  obtain ⟨r, hr, r0, r1⟩ := pick_ok a0
  obtain ⟨K, hK⟩ : ∃ K, K = 1 + r := ⟨_, rfl⟩
  have wK : IntKind.i64.wrap (1 + r) = K := by rw [i64_w, hK]; exact IntWalk.wrap64_in _ (by omega)
  have HK := Aside0.mk (show 1 ≤ K ∧ K ≤ 40 by omega)
  have HR := Aside0.mk hr
  have HL := Aside0.mk hr1
  obtain ⟨n1, hn1⟩ : ∃ n, n = l1.length := ⟨_, rfl⟩
  have HN := Aside0.mk hn1
  have nm := Kd.C_max hr1
  rw [← hn1] at nm ⊢
  have N0 : Kd.R Kd.bool 4 w w.heap.size (fun _ => True) (.slice none 0 0) [] := Kd.R_nil _ _ _ _ _
  clear hr hr1 r0 r1 hK hn1
  go_enter Try.func10, Try.ntmps10
  go_wp2_with (first | (go_at_call 38; refine (marginalialaw18_pick.calls a0 40 r _ HR.out).mono ?_; rintro e w1 ⟨rfl, hd⟩; have B1 := Aside0.mk (sp_drawn hd); clear hd) | (go_at_call 34; refine (J_New (w0 := w) B1.out (Kd.R_below N0 B1.out) K HK.out.1 (by have := HK.out; omega)).mono ?_; rintro e w2 ⟨p, rfl, hJ⟩; have J2 := Aside0.mk hJ; clear hJ) | (go_at_call 39; refine (marginaliaref18_New.calls K _ _ _ (ref_New HK.out.1 (by have := HK.out; omega))).mono ?_; rintro e w3 ⟨v3, rfl, hR, hb⟩; have J3 := Aside0.mk (J_ref (ok := fun _ => True) J2.out (Kd.R_mono (Kd.R_lower (Kd.R_bound hR) (J_below J2.out).size) (fun k hk => .inr hk.2.1)) (below_step (J_below J2.out) hb) (Kept.of_below hb _)); clear hR hb))
  obtain ⟨M, hM⟩ : ∃ M, M = K.toNat := ⟨_, rfl⟩
  have HM := Aside0.mk (show (M : Int) = K ∧ M ≤ 40 by have := HK.out; omega)
  rw [← hM] at J3
  clear hM
  go_loopw [8, 10] (fun v8 v10 wr => ∃ (j : Nat) (tk : List Bool), v10 = .int .i64 (j : Int) ∧ j ≤ n1 ∧ tk.length = M ∧ Aside0 (J w wr p tk v8 tk)) (fun _ v10 _ => n1 - (intOf v10).toNat)
  case atStart => exact ⟨0, _, rfl, Nat.zero_le _, List.length_replicate .., J3⟩
  case round =>
    obtain ⟨j, tk, rfl, hj, htk, HJ⟩ := hrel
    have HT := Aside0.mk htk
    clear htk
    by_cases d1 : j < n1
    · have d1b : decide (j < n1) = true := decide_eq_true d1
      by_cases d2 : j < 60
      · have d2b : decide (j < 60) = true := decide_eq_true d2
        obtain ⟨ad, A2, c2, ea, y0, y1, y2, l2, C2⟩ := at_T54 (Kd.C_below HL.out (J_below HJ.out)) (j : Int) (by omega) (by have := HN.out; omega)
        obtain ⟨ad', A2', c2', ea', y0', y1', y2', l2', C2'⟩ := at_T54 HL.out (j : Int) (by omega) (by have := HN.out; omega)
        have q0 : A2' = A2 ∧ c2' = c2 := by
          rw [ea] at ea'
          injection ea' with ea'
          subst ea'
          have h := pw_cell_below (J_below HJ.out) y2'
          rw [y2] at h
          injection h with h
          injection h with h1 h2 h3
          exact ⟨h1.symm, h3.symm⟩
        obtain ⟨rfl, rfl⟩ := q0
        clear ea' y0' y1' y2' l2' C2 ad'
        cases ea
        obtain ⟨a, ha⟩ : ∃ a, a = rd_T54 l1 (j : Int) := ⟨_, rfl⟩
        rw [← ha] at y0 y1 y2 l2 C2'
        simp only [Int.toNat_natCast] at y0 y1 y2
        obtain ⟨a0', a1', ns⟩ := a
        dsimp only at y0 y1 y2 l2 C2'
        have CN := Aside0.mk C2'
        have LN := Aside0.mk l2
        clear ha C2' l2
        obtain ⟨nn, hnn⟩ : ∃ nn, nn = ns.length := ⟨_, rfl⟩
        rw [← hnn] at y2
        have HNN := Aside0.mk hnn
        clear hnn
        go_upto_region 10 with (fail)
        have BB := Aside0.mk (show (wr.alloc (.cells #[.int .i64 a0', .int .i64 a1', .slice A2' nn c2'] 54)).heap[wr.heap.size]? = some (.cells #[.int .i64 a0', .int .i64 a1', .slice A2' nn c2'] 54 (0, 0)) by simpa using heap_alloc_new wr _)
        have J4 := Aside0.mk (J_deep HJ.out (below_alloc (Below.refl _ _) (.cells #[.int .i64 a0', .int .i64 a1', .slice A2' nn c2'] 54)))
        generalize wr.alloc (.cells #[.int .i64 a0', .int .i64 a1', .slice A2' nn c2'] 54) = w4 at BB J4 ⊢
        generalize wr.heap.size = b at BB ⊢
        clear y0 y1 y2
        have z0 : w4.cell? ⟨b, 0, none⟩ = some (.int .i64 a0') := (blk_cell BB.out 0).trans rfl
        have z1 : w4.cell? ⟨b, 1, none⟩ = some (.int .i64 a1') := (blk_cell BB.out 1).trans rfl
        have z2 : w4.cell? ⟨b, 2, none⟩ = some (.slice A2' nn c2') := (blk_cell BB.out 2).trans rfl
        by_cases d3 : 60 < nn
        · have d3b : decide (60 < nn) = true := decide_eq_true d3
          go_wp2
          go_roundw
          case rel => exact ⟨j + 1, tk, by go_num, by omega, HT.out, J4⟩
          case measure => simp [intOf]; omega
        · have d3b : decide (60 < nn) = false := decide_eq_false d3
          obtain ⟨x, g, tk2, hx⟩ : ∃ x g tk2, plx tk a0' a1' ns = (x, g, tk2) := ⟨_, _, _, rfl⟩
          have HX := Aside0.mk hx
          have HT2 := Aside0.mk (show tk2.length = M by rw [← HT.out]; exact plx_len hx)
          clear hx
          go_upto_region 12 with (go_at_call 40; refine (J_play J4.out a0' a1' A2' nn c2' ns (HNN.out ▸ CN.out) HNN.out x g tk2 HX.out).mono ?_; rintro e w5 ⟨rfl, hJ, hy⟩; have J5 := Aside0.mk hJ; have B5 := Aside0.mk (hy _ _ BB.out); clear hJ hy J4 z0 z1 z2)
          have z0 : w5.cell? ⟨b, 0, none⟩ = some (.int .i64 a0') := (blk_cell B5.out 0).trans rfl
          have z1 : w5.cell? ⟨b, 1, none⟩ = some (.int .i64 a1') := (blk_cell B5.out 1).trans rfl
          have z2 : w5.cell? ⟨b, 2, none⟩ = some (.slice A2' nn c2') := (blk_cell B5.out 2).trans rfl
          by_cases k1 : a0' = 1
          · have k1b : (a0' == 1) = true := beq_iff_eq.2 k1
            have EE := Aside0.mk (show tkx tk = (x, g, tk2) by rw [← HX.out]; exact (if_pos k1).symm)
            clear k1
            go_wp2_with (first | (go_at_call 41; refine (J_rTake J5.out (by have := HT.out; have := HM.out; omega) x g tk2 EE.out).mono ?_; rintro e w6 ⟨v6, rfl, hJ, _⟩; have J6 := Aside0.mk hJ; clear hJ J5 z0 z1 z2) | (go_at_call 36; refine (J_Free J6.out).mono ?_; rintro e w8 ⟨rfl, hJ, _⟩; have J8 := Aside0.mk hJ; clear hJ J6) | (go_at_call 44; refine (J_rFree J8.out (by have := HT2.out; have := HM.out; omega)).mono ?_; rintro e w9 ⟨rfl, hJ, _⟩; have J9 := Aside0.mk hJ; clear hJ J8))
            go_loopw [16] (fun v16 wq => ∃ (m : Int), v16 = .int .i64 m ∧ -1 ≤ m ∧ m ≤ K + 1 ∧ Aside0 (J w wq p tk2 v6 tk2)) (fun v16 _ => (K + 1 - intOf v16).toNat)
            case atStart => exact ⟨-1, rfl, by omega, by have := HK.out; omega, J9⟩
            case round =>
              obtain ⟨m, rfl, hm0, hm1, JM⟩ := hrel
              have k40 := HK.out
              by_cases e1 : m ≤ K
              · have e1b : decide (m ≤ K) = true := decide_eq_true e1
                have wm : IntKind.i64.wrap (m + 1) = m + 1 := by rw [i64_w]; exact IntWalk.wrap64_in _ (by omega)
                go_wp2_with (first | (go_at_call 37; refine (J_Taken JM.out m _ rfl).mono ?_; rintro e wa ⟨rfl, hJ, _⟩; have JA := Aside0.mk hJ; clear hJ JM) | (go_at_call 45; refine (J_rTaken JA.out m _ rfl).mono ?_; rintro e wb ⟨rfl, hJ, _⟩; have JB := Aside0.mk hJ; clear hJ JA))
                go_roundw
                case rel => exact ⟨m + 1, by go_num, by omega, by omega, JB⟩
                case measure => simp [intOf]; omega
              · have e1b : decide (m ≤ K) = false := decide_eq_false e1
                go_wp2
                go_roundw
                case rel => exact ⟨j + 1, tk2, by go_num, by omega, HT2.out, JM⟩
                case measure => simp [intOf]; omega
          · have k1b : (a0' == 1) = false := beq_eq_false_iff_ne.2 k1
            by_cases k2 : a0' = 2
            · have k2b : (a0' == 2) = true := beq_iff_eq.2 k2
              have E : (0, gvx tk a1') = (x, g, tk2) := by rw [← HX.out]; unfold plx; rw [if_neg k1, if_pos k2]
              injection E with E0 E1
              subst E0
              have EE := Aside0.mk E1
              clear k1 k2 E1
              go_wp2_with (first | (go_at_call 42; refine (J_rGive J5.out (by have := HT.out; have := HM.out; omega) a1' g tk2 EE.out).mono ?_; rintro e w6 ⟨v6, rfl, hJ, _⟩; have J6 := Aside0.mk hJ; clear hJ J5 z0 z1 z2) | (go_at_call 36; refine (J_Free J6.out).mono ?_; rintro e w8 ⟨rfl, hJ, _⟩; have J8 := Aside0.mk hJ; clear hJ J6) | (go_at_call 44; refine (J_rFree J8.out (by have := HT2.out; have := HM.out; omega)).mono ?_; rintro e w9 ⟨rfl, hJ, _⟩; have J9 := Aside0.mk hJ; clear hJ J8))
              go_loopw [16] (fun v16 wq => ∃ (m : Int), v16 = .int .i64 m ∧ -1 ≤ m ∧ m ≤ K + 1 ∧ Aside0 (J w wq p tk2 v6 tk2)) (fun v16 _ => (K + 1 - intOf v16).toNat)
              case atStart => exact ⟨-1, rfl, by omega, by have := HK.out; omega, J9⟩
              case round =>
                obtain ⟨m, rfl, hm0, hm1, JM⟩ := hrel
                have k40 := HK.out
                by_cases e1 : m ≤ K
                · have e1b : decide (m ≤ K) = true := decide_eq_true e1
                  have wm : IntKind.i64.wrap (m + 1) = m + 1 := by rw [i64_w]; exact IntWalk.wrap64_in _ (by omega)
                  go_wp2_with (first | (go_at_call 37; refine (J_Taken JM.out m _ rfl).mono ?_; rintro e wa ⟨rfl, hJ, _⟩; have JA := Aside0.mk hJ; clear hJ JM) | (go_at_call 45; refine (J_rTaken JA.out m _ rfl).mono ?_; rintro e wb ⟨rfl, hJ, _⟩; have JB := Aside0.mk hJ; clear hJ JA))
                  go_roundw
                  case rel => exact ⟨m + 1, by go_num, by omega, by omega, JB⟩
                  case measure => simp [intOf]; omega
                · have e1b : decide (m ≤ K) = false := decide_eq_false e1
                  go_wp2
                  go_roundw
                  case rel => exact ⟨j + 1, tk2, by go_num, by omega, HT2.out, JM⟩
                  case measure => simp [intOf]; omega
            · have k2b : (a0' == 2) = false := beq_eq_false_iff_ne.2 k2
              by_cases k3 : a0' = 3
              · have k3b : (a0' == 3) = true := beq_iff_eq.2 k3
                have E : (0, onx tk ns) = (x, g, tk2) := by rw [← HX.out]; unfold plx; rw [if_neg k1, if_neg k2, if_pos k3]
                injection E with E0 E1
                subst E0
                have EE := Aside0.mk E1
                clear k1 k2 k3 E1
                go_wp2_with (first | (go_at_call 43; refine (show Calls _ _ _ _ _ from HNN.out ▸ J_rOnly J5.out (by have := HT.out; have := HM.out; omega) A2' c2' ns CN.out LN.out (by have := HNN.out; omega) g tk2 EE.out).mono ?_; rintro e w6 ⟨v6, rfl, hJ, _⟩; have J6 := Aside0.mk hJ; clear hJ J5 z0 z1 z2) | (go_at_call 36; refine (J_Free J6.out).mono ?_; rintro e w8 ⟨rfl, hJ, _⟩; have J8 := Aside0.mk hJ; clear hJ J6) | (go_at_call 44; refine (J_rFree J8.out (by have := HT2.out; have := HM.out; omega)).mono ?_; rintro e w9 ⟨rfl, hJ, _⟩; have J9 := Aside0.mk hJ; clear hJ J8))
                go_loopw [16] (fun v16 wq => ∃ (m : Int), v16 = .int .i64 m ∧ -1 ≤ m ∧ m ≤ K + 1 ∧ Aside0 (J w wq p tk2 v6 tk2)) (fun v16 _ => (K + 1 - intOf v16).toNat)
                case atStart => exact ⟨-1, rfl, by omega, by have := HK.out; omega, J9⟩
                case round =>
                  obtain ⟨m, rfl, hm0, hm1, JM⟩ := hrel
                  have k40 := HK.out
                  by_cases e1 : m ≤ K
                  · have e1b : decide (m ≤ K) = true := decide_eq_true e1
                    have wm : IntKind.i64.wrap (m + 1) = m + 1 := by rw [i64_w]; exact IntWalk.wrap64_in _ (by omega)
                    go_wp2_with (first | (go_at_call 37; refine (J_Taken JM.out m _ rfl).mono ?_; rintro e wa ⟨rfl, hJ, _⟩; have JA := Aside0.mk hJ; clear hJ JM) | (go_at_call 45; refine (J_rTaken JA.out m _ rfl).mono ?_; rintro e wb ⟨rfl, hJ, _⟩; have JB := Aside0.mk hJ; clear hJ JA))
                    go_roundw
                    case rel => exact ⟨m + 1, by go_num, by omega, by omega, JB⟩
                    case measure => simp [intOf]; omega
                  · have e1b : decide (m ≤ K) = false := decide_eq_false e1
                    go_wp2
                    go_roundw
                    case rel => exact ⟨j + 1, tk2, by go_num, by omega, HT2.out, JM⟩
                    case measure => simp [intOf]; omega
              · have k3b : (a0' == 3) = false := beq_eq_false_iff_ne.2 k3
                have E : (0, 0, tk) = (x, g, tk2) := by rw [← HX.out]; unfold plx; rw [if_neg k1, if_neg k2, if_neg k3]
                injection E with E0 E1
                injection E1 with E1 E2
                subst E0
                subst E1
                obtain rfl : tk2 = tk := E2.symm
                have J6 := J5
                clear E2 J5 k1 k2 k3
                go_wp2_with (first | (go_at_call 36; refine (J_Free J6.out).mono ?_; rintro e w8 ⟨rfl, hJ, _⟩; have J8 := Aside0.mk hJ; clear hJ J6) | (go_at_call 44; refine (J_rFree J8.out (by have := HT2.out; have := HM.out; omega)).mono ?_; rintro e w9 ⟨rfl, hJ, _⟩; have J9 := Aside0.mk hJ; clear hJ J8))
                go_loopw [16] (fun v16 wq => ∃ (m : Int), v16 = .int .i64 m ∧ -1 ≤ m ∧ m ≤ K + 1 ∧ Aside0 (J w wq p tk2 u8 tk2)) (fun v16 _ => (K + 1 - intOf v16).toNat)
                case atStart => exact ⟨-1, rfl, by omega, by have := HK.out; omega, J9⟩
                case round =>
                  obtain ⟨m, rfl, hm0, hm1, JM⟩ := hrel
                  have k40 := HK.out
                  by_cases e1 : m ≤ K
                  · have e1b : decide (m ≤ K) = true := decide_eq_true e1
                    have wm : IntKind.i64.wrap (m + 1) = m + 1 := by rw [i64_w]; exact IntWalk.wrap64_in _ (by omega)
                    go_wp2_with (first | (go_at_call 37; refine (J_Taken JM.out m _ rfl).mono ?_; rintro e wa ⟨rfl, hJ, _⟩; have JA := Aside0.mk hJ; clear hJ JM) | (go_at_call 45; refine (J_rTaken JA.out m _ rfl).mono ?_; rintro e wb ⟨rfl, hJ, _⟩; have JB := Aside0.mk hJ; clear hJ JA))
                    go_roundw
                    case rel => exact ⟨m + 1, by go_num, by omega, by omega, JB⟩
                    case measure => simp [intOf]; omega
                  · have e1b : decide (m ≤ K) = false := decide_eq_false e1
                    go_wp2
                    go_roundw
                    case rel => exact ⟨j + 1, tk2, by go_num, by omega, HT2.out, JM⟩
                    case measure => simp [intOf]; omega
      · have d2b : decide (j < 60) = false := decide_eq_false d2
        go_wp2_with (first | (go_at_call 35; refine (space_alive _).mono ?_; rintro e w4 ⟨rfl, hb⟩; have J4 := Aside0.mk (J_deep HJ.out hb); clear hb) | (go_at_call 37; refine (J_Taken J4.out a0 _ rfl).mono ?_; rintro e w5 ⟨rfl, hJ, _⟩; have J5 := Aside0.mk hJ; clear hJ J4) | (go_at_call 45; refine (J_rTaken J5.out a0 _ rfl).mono ?_; rintro e w6 ⟨rfl, hJ, _⟩; have J6 := Aside0.mk hJ; clear hJ J5))
        go_ret
        exact ⟨by simp, J_below J6.out⟩
    · have d1b : decide (j < n1) = false := decide_eq_false d1
      go_wp2_with (first | (go_at_call 35; refine (space_alive _).mono ?_; rintro e w4 ⟨rfl, hb⟩; have J4 := Aside0.mk (J_deep HJ.out hb); clear hb) | (go_at_call 37; refine (J_Taken J4.out a0 _ rfl).mono ?_; rintro e w5 ⟨rfl, hJ, _⟩; have J5 := Aside0.mk hJ; clear hJ J4) | (go_at_call 45; refine (J_rTaken J5.out a0 _ rfl).mono ?_; rintro e w6 ⟨rfl, hJ, _⟩; have J6 := Aside0.mk hJ; clear hJ J5))
      go_ret
      exact ⟨by simp, J_below J6.out⟩
def marginalialaw18_SpacePlays.f (a0 : Int) (l1 : List S54) : Option (Bool) := some true
theorem marginalialaw18_SpacePlays.calls (a0 : Int) (A1 : Option Addr) (c1 : Nat) (l1 : List S54) (r : Bool) (w : World) (hr1 : Kd.C k54 w A1 l1.length l1) (hc1 : l1.length ≤ c1) (h : marginalialaw18_SpacePlays.f a0 l1 = some r) :
    Calls Try.prog 10 #[.int .i64 a0, .slice A1 l1.length c1] w fun e w' => e = .returned (.bool r) ∧ Below w.heap.size w w' := by
  obtain rfl := Option.some.inj h
  exact law_Plays a0 A1 c1 l1 w hr1

end Go.Proofs.Ytmdmoohkdkooaaa.S
