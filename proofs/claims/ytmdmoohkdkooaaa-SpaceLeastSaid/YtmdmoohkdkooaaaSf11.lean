/- The functions of the program that these laws reach, each as a plain Lean function, and the proof that the machine's call comes to it; no condition beyond those that each theorem names. Made by wip/xprint.py. -/
import Derived.Test.YtmdmoohkdkooaaaSx0
import Derived.Test.YtmdmoohkdkooaaaSf10
import Derived.Test.YtmdmoohkdkooaaaSf35
import Derived.Test.YtmdmoohkdkooaaaSf38
import Derived.Test.YtmdmoohkdkooaaaSh
namespace Go.Proofs.Ytmdmoohkdkooaaa.S
open Go.RowKit Go.Proofs.YtmdmoohkdkooaaaW.PrintWords Go.Proofs.YtmdmoohkdkooaaaW.PrintLast Go.Proofs.YtmdmoohkdkooaaaW.PrintMore
attribute [local go_sem] max2_int min2_int max_two min_two max_three min_three max_four min_four   -- for this text's walks alone
set_option linter.unusedVariables false
set_option linter.unusedSimpArgs false

/-! ### marginalialaw18_SpaceLeast: function 11: by hand -/
theorem fre_next : ∀ (l : List Bool) (k : Nat) (i : Int) (s : List Int), fre k l = i :: s → fre k (l.set (i - k).toNat true) = s ∧ (∀ x ∈ s, i < x) ∧ (∀ j : Nat, (j : Int) + k < i → l.getD j false = true)
  | [], k, i, s, h => by simp [fre] at h
  | a :: t, k, i, s, h => by
    have ge := fre_ge t (k + 1)
    unfold fre at h
    cases a with
    | true =>
      rw [if_pos rfl] at h
      have g := ge i (by rw [h]; exact List.mem_cons_self)
      obtain ⟨h1, h2, h3⟩ := fre_next t (k + 1) i s h
      refine ⟨?_, h2, fun j hj => ?_⟩
      · rw [show (i - (k : Int)).toNat = (i - ((k + 1 : Nat) : Int)).toNat + 1 by omega, List.set_cons_succ]
        unfold fre
        rw [if_pos rfl]
        exact h1
      · cases j with
        | zero => rfl
        | succ j => exact h3 j (by omega)
    | false =>
      rw [if_neg (by decide)] at h
      injection h with e1 e2
      subst e1 e2
      refine ⟨?_, fun x hx => ?_, fun j hj => by omega⟩
      · rw [show ((k : Int) - (k : Int)).toNat = 0 by omega, List.set_cons_zero]
        rw [show fre k (true :: t) = fre (k + 1) t by rw [fre, if_pos rfl]]
      · have := ge x hx; omega
theorem J_put {w0 w : World} {p g n c : Nat} {tk l : List Bool} (h : J w0 w p tk (.slice (some ⟨g, 0, none⟩) n c) l) (i : Nat) (b : Bool) : J w0 (w.setCell ⟨g, i, none⟩ (.bool b)) p tk (.slice (some ⟨g, 0, none⟩) n c) (l.set i b) := by
  have t := Kd.R_putg (J_tight h) (i : Int) b
  rw [Int.toNat_natCast] at t
  exact J_ref (ok := fun _ => True) h (Kd.R_mono t.1 (fun k hk => .inl hk)) (pw_below_grown (J_below h) (some g) (J_below h).size t.2 (fun k e => Kd.R_base (J_row h) k e)) (Kept.of_grown t.2 (Kept.refl _ _) (fun k e => .inl e.symm))
theorem J_FreeN {w0 w : World} {p : Nat} {tk : List Bool} {vL : Value} {l : List Bool} (h : J w0 w p tk vL l) (n : Int) (hn : ((fre 0 tk).length : Int) = n) :
    Calls Try.prog 36 #[.pointer (some ⟨p, 0, none⟩)] w fun e w' => e = .returned (.int .i64 n) ∧ J w0 w' p tk vL l ∧ Drawn0 w w' := by
  subst hn
  exact J_Free h
theorem take_facts {tk : List Bool} {i : Int} {r : List Int} {M : Nat} (hl : tk.length = M) (h : fre 0 tk = i :: r) : ∃ an : Nat, i = (an : Int) ∧ an < M ∧ tkx tk = ((an : Int), 0, tk.set an true) ∧ gvx (tk.set an true) (an : Int) = (0, tk) ∧ tkn (tk.set an true) (an : Int) = true ∧ rdOf false tk (an : Int) = false ∧ fre 0 (tk.set an true) = r ∧ (∀ x ∈ r, (an : Int) < x) ∧ (∀ j : Nat, j < an → rdOf false tk (j : Int) = true) := by
  have ge := fre_ge tk 0 i (by rw [h]; exact List.mem_cons_self)
  have nm := fre_mem tk 0 i (by rw [h]; exact List.mem_cons_self)
  obtain ⟨f1, f2, f3⟩ := fre_next tk 0 i r h
  obtain ⟨an, rfl⟩ : ∃ an : Nat, i = (an : Int) := ⟨i.toNat, by omega⟩
  have e : ((an : Int) - ((0 : Nat) : Int)).toNat = an := by omega
  rw [e] at nm f1
  have hT : tkn (tk.set an true) (an : Int) = true := by
    unfold tkn
    simp only [rdOf, Int.toNat_natCast, List.getD_eq_getElem?_getD, List.length_set]
    rw [List.getElem?_set_self (by omega)]
    simp
    omega
  refine ⟨an, rfl, by omega, by unfold tkx; rw [h]; rfl, ?_, hT, by simpa [rdOf] using nm, f1, f2, fun j hj => by simpa [rdOf] using f3 j (by omega)⟩
  unfold gvx
  rw [hT, if_pos rfl, Int.toNat_natCast, List.set_set]
  congr 1
  apply List.ext_getElem?
  intro k
  rw [List.getElem?_set]
  split
  · rename_i ek
    subst ek
    rw [if_pos (by omega)]
    rw [List.getD_eq_getElem?_getD] at nm
    cases hh : tk[an]? with
    | none => rw [List.getElem?_eq_none_iff] at hh; omega
    | some b => rw [hh] at nm; exact congrArg some nm.symm
  · rfl
set_option maxRecDepth 20000 in
set_option maxHeartbeats 16000000 in
theorem law_Least (a0 : Int) (A1 : Option Addr) (c1 : Nat) (l1 : List S54) (w : World) (hr1 : Kd.C k54 w A1 l1.length l1) : Calls Try.prog 11 #[.int .i64 a0, .slice A1 l1.length c1] w fun e w' => e = .returned (.bool true) ∧ Below w.heap.size w w' := by
  obtain ⟨r, hr, r0, r1⟩ := pick_ok a0
  obtain ⟨M, hM⟩ : ∃ M : Nat, (M : Int) = 1 + r := ⟨(1 + r).toNat, by omega⟩
  have wK : IntKind.i64.wrap (1 + r) = (M : Int) := by rw [i64_w, hM]; exact IntWalk.wrap64_in _ (by omega)
  have HK := Aside0.mk (show 1 ≤ M ∧ M ≤ 40 by omega)
  have HR := Aside0.mk hr
  have HL := Aside0.mk hr1
  obtain ⟨n1, hn1⟩ : ∃ n, n = l1.length := ⟨_, rfl⟩
  have HN := Aside0.mk hn1
  have nm := Kd.C_max hr1
  rw [← hn1] at nm ⊢
  have N0 : Kd.R Kd.bool 4 w w.heap.size (fun _ => True) (.slice none 0 0) [] := Kd.R_nil _ _ _ _ _
  clear hr hr1 r0 r1 hM hn1
  go_enter Try.func11, Try.ntmps11
  go_wp2_with (first | (go_at_call 38; refine (marginalialaw18_pick.calls a0 40 r _ HR.out).mono ?_; rintro e w1 ⟨rfl, hd⟩; have B1 := Aside0.mk (sp_drawn hd); clear hd) | (go_at_call 34; refine (J_New (w0 := w) B1.out (Kd.R_below N0 B1.out) (M : Int) (by have := HK.out; omega) (by have := HK.out; omega)).mono ?_; rintro e w2 ⟨p, rfl, hJ⟩; simp only [Int.toNat_natCast] at hJ; have J2 := Aside0.mk hJ; clear hJ))
  go_loopw [8] (fun v8 wr => ∃ (j : Nat) (tk : List Bool), v8 = .int .i64 (j : Int) ∧ j ≤ n1 ∧ Aside0 (tk.length = M) ∧ Aside0 (J w wr p tk (.slice none 0 0) [])) (fun v8 _ => n1 - (intOf v8).toNat)
  case atStart => exact ⟨0, _, rfl, Nat.zero_le _, ⟨List.length_replicate ..⟩, J2⟩
  case round =>
    obtain ⟨j, tk, rfl, hj, HT, HJ⟩ := hrel
    by_cases d0 : j < n1 ∧ j < 60
    · obtain ⟨d1, d2⟩ := d0
      have d1b : decide (j < n1) = true := decide_eq_true d1
      have d2b : decide (j < 60) = true := decide_eq_true d2
      obtain ⟨ad, A2, c2, ea, y0, y1, y2, l2, C2⟩ := at_T54 (Kd.C_below HL.out (J_below HJ.out)) (j : Int) (by omega) (by have := HN.out; omega)
      obtain ⟨ad', A2', c2', ea', y0', y1', y2', l2', C2'⟩ := at_T54 HL.out (j : Int) (by omega) (by have := HN.out; omega)
      have q0 : A2' = A2 ∧ c2' = c2 := by
        rw [ea] at ea'
        injection ea' with ea'
        subst ea'
        have h := pw_cell_below (J_below HJ.out) y2'
        rw [y2] at h
        injection h with h
        injection h with h1 h2 h3
        exact ⟨h1.symm, h3.symm⟩
      obtain ⟨rfl, rfl⟩ := q0
      clear ea' y0' y1' y2' l2' C2 ad'
      cases ea
      obtain ⟨a, ha⟩ : ∃ a, a = rd_T54 l1 (j : Int) := ⟨_, rfl⟩
      rw [← ha] at y0 y1 y2 l2 C2'
      simp only [Int.toNat_natCast] at y0 y1 y2
      obtain ⟨a0', a1', ns⟩ := a
      dsimp only at y0 y1 y2 l2 C2'
      have CN := Aside0.mk C2'
      have LN := Aside0.mk l2
      clear ha C2' l2
      obtain ⟨nn, hnn⟩ : ∃ nn, nn = ns.length := ⟨_, rfl⟩
      rw [← hnn] at y2
      have HNN := Aside0.mk hnn
      clear hnn
      by_cases d3 : nn ≤ 60
      · have d3b : decide (nn ≤ 60) = true := decide_eq_true d3
        obtain ⟨x, g, tk2, hx⟩ : ∃ x g tk2, plx tk a0' a1' ns = (x, g, tk2) := ⟨_, _, _, rfl⟩
        have HX := Aside0.mk hx
        have HT2 := Aside0.mk (show tk2.length = M by rw [← HT.out]; exact plx_len hx)
        clear hx
        go_wp2_with (go_at_call 40; refine (J_play HJ.out a0' a1' A2' nn c2' ns (HNN.out ▸ CN.out) HNN.out x g tk2 HX.out).mono ?_; rintro e w5 ⟨rfl, hJ, hy⟩; have J5 := Aside0.mk hJ; clear hJ hy HJ)
        go_roundw
        case rel => exact ⟨j + 1, tk2, by go_num, by omega, HT2, J5⟩
        case measure => simp [intOf]; omega
      · have d3b : decide (nn ≤ 60) = false := decide_eq_false d3
        go_wp2
        go_roundw
        case rel => exact ⟨j + 1, tk, by go_num, by omega, HT, HJ⟩
        case measure => simp [intOf]; omega
    · have d0b : (¬ (j < n1) ∧ decide (j < n1) = false) ∨ (j < n1 ∧ decide (j < n1) = true ∧ ¬ (j < 60) ∧ decide (j < 60) = false) := by
        by_cases d1 : j < n1
        · exact .inr ⟨d1, decide_eq_true d1, fun d2 => d0 ⟨d1, d2⟩, decide_eq_false (fun d2 => d0 ⟨d1, d2⟩)⟩
        · exact .inl ⟨d1, decide_eq_false d1⟩
      have hF : ((fre 0 tk).length : Int) ≤ 40 := by have := fre_len tk 0; have := HT.out; have := HK.out; omega
      obtain ⟨F, eF⟩ : ∃ F : Int, ((fre 0 tk).length : Int) = F := ⟨_, rfl⟩
      have F0 : 0 ≤ F := by omega
      rw [eF] at hF
      have EF := Aside0.mk eF
      have GE := Aside0.mk (show ∀ x ∈ fre 0 tk, (-1 : Int) < x from fun x hx => by have := fre_ge tk 0 x hx; omega)
      clear d0 eF
      rcases d0b with ⟨d1, d1b⟩ | ⟨d1, d1b, d2, d2b⟩
      all_goals
        go_wp2_with (go_at_call 36; refine (J_FreeN HJ.out F EF.out).mono ?_; rintro e w4 ⟨rfl, hJ, _⟩; have J4 := Aside0.mk hJ; clear hJ HJ)
        go_loopw [9, 10] (fun v9 v10 wq => ∃ (la f : Int) (tk : List Bool) (vL : Value) (l : List Bool), v9 = .int .i64 la ∧ v10 = .int .i64 f ∧ 0 ≤ f ∧ f ≤ 40 ∧ -1 ≤ la ∧ la ≤ 40 ∧ Aside0 (tk.length = M) ∧ Aside0 (((fre 0 tk).length : Int) = f) ∧ Aside0 (∀ x ∈ fre 0 tk, la < x) ∧ Aside0 (J w wq p tk vL l)) (fun _ v10 _ => (intOf v10).toNat)
        case atStart => exact ⟨-1, F, tk, _, _, rfl, rfl, F0, hF, by omega, by omega, HT, EF, GE, J4⟩
        case round =>
          clear GE EF J4 F0 hF d1b HT d1
          try clear d2b d2
          obtain ⟨la, f, tk, vL, l, rfl, rfl, f0, f1, la0, la1, HT, HF, HG, HJ⟩ := hrel
          by_cases e0 : 0 < f
          · have e0b : decide (0 < f) = true := decide_eq_true e0
            obtain ⟨x, s, hx⟩ : ∃ x s, fre 0 tk = x :: s := by
              have := HF.out
              cases hc : fre 0 tk with
              | nil => rw [hc] at this; simp at this; omega
              | cons x s => exact ⟨x, s, rfl⟩
            obtain ⟨an, rfl, hanM, hT1, hT2, hT3, hT4, hT5, hT6, hT7⟩ := take_facts HT.out hx
            have G1 := Aside0.mk (show la < (an : Int) from HG.out _ (by rw [hx]; exact List.mem_cons_self))
            have G2 := Aside0.mk (show ∀ x ∈ fre 0 (tk.set an true), (an : Int) < x by rw [hT5]; exact hT6)
            have G3 := Aside0.mk (show ((fre 0 (tk.set an true)).length : Int) = f - 1 by rw [hT5]; have := HF.out; rw [hx, List.length_cons] at this; omega)
            have T1 := Aside0.mk hT1
            have T2 := Aside0.mk hT2
            have T3 := Aside0.mk hT3
            have T4 := Aside0.mk hT4
            have T7 := Aside0.mk hT7
            have HA := Aside0.mk hanM
            have HT' := Aside0.mk (show (tk.set an true).length = M by rw [List.length_set]; exact HT.out)
            clear hx hT1 hT2 hT3 hT4 hT5 hT6 hT7 hanM HG HF
            have hk0 := HK.out
            go_upto_region 15 with ((with_reducible refine gate_dst (N := 65) rfl ?_); refine Kd.R_make Kd.bool _ 4 rfl (N := 65) rfl 50 _ _ rfl (M : Int) rfl rfl Try.underlying50 (.bool false) 1 info4 rfl (by decide) (by omega) false (ok := fun _ => True) (okp := fun _ => True) rfl (fun _ hk => hk) trivial (by omega) (by omega) (Below.refl _ _) (Nat.le_refl _) ?_; intro v2 w2 ho hb hg_ hnew_; simp only [Int.toNat_natCast] at ho; have R2 := Aside0.mk (J_ref (ok := fun _ => True) HJ.out (Kd.R_mono (Kd.R_lower (Kd.R_bound ho) (J_below HJ.out).size) (fun k hk => .inr hk.2.1)) (below_step (J_below HJ.out) hb) (Kept.of_below hb _)); obtain ⟨g, c, et, _, _, _⟩ := Kd.R_form ho (by rw [List.length_replicate]; omega); rw [List.length_replicate] at et; subst et; clear ho hb hg_ hnew_ HJ)
            go_wp2
            go_loopw [12] (fun v12 wi => ∃ (i : Nat) (l : List Bool), v12 = .int .i64 (i : Int) ∧ i ≤ M ∧ Aside0 (l.length = M) ∧ Aside0 (∀ j : Nat, j < i → rdOf false l (j : Int) = rdOf false tk (j : Int)) ∧ Aside0 (J w wi p tk (.slice (some ⟨g, 0, none⟩) M c) l)) (fun v12 _ => M - (intOf v12).toNat)
            case atStart => exact ⟨0, _, rfl, Nat.zero_le _, ⟨List.length_replicate ..⟩, ⟨fun j hj => absurd hj (Nat.not_lt_zero _)⟩, R2⟩
            case round =>
              obtain ⟨i, l, rfl, hi, LL, LE, LJ⟩ := hrel
              by_cases e1 : i < M
              · have e1b : decide (i < M) = true := decide_eq_true e1
                have LL' := Aside0.mk (show (l.set i (tkn tk (i : Int))).length = M by rw [List.length_set]; exact LL.out)
                have LE' := Aside0.mk (show ∀ j : Nat, j < i + 1 → rdOf false (l.set i (tkn tk (i : Int))) (j : Int) = rdOf false tk (j : Int) by
                  intro j hj
                  by_cases hji : j = i
                  · subst hji
                    have h1 : j < l.length := by rw [LL.out]; exact e1
                    have h2 : j < tk.length := by rw [HT.out]; exact e1
                    simp [rdOf, tkn, List.getD_eq_getElem?_getD, h1, h2]
                  · rw [← LE.out j (by omega)]
                    simp [rdOf, List.getD_eq_getElem?_getD, List.getElem?_set_ne (Ne.symm hji)])
                clear LL LE
                go_wp2_with (first | (go_at_call 37; refine (J_Taken LJ.out (i : Int) _ rfl).mono ?_; rintro e wa ⟨rfl, hJ, _⟩; obtain ⟨hy, hf⟩ := Kd.R_celln false (J_row hJ) (i : Int) (by omega) (by omega); simp only [Int.toNat_natCast] at hy hf; have JA := Aside0.mk (J_put hJ i (tkn tk (i : Int))); clear hJ LJ))
                go_roundw
                case rel => exact ⟨i + 1, _, by go_num, by omega, LL', LE', JA⟩
                case measure => simp [intOf]; omega
              · have e1b : decide (i < M) = false := decide_eq_false e1
                have hR : ∀ j : Nat, j < M → rdOf false l (j : Int) = rdOf false tk (j : Int) := fun j hj => LE.out j (by omega)
                have WA := Aside0.mk (show rdOf false l (an : Int) = false from (hR an HA.out).trans T4.out)
                have WB := Aside0.mk (show ∀ j : Nat, j < an → rdOf false l (j : Int) = true from fun j hj => (hR j (by have := HA.out; omega)).trans (T7.out j hj))
                clear hR LE LL
                have gA := HA.out
                have gB := G1.out
                have gAb : decide (M ≤ an) = false := decide_eq_false (by omega)
                have gBb : decide ((an : Int) ≤ la) = false := decide_eq_false (by omega)
                go_wp2_with (first | (go_at_call 46; refine (J_Take LJ.out _ _ _ T1.out).mono ?_; rintro e w5 ⟨rfl, hJ, _⟩; obtain ⟨hy, hf⟩ := Kd.R_celln false (J_row hJ) (an : Int) (by omega) (by omega); simp only [Int.toNat_natCast] at hy hf; rw [WA.out] at hy; clear hf; have J5 := Aside0.mk hJ; clear hJ LJ) | (go_at_call 37; refine (J_Taken J5.out (an : Int) true T3.out).mono ?_; rintro e w6 ⟨rfl, hJ, _⟩; have J6 := Aside0.mk hJ; clear hJ J5 hy) | (go_at_call 36; refine (J_FreeN J6.out (f - 1) G3.out).mono ?_; rintro e w7 ⟨rfl, hJ, _⟩; have J7 := Aside0.mk hJ; clear hJ J6))
                go_loop [15] (fun v15 => ∃ i : Nat, v15 = .int .i64 (i : Int) ∧ i ≤ an) (fun v15 => an - (intOf v15).toNat)
                case atStart => exact ⟨0, rfl, Nat.zero_le _⟩
                case round =>
                  obtain ⟨i, rfl, hi⟩ := hrel
                  by_cases e2 : i < an
                  · have e2b : decide (i < an) = true := decide_eq_true e2
                    obtain ⟨hy, hf⟩ := Kd.R_celln false (J_row J7.out) (i : Int) (by omega) (by omega)
                    simp only [Int.toNat_natCast] at hy hf
                    rw [WB.out i e2] at hy
                    clear hf
                    go_wp2
                    go_round
                    case rel => exact ⟨i + 1, by go_num, by omega⟩
                    case measure => simp [intOf]; omega
                  · have e2b : decide (i < an) = false := decide_eq_false e2
                    go_wp2_with (first | (go_at_call 47; refine (J_Give J7.out _ _ _ T2.out).mono ?_; rintro e w8 ⟨rfl, hJ, _⟩; have J8 := Aside0.mk hJ; clear hJ J7) | (go_at_call 46; refine (J_Take J8.out _ _ _ T1.out).mono ?_; rintro e w9 ⟨rfl, hJ, _⟩; have J9 := Aside0.mk hJ; clear hJ J8))
                    go_roundw
                    case rel => exact ⟨(an : Int), f - 1, _, _, _, rfl, by go_num, by omega, by omega, by omega, by omega, HT', G3, G2, J9⟩
                    case measure => simp [intOf]; omega
          · have e0b : decide (0 < f) = false := decide_eq_false e0
            have hn : fre 0 tk = [] := by
              have := HF.out
              cases hc : fre 0 tk with
              | nil => rfl
              | cons x s => rw [hc] at this; simp at this; omega
            have T1 := Aside0.mk (show tkx tk = (0, 3, tk) by unfold tkx; rw [hn])
            have T2 := Aside0.mk (show ((fre 0 tk).length : Int) = 0 by rw [hn]; rfl)
            clear hn HF HG
            go_wp2_with (first | (go_at_call 46; refine (J_Take HJ.out _ _ _ T1.out).mono ?_; rintro e w5 ⟨rfl, hJ, _⟩; have J5 := Aside0.mk hJ; clear hJ HJ) | (go_at_call 35; refine (space_alive _).mono ?_; rintro e w6 ⟨rfl, hb⟩; have J6 := Aside0.mk (J_deep J5.out hb); clear hb J5) | (go_at_call 36; refine (J_FreeN J6.out 0 T2.out).mono ?_; rintro e w7 ⟨rfl, hJ, _⟩; have J7 := Aside0.mk hJ; clear hJ J6))
            go_ret
            exact ⟨by simp, J_below J7.out⟩
def marginalialaw18_SpaceLeast.f (a0 : Int) (l1 : List S54) : Option (Bool) := some true
theorem marginalialaw18_SpaceLeast.calls (a0 : Int) (A1 : Option Addr) (c1 : Nat) (l1 : List S54) (r : Bool) (w : World) (hr1 : Kd.C k54 w A1 l1.length l1) (hc1 : l1.length ≤ c1) (h : marginalialaw18_SpaceLeast.f a0 l1 = some r) :
    Calls Try.prog 11 #[.int .i64 a0, .slice A1 l1.length c1] w fun e w' => e = .returned (.bool r) ∧ Below w.heap.size w w' := by
  obtain rfl := Option.some.inj h
  exact law_Least a0 A1 c1 l1 w hr1

end Go.Proofs.Ytmdmoohkdkooaaa.S
