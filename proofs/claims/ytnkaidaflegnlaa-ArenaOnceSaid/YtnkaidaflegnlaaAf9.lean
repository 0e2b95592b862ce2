/- The functions of the program that these laws reach, each as a plain Lean function, and the proof that the machine's call comes to it; no condition beyond those that each theorem names. Made by wip/xprint.py. -/
import Derived.Test.YtnkaidaflegnlaaAx0
import Derived.Test.YtnkaidaflegnlaaAf27
import Derived.Test.YtnkaidaflegnlaaAf34
import Derived.Test.YtnkaidaflegnlaaAh
namespace Go.Proofs.Ytnkaidaflegnlaa.A
open Go.RowKit Go.Proofs.YtnkaidaflegnlaaW.PrintWords Go.Proofs.YtnkaidaflegnlaaW.PrintLast Go.Proofs.YtnkaidaflegnlaaW.PrintMore
attribute [local go_sem] max2_int min2_int max_two min_two max_three min_three max_four min_four   -- for this text's walks alone
set_option linter.unusedVariables false
set_option linter.unusedSimpArgs false

/-! ### marginalialaw05_ArenaOnce: function 9: by hand -/
set_option maxRecDepth 100000 in
set_option maxHeartbeats 40000000 in
theorem law_Once (A0 : Option Addr) (c0 : Nat) (l0 : List S54) (w : World) (hr0 : Kd.C k54 w A0 l0.length l0) : Calls Try.prog 9 #[.slice A0 l0.length c0] w fun e w' => e = .returned (.bool true) ∧ Below w.heap.size w w' := by
  have HR0 := Aside0.mk hr0
  have m0 := Kd.C_max hr0
  clear hr0
  go_enter Try.func9, Try.ntmps9
  go_upto_block 0 with (go_at_call 25; refine (J_New _).mono ?_; rintro e w1 ⟨p, rfl, hJ, hb⟩; have J1 := Aside0.mk (JA_mono (O' := fun _ => False) hJ (fun _ h => h.elim)); clear hJ hb)
  go_cut [4] from 4 to 38 (fun v4 wc => ∃ S, Aside0 (OkS 40 S) ∧ Aside0 (JA w wc p S (fun _ => False)))
  case first =>
    go_wp2
    go_loopw [4] (fun v4 wr => ∃ (j : Nat) (S : List S96), v4 = .int .i64 (j : Int) ∧ j ≤ l0.length ∧ j ≤ 40 ∧ Aside0 (OkS j S) ∧ Aside0 (JA w wr p S (fun _ => False))) (fun v4 _ => l0.length - (intOf v4).toNat)
    case atStart => exact ⟨0, _, rfl, Nat.zero_le _, Nat.zero_le _, ⟨OkS_root⟩, J1⟩
    case round =>
      obtain ⟨j, S, rfl, hj, hj2, HI, HJ⟩ := hrel
      clear J1
      by_cases d0 : j < l0.length ∧ j < 40
      · obtain ⟨d1, d2⟩ := d0
        have d1b : decide (j < l0.length) = true := decide_eq_true d1
        have d2b : decide (j < 40) = true := decide_eq_true d2
        obtain ⟨ad, L, m, q, a, rfl, hal, hy, hm, hq, hC⟩ := act_at HR0.out j d1
        have HY := Aside0.mk hy
        have HM := Aside0.mk hm
        have HQ := Aside0.mk hq
        have HC := Aside0.mk hC
        have HJ40 := Aside0.mk (show j ≤ 40 from hj2)
        obtain ⟨y0, y1, y2, y3, y4, y5⟩ := hy _ (JA_below HJ.out)
        clear hy hal hm hq hC
        by_cases e1 : a.f4.size ≤ 60 ∧ a.f5.length ≤ 6
        · have EV := Aside0.mk (small_ev a e1.1 e1.2)
          have SM := Aside0.mk e1
          clear e1
          obtain ⟨S', r1, r2, hx⟩ : ∃ S' r1 r2, acS a S = (S', r1, r2) := ⟨_, _, _, rfl⟩
          have NI := Aside0.mk (show OkS (j + 1) S' by have := OkS_ac HI.out a SM.out.1 SM.out.2; rw [hx] at this; exact this)
          have HX := Aside0.mk hx
          clear hx
          go_upto_region 8 with (go_at_call 33; refine (small_c HM.out HQ.out (Kd.C_below HC.out (JA_below HJ.out)) EV.out).mono ?_; rintro e w2 ⟨rfl, hb⟩; have J2 := Aside0.mk (JA_step HJ.out hb); clear hb HJ y0 y1 y2 y3 y4 y5)
          refine start_ (n := 7) (S := fun w' => w'.cell? (ad.add (j * 6)) = some (.int .i64 a.f0) ∧ w'.cell? ⟨(ad.add (j * 6)).block, (ad.add (j * 6)).off + 1, none⟩ = some (.int .i64 a.f1) ∧ w'.cell? ⟨(ad.add (j * 6)).block, (ad.add (j * 6)).off + 2, none⟩ = some (.int .i64 a.f2) ∧ w'.cell? ⟨(ad.add (j * 6)).block, (ad.add (j * 6)).off + 3, none⟩ = some (.int .i64 a.f3) ∧ w'.cell? ⟨(ad.add (j * 6)).block, (ad.add (j * 6)).off + 4, none⟩ = some (.string a.f4) ∧ w'.cell? ⟨(ad.add (j * 6)).block, (ad.add (j * 6)).off + 5, none⟩ = some (.slice L m q)) (ds := []) #[false, false, false, false, false, false, false] (by kernel_rfl) rfl rfl ⟨(HY.out _ (below_step' (JA_below J2.out) (below_drew (Below.refl _ _)))).1, (HY.out _ (below_step' (JA_below J2.out) (below_drew (Below.refl _ _)))).2.1, (HY.out _ (below_step' (JA_below J2.out) (below_drew (Below.refl _ _)))).2.2.1, (HY.out _ (below_step' (JA_below J2.out) (below_drew (Below.refl _ _)))).2.2.2.1, (HY.out _ (below_step' (JA_below J2.out) (below_drew (Below.refl _ _)))).2.2.2.2.1, (HY.out _ (below_step' (JA_below J2.out) (below_drew (Below.refl _ _)))).2.2.2.2.2⟩ (fun hHeld => ?_)
          refine pure_ (i := 0) (N := some 32) (v := ?_) (a' := ?_) #[true, false, false, false, false, false, false] rfl rfl (by kernel_rfl) (fun _ _ _ h => h) (Or.inl ⟨by rfl, ?_⟩) ?_ ?_
          rotate_left
          · intro w'
            go_simp
            with_reducible rfl
          rotate_left
          · simp only [Act.put, List.setIfInBounds_toArray, List.set_cons_zero, List.set_cons_succ, i64_w, i32_w]
            rfl
          refine pure_ (i := 2) (N := some 34) (v := ?_) (a' := ?_) #[true, false, true, false, false, false, false] rfl rfl (by kernel_rfl) (fun _ _ _ h => h) (Or.inl ⟨by rfl, ?_⟩) ?_ ?_
          rotate_left
          · intro w'
            go_simp
            with_reducible rfl
          rotate_left
          · simp only [Act.put, List.setIfInBounds_toArray, List.set_cons_zero, List.set_cons_succ, i64_w, i32_w]
            rfl
          refine pure_ (i := 3) (N := some 35) (v := ?_) (a' := ?_) #[true, false, true, true, false, false, false] rfl rfl (by kernel_rfl) (fun _ _ _ h => h) (Or.inl ⟨by rfl, ?_⟩) ?_ ?_
          rotate_left
          · intro w'
            go_simp
            with_reducible rfl
          rotate_left
          · simp only [Act.put, List.setIfInBounds_toArray, List.set_cons_zero, List.set_cons_succ, i64_w, i32_w]
            rfl
          refine pure_ (i := 4) (N := some 36) (v := ?_) (a' := ?_) #[true, false, true, true, true, false, false] rfl rfl (by kernel_rfl) (fun _ _ _ h => h) (Or.inl ⟨by rfl, ?_⟩) ?_ ?_
          rotate_left
          · intro w'
            go_simp
            with_reducible rfl
          rotate_left
          · simp only [Act.put, List.setIfInBounds_toArray, List.set_cons_zero, List.set_cons_succ, i64_w, i32_w]
            rfl
          refine take_ (i := 5) (N := some 37) (v := ?_) (a' := ?_) #[true, false, true, true, true, true, false] rfl rfl (by kernel_rfl) (fun _ _ _ h => h) (Or.inl ⟨by rfl, ?_⟩) hHeld ?_ ?_
          rotate_left
          · rintro w' ⟨s0, s1, s2, s3, s4, s5⟩
            go_simp
            with_reducible rfl
          rotate_left
          · simp only [Act.put, List.setIfInBounds_toArray, List.set_cons_zero, List.set_cons_succ, i64_w, i32_w]
            rfl
          refine one_ (i := 1) (N := some 33) #[true, true, true, true, true, true, false] rfl rfl (by kernel_rfl) (by decide) (fun K hK => ?_)
          refine goes_ Try.func35 (by kernel_rfl) rfl #[] (by rfl) rfl rfl (by simp only [List.map_toArray, List.map_cons, List.map_nil]) ?_
          with_reducible refine (R_New _).mono ?_
          rintro e w3 ⟨A3, n3, c3, rfl, hn, hV, hb⟩
          refine ⟨_, rfl, ?_⟩
          have J3 := Aside0.mk (JA_deep (JA_step J2.out (below_drew (Below.refl _ _))) hb)
          have N3 := Aside0.mk hn
          have V3 := Aside0.mk hV
          have Z3 := Aside0.mk (show ∀ k, w2.drew.heap.size ≤ k ∧ k < w3.heap.size → False ∨ (w2.drew.heap.size ≤ k ∧ k < w3.heap.size) from fun k hk => .inr hk)
          clear hn hV hb
          refine hK.out _ _ ⟨(HY.out _ (JA_below J3.out)).1, (HY.out _ (JA_below J3.out)).2.1, (HY.out _ (JA_below J3.out)).2.2.1, (HY.out _ (JA_below J3.out)).2.2.2.1, (HY.out _ (JA_below J3.out)).2.2.2.2.1, (HY.out _ (JA_below J3.out)).2.2.2.2.2⟩ (fun hHeld => ?_)
          clear hK K
          refine norm_ (a' := ?_) ?_ ?_
          rotate_left
          · show Act.put _ (some 33) _ = _
            simp only [Act.put, List.setIfInBounds_toArray, List.set_cons_zero, List.set_cons_succ, i64_w, i32_w]
            rfl
          refine one_ (i := 6) (N := some 38) #[true, true, true, true, true, true, true] rfl rfl (by kernel_rfl) (by decide) (fun K hK => ?_)
          refine goes_ Try.func34 (by kernel_rfl) rfl #[.pointer (some ⟨p, 0, none⟩), .agg #[.slice A3 n3 c3], .agg #[.int .i64 a.f0, .int .i64 a.f1, .int .i64 a.f2, .int .i64 a.f3, .string a.f4, .slice L m q]] (by rfl) rfl rfl (by simp only [List.map_toArray, List.map_cons, List.map_nil]; rfl) ?_
          with_reducible refine (J_do J3.out N3.out V3.out Z3.out a HM.out HC.out HQ.out HI.out OkS_root HJ40.out (by omega) SM.out _ _ _ _ _ _ HX.out (ac_eta a [root96]) _ rfl).mono ?_
          rintro e w4 ⟨A4, n4, c4, OV4, rfl, hn, hV, hJ, hk, ho⟩
          refine ⟨_, rfl, ?_⟩
          have J4 := Aside0.mk (JA_mono (O' := fun _ => False) hJ (fun _ h => h.elim))
          clear hn hV hJ hk ho
          refine hK.out _ _ ⟨(HY.out _ (JA_below J4.out)).1, (HY.out _ (JA_below J4.out)).2.1, (HY.out _ (JA_below J4.out)).2.2.1, (HY.out _ (JA_below J4.out)).2.2.2.1, (HY.out _ (JA_below J4.out)).2.2.2.2.1, (HY.out _ (JA_below J4.out)).2.2.2.2.2⟩ (fun hHeld => ?_)
          clear hK K
          refine norm_ (a' := ?_) ?_ ?_
          rotate_left
          · show Act.put _ (some 38) _ = _
            simp only [Act.put, List.setIfInBounds_toArray, List.set_cons_zero, List.set_cons_succ, i64_w, i32_w]
            rfl
          refine done_ (by kernel_rfl) ?_
          go_wp2
          go_roundw
          case rel => exact ⟨j + 1, S', by go_num, by omega, by omega, NI, J4⟩
          case measure => simp [intOf]; omega
        · have EV := Aside0.mk (small_no a e1)
          clear e1
          go_wp2_with (go_at_call 33; refine (small_c HM.out HQ.out (Kd.C_below HC.out (JA_below HJ.out)) EV.out).mono ?_; rintro e w2 ⟨rfl, hb⟩; have J2 := Aside0.mk (JA_step HJ.out hb); clear hb HJ y0 y1 y2 y3 y4 y5)
          go_roundw
          case rel => exact ⟨j + 1, S, by go_num, by omega, by omega, ⟨OkS_more HI.out (Nat.le_succ j)⟩, J2⟩
          case measure => simp [intOf]; omega
      · have HO := Aside0.mk (OkS_more HI.out hj2)
        by_cases d1 : j < l0.length
        · have d1b : decide (j < l0.length) = true := decide_eq_true d1
          have d2b : decide (j < 40) = false := decide_eq_false (by omega)
          have d2 : ¬ j < 40 := by omega
          go_wp2
          go_meet
          case rel => exact ⟨S, HO, HJ⟩
        · have d1b : decide (j < l0.length) = false := decide_eq_false d1
          go_wp2
          go_meet
          case rel => exact ⟨S, HO, HJ⟩
  case rest =>
    obtain ⟨S, HI, HJ⟩ := hcut
    clear J1
    have HF := Aside0.mk HI.out.fo
    have HN := Aside0.mk (show S.length ≤ 41 from HI.out.len)
    have RK := Aside0.mk (Fo_bound HI.out.fo)
    clear HI HR0
    obtain ⟨nn, hnn⟩ : ∃ nn, nn = S.length := ⟨_, rfl⟩
    have HNN := Aside0.mk hnn
    clear hnn
    go_wp2
    go_loopw [5, 6, 7, 8, 9, 10, 11] (fun v5 v6 v7 v8 v9 v10 v11 wr => ∃ n : Nat, v6 = .int .i64 (n : Int) ∧ v5 = .int .i64 ((kSum S n : Nat) : Int) ∧ n ≤ nn ∧ Aside0 (JA w wr p S (fun _ => False))) (fun v5 v6 v7 v8 v9 v10 v11 _ => nn - (intOf v6).toNat)
    case atStart => exact ⟨0, rfl, rfl, Nat.zero_le _, HJ⟩
    case round =>
      clear HJ
      obtain ⟨n, rfl, rfl, hn, HJ⟩ := hrel
      have nb : nn ≤ 41 := by have h1 := HNN.out; have h2 := HN.out; omega
      by_cases d : n < nn
      · have d1 : (n : Int) < (nn : Int) := by omega
        have db : decide (n < nn) = true := decide_eq_true d
        have DD := Aside0.mk (show n < S.length by have := HNN.out; omega)
        obtain ⟨l, hl⟩ : ∃ l, l = kiS S n := ⟨_, rfl⟩
        obtain ⟨m, hm⟩ : ∃ m, m = l.length := ⟨_, rfl⟩
        have HM := Aside0.mk hm
        have ML := Aside0.mk (show l.length ≤ 100000 by have h1 := FoS_ki_len HF.out DD.out; have h2 := HN.out; rw [hl]; omega)
        have mb : m ≤ 41 := by have h1 := FoS_ki_len HF.out DD.out; have h2 := HN.out; rw [hm, hl]; omega
        have KI := Aside0.mk (show kiI S (n : Int) = l by rw [hl]; exact kiI_at DD.out)
        have KS := Aside0.mk (show kSum S (n + 1) = kSum S n + m by rw [kSum_succ, hm, hl])
        have KB := Aside0.mk (kSum_le HF.out (Nat.le_of_lt DD.out))
        have KA := Aside0.mk (show ∀ j, j < m → ∃ c : Nat, rdOf (0 : Int) l (j : Int) = (c : Int) ∧ c < nn ∧ 0 < c ∧ paI S (c : Int) = (n : Int) from fun j hj => by have := kids_at HF.out DD.out j (by rw [← hl, ← hm]; exact hj); rw [← hl, ← HNN.out] at this; exact this)
        have KN := Aside0.mk (show ∀ i j, i < j → j < m → rdOf (0 : Int) l (i : Int) ≠ rdOf (0 : Int) l (j : Int) from fun i j hij hj => by have := kids_ne HF.out DD.out i j hij (by rw [← hl, ← hm]; exact hj); rw [← hl] at this; exact this)
        obtain ⟨ks, hks⟩ : ∃ ks, ks = kSum S n := ⟨_, rfl⟩
        rw [← hks] at KS KB ⊢
        have ksb : ks ≤ 41 := by have h1 := KB.out; have h2 := HN.out; omega
        clear hl hm hks d
        go_upto_region 15 with (first | (go_at_call 30; refine (J_LenN HJ.out HNN.out).mono ?_; rintro e w4 ⟨rfl, rfl⟩) | (go_at_call 36; refine (J_KidsM HJ.out (n : Int) l m HM.out ML.out KI.out).mono ?_; rintro e w2 ⟨A2, c2, rfl, hR, hb⟩; have R2 := Aside0.mk hR; have J2 := Aside0.mk (JA_step HJ.out hb); clear hR hb HJ))
        go_wp2
        go_loopw [8, 9] (fun v8 v9 wr => ∃ i : Nat, v8 = .int .i64 (i : Int) ∧ i ≤ m ∧ Aside0 (JA w wr p S (fun _ => False)) ∧ Aside0 (Kd.R (Kd.int .i64) 3 wr w.heap.size (fun _ => True) (.slice A2 m c2) l)) (fun v8 v9 _ => m - (intOf v8).toNat)
        case atStart => exact ⟨0, rfl, Nat.zero_le _, J2, R2⟩
        case round =>
          clear J2 R2
          obtain ⟨i, rfl, hi, HJ2, HR⟩ := hrel
          by_cases e : i < m
          · have e1 : (i : Int) < (m : Int) := by omega
            have eb : decide (i < m) = true := decide_eq_true e
            have EE := Aside0.mk e
            obtain ⟨gA, hgA⟩ : ∃ gA, A2 = some ⟨gA, 0, none⟩ := by
              obtain ⟨gk, ck, ek, _⟩ := Kd.R_form HR.out (by rw [← HM.out]; omega)
              injection ek with ek e2 e3
              exact ⟨gk, ek⟩
            subst hgA
            obtain ⟨c, hc, hcn, hc0, hcp⟩ := KA.out i e
            have XC := Aside0.mk (show ∀ w', Kd.R (Kd.int .i64) 3 w' w.heap.size (fun _ => True) (.slice (some ⟨gA, 0, none⟩) m c2) l → w'.cell? ⟨gA, i, none⟩ = some (.int .i64 (c : Int)) from fun w' h => by have h1 := (Kd.R_celln (0 : Int) h (i : Int) (by omega) e1).1; rw [Int.toNat_natCast, hc] at h1; exact h1)
            have CP := Aside0.mk hcp
            have HC := Aside0.mk hc
            have q1 : ((n : Int) != (n : Int)) = false := by simp
            have q2 : decide ((c : Int) < 1) = false := decide_eq_false (by omega)
            have q3 : decide ((c : Int) ≥ (nn : Int)) = false := decide_eq_false (by omega)
            have q4 : decide (nn ≤ c) = false := decide_eq_false (by omega)
            have q5 : decide ((nn : Int) ≤ (c : Int)) = false := decide_eq_false (by omega)
            clear hc hcp e
            have hx := XC.out _ HR.out
            clear hx
            go_upto_region 18 with (fail)
            refine start_ (n := 24) (S := fun w' => w'.cell? ⟨gA, i, none⟩ = some (.int .i64 (c : Int))) (ds := []) #[false, false, false, false, false, false, false, false, false, false, false, false, false, false, false, false, false, false, false, false, false, false, false, false] (by kernel_rfl) rfl rfl ((XC.out _ (Kd.R_below HR.out (below_drew (Below.refl _ _))))) (fun hHeld => ?_)
            refine pure_ (i := 0) (N := some 58) (v := ?_) (a' := ?_) #[true, false, false, false, false, false, false, false, false, false, false, false, false, false, false, false, false, false, false, false, false, false, false, false] rfl rfl (by kernel_rfl) (fun _ _ _ h => h) (Or.inl ⟨by rfl, ?_⟩) ?_ ?_
            rotate_left
            · intro w'
              go_simp
              with_reducible rfl
            rotate_left
            · simp only [Act.put, List.setIfInBounds_toArray, List.set_cons_zero, List.set_cons_succ, i64_w, i32_w]
              rfl
            refine pure_ (i := 1) (N := some 59) (v := ?_) (a' := ?_) #[true, true, false, false, false, false, false, false, false, false, false, false, false, false, false, false, false, false, false, false, false, false, false, false] rfl rfl (by kernel_rfl) (fun _ _ _ h => h) (Or.inl ⟨by rfl, ?_⟩) ?_ ?_
            rotate_left
            · intro w'
              go_simp
              with_reducible rfl
            rotate_left
            · simp only [Act.put, List.setIfInBounds_toArray, List.set_cons_zero, List.set_cons_succ, i64_w, i32_w]
              rfl
            refine pure_ (i := 2) (N := some 60) (v := ?_) (a' := ?_) #[true, true, true, false, false, false, false, false, false, false, false, false, false, false, false, false, false, false, false, false, false, false, false, false] rfl rfl (by kernel_rfl) (fun _ _ _ h => h) (Or.inl ⟨by rfl, ?_⟩) ?_ ?_
            rotate_left
            · intro w'
              go_simp
              with_reducible rfl
            rotate_left
            · simp only [Act.put, List.setIfInBounds_toArray, List.set_cons_zero, List.set_cons_succ, i64_w, i32_w]
              rfl
            refine pure_ (i := 3) (N := some 61) (v := ?_) (a' := ?_) #[true, true, true, true, false, false, false, false, false, false, false, false, false, false, false, false, false, false, false, false, false, false, false, false] rfl rfl (by kernel_rfl) (fun _ _ _ h => h) (Or.inl ⟨by rfl, ?_⟩) ?_ ?_
            rotate_left
            · intro w'
              go_simp
              with_reducible rfl
            rotate_left
            · simp only [Act.put, List.setIfInBounds_toArray, List.set_cons_zero, List.set_cons_succ, i64_w, i32_w]
              rfl
            refine pure_ (i := 6) (N := some 64) (v := ?_) (a' := ?_) #[true, true, true, true, false, false, true, false, false, false, false, false, false, false, false, false, false, false, false, false, false, false, false, false] rfl rfl (by kernel_rfl) (fun _ _ _ h => h) (Or.inl ⟨by rfl, ?_⟩) ?_ ?_
            rotate_left
            · intro w'
              go_simp
              with_reducible rfl
            rotate_left
            · simp only [Act.put, List.setIfInBounds_toArray, List.set_cons_zero, List.set_cons_succ, i64_w, i32_w]
              rfl
            refine take_ (i := 4) (N := some 62) (v := ?_) (a' := ?_) #[true, true, true, true, true, false, true, false, false, false, false, false, false, false, false, false, false, false, false, false, false, false, false, false] rfl rfl (by kernel_rfl) (fun _ _ _ h => h) (Or.inl ⟨by rfl, ?_⟩) hHeld ?_ ?_
            rotate_left
            · intro w' s0
              go_simp
              with_reducible rfl
            rotate_left
            · simp only [Act.put, List.setIfInBounds_toArray, List.set_cons_zero, List.set_cons_succ, i64_w, i32_w]
              rfl
            refine one_ (i := 5) (N := some 63) #[true, true, true, true, true, true, true, false, false, false, false, false, false, false, false, false, false, false, false, false, false, false, false, false] rfl rfl (by kernel_rfl) (by decide) (fun K hK => ?_)
            refine goes_ Try.func37 (by kernel_rfl) rfl #[.pointer (some ⟨p, 0, none⟩), .int .i64 (c : Int)] (by rfl) rfl rfl (by simp only [List.map_toArray, List.map_cons, List.map_nil]; rfl) ?_
            with_reducible refine (J_Parent (JA_step HJ2.out (below_drew (Below.refl _ _))) (c : Int) (n : Int) CP.out).mono ?_
            rintro e w4 ⟨rfl, rfl⟩
            refine ⟨_, rfl, ?_⟩
            refine hK.out _ _ ((XC.out _ (Kd.R_below HR.out (below_drew (Below.refl _ _))))) (fun hHeld => ?_)
            clear hK K
            refine norm_ (a' := ?_) ?_ ?_
            rotate_left
            · show Act.put _ (some 63) _ = _
              simp only [Act.put, List.setIfInBounds_toArray, List.set_cons_zero, List.set_cons_succ, i64_w, i32_w]
              rfl
            refine pure_ (i := 7) (N := some 65) (v := ?_) (a' := ?_) #[true, true, true, true, true, true, true, true, false, false, false, false, false, false, false, false, false, false, false, false, false, false, false, false] rfl rfl (by kernel_rfl) (fun _ _ _ h => h) (Or.inl ⟨by rfl, ?_⟩) ?_ ?_
            rotate_left
            · intro w'
              go_simp
              with_reducible rfl
            rotate_left
            · simp only [Act.put, List.setIfInBounds_toArray, List.set_cons_zero, List.set_cons_succ, i64_w, i32_w]
              rfl
            refine pure_ (i := 8) (N := some 66) (v := ?_) (a' := ?_) #[true, true, true, true, true, true, true, true, true, false, false, false, false, false, false, false, false, false, false, false, false, false, false, false] rfl rfl (by kernel_rfl) (fun _ _ _ h => h) (Or.inl ⟨by rfl, ?_⟩) ?_ ?_
            rotate_left
            · intro w'
              go_simp
              with_reducible rfl
            rotate_left
            · simp only [Act.put, List.setIfInBounds_toArray, List.set_cons_zero, List.set_cons_succ, i64_w, i32_w]
              rfl
            refine pure_ (i := 9) (N := some 67) (v := ?_) (a' := ?_) #[true, true, true, true, true, true, true, true, true, true, false, false, false, false, false, false, false, false, false, false, false, false, false, false] rfl rfl (by kernel_rfl) (fun _ _ _ h => h) (Or.inl ⟨by rfl, ?_⟩) ?_ ?_
            rotate_left
            · intro w'
              go_simp
              with_reducible rfl
            rotate_left
            · simp only [Act.put, List.setIfInBounds_toArray, List.set_cons_zero, List.set_cons_succ, i64_w, i32_w]
              rfl
            refine pure_ (i := 10) (N := some 68) (v := ?_) (a' := ?_) #[true, true, true, true, true, true, true, true, true, true, true, false, false, false, false, false, false, false, false, false, false, false, false, false] rfl rfl (by kernel_rfl) (fun _ _ _ h => h) (Or.inl ⟨by rfl, ?_⟩) ?_ ?_
            rotate_left
            · intro w'
              go_simp
              with_reducible rfl
            rotate_left
            · simp only [Act.put, List.setIfInBounds_toArray, List.set_cons_zero, List.set_cons_succ, i64_w, i32_w]
              rfl
            refine pure_ (i := 11) (N := some 69) (v := ?_) (a' := ?_) #[true, true, true, true, true, true, true, true, true, true, true, true, false, false, false, false, false, false, false, false, false, false, false, false] rfl rfl (by kernel_rfl) (fun _ _ _ h => h) (Or.inl ⟨by rfl, ?_⟩) ?_ ?_
            rotate_left
            · intro w'
              go_simp
              with_reducible rfl
            rotate_left
            · simp only [Act.put, List.setIfInBounds_toArray, List.set_cons_zero, List.set_cons_succ, i64_w, i32_w]
              rfl
            refine take_ (i := 12) (N := some 70) (v := ?_) (a' := ?_) #[true, true, true, true, true, true, true, true, true, true, true, true, true, false, false, false, false, false, false, false, false, false, false, false] rfl rfl (by kernel_rfl) (fun _ _ _ h => h) (Or.inl ⟨by rfl, ?_⟩) hHeld ?_ ?_
            rotate_left
            · intro w' s0
              go_simp
              with_reducible rfl
            rotate_left
            · simp only [Act.put, List.setIfInBounds_toArray, List.set_cons_zero, List.set_cons_succ, i64_w, i32_w]
              rfl
            refine pure_ (i := 13) (N := some 71) (v := ?_) (a' := ?_) #[true, true, true, true, true, true, true, true, true, true, true, true, true, true, false, false, false, false, false, false, false, false, false, false] rfl rfl (by kernel_rfl) (fun _ _ _ h => h) (Or.inl ⟨by rfl, ?_⟩) ?_ ?_
            rotate_left
            · intro w'
              go_simp
              with_reducible rfl
            rotate_left
            · simp only [Act.put, List.setIfInBounds_toArray, List.set_cons_zero, List.set_cons_succ, i64_w, i32_w]
              rfl
            refine pure_ (i := 14) (N := some 72) (v := ?_) (a' := ?_) #[true, true, true, true, true, true, true, true, true, true, true, true, true, true, true, false, false, false, false, false, false, false, false, false] rfl rfl (by kernel_rfl) (fun _ _ _ h => h) (Or.inl ⟨by rfl, ?_⟩) ?_ ?_
            rotate_left
            · intro w'
              go_simp
              with_reducible rfl
            rotate_left
            · simp only [Act.put, List.setIfInBounds_toArray, List.set_cons_zero, List.set_cons_succ, i64_w, i32_w]
              rfl
            refine pure_ (i := 15) (N := some 73) (v := ?_) (a' := ?_) #[true, true, true, true, true, true, true, true, true, true, true, true, true, true, true, true, false, false, false, false, false, false, false, false] rfl rfl (by kernel_rfl) (fun _ _ _ h => h) (Or.inl ⟨by rfl, ?_⟩) ?_ ?_
            rotate_left
            · intro w'
              go_simp
              with_reducible rfl
            rotate_left
            · simp only [Act.put, List.setIfInBounds_toArray, List.set_cons_zero, List.set_cons_succ, i64_w, i32_w]
              rfl
            refine pure_ (i := 16) (N := some 74) (v := ?_) (a' := ?_) #[true, true, true, true, true, true, true, true, true, true, true, true, true, true, true, true, true, false, false, false, false, false, false, false] rfl rfl (by kernel_rfl) (fun _ _ _ h => h) (Or.inl ⟨by rfl, ?_⟩) ?_ ?_
            rotate_left
            · intro w'
              go_simp
              with_reducible rfl
            rotate_left
            · simp only [Act.put, List.setIfInBounds_toArray, List.set_cons_zero, List.set_cons_succ, i64_w, i32_w]
              rfl
            refine pure_ (i := 17) (N := some 75) (v := ?_) (a' := ?_) #[true, true, true, true, true, true, true, true, true, true, true, true, true, true, true, true, true, true, false, false, false, false, false, false] rfl rfl (by kernel_rfl) (fun _ _ _ h => h) (Or.inl ⟨by rfl, ?_⟩) ?_ ?_
            rotate_left
            · intro w'
              go_simp
              with_reducible rfl
            rotate_left
            · simp only [Act.put, List.setIfInBounds_toArray, List.set_cons_zero, List.set_cons_succ, i64_w, i32_w]
              rfl
            refine pure_ (i := 18) (N := some 76) (v := ?_) (a' := ?_) #[true, true, true, true, true, true, true, true, true, true, true, true, true, true, true, true, true, true, true, false, false, false, false, false] rfl rfl (by kernel_rfl) (fun _ _ _ h => h) (Or.inl ⟨by rfl, ?_⟩) ?_ ?_
            rotate_left
            · intro w'
              go_simp
              with_reducible rfl
            rotate_left
            · simp only [Act.put, List.setIfInBounds_toArray, List.set_cons_zero, List.set_cons_succ, i64_w, i32_w]
              rfl
            refine pure_ (i := 20) (N := some 78) (v := ?_) (a' := ?_) #[true, true, true, true, true, true, true, true, true, true, true, true, true, true, true, true, true, true, true, false, true, false, false, false] rfl rfl (by kernel_rfl) (fun _ _ _ h => h) (Or.inl ⟨by rfl, ?_⟩) ?_ ?_
            rotate_left
            · intro w'
              go_simp
              with_reducible rfl
            rotate_left
            · simp only [Act.put, List.setIfInBounds_toArray, List.set_cons_zero, List.set_cons_succ, i64_w, i32_w]
              rfl
            refine take_ (i := 19) (N := some 77) (v := ?_) (a' := ?_) #[true, true, true, true, true, true, true, true, true, true, true, true, true, true, true, true, true, true, true, true, true, false, false, false] rfl rfl (by kernel_rfl) (fun _ _ _ h => h) (Or.inl ⟨by rfl, ?_⟩) hHeld ?_ ?_
            rotate_left
            · intro w' s0
              go_simp
              with_reducible rfl
            rotate_left
            · simp only [Act.put, List.setIfInBounds_toArray, List.set_cons_zero, List.set_cons_succ, i64_w, i32_w]
              rfl
            refine one_ (i := 21) (N := some 79) #[true, true, true, true, true, true, true, true, true, true, true, true, true, true, true, true, true, true, true, true, true, true, false, false] rfl rfl (by kernel_rfl) (by decide) (fun K hK => ?_)
            refine goes_ Try.func30 (by kernel_rfl) rfl #[.pointer (some ⟨p, 0, none⟩)] (by rfl) rfl rfl (by simp only [List.map_toArray, List.map_cons, List.map_nil]; rfl) ?_
            with_reducible refine (J_LenN (JA_step HJ2.out (below_drew (Below.refl _ _))) HNN.out).mono ?_
            rintro e w5 ⟨rfl, rfl⟩
            refine ⟨_, rfl, ?_⟩
            refine hK.out _ _ ((XC.out _ (Kd.R_below HR.out (below_drew (Below.refl _ _))))) (fun hHeld => ?_)
            clear hK K
            refine norm_ (a' := ?_) ?_ ?_
            rotate_left
            · show Act.put _ (some 79) _ = _
              simp only [Act.put, List.setIfInBounds_toArray, List.set_cons_zero, List.set_cons_succ, i64_w, i32_w]
              rfl
            refine pure_ (i := 22) (N := some 80) (v := ?_) (a' := ?_) #[true, true, true, true, true, true, true, true, true, true, true, true, true, true, true, true, true, true, true, true, true, true, true, false] rfl rfl (by kernel_rfl) (fun _ _ _ h => h) (Or.inl ⟨by rfl, ?_⟩) ?_ ?_
            rotate_left
            · intro w'
              go_simp
              with_reducible rfl
            rotate_left
            · simp only [Act.put, List.setIfInBounds_toArray, List.set_cons_zero, List.set_cons_succ, i64_w, i32_w]
              rfl
            refine pure_ (i := 23) (N := some 81) (v := ?_) (a' := ?_) #[true, true, true, true, true, true, true, true, true, true, true, true, true, true, true, true, true, true, true, true, true, true, true, true] rfl rfl (by kernel_rfl) (fun _ _ _ h => h) (Or.inl ⟨by rfl, ?_⟩) ?_ ?_
            rotate_left
            · intro w'
              go_simp
              with_reducible rfl
            rotate_left
            · simp only [Act.put, List.setIfInBounds_toArray, List.set_cons_zero, List.set_cons_succ, i64_w, i32_w]
              rfl
            refine done_ (by kernel_rfl) ?_
            obtain ⟨W3, hW3⟩ : ∃ W3, W3 = wr.drew := ⟨_, rfl⟩
            have HJ3 := Aside0.mk (show JA w W3 p S (fun _ => False) by rw [hW3]; exact JA_step HJ2.out (below_drew (Below.refl _ _)))
            have HR3 := Aside0.mk (show Kd.R (Kd.int .i64) 3 W3 w.heap.size (fun _ => True) (.slice (some ⟨gA, 0, none⟩) m c2) l by rw [hW3]; exact Kd.R_below HR.out (below_drew (Below.refl _ _)))
            rw [← hW3]
            clear hW3 HJ2 HR
            go_wp2
            go_loopw [9] (fun v9 wr => ∃ k : Nat, v9 = .int .i64 (k : Int) ∧ k ≤ i ∧ Aside0 (JA w wr p S (fun _ => False)) ∧ Aside0 (Kd.R (Kd.int .i64) 3 wr w.heap.size (fun _ => True) (.slice (some ⟨gA, 0, none⟩) m c2) l)) (fun v9 _ => i - (intOf v9).toNat)
            case atStart => exact ⟨0, rfl, Nat.zero_le _, HJ3, HR3⟩
            case round =>
              clear HJ3 HR3
              obtain ⟨k, rfl, hk, HJ3, HR3⟩ := hrel
              by_cases f : k < i
              · have f1 : (k : Int) < (i : Int) := by omega
                have fb : decide (k < i) = true := decide_eq_true f
                have FF := Aside0.mk f
                have fm : (k : Int) < (m : Int) := by omega
                obtain ⟨d, hd⟩ : ∃ d, d = rdOf (0 : Int) l (k : Int) := ⟨_, rfl⟩
                have XD := Aside0.mk (show ∀ w', Kd.R (Kd.int .i64) 3 w' w.heap.size (fun _ => True) (.slice (some ⟨gA, 0, none⟩) m c2) l → w'.cell? ⟨gA, k, none⟩ = some (.int .i64 d) from fun w' h => by have h1 := (Kd.R_celln (0 : Int) h (k : Int) (by omega) fm).1; rw [Int.toNat_natCast, ← hd] at h1; exact h1)
                have nd : (d == (c : Int)) = false := by have h1 := KN.out k i FF.out EE.out; rw [← hd, HC.out] at h1; simp [h1]
                clear hd f
                go_upto_region 23 with (fail)
                refine start_ (n := 9) (S := fun w' => w'.cell? ⟨gA, k, none⟩ = some (.int .i64 d) ∧ w'.cell? ⟨gA, i, none⟩ = some (.int .i64 (c : Int))) (ds := []) #[false, false, false, false, false, false, false, false, false] (by kernel_rfl) rfl rfl ⟨(XD.out _ (Kd.R_below HR3.out (below_drew (Below.refl _ _)))), (XC.out _ (Kd.R_below HR3.out (below_drew (Below.refl _ _))))⟩ (fun hHeld => ?_)
                refine pure_ (i := 0) (N := some 87) (v := ?_) (a' := ?_) #[true, false, false, false, false, false, false, false, false] rfl rfl (by kernel_rfl) (fun _ _ _ h => h) (Or.inl ⟨by rfl, ?_⟩) ?_ ?_
                rotate_left
                · intro w'
                  go_simp
                  with_reducible rfl
                rotate_left
                · simp only [Act.put, List.setIfInBounds_toArray, List.set_cons_zero, List.set_cons_succ, i64_w, i32_w]
                  rfl
                refine pure_ (i := 1) (N := some 88) (v := ?_) (a' := ?_) #[true, true, false, false, false, false, false, false, false] rfl rfl (by kernel_rfl) (fun _ _ _ h => h) (Or.inl ⟨by rfl, ?_⟩) ?_ ?_
                rotate_left
                · intro w'
                  go_simp
                  with_reducible rfl
                rotate_left
                · simp only [Act.put, List.setIfInBounds_toArray, List.set_cons_zero, List.set_cons_succ, i64_w, i32_w]
                  rfl
                refine pure_ (i := 2) (N := some 89) (v := ?_) (a' := ?_) #[true, true, true, false, false, false, false, false, false] rfl rfl (by kernel_rfl) (fun _ _ _ h => h) (Or.inl ⟨by rfl, ?_⟩) ?_ ?_
                rotate_left
                · intro w'
                  go_simp
                  with_reducible rfl
                rotate_left
                · simp only [Act.put, List.setIfInBounds_toArray, List.set_cons_zero, List.set_cons_succ, i64_w, i32_w]
                  rfl
                refine pure_ (i := 4) (N := some 91) (v := ?_) (a' := ?_) #[true, true, true, false, true, false, false, false, false] rfl rfl (by kernel_rfl) (fun _ _ _ h => h) (Or.inl ⟨by rfl, ?_⟩) ?_ ?_
                rotate_left
                · intro w'
                  go_simp
                  with_reducible rfl
                rotate_left
                · simp only [Act.put, List.setIfInBounds_toArray, List.set_cons_zero, List.set_cons_succ, i64_w, i32_w]
                  rfl
                refine pure_ (i := 5) (N := some 92) (v := ?_) (a' := ?_) #[true, true, true, false, true, true, false, false, false] rfl rfl (by kernel_rfl) (fun _ _ _ h => h) (Or.inl ⟨by rfl, ?_⟩) ?_ ?_
                rotate_left
                · intro w'
                  go_simp
                  with_reducible rfl
                rotate_left
                · simp only [Act.put, List.setIfInBounds_toArray, List.set_cons_zero, List.set_cons_succ, i64_w, i32_w]
                  rfl
                refine pure_ (i := 6) (N := some 93) (v := ?_) (a' := ?_) #[true, true, true, false, true, true, true, false, false] rfl rfl (by kernel_rfl) (fun _ _ _ h => h) (Or.inl ⟨by rfl, ?_⟩) ?_ ?_
                rotate_left
                · intro w'
                  go_simp
                  with_reducible rfl
                rotate_left
                · simp only [Act.put, List.setIfInBounds_toArray, List.set_cons_zero, List.set_cons_succ, i64_w, i32_w]
                  rfl
                refine take_ (i := 3) (N := some 90) (v := ?_) (a' := ?_) #[true, true, true, true, true, true, true, false, false] rfl rfl (by kernel_rfl) (fun _ _ _ h => h) (Or.inl ⟨by rfl, ?_⟩) hHeld ?_ ?_
                rotate_left
                · rintro w' ⟨s0, s1⟩
                  go_simp
                  with_reducible rfl
                rotate_left
                · simp only [Act.put, List.setIfInBounds_toArray, List.set_cons_zero, List.set_cons_succ, i64_w, i32_w]
                  rfl
                refine take_ (i := 7) (N := some 94) (v := ?_) (a' := ?_) #[true, true, true, true, true, true, true, true, false] rfl rfl (by kernel_rfl) (fun _ _ _ h => h) (Or.inl ⟨by rfl, ?_⟩) hHeld ?_ ?_
                rotate_left
                · rintro w' ⟨s0, s1⟩
                  go_simp
                  with_reducible rfl
                rotate_left
                · simp only [Act.put, List.setIfInBounds_toArray, List.set_cons_zero, List.set_cons_succ, i64_w, i32_w]
                  rfl
                refine pure_ (i := 8) (N := some 95) (v := ?_) (a' := ?_) #[true, true, true, true, true, true, true, true, true] rfl rfl (by kernel_rfl) (fun _ _ _ h => h) (Or.inl ⟨by rfl, ?_⟩) ?_ ?_
                rotate_left
                · intro w'
                  go_simp
                  with_reducible rfl
                rotate_left
                · simp only [Act.put, List.setIfInBounds_toArray, List.set_cons_zero, List.set_cons_succ, i64_w, i32_w]
                  rfl
                refine done_ (by kernel_rfl) ?_
                obtain ⟨W4, hW4⟩ : ∃ W4, W4 = wr.drew := ⟨_, rfl⟩
                have HJ4 := Aside0.mk (show JA w W4 p S (fun _ => False) by rw [hW4]; exact JA_step HJ3.out (below_drew (Below.refl _ _)))
                have HR4 := Aside0.mk (show Kd.R (Kd.int .i64) 3 W4 w.heap.size (fun _ => True) (.slice (some ⟨gA, 0, none⟩) m c2) l by rw [hW4]; exact Kd.R_below HR3.out (below_drew (Below.refl _ _)))
                rw [← hW4]
                clear hW4
                go_wp2
                go_roundw
                case rel => exact ⟨k + 1, by go_num, FF.out, HJ4, HR4⟩
                case measure => have := FF.out; simp [intOf]; omega
              · have f1 : ¬ (k : Int) < (i : Int) := by omega
                have fb : decide (k < i) = false := decide_eq_false f
                go_wp2
                go_roundw
                case rel => exact ⟨i + 1, by go_num, EE.out, HJ3, HR3⟩
                case measure => have := EE.out; simp [intOf]; omega
          · have e1 : ¬ (i : Int) < (m : Int) := by omega
            have eb : decide (i < m) = false := decide_eq_false e
            clear KA KN
            obtain ⟨rk, hr1, hr2⟩ := RK.out
            have R1 := Aside0.mk hr1
            have R2 := Aside0.mk hr2
            clear hr1 hr2
            go_wp2
            go_loopw [10, 11] (fun v10 v11 wr => ∃ k : Nat, v11 = .int .i64 (k : Int) ∧ k ≤ nn ∧ (v10 = .int .i64 (-1) ∨ ∃ q : Nat, v10 = .int .i64 (q : Int) ∧ q < nn ∧ Aside0 (k + rk q = rk n)) ∧ Aside0 (JA w wr p S (fun _ => False))) (fun v10 v11 _ => nn - (intOf v11).toNat)
            case atStart => exact ⟨0, rfl, Nat.zero_le _, .inr ⟨n, rfl, by have := DD.out; have := HNN.out; omega, ⟨Nat.zero_add _⟩⟩, HJ2⟩
            case round =>
              clear HJ2
              obtain ⟨k, rfl, hk, hup, HJ2⟩ := hrel
              rcases hup with rfl | ⟨q, rfl, hq, HQ⟩
              · go_wp2
                go_roundw
                case rel => exact ⟨n + 1, by go_num, by rw [KS.out]; go_num, by have := DD.out; have := HNN.out; omega, HJ2⟩
                case measure => have := DD.out; have := HNN.out; simp [intOf]; omega
              · have hkn : k < nn := by have h1 := HQ.out; have h2 := R1.out n DD.out; have h3 := HNN.out; omega
                have k1 : (k : Int) < (nn : Int) := by omega
                have kb : decide (k < nn) = true := decide_eq_true hkn
                have q0 : decide ((q : Int) ≥ 0) = true := decide_eq_true (by omega)
                have QL := Aside0.mk (show q < S.length by have := HNN.out; omega)
                have KL := Aside0.mk hkn
                obtain ⟨u, hu⟩ : ∃ u, u = paI S (q : Int) := ⟨_, rfl⟩
                have HU := Aside0.mk hu.symm
                have NX := Aside0.mk (show u = -1 ∨ ∃ q' : Nat, u = (q' : Int) ∧ q' < nn ∧ k + 1 + rk q' = rk n by
                  rw [paI_at QL.out] at hu
                  rcases FoS_pa HF.out QL.out with h1 | ⟨b, h1, h2, _⟩
                  · exact .inl (hu.trans h1)
                  · right
                    have h3 := (R2.out q QL.out b h1).2
                    have h4 := HQ.out
                    exact ⟨b, hu.trans h1, by have := HNN.out; omega, by omega⟩)
                clear hu hkn
                go_wp2_with (first | (go_at_call 30; refine (J_LenN HJ2.out HNN.out).mono ?_; rintro e w4 ⟨rfl, rfl⟩) | (go_at_call 37; refine (J_Parent HJ2.out (q : Int) u HU.out).mono ?_; rintro e w5 ⟨rfl, rfl⟩))
                go_roundw
                case rel => exact ⟨k + 1, by go_num, KL.out, (by rcases NX.out with h1 | ⟨q', h1, h2, h3⟩; exact .inl (by rw [h1]); exact .inr ⟨q', by rw [h1], h2, ⟨h3⟩⟩), HJ2⟩
                case measure => have := KL.out; simp [intOf]; omega
      · have d1 : ¬ (n : Int) < (nn : Int) := by omega
        have db : decide (n < nn) = false := decide_eq_false d
        obtain rfl : n = nn := by omega
        have KE := Aside0.mk (once_eq HF.out)
        have KE2 := Aside0.mk (show kSum S n + aSum S n = n by have h1 := KE.out; rw [← HNN.out] at h1; exact h1)
        clear KE d hn
        go_upto_block 10 with (go_at_call 30; refine (J_LenN HJ.out HNN.out).mono ?_; rintro e w4 ⟨rfl, rfl⟩)
        go_wp2
        go_loopw [12, 13] (fun v12 v13 wr => ∃ j : Nat, v13 = .int .i64 (j : Int) ∧ v12 = .int .i64 ((aSum S j : Nat) : Int) ∧ j ≤ n ∧ Aside0 (JA w wr p S (fun _ => False))) (fun v12 v13 _ => n - (intOf v13).toNat)
        case atStart => exact ⟨0, rfl, rfl, Nat.zero_le _, HJ⟩
        case round =>
          clear HJ
          obtain ⟨j, rfl, rfl, hj, HJ⟩ := hrel
          obtain ⟨ap_, hap_⟩ : ∃ ap_, ap_ = aSum S j := ⟨_, rfl⟩
          have apb : ap_ ≤ 41 := by have := aSum_le S j; omega
          by_cases e : j < n
          · have e1 : (j : Int) < (n : Int) := by omega
            have eb : decide (j < n) = true := decide_eq_true e
            have EE := Aside0.mk e
            obtain ⟨u, hu⟩ : ∃ u, u = paS S j := ⟨_, rfl⟩
            have HU := Aside0.mk (show paI S (j : Int) = u by rw [hu]; exact paI_at (by have := HNN.out; omega))
            have AS := Aside0.mk (aSum_succ S j)
            rw [← hap_, ← hu] at AS
            rw [← hap_]
            clear hap_ hu e
            by_cases f : u < 0
            · have fb : decide (u < 0) = true := decide_eq_true f
              have AS := Aside0.mk (show aSum S (j + 1) = ap_ + 1 by have := AS.out; rw [if_pos f] at this; exact this)
              go_wp2_with (first | (go_at_call 30; refine (J_LenN HJ.out HNN.out).mono ?_; rintro e w4 ⟨rfl, rfl⟩) | (go_at_call 37; refine (J_Parent HJ.out (j : Int) u HU.out).mono ?_; rintro e w5 ⟨rfl, rfl⟩))
              go_roundw
              case rel => exact ⟨j + 1, by go_num, by rw [AS.out]; go_num, EE.out, HJ⟩
              case measure => have := EE.out; simp [intOf]; omega
            · have fb : decide (u < 0) = false := decide_eq_false f
              have AS := Aside0.mk (show aSum S (j + 1) = ap_ by have := AS.out; rw [if_neg f] at this; exact this)
              go_wp2_with (first | (go_at_call 30; refine (J_LenN HJ.out HNN.out).mono ?_; rintro e w4 ⟨rfl, rfl⟩) | (go_at_call 37; refine (J_Parent HJ.out (j : Int) u HU.out).mono ?_; rintro e w5 ⟨rfl, rfl⟩))
              go_roundw
              case rel => exact ⟨j + 1, by go_num, by rw [AS.out], EE.out, HJ⟩
              case measure => have := EE.out; simp [intOf]; omega
          · have e1 : ¬ (j : Int) < (n : Int) := by omega
            have eb : decide (j < n) = false := decide_eq_false e
            obtain rfl : j = n := by omega
            obtain ⟨ks, hks⟩ : ∃ ks, ks = kSum S j := ⟨_, rfl⟩
            rw [← hap_, ← hks] at KE2
            rw [← hap_, ← hks]
            have ksb : ks ≤ 41 := by have := KE2.out; omega
            have SE := Aside0.mk KE2.out
            have se : (wrap64 ((ks : Int) + (ap_ : Int)) == (j : Int)) = true := by have := KE2.out; unfold wrap64; simp; omega
            have P0 := Aside0.mk (show paI S 0 = -1 by have h1 := HF.out.pos; have h2 := paI_at (S := S) (c := 0) h1; rw [HF.out.root] at h2; exact h2)
            clear hap_ hks e
            go_wp2_with (first | (go_at_call 30; refine (J_LenN (by first | exact HJ.out | exact HJ5.out) HNN.out).mono ?_; rintro e w4 ⟨rfl, rfl⟩) | (go_at_call 27; refine (arena_alive _).mono ?_; rintro e w5 ⟨rfl, hb⟩; have HJ5 := Aside0.mk (JA_step HJ.out hb); clear hb) | (go_at_call 37; refine (J_Parent HJ5.out 0 (-1) P0.out).mono ?_; rintro e w6 ⟨rfl, rfl⟩))
            go_ret
            exact ⟨by first | rfl | (have h1 := SE.out; simp; omega), JA_below HJ5.out⟩
def marginalialaw05_ArenaOnce.f (l0 : List S54) : Option (Bool) := some true
theorem marginalialaw05_ArenaOnce.calls (A0 : Option Addr) (c0 : Nat) (l0 : List S54) (r : Bool) (w : World) (hr0 : Kd.C k54 w A0 l0.length l0) (hc0 : l0.length ≤ c0) (h : marginalialaw05_ArenaOnce.f l0 = some r) :
    Calls Try.prog 9 #[.slice A0 l0.length c0] w fun e w' => e = .returned (.bool r) ∧ Below w.heap.size w w' := by
  obtain rfl := Option.some.inj h
  exact law_Once A0 c0 l0 w hr0

end Go.Proofs.Ytnkaidaflegnlaa.A
