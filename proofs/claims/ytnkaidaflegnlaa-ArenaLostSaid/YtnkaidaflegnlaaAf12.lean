/- The functions of the program that these laws reach, each as a plain Lean function, and the proof that the machine's call comes to it; no condition beyond those that each theorem names. Made by wip/xprint.py. -/
import Derived.Test.YtnkaidaflegnlaaAx0
import Derived.Test.YtnkaidaflegnlaaAf27
import Derived.Test.YtnkaidaflegnlaaAf34
import Derived.Test.YtnkaidaflegnlaaAf46
import Derived.Test.YtnkaidaflegnlaaAh
namespace Go.Proofs.Ytnkaidaflegnlaa.A
open Go.RowKit Go.Proofs.YtnkaidaflegnlaaW.PrintWords Go.Proofs.YtnkaidaflegnlaaW.PrintLast Go.Proofs.YtnkaidaflegnlaaW.PrintMore
attribute [local go_sem] max2_int min2_int max_two min_two max_three min_three max_four min_four   -- for this text's walks alone
set_option linter.unusedVariables false
set_option linter.unusedSimpArgs false

/-! ### marginalialaw05_ArenaLost: function 12: by hand -/
/- How many nodes a value has. -/
def cnS (S : List S96) : Nat → Nat → Nat
  | 0, _ => 1
  | k + 1, i => 1 + ((kiS S i).map (fun c => cnS S k c.toNat)).sum
structure Rk (S : List S96) (rk : Nat → Nat) : Prop where
  lt : ∀ c, c < S.length → rk c < S.length
  up : ∀ c, c < S.length → ∀ i : Nat, paS S c = (i : Int) → i < S.length ∧ rk c = rk i + 1
theorem cn_stab {S : List S96} (hF : FoS S) {rk : Nat → Nat} (h : Rk S rk) : ∀ (m i : Nat), i < S.length → S.length ≤ m + rk i → cnS S (m + 1) i = cnS S m i
  | 0, i, hi, hm => by have := h.lt i hi; omega
  | m + 1, i, hi, hm => by
    rw [cnS, cnS]
    congr 2
    refine List.map_congr_left (fun x hx => ?_)
    obtain ⟨c, rfl, hc, hp⟩ := hF.kp i hi x hx
    rw [Int.toNat_natCast]
    exact cn_stab hF h m c hc (by have := (h.up c hc i hp).2; omega)
theorem cn_g {S : List S96} (hF : FoS S) {rk : Nat → Nat} (h : Rk S rk) (i : Nat) (hi : i < S.length) : cnS S S.length i = 1 + ((kiS S i).map (fun c => cnS S S.length c.toNat)).sum := by
  rw [← cn_stab hF h S.length i hi (by omega), cnS]
theorem cn_roots {S : List S96} (hF : FoS S) : (((List.range S.length).filter (fun i => decide (paS S i < 0))).map (cnS S S.length)).sum = S.length := by
  obtain ⟨rk, h1, h2⟩ := Fo_bound hF
  exact roots_sum hF _ (fun i hi => cn_g hF ⟨h1, h2⟩ i hi)
theorem mem_sum (f : Nat → Nat) {x : Nat} : ∀ {l : List Nat}, x ∈ l → f x ≤ (l.map f).sum
  | y :: l, h => by
    rw [List.map_cons, List.sum_cons]
    rcases List.mem_cons.1 h with rfl | h
    · omega
    · have := mem_sum f h; omega
theorem mem_sumI (f : Int → Nat) {x : Int} : ∀ {l : List Int}, x ∈ l → f x ≤ (l.map f).sum
  | y :: l, h => by
    rw [List.map_cons, List.sum_cons]
    rcases List.mem_cons.1 h with rfl | h
    · omega
    · have := mem_sumI f h; omega
theorem cn_le {S : List S96} (hF : FoS S) {rk : Nat → Nat} (h : Rk S rk) : ∀ (r i : Nat), rk i = r → i < S.length → cnS S S.length i ≤ S.length := by
  intro r
  induction r with
  | zero =>
    intro i hr hi
    have h1 := cn_roots hF
    have h2 : i ∈ (List.range S.length).filter (fun i => decide (paS S i < 0)) := by
      refine List.mem_filter.2 ⟨List.mem_range.2 hi, ?_⟩
      rcases FoS_pa hF hi with e | ⟨j, e, _⟩
      · simp [e]
      · have := (h.up i hi j e).2; omega
    have := mem_sum (cnS S S.length) h2
    omega
  | succ r ih =>
    intro i hr hi
    rcases FoS_pa hF hi with e | ⟨j, e, hj, hm, _⟩
    · have h1 := cn_roots hF
      have h2 : i ∈ (List.range S.length).filter (fun i => decide (paS S i < 0)) := List.mem_filter.2 ⟨List.mem_range.2 hi, by simp [e]⟩
      have := mem_sum (cnS S S.length) h2
      omega
    · have h1 := ih j (by have := (h.up i hi j e).2; omega) hj
      have h2 := cn_g hF h j hj
      have h3 := mem_sumI (fun c => cnS S S.length c.toNat) hm
      simp only [Int.toNat_natCast] at h3
      omega
theorem cn_one (S : List S96) (m i : Nat) : 1 ≤ cnS S m i := by cases m <;> unfold cnS <;> omega
theorem cn_same {S : List S96} (hF : FoS S) {rk : Nat → Nat} (h : Rk S rk) (i : Nat) (hi : i < S.length) : ∀ d m, S.length ≤ m + rk i → m + d = S.length → cnS S m i = cnS S S.length i
  | 0, m, _, e => by obtain rfl : m = S.length := by omega
                     rfl
  | d + 1, m, hm, e => by
    rw [← cn_stab hF h m i hi hm]
    exact cn_same hF h i hi d (m + 1) (by omega) (by omega)
theorem count_l0 {S : List S96} (hl : S.length ≤ 2000) (m i : Nat) (x : S67) (hx : x.f5 = (kiS S i).map (fun c => vaS S m c.toNat)) (hb : 1 + ((kiS S i).map (fun c => cnS S m c.toNat)).sum ≤ 100000) (hkl : (kiS S i).length ≤ 2000)
    (ih : ∀ c ∈ kiS S i, ∃ k, marginalialaw05_count.f k (vaS S m c.toNat).f0 (vaS S m c.toNat).f1 (vaS S m c.toNat).f2 (vaS S m c.toNat).f3 (vaS S m c.toNat).f4 (vaS S m c.toNat).f5 = some (cnS S m c.toNat : Int)) :
    ∀ (d j : Nat), j + d = (kiS S i).length → ∃ k, marginalialaw05_count.l0 k ((1 + (((kiS S i).take j).map (fun c => cnS S m c.toNat)).sum : Nat) : Int) (j : Int) x.f0 x.f1 x.f2 x.f3 x.f4 x.f5 = some ((1 + ((kiS S i).map (fun c => cnS S m c.toNat)).sum : Nat) : Int)
  | 0, j, hj => by
    refine ⟨1, ?_⟩
    rw [marginalialaw05_count.l0, if_neg (by rw [hx, List.length_map]; omega), List.take_of_length_le (by omega)]
  | d + 1, j, hj => by
    have hjl : j < (kiS S i).length := by omega
    obtain ⟨k1, e1⟩ := ih _ (List.getElem_mem hjl)
    obtain ⟨k2, e2⟩ := count_l0 hl m i x hx hb hkl ih d (j + 1) (by omega)
    refine ⟨max k1 k2 + 1, ?_⟩
    have hsum : (((kiS S i).take (j + 1)).map (fun c => cnS S m c.toNat)).sum = (((kiS S i).take j).map (fun c => cnS S m c.toNat)).sum + cnS S m ((kiS S i)[j]).toNat := by
      rw [List.take_succ_eq_append_getElem hjl, List.map_append, List.sum_append]; simp
    have hle : (((kiS S i).take (j + 1)).map (fun c => cnS S m c.toNat)).sum ≤ ((kiS S i).map (fun c => cnS S m c.toNat)).sum := by
      have : (kiS S i).map (fun c => cnS S m c.toNat) = ((kiS S i).take (j + 1)).map (fun c => cnS S m c.toNat) ++ ((kiS S i).drop (j + 1)).map (fun c => cnS S m c.toNat) := by rw [← List.map_append, List.take_append_drop]
      rw [this, List.sum_append]; omega
    have hrd : rd_T67 x.f5 (j : Int) = vaS S m ((kiS S i)[j]).toNat := by
      unfold rd_T67
      rw [hx, Int.toNat_natCast, List.getD_eq_getElem?_getD, List.getElem?_map, List.getElem?_eq_getElem hjl]; rfl
    rw [marginalialaw05_count.l0, if_pos (by rw [hx, List.length_map]; omega), if_pos (by omega), hrd, at_rounds (marginalialaw05_count.mono _ _ _ _ _ _) (Nat.le_max_left k1 k2) e1, Option.bind_some]
    have w1 : wrap64 (((1 + (((kiS S i).take j).map (fun c => cnS S m c.toNat)).sum : Nat) : Int) + (cnS S m ((kiS S i)[j]).toNat : Int)) = ((1 + (((kiS S i).take (j + 1)).map (fun c => cnS S m c.toNat)).sum : Nat) : Int) := by
      rw [hsum] at hle ⊢
      unfold wrap64; omega
    rw [w1, show wrap64 ((j : Int) + 1) = ((j + 1 : Nat) : Int) by unfold wrap64; omega]
    exact at_rounds (fun k => (marginalialaw05_count.mono_l k).2 _ _ _ _ _ _ _ _) (Nat.le_max_right k1 k2) e2
theorem count_ev {S : List S96} (hF : FoS S) (hl : S.length ≤ 2000) {rk : Nat → Nat} (h : Rk S rk) : ∀ (m i : Nat), i < S.length → m ≤ S.length → S.length ≤ m + rk i → ∃ k, marginalialaw05_count.f k (vaS S m i).f0 (vaS S m i).f1 (vaS S m i).f2 (vaS S m i).f3 (vaS S m i).f4 (vaS S m i).f5 = some (cnS S m i : Int)
  | 0, i, hi, _, hm => by have := h.lt i hi; omega
  | m + 1, i, hi, hmn, hm => by
    have hb : cnS S (m + 1) i ≤ 2000 := by
      rw [cn_same hF h i hi (S.length - (m + 1)) (m + 1) (by omega) (by omega)]
      have := cn_le hF h _ i rfl hi
      omega
    have hkl := FoS_ki_len hF hi
    obtain ⟨k, hk⟩ := count_l0 hl m i (vaS S (m + 1) i) rfl (by rw [cnS] at hb; omega) (by omega) (fun x hx => by
      obtain ⟨c, rfl, hc, hp⟩ := hF.kp i hi x hx
      rw [Int.toNat_natCast]
      exact count_ev hF hl h m c hc (by omega) (by have := (h.up c hc i hp).2; omega)) (kiS S i).length 0 (by omega)
    refine ⟨k + 1, ?_⟩
    rw [marginalialaw05_count.f, cnS]
    exact hk
def lSum (S : List S96) (n : Nat) : Nat := (((List.range n).filter (fun i => decide (paS S i < 0))).map (cnS S S.length)).sum
theorem lSum_succ (S : List S96) (n : Nat) : lSum S (n + 1) = lSum S n + (if paS S n < 0 then cnS S S.length n else 0) := by
  unfold lSum; rw [List.range_succ, List.filter_append, List.map_append, List.sum_append]
  congr 1
  by_cases c : paS S n < 0
  · rw [if_pos c]; simp [c]
  · rw [if_neg c]; simp [c]
theorem lSum_le {S : List S96} (h : FoS S) {n : Nat} (hn : n ≤ S.length) : lSum S n ≤ S.length := by
  have h1 : ∀ b, n ≤ b → lSum S n ≤ lSum S b := by
    intro b hb
    induction b with
    | zero => obtain rfl : n = 0 := by omega
              exact Nat.le_refl _
    | succ b ih =>
      by_cases e : n = b + 1
      · subst e; exact Nat.le_refl _
      · rw [lSum_succ]; have := ih (by omega); omega
  have h2 := h1 _ hn
  have h3 := cn_roots h
  unfold lSum at h2 ⊢
  omega
theorem V_count {S : List S96} (hF : FoS S) (hl : S.length ≤ 2000) (i : Nat) (hi : i < S.length) : ∃ k, marginalialaw05_count.f k (vaI S i).f0 (vaI S i).f1 (vaI S i).f2 (vaI S i).f3 (vaI S i).f4 (vaI S i).f5 = some (cnS S S.length i : Int) := by
  obtain ⟨rk, h1, h2⟩ := Fo_bound hF
  have : vaI S (i : Int) = vaS S S.length i := by
    unfold vaI
    rw [if_pos (by unfold inZ; rw [decide_eq_true (by omega), decide_eq_true (by omega)]; rfl), Int.toNat_natCast]
  rw [this]
  exact count_ev hF hl ⟨h1, h2⟩ S.length i hi (Nat.le_refl _) (by omega)
set_option maxRecDepth 100000 in
set_option maxHeartbeats 40000000 in
theorem law_Lost (A0 : Option Addr) (c0 : Nat) (l0 : List S54) (w : World) (hr0 : Kd.C k54 w A0 l0.length l0) : Calls Try.prog 12 #[.slice A0 l0.length c0] w fun e w' => e = .returned (.bool true) ∧ Below w.heap.size w w' := by
  have HR0 := Aside0.mk hr0
  have m0 := Kd.C_max hr0
  clear hr0
  go_enter Try.func12, Try.ntmps12
  go_upto_block 0 with (go_at_call 25; refine (J_New _).mono ?_; rintro e w1 ⟨p, rfl, hJ, hb⟩; have J1 := Aside0.mk (JA_mono (O' := fun _ => False) hJ (fun _ h => h.elim)); clear hJ hb)
  go_cut [4] from 4 to 31 (fun v4 wc => ∃ S, Aside0 (OkS 40 S) ∧ Aside0 (JA w wc p S (fun _ => False)))
  case first =>
    go_wp2
    go_loopw [4] (fun v4 wr => ∃ (j : Nat) (S : List S96), v4 = .int .i64 (j : Int) ∧ j ≤ l0.length ∧ j ≤ 40 ∧ Aside0 (OkS j S) ∧ Aside0 (JA w wr p S (fun _ => False))) (fun v4 _ => l0.length - (intOf v4).toNat)
    case atStart => exact ⟨0, _, rfl, Nat.zero_le _, Nat.zero_le _, ⟨OkS_root⟩, J1⟩
    case round =>
      obtain ⟨j, S, rfl, hj, hj2, HI, HJ⟩ := hrel
      clear J1
      by_cases d0 : j < l0.length ∧ j < 40
      · obtain ⟨d1, d2⟩ := d0
        have d1b : decide (j < l0.length) = true := decide_eq_true d1
        have d2b : decide (j < 40) = true := decide_eq_true d2
        obtain ⟨ad, L, m, q, a, rfl, hal, hy, hm, hq, hC⟩ := act_at HR0.out j d1
        have HY := Aside0.mk hy
        have HM := Aside0.mk hm
        have HQ := Aside0.mk hq
        have HC := Aside0.mk hC
        have HJ40 := Aside0.mk (show j ≤ 40 from hj2)
        obtain ⟨y0, y1, y2, y3, y4, y5⟩ := hy _ (JA_below HJ.out)
        clear hy hal hm hq hC
        by_cases e1 : a.f4.size ≤ 60 ∧ a.f5.length ≤ 6
        · have EV := Aside0.mk (small_ev a e1.1 e1.2)
          have SM := Aside0.mk e1
          clear e1
          obtain ⟨S', r1, r2, hx⟩ : ∃ S' r1 r2, acS a S = (S', r1, r2) := ⟨_, _, _, rfl⟩
          have NI := Aside0.mk (show OkS (j + 1) S' by have := OkS_ac HI.out a SM.out.1 SM.out.2; rw [hx] at this; exact this)
          have HX := Aside0.mk hx
          clear hx
          go_upto_region 8 with (go_at_call 33; refine (small_c HM.out HQ.out (Kd.C_below HC.out (JA_below HJ.out)) EV.out).mono ?_; rintro e w2 ⟨rfl, hb⟩; have J2 := Aside0.mk (JA_step HJ.out hb); clear hb HJ y0 y1 y2 y3 y4 y5)
          refine start_ (n := 7) (S := fun w' => w'.cell? (ad.add (j * 6)) = some (.int .i64 a.f0) ∧ w'.cell? ⟨(ad.add (j * 6)).block, (ad.add (j * 6)).off + 1, none⟩ = some (.int .i64 a.f1) ∧ w'.cell? ⟨(ad.add (j * 6)).block, (ad.add (j * 6)).off + 2, none⟩ = some (.int .i64 a.f2) ∧ w'.cell? ⟨(ad.add (j * 6)).block, (ad.add (j * 6)).off + 3, none⟩ = some (.int .i64 a.f3) ∧ w'.cell? ⟨(ad.add (j * 6)).block, (ad.add (j * 6)).off + 4, none⟩ = some (.string a.f4) ∧ w'.cell? ⟨(ad.add (j * 6)).block, (ad.add (j * 6)).off + 5, none⟩ = some (.slice L m q)) (ds := []) #[false, false, false, false, false, false, false] (by kernel_rfl) rfl rfl ⟨(HY.out _ (below_step' (JA_below J2.out) (below_drew (Below.refl _ _)))).1, (HY.out _ (below_step' (JA_below J2.out) (below_drew (Below.refl _ _)))).2.1, (HY.out _ (below_step' (JA_below J2.out) (below_drew (Below.refl _ _)))).2.2.1, (HY.out _ (below_step' (JA_below J2.out) (below_drew (Below.refl _ _)))).2.2.2.1, (HY.out _ (below_step' (JA_below J2.out) (below_drew (Below.refl _ _)))).2.2.2.2.1, (HY.out _ (below_step' (JA_below J2.out) (below_drew (Below.refl _ _)))).2.2.2.2.2⟩ (fun hHeld => ?_)
          refine pure_ (i := 0) (N := some 25) (v := ?_) (a' := ?_) #[true, false, false, false, false, false, false] rfl rfl (by kernel_rfl) (fun _ _ _ h => h) (Or.inl ⟨by rfl, ?_⟩) ?_ ?_
          rotate_left
          · intro w'
            go_simp
            with_reducible rfl
          rotate_left
          · simp only [Act.put, List.setIfInBounds_toArray, List.set_cons_zero, List.set_cons_succ, i64_w, i32_w]
            rfl
          refine pure_ (i := 2) (N := some 27) (v := ?_) (a' := ?_) #[true, false, true, false, false, false, false] rfl rfl (by kernel_rfl) (fun _ _ _ h => h) (Or.inl ⟨by rfl, ?_⟩) ?_ ?_
          rotate_left
          · intro w'
            go_simp
            with_reducible rfl
          rotate_left
          · simp only [Act.put, List.setIfInBounds_toArray, List.set_cons_zero, List.set_cons_succ, i64_w, i32_w]
            rfl
          refine pure_ (i := 3) (N := some 28) (v := ?_) (a' := ?_) #[true, false, true, true, false, false, false] rfl rfl (by kernel_rfl) (fun _ _ _ h => h) (Or.inl ⟨by rfl, ?_⟩) ?_ ?_
          rotate_left
          · intro w'
            go_simp
            with_reducible rfl
          rotate_left
          · simp only [Act.put, List.setIfInBounds_toArray, List.set_cons_zero, List.set_cons_succ, i64_w, i32_w]
            rfl
          refine pure_ (i := 4) (N := some 29) (v := ?_) (a' := ?_) #[true, false, true, true, true, false, false] rfl rfl (by kernel_rfl) (fun _ _ _ h => h) (Or.inl ⟨by rfl, ?_⟩) ?_ ?_
          rotate_left
          · intro w'
            go_simp
            with_reducible rfl
          rotate_left
          · simp only [Act.put, List.setIfInBounds_toArray, List.set_cons_zero, List.set_cons_succ, i64_w, i32_w]
            rfl
          refine take_ (i := 5) (N := some 30) (v := ?_) (a' := ?_) #[true, false, true, true, true, true, false] rfl rfl (by kernel_rfl) (fun _ _ _ h => h) (Or.inl ⟨by rfl, ?_⟩) hHeld ?_ ?_
          rotate_left
          · rintro w' ⟨s0, s1, s2, s3, s4, s5⟩
            go_simp
            with_reducible rfl
          rotate_left
          · simp only [Act.put, List.setIfInBounds_toArray, List.set_cons_zero, List.set_cons_succ, i64_w, i32_w]
            rfl
          refine one_ (i := 1) (N := some 26) #[true, true, true, true, true, true, false] rfl rfl (by kernel_rfl) (by decide) (fun K hK => ?_)
          refine goes_ Try.func35 (by kernel_rfl) rfl #[] (by rfl) rfl rfl (by simp only [List.map_toArray, List.map_cons, List.map_nil]) ?_
          with_reducible refine (R_New _).mono ?_
          rintro e w3 ⟨A3, n3, c3, rfl, hn, hV, hb⟩
          refine ⟨_, rfl, ?_⟩
          have J3 := Aside0.mk (JA_deep (JA_step J2.out (below_drew (Below.refl _ _))) hb)
          have N3 := Aside0.mk hn
          have V3 := Aside0.mk hV
          have Z3 := Aside0.mk (show ∀ k, w2.drew.heap.size ≤ k ∧ k < w3.heap.size → False ∨ (w2.drew.heap.size ≤ k ∧ k < w3.heap.size) from fun k hk => .inr hk)
          clear hn hV hb
          refine hK.out _ _ ⟨(HY.out _ (JA_below J3.out)).1, (HY.out _ (JA_below J3.out)).2.1, (HY.out _ (JA_below J3.out)).2.2.1, (HY.out _ (JA_below J3.out)).2.2.2.1, (HY.out _ (JA_below J3.out)).2.2.2.2.1, (HY.out _ (JA_below J3.out)).2.2.2.2.2⟩ (fun hHeld => ?_)
          clear hK K
          refine norm_ (a' := ?_) ?_ ?_
          rotate_left
          · show Act.put _ (some 26) _ = _
            simp only [Act.put, List.setIfInBounds_toArray, List.set_cons_zero, List.set_cons_succ, i64_w, i32_w]
            rfl
          refine one_ (i := 6) (N := some 31) #[true, true, true, true, true, true, true] rfl rfl (by kernel_rfl) (by decide) (fun K hK => ?_)
          refine goes_ Try.func34 (by kernel_rfl) rfl #[.pointer (some ⟨p, 0, none⟩), .agg #[.slice A3 n3 c3], .agg #[.int .i64 a.f0, .int .i64 a.f1, .int .i64 a.f2, .int .i64 a.f3, .string a.f4, .slice L m q]] (by rfl) rfl rfl (by simp only [List.map_toArray, List.map_cons, List.map_nil]; rfl) ?_
          with_reducible refine (J_do J3.out N3.out V3.out Z3.out a HM.out HC.out HQ.out HI.out OkS_root HJ40.out (by omega) SM.out _ _ _ _ _ _ HX.out (ac_eta a [root96]) _ rfl).mono ?_
          rintro e w4 ⟨A4, n4, c4, OV4, rfl, hn, hV, hJ, hk, ho⟩
          refine ⟨_, rfl, ?_⟩
          have J4 := Aside0.mk (JA_mono (O' := fun _ => False) hJ (fun _ h => h.elim))
          clear hn hV hJ hk ho
          refine hK.out _ _ ⟨(HY.out _ (JA_below J4.out)).1, (HY.out _ (JA_below J4.out)).2.1, (HY.out _ (JA_below J4.out)).2.2.1, (HY.out _ (JA_below J4.out)).2.2.2.1, (HY.out _ (JA_below J4.out)).2.2.2.2.1, (HY.out _ (JA_below J4.out)).2.2.2.2.2⟩ (fun hHeld => ?_)
          clear hK K
          refine norm_ (a' := ?_) ?_ ?_
          rotate_left
          · show Act.put _ (some 31) _ = _
            simp only [Act.put, List.setIfInBounds_toArray, List.set_cons_zero, List.set_cons_succ, i64_w, i32_w]
            rfl
          refine done_ (by kernel_rfl) ?_
          go_wp2
          go_roundw
          case rel => exact ⟨j + 1, S', by go_num, by omega, by omega, NI, J4⟩
          case measure => simp [intOf]; omega
        · have EV := Aside0.mk (small_no a e1)
          clear e1
          go_wp2_with (go_at_call 33; refine (small_c HM.out HQ.out (Kd.C_below HC.out (JA_below HJ.out)) EV.out).mono ?_; rintro e w2 ⟨rfl, hb⟩; have J2 := Aside0.mk (JA_step HJ.out hb); clear hb HJ y0 y1 y2 y3 y4 y5)
          go_roundw
          case rel => exact ⟨j + 1, S, by go_num, by omega, by omega, ⟨OkS_more HI.out (Nat.le_succ j)⟩, J2⟩
          case measure => simp [intOf]; omega
      · have HO := Aside0.mk (OkS_more HI.out hj2)
        by_cases d1 : j < l0.length
        · have d1b : decide (j < l0.length) = true := decide_eq_true d1
          have d2b : decide (j < 40) = false := decide_eq_false (by omega)
          have d2 : ¬ j < 40 := by omega
          go_wp2
          go_meet
          case rel => exact ⟨S, HO, HJ⟩
        · have d1b : decide (j < l0.length) = false := decide_eq_false d1
          go_wp2
          go_meet
          case rel => exact ⟨S, HO, HJ⟩
  case rest =>
    obtain ⟨S, HI, HJ⟩ := hcut
    clear J1
    have HF := Aside0.mk HI.out.fo
    have HN := Aside0.mk (show S.length ≤ 41 from HI.out.len)
    have HAT := Aside0.mk (fun i => Nat.le_trans (HI.out.att i) (by decide : 6 ≤ 100000))
    clear HI HR0
    obtain ⟨nn, hnn⟩ : ∃ nn, nn = S.length := ⟨_, rfl⟩
    have HNN := Aside0.mk hnn
    have nb : nn ≤ 41 := by have h1 := HN.out; omega
    have n1 : 1 ≤ nn := by have h1 := HF.out.pos; omega
    clear hnn
    go_wp2
    go_loopw [5, 6] (fun v5 v6 wr => ∃ n : Nat, v6 = .int .i64 (n : Int) ∧ v5 = .int .i64 ((lSum S n : Nat) : Int) ∧ n ≤ nn ∧ Aside0 (JA w wr p S (fun _ => False))) (fun v5 v6 _ => nn - (intOf v6).toNat)
    case atStart => exact ⟨0, rfl, rfl, Nat.zero_le _, HJ⟩
    case round =>
      clear HJ
      obtain ⟨n, rfl, rfl, hn, HJ⟩ := hrel
      obtain ⟨ls, hls⟩ : ∃ ls, ls = lSum S n := ⟨_, rfl⟩
      have lsb : ls ≤ 41 := by have h1 := lSum_le HF.out (n := n) (by have := HNN.out; omega); have h2 := HN.out; omega
      by_cases d : n < nn
      · have d1 : (n : Int) < (nn : Int) := by omega
        have db : decide (n < nn) = true := decide_eq_true d
        have DD := Aside0.mk (show n < S.length by have := HNN.out; omega)
        have D2 := Aside0.mk d
        obtain ⟨u, hu⟩ : ∃ u, u = paS S n := ⟨_, rfl⟩
        have HU := Aside0.mk (show paI S (n : Int) = u by rw [hu]; exact paI_at DD.out)
        have LS := Aside0.mk (lSum_succ S n)
        rw [← hls, ← hu] at LS
        rw [← hls]
        have LB := Aside0.mk (lSum_le HF.out (n := n + 1) DD.out)
        clear hls hu d
        by_cases f : u < 0
        · have fb : decide (u < 0) = true := decide_eq_true f
          obtain ⟨cn, hcn⟩ : ∃ cn, cn = cnS S S.length n := ⟨_, rfl⟩
          have LS := Aside0.mk (show lSum S (n + 1) = ls + cn by have := LS.out; rw [if_pos f, ← hcn] at this; exact this)
          obtain ⟨k0, hk0⟩ := V_count HF.out (by have := HN.out; omega) n DD.out
          obtain ⟨x, hx⟩ : ∃ x, x = vaI S (n : Int) := ⟨_, rfl⟩
          rw [← hcn, ← hx] at hk0
          have HX := Aside0.mk hx
          have CV := Aside0.mk hk0
          have cb : cn ≤ 41 := by have h1 := LB.out; have h2 := LS.out; have h3 := HN.out; omega
          clear hcn hx hk0
          go_wp2_with (first | (go_at_call 30; refine (J_LenN HJ.out HNN.out).mono ?_; rintro e w4 ⟨rfl, rfl⟩) | (go_at_call 37; refine (J_Parent HJ.out (n : Int) u HU.out).mono ?_; rintro e w5 ⟨rfl, rfl⟩) | (go_at_call 38; refine (J_ValueX HJ.out HF.out (by have := HN.out; omega) HAT.out (n : Int) HX.out).mono ?_; rintro e w6 ⟨A3, c3, A5, c5, rfl, hK, hb⟩; obtain ⟨l3, C3, l5, C5⟩ := V_open hK; have J6 := Aside0.mk (JA_step HJ.out hb); have L3 := Aside0.mk l3; have L5 := Aside0.mk l5; have C3 := Aside0.mk C3; have C5 := Aside0.mk C5; clear hK hb l3 l5 HJ) | (go_at_call 46; refine (marginalialaw05_count.calls k0 _ _ _ _ _ x.f3 _ _ _ x.f5 _ _ C3.out L3.out C5.out L5.out CV.out).mono ?_; rintro e w7 ⟨rfl, hb⟩; have J7 := Aside0.mk (JA_step J6.out hb); clear hb J6))
          go_roundw
          case rel => exact ⟨n + 1, by go_num, by rw [LS.out]; go_num, D2.out, J7⟩
          case measure => have := D2.out; simp [intOf]; omega
        · have fb : decide (u < 0) = false := decide_eq_false f
          have LS := Aside0.mk (show lSum S (n + 1) = ls by have := LS.out; rw [if_neg f] at this; exact this)
          go_wp2_with (first | (go_at_call 30; refine (J_LenN HJ.out HNN.out).mono ?_; rintro e w4 ⟨rfl, rfl⟩) | (go_at_call 37; refine (J_Parent HJ.out (n : Int) u HU.out).mono ?_; rintro e w5 ⟨rfl, rfl⟩))
          go_roundw
          case rel => exact ⟨n + 1, by go_num, by rw [LS.out], D2.out, HJ⟩
          case measure => have := D2.out; simp [intOf]; omega
      · have d1 : ¬ (n : Int) < (nn : Int) := by omega
        have db : decide (n < nn) = false := decide_eq_false d
        obtain rfl : n = nn := by omega
        have SE := Aside0.mk (show ls = n by have h1 := cn_roots HF.out; rw [hls, HNN.out]; unfold lSum; exact h1)
        rw [← hls]
        have se : ((ls : Int) == (n : Int)) = true := by have := SE.out; simp; omega
        have s1 : decide ((n : Int) ≥ 1) = true := decide_eq_true (by omega)
        clear hls d
        go_wp2_with (first | (go_at_call 30; refine (J_LenN (by first | exact HJ.out | exact HJ5.out) HNN.out).mono ?_; rintro e w4 ⟨rfl, rfl⟩) | (go_at_call 27; refine (arena_alive _).mono ?_; rintro e w5 ⟨rfl, hb⟩; have HJ5 := Aside0.mk (JA_step HJ.out hb); clear hb))
        go_ret
        exact ⟨by first | rfl | (have h1 := SE.out; simp; omega), JA_below HJ5.out⟩
def marginalialaw05_ArenaLost.f (l0 : List S54) : Option (Bool) := some true
theorem marginalialaw05_ArenaLost.calls (A0 : Option Addr) (c0 : Nat) (l0 : List S54) (r : Bool) (w : World) (hr0 : Kd.C k54 w A0 l0.length l0) (hc0 : l0.length ≤ c0) (h : marginalialaw05_ArenaLost.f l0 = some r) :
    Calls Try.prog 12 #[.slice A0 l0.length c0] w fun e w' => e = .returned (.bool r) ∧ Below w.heap.size w w' := by
  obtain rfl := Option.some.inj h
  exact law_Lost A0 c0 l0 w hr0

end Go.Proofs.Ytnkaidaflegnlaa.A
