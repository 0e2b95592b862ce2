/- The functions of the program that these laws reach, each as a plain Lean function, and the proof that the machine's call comes to it; no condition beyond those that each theorem names. Made by wip/xprint.py. -/
import Derived.Test.YtepipgneefcoiaaDx0
import Derived.Test.YtepipgneefcoiaaDf15
import Derived.Test.YtepipgneefcoiaaDf23
import Derived.Test.YtepipgneefcoiaaDf25
import Derived.Test.YtepipgneefcoiaaDh
namespace Go.Proofs.Ytepipgneefcoiaa.D
open Go.RowKit Go.Proofs.YtepipgneefcoiaaW.PrintWords Go.Proofs.YtepipgneefcoiaaW.PrintLast Go.Proofs.YtepipgneefcoiaaW.PrintMore
attribute [local go_sem] max2_int min2_int max_two min_two max_three min_three max_four min_four   -- for this text's walks alone
set_option linter.unusedVariables false
set_option linter.unusedSimpArgs false
-- NOT PRINTED: function 26 (disk_Disk_Fuse)
-- NOT PRINTED: function 27 (disk_Disk_Dump)

/-! ### marginalialaw14_DiskOff: function 5: by hand -/
theorem pick14_o (a0 m : Int) (h0 : 0 < m) (h1 : m ≤ 100) : ∃ r : Nat, marginalialaw14_pick.f a0 m = some (r : Int) ∧ (r : Int) < m := by
  unfold marginalialaw14_pick.f
  rw [if_neg (by omega)]
  have h1 : -m < Int.tmod a0 m ∧ Int.tmod a0 m < m := by
    have := Int.tmod_lt_of_pos a0 h0
    have h2 := Int.neg_tmod a0 m
    have := Int.tmod_lt_of_pos (-a0) h0
    omega
  have e : wrap64 (Int.tmod a0 m + m) = Int.tmod a0 m + m := IntWalk.wrap64_in _ (by omega)
  rw [e]
  have h3 : 0 ≤ Int.tmod (Int.tmod a0 m + m) m := Int.tmod_nonneg _ (by omega)
  exact ⟨(Int.tmod (Int.tmod a0 m + m) m).toNat, by rw [Int.toNat_of_nonneg h3], by rw [Int.toNat_of_nonneg h3]; exact Int.tmod_lt_of_pos _ h0⟩
theorem pcs_len_o (i : Int) (b : List Int) : (pcs i b).length = 4 := by simp [pcs]
theorem pwx_len_o (s : Dk) : (pwx s).1.pend = s.pend := (pwx_keeps s).1
theorem wrx_len_o (s : Dk) (i : Int) (b : List Int) : (wrx s i b).1.pend.length ≤ s.pend.length + 4 := by
  unfold wrx
  split
  · split
    · simp [pcs_len_o, pwx_len_o]
    · simp [pwx_len_o]
  · simp
theorem flx_len_o (s : Dk) : (flx s).1.pend.length ≤ s.pend.length := by
  unfold flx
  split
  · simp [stl]
  · simp [pwx_len_o]
theorem wrx_nb_o (s : Dk) (i : Int) (b : List Int) : (wrx s i b).1.nb = s.nb := by
  unfold wrx
  split
  · split
    · simp [pwx_keeps]
    · simp [pwx_keeps]
  · rfl
theorem flx_nb_o (s : Dk) : (flx s).1.nb = s.nb := by
  unfold flx
  split
  · simp [stl, pwx_keeps]
  · simp [pwx_keeps]
theorem crx_nb_o (s : Dk) (k : List Bool) : (crx s k).nb = s.nb := rfl
theorem fzx_nb_o (s : Dk) (k : Int) : (fzx s k).nb = s.nb := by unfold fzx; split <;> rfl
/- The power, behind a fuse. -/
def Pof_o (s : Dk) (i n : Nat) : Prop := s.nb = 2 ∧ s.pend.length ≤ 4 * i ∧ (i ≤ n → s.fu = true ∧ s.le = ((n - i : Nat) : Int) ∧ s.of = false) ∧ (n < i → s.of = true)
theorem pwx_off_o {s : Dk} {i n : Nat} (h : Pof_o s i n) (hn : n ≤ 100) : (pwx s).2 = decide (i < n) ∧ ((i + 1 ≤ n → (pwx s).1.fu = true ∧ (pwx s).1.le = ((n - (i + 1) : Nat) : Int) ∧ (pwx s).1.of = false) ∧ (n < i + 1 → (pwx s).1.of = true)) := by
  obtain ⟨h1, h2, h3, h4⟩ := h
  unfold pwx
  by_cases c : i ≤ n
  · obtain ⟨e1, e2, e3⟩ := h3 c
    by_cases d : i < n
    · have q : (s.le == 0) = false := by rw [e2]; simp; omega
      rw [if_neg (by rw [e3, e1, q]; decide)]
      have : wrap64 (s.le - 1) = ((n - (i + 1) : Nat) : Int) := by rw [e2]; unfold wrap64; omega
      exact ⟨by simp [d], fun _ => ⟨e1, this, e3⟩, fun h => by omega⟩
    · have q : (s.le == 0) = true := by rw [e2]; simp; omega
      rw [if_pos (by rw [e1, q]; simp)]
      exact ⟨by simp [d], fun h => by omega, fun _ => rfl⟩
  · have e := h4 (by omega)
    rw [if_pos (by rw [e]; simp)]
    exact ⟨by simp; omega, fun h => by omega, fun _ => rfl⟩
theorem wrx_off_o {s : Dk} {i n : Nat} (h : Pof_o s i n) (hn : n ≤ 100) (k : Int) (b : List Int) (hk : 0 ≤ k ∧ k < 2) (hb : b.length = 256) : ∃ s', wrx s k b = (s', if i < n then 0 else 9) ∧ Pof_o s' (i + 1) n := by
  have hh : hasB s k = true := by unfold hasB; rw [h.1]; simp; omega
  obtain ⟨q1, q2⟩ := pwx_off_o h hn
  have hp := h.2.1
  refine ⟨(wrx s k b).1, ?_, by rw [wrx_nb_o]; exact h.1, by have := wrx_len_o s k b; omega, ?_⟩
  · unfold wrx
    rw [if_pos ⟨hh, hb⟩, q1]
    by_cases c : i < n <;> simp [c]
  · unfold wrx
    rw [if_pos ⟨hh, hb⟩]
    split
    · exact q2
    · exact q2
theorem flx_off_o {s : Dk} {i n : Nat} (h : Pof_o s i n) (hn : n ≤ 100) : ∃ s', flx s = (s', if i < n then 0 else 9) ∧ Pof_o s' (i + 1) n := by
  obtain ⟨q1, q2⟩ := pwx_off_o h hn
  have hp := h.2.1
  refine ⟨(flx s).1, ?_, by rw [flx_nb_o]; exact h.1, by have := flx_len_o s; omega, ?_⟩
  · unfold flx
    rw [q1]
    by_cases c : i < n <;> simp [c]
  · unfold flx
    split
    · exact q2
    · exact q2
theorem pair_of'_o {α β : Type} {x : α × β} {a : α} {b : β} (h1 : a = x.1) (h : x.2 = b) : x = (a, b) := by rw [← h, h1]
set_option maxRecDepth 20000 in
set_option maxHeartbeats 8000000 in
theorem law_Off_o (a0 a1 : Int) (w : World) : Calls Try.prog 5 #[.int .i64 a0, .int .i64 a1] w fun e w' => e = .returned (.bool true) ∧ Below w.heap.size w w' := by
  obtain ⟨n, hn, n1⟩ := pick14_o a0 40 (by decide) (by decide)
  obtain ⟨m, hm, m1⟩ := pick14_o a1 40 (by decide) (by decide)
  have HN := Aside0.mk hn
  have HM := Aside0.mk hm
  clear hn hm
  go_enter Try.func5, Try.ntmps5
  go_upto_region 5 with (first | (go_at_call 14; refine (J_New _ 2 (by decide) (by decide)).mono ?_; rintro e w1 ⟨p, rfl, hJ⟩; have J1 := Aside0.mk hJ; clear hJ) | (go_at_call 25; refine (marginalialaw14_pick.calls a0 40 n _ HN.out).mono ?_; rintro e w2 ⟨rfl, hd⟩; have J2 := Aside0.mk (J_deep J1.out (drawn_below hd)); clear hd J1))
  obtain ⟨s0, hs0⟩ : ∃ s : Dk, s = ⟨2, List.replicate (2 * 256) 0, List.replicate (2 * 256) 0, [], false, 0, false⟩ := ⟨_, rfl⟩
  rw [← hs0] at J2
  have P0 := Aside0.mk (show Pof_o (fzx s0 (n : Int)) 0 n by
    rw [hs0]
    refine ⟨rfl, by simp [fzx], fun _ => ⟨rfl, ?_, rfl⟩, fun h => by omega⟩
    show mx (n : Int) 0 = _
    unfold mx
    split <;> omega)
  clear hs0
  go_wp2_with (go_at_call 26; refine (J_Fuse J2.out (n : Int)).mono ?_; rintro e w2 ⟨rfl, hJ, ho⟩; have J3 := Aside0.mk hJ; clear hJ ho J2)
  go_loopw [8, 9] (fun v8 v9 wr => ∃ (i : Nat) (s : Dk), v8 = .int .i64 (i : Int) ∧ i ≤ n + m ∧ Aside0 (Pof_o s i n) ∧ Aside0 (J w wr p s)) (fun v8 v9 _ => n + m - (intOf v8).toNat)
  case atStart => exact ⟨0, _, rfl, by omega, P0, J3⟩
  case round =>
    clear J3 P0
    obtain ⟨i, s, rfl, hi, HP, HJ⟩ := hrel
    have w1 : IntKind.i64.wrap ((n : Int) + (m : Int)) = ((n + m : Nat) : Int) := by rw [i64_w]; exact IntWalk.wrap64_in _ (by omega)
    have w2 : IntKind.i64.wrap ((i : Int) + 1) = ((i + 1 : Nat) : Int) := by rw [i64_w]; exact IntWalk.wrap64_in _ (by omega)
    by_cases e1 : i < n + m
    · have e1b : decide (i < n + m) = true := decide_eq_true e1
      by_cases e2 : (i : Int) % 3 = 2
      · have e2b : ((i : Int) % 3 == 2) = true := by simp [e2]
        obtain ⟨s', hf, hP⟩ := flx_off_o HP.out (by omega)
        have HF := Aside0.mk hf
        have HP' := Aside0.mk hP
        clear hf hP
        by_cases e3 : i < n
        · have e3b : decide (i < n) = true := decide_eq_true e3
          have HF := Aside0.mk (show flx s = (s', 0) by have := HF.out; rwa [if_pos e3] at this)
          go_wp2_with (first | (go_at_call 25; refine (marginalialaw14_pick.calls a1 40 m _ HM.out).mono ?_; rintro e w4 ⟨rfl, hd⟩; have J4 := Aside0.mk (J_deep HJ.out (drawn_below hd)); clear hd HJ) | (go_at_call 24; refine (J_Flush J4.out (by have := HP.out.2.1; omega) _ _ HF.out).mono ?_; rintro e w5 ⟨rfl, hJ, ho⟩; have J5 := Aside0.mk hJ; clear hJ ho J4))
          go_roundw
          case rel => exact ⟨i + 1, s', by go_num, by omega, HP', J5⟩
          case measure => simp [intOf]; omega
        · have e3b : decide (i < n) = false := decide_eq_false e3
          have HF := Aside0.mk (show flx s = (s', 9) by have := HF.out; rwa [if_neg e3] at this)
          go_wp2_with (first | (go_at_call 25; refine (marginalialaw14_pick.calls a1 40 m _ HM.out).mono ?_; rintro e w4 ⟨rfl, hd⟩; have J4 := Aside0.mk (J_deep HJ.out (drawn_below hd)); clear hd HJ) | (go_at_call 24; refine (J_Flush J4.out (by have := HP.out.2.1; omega) _ _ HF.out).mono ?_; rintro e w5 ⟨rfl, hJ, ho⟩; have J5 := Aside0.mk hJ; clear hJ ho J4))
          go_roundw
          case rel => exact ⟨i + 1, s', by go_num, by omega, HP', J5⟩
          case measure => simp [intOf]; omega
      · have e2b : ((i : Int) % 3 == 2) = false := by simp [e2]
        obtain ⟨s', hf, hP⟩ := wrx_off_o HP.out (by omega) ((i : Int) % 2) (blkOf [(i : Int)]) (by omega) (blkOf_len _)
        have HF := Aside0.mk hf
        have HP' := Aside0.mk hP
        clear hf hP
        by_cases e3 : i < n
        · have e3b : decide (i < n) = true := decide_eq_true e3
          have HF := Aside0.mk (show wrx s ((i : Int) % 2) (blkOf [(i : Int)]) = (s', 0) by have := HF.out; rwa [if_pos e3] at this)
          go_wp2_with (first | (go_at_call 25; refine (marginalialaw14_pick.calls a1 40 m _ HM.out).mono ?_; rintro e w4 ⟨rfl, hd⟩; have J4 := Aside0.mk (J_deep HJ.out (drawn_below hd)); clear hd HJ) | (go_at_call 23; refine (marginaliaref14_Block.calls 300 _ _ [(i : Int)] (blkOf [(i : Int)]) _ (C_new_int _ _ _ _ (by simp)) (by simp) (Block_ev [(i : Int)] (by simp))).mono ?_; rintro e w5 ⟨v5, rfl, hR, hb⟩; obtain ⟨A5, c5, rfl⟩ := Kd.R_slice hR; have R5 := Aside0.mk hR; have J5 := Aside0.mk (J_deep J4.out (below_step (below_alloc (Below.refl _ _) _) hb)); clear hR hb) | (go_at_call 22; refine (J_Write J5.out (by have := HP.out.2.1; omega) ((i : Int) % 2) _ _ _ _ _ R5.out _ _ HF.out).mono ?_; rintro e w6 ⟨rfl, hJ, ho⟩; have J6 := Aside0.mk hJ; clear hJ ho J5 J4 R5))
          go_roundw
          case rel => exact ⟨i + 1, s', by go_num, by omega, HP', J6⟩
          case measure => simp [intOf]; omega
        · have e3b : decide (i < n) = false := decide_eq_false e3
          have HF := Aside0.mk (show wrx s ((i : Int) % 2) (blkOf [(i : Int)]) = (s', 9) by have := HF.out; rwa [if_neg e3] at this)
          go_wp2_with (first | (go_at_call 25; refine (marginalialaw14_pick.calls a1 40 m _ HM.out).mono ?_; rintro e w4 ⟨rfl, hd⟩; have J4 := Aside0.mk (J_deep HJ.out (drawn_below hd)); clear hd HJ) | (go_at_call 23; refine (marginaliaref14_Block.calls 300 _ _ [(i : Int)] (blkOf [(i : Int)]) _ (C_new_int _ _ _ _ (by simp)) (by simp) (Block_ev [(i : Int)] (by simp))).mono ?_; rintro e w5 ⟨v5, rfl, hR, hb⟩; obtain ⟨A5, c5, rfl⟩ := Kd.R_slice hR; have R5 := Aside0.mk hR; have J5 := Aside0.mk (J_deep J4.out (below_step (below_alloc (Below.refl _ _) _) hb)); clear hR hb) | (go_at_call 22; refine (J_Write J5.out (by have := HP.out.2.1; omega) ((i : Int) % 2) _ _ _ _ _ R5.out _ _ HF.out).mono ?_; rintro e w6 ⟨rfl, hJ, ho⟩; have J6 := Aside0.mk hJ; clear hJ ho J5 J4 R5))
          go_roundw
          case rel => exact ⟨i + 1, s', by go_num, by omega, HP', J6⟩
          case measure => simp [intOf]; omega
    · have e1b : decide (i < n + m) = false := decide_eq_false e1
      obtain ⟨sa, ha1, ha2⟩ : ∃ s', wrx s 0 (blkOf []) = (s', 9) ∧ s'.nb = 2 ∧ s'.pend.length ≤ 1000 ∧ s'.of = true := by
        obtain ⟨s', h1, h2⟩ := wrx_off_o HP.out (by omega) 0 (blkOf []) (by decide) (blkOf_len _)
        rw [if_neg (by omega)] at h1
        exact ⟨s', h1, h2.1, by have := h2.2.1; omega, h2.2.2.2 (by omega)⟩
      have hh0 : hasB sa 0 = true := by unfold hasB; rw [ha2.1]; rfl
      have EA := Aside0.mk ha1
      have EB := Aside0.mk (show rdx sa 0 = ([], 9) by unfold rdx; rw [if_pos hh0, if_pos ha2.2.2])
      have EC := Aside0.mk (show fzx sa 5 = sa by unfold fzx; rw [if_pos ha2.2.2])
      obtain ⟨sb, hb1⟩ : ∃ s, s = crx sa [] := ⟨_, rfl⟩
      have hb2 : sb.nb = 2 ∧ sb.pend = [] ∧ sb.of = false ∧ sb.fu = false := by rw [hb1]; exact ⟨ha2.1, rfl, rfl, rfl⟩
      have LP := Aside0.mk (show s.pend.length ≤ 1000 ∧ sa.pend.length ≤ 1000 ∧ sb.pend.length ≤ 1000 by
        have := HP.out.2.1
        refine ⟨by omega, ha2.2.1, by rw [hb2.2.1]; decide⟩)
      obtain ⟨sc, hc1⟩ : ∃ s, s = (wrx sb 0 (blkOf [])).1 := ⟨_, rfl⟩
      have hhb : hasB sb 0 = true := by unfold hasB; rw [hb2.1]; rfl
      have hpw : (pwx sb).2 = true ∧ (pwx sb).1.of = false := by unfold pwx; rw [hb2.2.2.1, hb2.2.2.2, if_neg (by simp)]; exact ⟨rfl, rfl⟩
      have ED := Aside0.mk (show wrx sb 0 (blkOf []) = (sc, 0) from pair_of'_o hc1 (by unfold wrx; rw [if_pos ⟨hhb, blkOf_len _⟩, if_pos hpw.1]))
      have hc2 : sc.nb = 2 ∧ sc.of = false := by rw [hc1, wrx_nb_o]; refine ⟨hb2.1, ?_⟩; unfold wrx; rw [if_pos ⟨hhb, blkOf_len _⟩, if_pos hpw.1]; exact hpw.2
      have EE := Aside0.mk (show rdx sc 0 = (cut8 sc.now 0 256, 0) by
        have : hasB sc 0 = true := by unfold hasB; rw [hc2.1]; rfl
        unfold rdx
        rw [if_pos this, hc2.2, if_neg (by decide)]
        rfl)
      have HB := Aside0.mk hb1
      clear hh0 ha1 ha2 hb1 hb2 hhb hpw hc1 hc2
      go_wp2_with (first | (go_at_call 25; refine (marginalialaw14_pick.calls a1 40 m _ HM.out).mono ?_; rintro e w4 ⟨rfl, hd⟩; have J4 := Aside0.mk (J_deep HJ.out (drawn_below hd)); clear hd HJ) | (go_at_call 23; refine (marginaliaref14_Block.calls 300 _ _ [] (blkOf []) _ (Kd.C_nil _ _) (by decide) (Block_ev [] (by decide))).mono ?_; rintro e w5 ⟨v5, rfl, hR, hb⟩; obtain ⟨A5, c5, rfl⟩ := Kd.R_slice hR; have R5 := Aside0.mk hR; have J5 := Aside0.mk (J_deep J4.out hb); clear hR hb J4) | (go_at_call 22; refine (J_Write J5.out (by have := LP.out.1; omega) 0 _ _ _ _ _ R5.out _ _ EA.out).mono ?_; rintro e w6 ⟨rfl, hJ, ho⟩; have J6 := Aside0.mk hJ; clear hJ ho J5 R5) | (go_at_call 16; refine (J_Read J6.out 0 _ _ EB.out).mono ?_; rintro e w7 ⟨v7, rfl, hf, hJ, hb⟩; have J7 := Aside0.mk hJ; clear hf hJ hb J6) | (go_at_call 26; refine (J_Fuse J7.out 5).mono ?_; rintro e w8 ⟨rfl, hJ, ho⟩; rw [EC.out] at hJ; have J8 := Aside0.mk hJ; clear hJ ho J7) | (go_at_call 21; refine (J_Crash J8.out (by have := LP.out.2.1; omega) _ _ [] (fun W _ _ => Kd.C_nil _ _)).mono ?_; rintro e w9 ⟨rfl, hJ, ho⟩; rw [← HB.out] at hJ; have J9 := Aside0.mk hJ; clear hJ ho J8) | (go_at_call 23; refine (marginaliaref14_Block.calls 300 _ _ [] (blkOf []) _ (Kd.C_nil _ _) (by decide) (Block_ev [] (by decide))).mono ?_; rintro e w10 ⟨v10, rfl, hR, hb⟩; obtain ⟨A10, c10, rfl⟩ := Kd.R_slice hR; have R10 := Aside0.mk hR; have J10 := Aside0.mk (J_deep J9.out hb); clear hR hb J9) | (go_at_call 22; refine (J_Write J10.out (by have := LP.out.2.2; omega) 0 _ _ _ _ _ R10.out _ _ ED.out).mono ?_; rintro e w11 ⟨rfl, hJ, ho⟩; have J11 := Aside0.mk hJ; clear hJ ho J10 R10) | (go_at_call 16; refine (J_Read J11.out 0 _ _ EE.out).mono ?_; rintro e w12 ⟨v12, rfl, hf, hJ, hb⟩; have J12 := Aside0.mk hJ; clear hf hJ hb J11) | (go_at_call 15; refine (disk_alive _).mono ?_; rintro e w13 ⟨rfl, hd⟩; have J13 := Aside0.mk (J_deep J12.out hd); clear hd J12))
      go_ret
      exact ⟨by simp, J_below J13.out⟩
def marginalialaw14_DiskOff.f (a0 : Int) (a1 : Int) : Option (Bool) := some true
theorem marginalialaw14_DiskOff.calls (a0 : Int) (a1 : Int) (r : Bool) (w : World) (h : marginalialaw14_DiskOff.f a0 a1 = some r) :
    Calls Try.prog 5 #[.int .i64 a0, .int .i64 a1] w fun e w' => e = .returned (.bool r) ∧ Below w.heap.size w w' := by
  obtain rfl := Option.some.inj h
  exact law_Off_o a0 a1 w

-- NOT PRINTED: function 6 (marginalialaw14_DiskWhole)

end Go.Proofs.Ytepipgneefcoiaa.D
