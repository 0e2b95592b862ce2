/- The functions of the program that these laws reach, each as a plain Lean function, and the proof that the machine's call comes to it; no condition beyond those that each theorem names. Made by wip/xprint.py. -/
import Derived.Test.YtepipgneefcoiaaDx0
import Derived.Test.YtepipgneefcoiaaDf15
import Derived.Test.YtepipgneefcoiaaDh
namespace Go.Proofs.Ytepipgneefcoiaa.D
open Go.RowKit Go.Proofs.YtepipgneefcoiaaW.PrintWords Go.Proofs.YtepipgneefcoiaaW.PrintLast Go.Proofs.YtepipgneefcoiaaW.PrintMore
attribute [local go_sem] max2_int min2_int max_two min_two max_three min_three max_four min_four   -- for this text's walks alone
set_option linter.unusedVariables false
set_option linter.unusedSimpArgs false
-- NOT PRINTED: function 26 (disk_Disk_Fuse)
-- NOT PRINTED: function 27 (disk_Disk_Dump)

/-! ### marginalialaw14_DiskMade: function 3: by hand -/
theorem mk5_is (n : Nat) : madeCells (Value.int .u8 0).cells n = (by8 (List.replicate n 0)).toArray := by
  have hz : ∀ k, (Value.int .u8 0).cells[k % (Value.int .u8 0).cells.size]! = (.int .u8 0 : Value) := by
    intro k
    show (#[Value.int .u8 0] : Array Value)[k % 1]! = _
    rw [Nat.mod_one]; rfl
  unfold madeCells
  apply Array.toList_inj.1
  simp only [hz]
  simp [by8, List.map_const']
theorem run_mk5 (w : World) : Sem.run Try.prog (Instr.makeSlice 27 (.int .i64 256) (.int .i64 256)) w = .ok (.slice (some ⟨w.heap.size, 0, none⟩) 256 256) (w.alloc (.cells (by8 (List.replicate 256 0)).toArray 5 (0, 0))) := by
  obtain ⟨i, hi, hzz⟩ := Option.map_eq_some_iff.1 info5
  simp only [Prod.mk.injEq] at hzz
  obtain ⟨hz, hs, hb⟩ := hzz
  have hr := run_make (P := Try.prog) w 27 5 i (.int .u8 0) Try.underlying27 hi hz .i64 .i64 256 256 (by omega) (Int.le_refl _) (by rw [hb]; omega) (by omega)
  have e : (256 : Int).toNat * i.size = 256 := by rw [hs]; rfl
  rw [e, mk5_is] at hr
  exact hr
theorem C_new256 (w : World) : Kd.C (Kd.int .u8) (w.alloc (.cells (by8 (List.replicate 256 0)).toArray 5 (0, 0))) (some ⟨w.heap.size, 0, none⟩) 256 (List.replicate 256 0) := by
  have := C_blk (o := 0) (m := 256) (blk_new w (.cells (by8 (List.replicate 256 0)).toArray 5 (0, 0))) (by rw [List.length_replicate]; decide) (by decide)
  unfold cut8 at this
  rw [List.drop_zero, List.take_of_length_le (by rw [List.length_replicate]; decide)] at this
  exact this
theorem J_BlocksN {w0 w : World} {p : Nat} {s : Dk} (h : J w0 w p s) (n : Int) (hn : (s.nb : Int) = n) : Calls Try.prog 17 #[.pointer (some ⟨p, 0, none⟩)] w fun e w' => e = .returned (.int .i64 n) ∧ J w0 w' p s ∧ Below w.heap.size w w' := by
  subst hn; exact J_Blocks h
theorem J_PendingN {w0 w : World} {p : Nat} {s : Dk} (h : J w0 w p s) (n : Int) (hn : (s.pend.length : Int) = n) : Calls Try.prog 18 #[.pointer (some ⟨p, 0, none⟩)] w fun e w' => e = .returned (.int .i64 n) ∧ J w0 w' p s ∧ Below w.heap.size w w' := by
  subst hn; exact J_Pending h
theorem exec_make {P : Program} {ρ : Operand → Value} {o : Oper} {t : TypeId} {x y : Operand} {w w1 : World} {v : Value} (ho : o.op = .makeSlice t x y) (h : Sem.run P (Instr.makeSlice t (ρ x) (ρ y)) w = .ok v w1) :
    (execOp ρ o).run P w = .ok (.value v) w1 := by
  unfold execOp
  simp only [ho, Sem.run_bind, h, Result.andThen_ok, Sem.run_pure]
theorem exec_conv {P : Program} {ρ : Operand → Value} {o : Oper} {s d : TypeId} {x : Operand} {w w1 : World} {v : Value} (ho : o.op = .convert s d x) (h : Sem.run P (convert s d (ρ x)) w = .ok v w1) :
    (execOp ρ o).run P w = .ok (.value v) w1 := by
  unfold execOp
  simp only [ho, Sem.run_bind, h, Result.andThen_ok, Sem.run_pure]
set_option maxRecDepth 20000 in
set_option maxHeartbeats 8000000 in
theorem law_Made (a0 : Int) (w : World) : Calls Try.prog 3 #[.int .i64 a0] w fun e w' => e = .returned (.bool true) ∧ Below w.heap.size w w' := by
  by_cases hc : a0 < 1 ∨ 4096 < a0
  · have HC := Aside0.mk hc
    by_cases h1 : a0 < 1
    · have c1 : decide (a0 < 1) = true := decide_eq_true h1
      clear hc
      go_enter Try.func3, Try.ntmps3
      go_wp2_with (first | (go_at_call 14; refine (dk_NewNot _ a0 HC.out).mono ?_; rintro e w1 ⟨rfl, hd⟩; have B1 := Aside0.mk (drawn_below hd); clear hd) | (go_at_call 15; refine (disk_alive _).mono ?_; rintro e w3 ⟨rfl, hd⟩; have B3 := Aside0.mk (below_step B1.out hd); clear hd))
      go_ret
      exact ⟨by simp, B3.out⟩
    · have c1 : decide (a0 < 1) = false := decide_eq_false h1
      have c2 : decide (4096 < a0) = true := decide_eq_true (by omega)
      clear hc
      go_enter Try.func3, Try.ntmps3
      go_wp2_with (first | (go_at_call 14; refine (dk_NewNot _ a0 HC.out).mono ?_; rintro e w1 ⟨rfl, hd⟩; have B1 := Aside0.mk (drawn_below hd); clear hd) | (go_at_call 15; refine (disk_alive _).mono ?_; rintro e w3 ⟨rfl, hd⟩; have B3 := Aside0.mk (below_step B1.out hd); clear hd))
      go_ret
      exact ⟨by simp, B3.out⟩
  · obtain ⟨N, rfl⟩ : ∃ N : Nat, a0 = (N : Int) + 1 := ⟨(a0 - 1).toNat, by omega⟩
    have hN : N < 4096 := by omega
    have c1 : decide ((N : Int) + 1 < 1) = false := decide_eq_false (by omega)
    have c2 : decide (4096 < (N : Int) + 1) = false := decide_eq_false (by omega)
    have e1 : IntKind.i64.wrap ((N : Int) + 1 - 1) = (N : Int) := by rw [i64_w]; unfold wrap64; omega
    have e2 : ((N : Int) + 1) = ((N + 1 : Nat) : Int) := by omega
    obtain ⟨s, hs⟩ : ∃ s : Dk, s = ⟨N + 1, List.replicate ((N + 1) * 256) 0, List.replicate ((N + 1) * 256) 0, [], false, 0, false⟩ := ⟨_, rfl⟩
    have ER1 := Aside0.mk (show rdx s (N : Int) = (List.replicate 256 0, 0) by
      have hb : hasB s (N : Int) = true := by unfold hasB; rw [hs]; simp; omega
      unfold rdx
      rw [if_pos hb, hs, if_neg (by simp)]
      congr 1
      rw [Int.toNat_natCast]
      apply List.ext_getElem?
      intro i
      by_cases c : i < 256
      · rw [cut8_at c, List.getElem?_replicate, List.getElem?_replicate, if_pos (by omega), if_pos c]
      · rw [List.getElem?_eq_none (by rw [cut8_len (by rw [List.length_replicate]; omega)]; omega), List.getElem?_eq_none (by rw [List.length_replicate]; omega)])
    have ER2 := Aside0.mk (show rdx s ((N : Int) + 1) = ([], 1) by
      have hb : hasB s ((N : Int) + 1) = false := by unfold hasB; rw [hs]; simp
      unfold rdx
      rw [hb, if_neg (by decide)])
    have EN := Aside0.mk (show s.nb = N + 1 ∧ s.pend.length = 0 by rw [hs]; exact ⟨rfl, rfl⟩)
    have HS := Aside0.mk hs
    clear hs hc e2
    have E2 := Aside0.mk (show ((N : Int) + 1) = ((N + 1 : Nat) : Int) by omega)
    go_enter Try.func3, Try.ntmps3
    go_upto_region 6 with (first | (go_at_call 14; refine (show Calls _ _ _ _ _ from by rw [E2.out]; exact J_New _ (N + 1) (by omega) (by omega)).mono ?_; rintro e w1 ⟨p, rfl, hJ⟩; rw [← HS.out] at hJ; have J1 := Aside0.mk hJ; clear hJ) | (go_at_call 16; refine (J_Read J1.out (N : Int) _ _ ER1.out).mono ?_; rintro e w2 ⟨v2, rfl, hf, hJ, hb⟩; have J2 := Aside0.mk hJ; have F2 := Aside0.mk hf; clear hJ hb hf J1) | (go_at_call 16; refine (J_Read J2.out ((N : Int) + 1) _ _ ER2.out).mono ?_; rintro e w3 ⟨v3, rfl, hf, hJ, hb⟩; have J3 := Aside0.mk hJ; have B3 := Aside0.mk hb; clear hJ hb hf J2))
    obtain ⟨Z, hZ⟩ : ∃ Z, Z = (by8 (List.replicate 256 0)).toArray := ⟨_, rfl⟩
    obtain ⟨S, hS⟩ : ∃ S, S = strOfNums (List.replicate 256 0) := ⟨_, rfl⟩
    have mk : ∀ w' : World, Sem.run Try.prog (Instr.makeSlice 27 (.int .i64 256) (.int .i64 256)) w' = .ok (.slice (some ⟨w'.heap.size, 0, none⟩) 256 256) (w'.alloc (.cells Z 5 (0, 0))) := by intro w'; rw [hZ]; exact run_mk5 w'
    obtain ⟨A2, e2, hC2⟩ := frs_C F2.out
    rw [List.length_replicate] at e2 hC2
    have C3 := Aside0.mk (Kd.C_below hC2 B3.out)
    subst e2
    have HZ := Aside0.mk hZ
    have HS2 := Aside0.mk hS
    clear F2 hC2 hZ hS
    refine start_ (n := 36) (S := fun w' => Sem.run Try.prog (convert 27 9 (.slice A2 256 256)) w' = .ok (.string S) w') (ds := []) #[false, false, false, false, false, false, false, false, false, false, false, false, false, false, false, false, false, false, false, false, false, false, false, false, false, false, false, false, false, false, false, false, false, false, false, false] (by kernel_rfl) rfl rfl ((by rw [HS2.out]; exact Kd.C_string (P := Try.prog) (A := A2) (c := 256) Try.underlying27 Try.underlying5 Try.underlying9 (Kd.C_below C3.out (below_drew (Below.refl _ _))))) (fun hHeld => ?_)
    refine one_ (i := 0) (N := some 42) #[true, false, false, false, false, false, false, false, false, false, false, false, false, false, false, false, false, false, false, false, false, false, false, false, false, false, false, false, false, false, false, false, false, false, false, false] rfl rfl (by kernel_rfl) (by decide) (fun K hK => ?_)
    refine goes_ Try.func15 (by kernel_rfl) rfl #[] (by rfl) rfl rfl (by simp only [List.map_toArray, List.map_cons, List.map_nil]) ?_
    with_reducible refine (disk_alive _).mono ?_
    rintro e w4 ⟨rfl, hb⟩
    refine ⟨_, rfl, ?_⟩
    have J4 := Aside0.mk (J_deep J3.out (below_step (below_drew (Below.refl _ _)) hb)); have C4 := Aside0.mk (Kd.C_below C3.out (below_step (below_drew (Below.refl _ _)) hb)); clear hb
    refine hK.out _ _ ((by rw [HS2.out]; exact Kd.C_string (P := Try.prog) (A := A2) (c := 256) Try.underlying27 Try.underlying5 Try.underlying9 (C4.out))) (fun hHeld => ?_)
    clear hK K
    refine norm_ (a' := ?_) ?_ ?_
    rotate_left
    · show Act.put _ (some 42) _ = _
      simp only [Act.put, List.setIfInBounds_toArray, List.set_cons_zero, List.set_cons_succ, i64_w, i32_w]
      rfl
    refine pure_ (i := 1) (N := some 43) (v := ?_) (a' := ?_) #[true, true, false, false, false, false, false, false, false, false, false, false, false, false, false, false, false, false, false, false, false, false, false, false, false, false, false, false, false, false, false, false, false, false, false, false] rfl rfl (by kernel_rfl) (fun _ _ _ h => h) (Or.inl ⟨by rfl, ?_⟩) ?_ ?_
    rotate_left
    · intro w'
      go_simp
      with_reducible rfl
    rotate_left
    · simp only [Act.put, List.setIfInBounds_toArray, List.set_cons_zero, List.set_cons_succ, i64_w, i32_w]
      rfl
    refine pure_ (i := 2) (N := some 44) (v := ?_) (a' := ?_) #[true, true, true, false, false, false, false, false, false, false, false, false, false, false, false, false, false, false, false, false, false, false, false, false, false, false, false, false, false, false, false, false, false, false, false, false] rfl rfl (by kernel_rfl) (fun _ _ _ h => h) (Or.inl ⟨by rfl, ?_⟩) ?_ ?_
    rotate_left
    · intro w'
      go_simp
      with_reducible rfl
    rotate_left
    · simp only [Act.put, List.setIfInBounds_toArray, List.set_cons_zero, List.set_cons_succ, i64_w, i32_w]
      rfl
    refine pure_ (i := 3) (N := some 45) (v := ?_) (a' := ?_) #[true, true, true, true, false, false, false, false, false, false, false, false, false, false, false, false, false, false, false, false, false, false, false, false, false, false, false, false, false, false, false, false, false, false, false, false] rfl rfl (by kernel_rfl) (fun _ _ _ h => h) (Or.inl ⟨by rfl, ?_⟩) ?_ ?_
    rotate_left
    · intro w'
      go_simp
      with_reducible rfl
    rotate_left
    · simp only [Act.put, List.setIfInBounds_toArray, List.set_cons_zero, List.set_cons_succ, i64_w, i32_w]
      rfl
    refine pure_ (i := 4) (N := some 46) (v := ?_) (a' := ?_) #[true, true, true, true, true, false, false, false, false, false, false, false, false, false, false, false, false, false, false, false, false, false, false, false, false, false, false, false, false, false, false, false, false, false, false, false] rfl rfl (by kernel_rfl) (fun _ _ _ h => h) (Or.inl ⟨by rfl, ?_⟩) ?_ ?_
    rotate_left
    · intro w'
      go_simp
      with_reducible rfl
    rotate_left
    · simp only [Act.put, List.setIfInBounds_toArray, List.set_cons_zero, List.set_cons_succ, i64_w, i32_w]
      rfl
    refine pure_ (i := 5) (N := some 47) (v := ?_) (a' := ?_) #[true, true, true, true, true, true, false, false, false, false, false, false, false, false, false, false, false, false, false, false, false, false, false, false, false, false, false, false, false, false, false, false, false, false, false, false] rfl rfl (by kernel_rfl) (fun _ _ _ h => h) (Or.inl ⟨by rfl, ?_⟩) ?_ ?_
    rotate_left
    · intro w'
      go_simp
      with_reducible rfl
    rotate_left
    · simp only [Act.put, List.setIfInBounds_toArray, List.set_cons_zero, List.set_cons_succ, i64_w, i32_w]
      rfl
    refine pure_ (i := 6) (N := some 48) (v := ?_) (a' := ?_) #[true, true, true, true, true, true, true, false, false, false, false, false, false, false, false, false, false, false, false, false, false, false, false, false, false, false, false, false, false, false, false, false, false, false, false, false] rfl rfl (by kernel_rfl) (fun _ _ _ h => h) (Or.inl ⟨by rfl, ?_⟩) ?_ ?_
    rotate_left
    · intro w'
      go_simp
      with_reducible rfl
    rotate_left
    · simp only [Act.put, List.setIfInBounds_toArray, List.set_cons_zero, List.set_cons_succ, i64_w, i32_w]
      rfl
    refine pure_ (i := 7) (N := some 49) (v := ?_) (a' := ?_) #[true, true, true, true, true, true, true, true, false, false, false, false, false, false, false, false, false, false, false, false, false, false, false, false, false, false, false, false, false, false, false, false, false, false, false, false] rfl rfl (by kernel_rfl) (fun _ _ _ h => h) (Or.inl ⟨by rfl, ?_⟩) ?_ ?_
    rotate_left
    · intro w'
      go_simp
      with_reducible rfl
    rotate_left
    · simp only [Act.put, List.setIfInBounds_toArray, List.set_cons_zero, List.set_cons_succ, i64_w, i32_w]
      rfl
    refine pure_ (i := 8) (N := some 50) (v := ?_) (a' := ?_) #[true, true, true, true, true, true, true, true, true, false, false, false, false, false, false, false, false, false, false, false, false, false, false, false, false, false, false, false, false, false, false, false, false, false, false, false] rfl rfl (by kernel_rfl) (fun _ _ _ h => h) (Or.inl ⟨by rfl, ?_⟩) ?_ ?_
    rotate_left
    · intro w'
      go_simp
      with_reducible rfl
    rotate_left
    · simp only [Act.put, List.setIfInBounds_toArray, List.set_cons_zero, List.set_cons_succ, i64_w, i32_w]
      rfl
    refine pure_ (i := 9) (N := some 51) (v := ?_) (a' := ?_) #[true, true, true, true, true, true, true, true, true, true, false, false, false, false, false, false, false, false, false, false, false, false, false, false, false, false, false, false, false, false, false, false, false, false, false, false] rfl rfl (by kernel_rfl) (fun _ _ _ h => h) (Or.inl ⟨by rfl, ?_⟩) ?_ ?_
    rotate_left
    · intro w'
      go_simp
      with_reducible rfl
    rotate_left
    · simp only [Act.put, List.setIfInBounds_toArray, List.set_cons_zero, List.set_cons_succ, i64_w, i32_w]
      rfl
    refine pure_ (i := 10) (N := some 52) (v := ?_) (a' := ?_) #[true, true, true, true, true, true, true, true, true, true, true, false, false, false, false, false, false, false, false, false, false, false, false, false, false, false, false, false, false, false, false, false, false, false, false, false] rfl rfl (by kernel_rfl) (fun _ _ _ h => h) (Or.inl ⟨by rfl, ?_⟩) ?_ ?_
    rotate_left
    · intro w'
      go_simp
      with_reducible rfl
    rotate_left
    · simp only [Act.put, List.setIfInBounds_toArray, List.set_cons_zero, List.set_cons_succ, i64_w, i32_w]
      rfl
    refine pure_ (i := 11) (N := some 53) (v := ?_) (a' := ?_) #[true, true, true, true, true, true, true, true, true, true, true, true, false, false, false, false, false, false, false, false, false, false, false, false, false, false, false, false, false, false, false, false, false, false, false, false] rfl rfl (by kernel_rfl) (fun _ _ _ h => h) (Or.inl ⟨by rfl, ?_⟩) ?_ ?_
    rotate_left
    · intro w'
      go_simp
      with_reducible rfl
    rotate_left
    · simp only [Act.put, List.setIfInBounds_toArray, List.set_cons_zero, List.set_cons_succ, i64_w, i32_w]
      rfl
    refine pure_ (i := 12) (N := some 54) (v := ?_) (a' := ?_) #[true, true, true, true, true, true, true, true, true, true, true, true, true, false, false, false, false, false, false, false, false, false, false, false, false, false, false, false, false, false, false, false, false, false, false, false] rfl rfl (by kernel_rfl) (fun _ _ _ h => h) (Or.inl ⟨by rfl, ?_⟩) ?_ ?_
    rotate_left
    · intro w'
      go_simp
      with_reducible rfl
    rotate_left
    · simp only [Act.put, List.setIfInBounds_toArray, List.set_cons_zero, List.set_cons_succ, i64_w, i32_w]
      rfl
    refine pure_ (i := 13) (N := some 55) (v := ?_) (a' := ?_) #[true, true, true, true, true, true, true, true, true, true, true, true, true, true, false, false, false, false, false, false, false, false, false, false, false, false, false, false, false, false, false, false, false, false, false, false] rfl rfl (by kernel_rfl) (fun _ _ _ h => h) (Or.inl ⟨by rfl, ?_⟩) ?_ ?_
    rotate_left
    · intro w'
      go_simp
      with_reducible rfl
    rotate_left
    · simp only [Act.put, List.setIfInBounds_toArray, List.set_cons_zero, List.set_cons_succ, i64_w, i32_w]
      rfl
    refine pure_ (i := 14) (N := some 56) (v := ?_) (a' := ?_) #[true, true, true, true, true, true, true, true, true, true, true, true, true, true, true, false, false, false, false, false, false, false, false, false, false, false, false, false, false, false, false, false, false, false, false, false] rfl rfl (by kernel_rfl) (fun _ _ _ h => h) (Or.inl ⟨by rfl, ?_⟩) ?_ ?_
    rotate_left
    · intro w'
      go_simp
      with_reducible rfl
    rotate_left
    · simp only [Act.put, List.setIfInBounds_toArray, List.set_cons_zero, List.set_cons_succ, i64_w, i32_w]
      rfl
    refine pure_ (i := 15) (N := some 57) (v := ?_) (a' := ?_) #[true, true, true, true, true, true, true, true, true, true, true, true, true, true, true, true, false, false, false, false, false, false, false, false, false, false, false, false, false, false, false, false, false, false, false, false] rfl rfl (by kernel_rfl) (fun _ _ _ h => h) (Or.inl ⟨by rfl, ?_⟩) ?_ ?_
    rotate_left
    · intro w'
      go_simp
      with_reducible rfl
    rotate_left
    · simp only [Act.put, List.setIfInBounds_toArray, List.set_cons_zero, List.set_cons_succ, i64_w, i32_w]
      rfl
    refine pure_ (i := 16) (N := some 58) (v := ?_) (a' := ?_) #[true, true, true, true, true, true, true, true, true, true, true, true, true, true, true, true, true, false, false, false, false, false, false, false, false, false, false, false, false, false, false, false, false, false, false, false] rfl rfl (by kernel_rfl) (fun _ _ _ h => h) (Or.inl ⟨by rfl, ?_⟩) ?_ ?_
    rotate_left
    · intro w'
      go_simp
      with_reducible rfl
    rotate_left
    · simp only [Act.put, List.setIfInBounds_toArray, List.set_cons_zero, List.set_cons_succ, i64_w, i32_w]
      rfl
    refine pure_ (i := 17) (N := some 59) (v := ?_) (a' := ?_) #[true, true, true, true, true, true, true, true, true, true, true, true, true, true, true, true, true, true, false, false, false, false, false, false, false, false, false, false, false, false, false, false, false, false, false, false] rfl rfl (by kernel_rfl) (fun _ _ _ h => h) (Or.inl ⟨by rfl, ?_⟩) ?_ ?_
    rotate_left
    · intro w'
      go_simp
      with_reducible rfl
    rotate_left
    · simp only [Act.put, List.setIfInBounds_toArray, List.set_cons_zero, List.set_cons_succ, i64_w, i32_w]
      rfl
    refine pure_ (i := 18) (N := some 60) (v := ?_) (a' := ?_) #[true, true, true, true, true, true, true, true, true, true, true, true, true, true, true, true, true, true, true, false, false, false, false, false, false, false, false, false, false, false, false, false, false, false, false, false] rfl rfl (by kernel_rfl) (fun _ _ _ h => h) (Or.inl ⟨by rfl, ?_⟩) ?_ ?_
    rotate_left
    · intro w'
      go_simp
      with_reducible rfl
    rotate_left
    · simp only [Act.put, List.setIfInBounds_toArray, List.set_cons_zero, List.set_cons_succ, i64_w, i32_w]
      rfl
    refine take_ (i := 19) (N := some 61) (v := ?_) (a' := ?_) #[true, true, true, true, true, true, true, true, true, true, true, true, true, true, true, true, true, true, true, true, false, false, false, false, false, false, false, false, false, false, false, false, false, false, false, false] rfl rfl (by kernel_rfl) (fun _ _ _ h => h) (Or.inl ⟨by rfl, ?_⟩) hHeld ?_ ?_
    rotate_left
    · intro w' s0
      go_simp
      with_reducible rfl
    rotate_left
    · simp only [Act.put, List.setIfInBounds_toArray, List.set_cons_zero, List.set_cons_succ, i64_w, i32_w]
      rfl
    refine one_ (i := 20) (N := some 62) #[true, true, true, true, true, true, true, true, true, true, true, true, true, true, true, true, true, true, true, true, true, false, false, false, false, false, false, false, false, false, false, false, false, false, false, false] rfl rfl (by kernel_rfl) (by decide) (fun K hK => ?_)
    refine value_ (w1 := w4.alloc (.cells Z 5 (0, 0))) (v := .slice (some ⟨w4.heap.size, 0, none⟩) 256 256) (by rfl) rfl (exec_make rfl (mk w4)) ?_
    have J5 := Aside0.mk (J_deep J4.out (below_alloc (Below.refl _ _) (.cells Z 5 (0, 0)))); have C5 := Aside0.mk (Kd.C_below C4.out (below_alloc (Below.refl _ _) (.cells Z 5 (0, 0))))
    have N5 := Aside0.mk (show Kd.C (Kd.int .u8) (w4.alloc (.cells Z 5 (0, 0))) (some ⟨w4.heap.size, 0, none⟩) 256 (List.replicate 256 0) by rw [HZ.out]; exact C_new256 w4)
    refine hK.out _ _ ((by rw [HS2.out]; exact Kd.C_string (P := Try.prog) (A := A2) (c := 256) Try.underlying27 Try.underlying5 Try.underlying9 (C5.out))) (fun hHeld => ?_)
    clear hK K
    refine norm_ (a' := ?_) ?_ ?_
    rotate_left
    · show Act.put _ (some 62) _ = _
      simp only [Act.put, List.setIfInBounds_toArray, List.set_cons_zero, List.set_cons_succ, i64_w, i32_w]
      rfl
    refine one_ (i := 21) (N := some 63) #[true, true, true, true, true, true, true, true, true, true, true, true, true, true, true, true, true, true, true, true, true, true, false, false, false, false, false, false, false, false, false, false, false, false, false, false] rfl rfl (by kernel_rfl) (by decide) (fun K hK => ?_)
    refine value_ (w1 := w4.alloc (.cells Z 5 (0, 0))) (v := .string S) (by rfl) rfl (exec_conv rfl (by rw [HS2.out]; exact Kd.C_string (P := Try.prog) (c := 256) Try.underlying27 Try.underlying5 Try.underlying9 N5.out)) ?_
    refine hK.out _ _ ((by rw [HS2.out]; exact Kd.C_string (P := Try.prog) (A := A2) (c := 256) Try.underlying27 Try.underlying5 Try.underlying9 (C5.out))) (fun hHeld => ?_)
    clear hK K
    refine norm_ (a' := ?_) ?_ ?_
    rotate_left
    · show Act.put _ (some 63) _ = _
      simp only [Act.put, List.setIfInBounds_toArray, List.set_cons_zero, List.set_cons_succ, i64_w, i32_w]
      rfl
    refine pure_ (i := 22) (N := some 64) (v := ?_) (a' := ?_) #[true, true, true, true, true, true, true, true, true, true, true, true, true, true, true, true, true, true, true, true, true, true, true, false, false, false, false, false, false, false, false, false, false, false, false, false] rfl rfl (by kernel_rfl) (fun _ _ _ h => h) (Or.inl ⟨by rfl, ?_⟩) ?_ ?_
    rotate_left
    · intro w'
      go_simp
      with_reducible rfl
    rotate_left
    · simp only [Act.put, List.setIfInBounds_toArray, List.set_cons_zero, List.set_cons_succ, i64_w, i32_w]
      rfl
    refine pure_ (i := 23) (N := some 65) (v := ?_) (a' := ?_) #[true, true, true, true, true, true, true, true, true, true, true, true, true, true, true, true, true, true, true, true, true, true, true, true, false, false, false, false, false, false, false, false, false, false, false, false] rfl rfl (by kernel_rfl) (fun _ _ _ h => h) (Or.inl ⟨by rfl, ?_⟩) ?_ ?_
    rotate_left
    · intro w'
      go_simp
      with_reducible rfl
    rotate_left
    · simp only [Act.put, List.setIfInBounds_toArray, List.set_cons_zero, List.set_cons_succ, i64_w, i32_w]
      rfl
    refine pure_ (i := 24) (N := some 66) (v := ?_) (a' := ?_) #[true, true, true, true, true, true, true, true, true, true, true, true, true, true, true, true, true, true, true, true, true, true, true, true, true, false, false, false, false, false, false, false, false, false, false, false] rfl rfl (by kernel_rfl) (fun _ _ _ h => h) (Or.inl ⟨by rfl, ?_⟩) ?_ ?_
    rotate_left
    · intro w'
      go_simp
      with_reducible rfl
    rotate_left
    · simp only [Act.put, List.setIfInBounds_toArray, List.set_cons_zero, List.set_cons_succ, i64_w, i32_w]
      rfl
    refine pure_ (i := 25) (N := some 67) (v := ?_) (a' := ?_) #[true, true, true, true, true, true, true, true, true, true, true, true, true, true, true, true, true, true, true, true, true, true, true, true, true, true, false, false, false, false, false, false, false, false, false, false] rfl rfl (by kernel_rfl) (fun _ _ _ h => h) (Or.inl ⟨by rfl, ?_⟩) ?_ ?_
    rotate_left
    · intro w'
      go_simp
      with_reducible rfl
    rotate_left
    · simp only [Act.put, List.setIfInBounds_toArray, List.set_cons_zero, List.set_cons_succ, i64_w, i32_w]
      rfl
    refine pure_ (i := 27) (N := some 69) (v := ?_) (a' := ?_) #[true, true, true, true, true, true, true, true, true, true, true, true, true, true, true, true, true, true, true, true, true, true, true, true, true, true, false, true, false, false, false, false, false, false, false, false] rfl rfl (by kernel_rfl) (fun _ _ _ h => h) (Or.inl ⟨by rfl, ?_⟩) ?_ ?_
    rotate_left
    · intro w'
      go_simp
      with_reducible rfl
    rotate_left
    · simp only [Act.put, List.setIfInBounds_toArray, List.set_cons_zero, List.set_cons_succ, i64_w, i32_w]
      rfl
    refine one_ (i := 26) (N := some 68) #[true, true, true, true, true, true, true, true, true, true, true, true, true, true, true, true, true, true, true, true, true, true, true, true, true, true, true, true, false, false, false, false, false, false, false, false] rfl rfl (by kernel_rfl) (by decide) (fun K hK => ?_)
    refine goes_ Try.func17 (by kernel_rfl) rfl #[.pointer (some ⟨p, 0, none⟩)] (by rfl) rfl rfl (by simp only [List.map_toArray, List.map_cons, List.map_nil]; rfl) ?_
    with_reducible refine (J_BlocksN J5.out ((N : Int) + 1) (by have := EN.out.1; omega)).mono ?_
    rintro e w6 ⟨rfl, hJ, hb⟩
    refine ⟨_, rfl, ?_⟩
    have J6 := Aside0.mk hJ; have C6 := Aside0.mk (Kd.C_below C5.out hb); clear hJ hb
    refine hK.out _ _ ((by rw [HS2.out]; exact Kd.C_string (P := Try.prog) (A := A2) (c := 256) Try.underlying27 Try.underlying5 Try.underlying9 (C6.out))) (fun hHeld => ?_)
    clear hK K
    refine norm_ (a' := ?_) ?_ ?_
    rotate_left
    · show Act.put _ (some 68) _ = _
      simp only [Act.put, List.setIfInBounds_toArray, List.set_cons_zero, List.set_cons_succ, i64_w, i32_w]
      rfl
    refine pure_ (i := 28) (N := some 70) (v := ?_) (a' := ?_) #[true, true, true, true, true, true, true, true, true, true, true, true, true, true, true, true, true, true, true, true, true, true, true, true, true, true, true, true, true, false, false, false, false, false, false, false] rfl rfl (by kernel_rfl) (fun _ _ _ h => h) (Or.inl ⟨by rfl, ?_⟩) ?_ ?_
    rotate_left
    · intro w'
      go_simp
      with_reducible rfl
    rotate_left
    · simp only [Act.put, List.setIfInBounds_toArray, List.set_cons_zero, List.set_cons_succ, i64_w, i32_w]
      rfl
    refine pure_ (i := 29) (N := some 71) (v := ?_) (a' := ?_) #[true, true, true, true, true, true, true, true, true, true, true, true, true, true, true, true, true, true, true, true, true, true, true, true, true, true, true, true, true, true, false, false, false, false, false, false] rfl rfl (by kernel_rfl) (fun _ _ _ h => h) (Or.inl ⟨by rfl, ?_⟩) ?_ ?_
    rotate_left
    · intro w'
      go_simp
      with_reducible rfl
    rotate_left
    · simp only [Act.put, List.setIfInBounds_toArray, List.set_cons_zero, List.set_cons_succ, i64_w, i32_w]
      rfl
    refine pure_ (i := 30) (N := some 72) (v := ?_) (a' := ?_) #[true, true, true, true, true, true, true, true, true, true, true, true, true, true, true, true, true, true, true, true, true, true, true, true, true, true, true, true, true, true, true, false, false, false, false, false] rfl rfl (by kernel_rfl) (fun _ _ _ h => h) (Or.inl ⟨by rfl, ?_⟩) ?_ ?_
    rotate_left
    · intro w'
      go_simp
      with_reducible rfl
    rotate_left
    · simp only [Act.put, List.setIfInBounds_toArray, List.set_cons_zero, List.set_cons_succ, i64_w, i32_w]
      rfl
    refine pure_ (i := 31) (N := some 73) (v := ?_) (a' := ?_) #[true, true, true, true, true, true, true, true, true, true, true, true, true, true, true, true, true, true, true, true, true, true, true, true, true, true, true, true, true, true, true, true, false, false, false, false] rfl rfl (by kernel_rfl) (fun _ _ _ h => h) (Or.inl ⟨by rfl, ?_⟩) ?_ ?_
    rotate_left
    · intro w'
      go_simp
      with_reducible rfl
    rotate_left
    · simp only [Act.put, List.setIfInBounds_toArray, List.set_cons_zero, List.set_cons_succ, i64_w, i32_w]
      rfl
    refine one_ (i := 32) (N := some 74) #[true, true, true, true, true, true, true, true, true, true, true, true, true, true, true, true, true, true, true, true, true, true, true, true, true, true, true, true, true, true, true, true, true, false, false, false] rfl rfl (by kernel_rfl) (by decide) (fun K hK => ?_)
    refine goes_ Try.func18 (by kernel_rfl) rfl #[.pointer (some ⟨p, 0, none⟩)] (by rfl) rfl rfl (by simp only [List.map_toArray, List.map_cons, List.map_nil]; rfl) ?_
    with_reducible refine (J_PendingN J6.out 0 (by have := EN.out.2; omega)).mono ?_
    rintro e w7 ⟨rfl, hJ, hb⟩
    refine ⟨_, rfl, ?_⟩
    have J7 := Aside0.mk hJ; have C7 := Aside0.mk (Kd.C_below C6.out hb); clear hJ hb
    refine hK.out _ _ ((by rw [HS2.out]; exact Kd.C_string (P := Try.prog) (A := A2) (c := 256) Try.underlying27 Try.underlying5 Try.underlying9 (C7.out))) (fun hHeld => ?_)
    clear hK K
    refine norm_ (a' := ?_) ?_ ?_
    rotate_left
    · show Act.put _ (some 74) _ = _
      simp only [Act.put, List.setIfInBounds_toArray, List.set_cons_zero, List.set_cons_succ, i64_w, i32_w]
      rfl
    refine pure_ (i := 33) (N := some 75) (v := ?_) (a' := ?_) #[true, true, true, true, true, true, true, true, true, true, true, true, true, true, true, true, true, true, true, true, true, true, true, true, true, true, true, true, true, true, true, true, true, true, false, false] rfl rfl (by kernel_rfl) (fun _ _ _ h => h) (Or.inl ⟨by rfl, ?_⟩) ?_ ?_
    rotate_left
    · intro w'
      go_simp
      with_reducible rfl
    rotate_left
    · simp only [Act.put, List.setIfInBounds_toArray, List.set_cons_zero, List.set_cons_succ, i64_w, i32_w]
      rfl
    refine pure_ (i := 34) (N := some 76) (v := ?_) (a' := ?_) #[true, true, true, true, true, true, true, true, true, true, true, true, true, true, true, true, true, true, true, true, true, true, true, true, true, true, true, true, true, true, true, true, true, true, true, false] rfl rfl (by kernel_rfl) (fun _ _ _ h => h) (Or.inl ⟨by rfl, ?_⟩) ?_ ?_
    rotate_left
    · intro w'
      go_simp
      with_reducible rfl
    rotate_left
    · simp only [Act.put, List.setIfInBounds_toArray, List.set_cons_zero, List.set_cons_succ, i64_w, i32_w]
      rfl
    refine pure_ (i := 35) (N := some 2) (v := ?_) (a' := ?_) #[true, true, true, true, true, true, true, true, true, true, true, true, true, true, true, true, true, true, true, true, true, true, true, true, true, true, true, true, true, true, true, true, true, true, true, true] rfl rfl (by kernel_rfl) (fun _ _ _ h => h) (Or.inl ⟨by rfl, ?_⟩) ?_ ?_
    rotate_left
    · intro w'
      go_simp
      with_reducible rfl
    rotate_left
    · simp only [Act.put, List.setIfInBounds_toArray, List.set_cons_zero, List.set_cons_succ, i64_w, i32_w]
      rfl
    refine done_ (by kernel_rfl) ?_
    go_wp2
    go_ret
    exact ⟨by simp, J_below J7.out⟩
def marginalialaw14_DiskMade.f (a0 : Int) : Option (Bool) := some true
theorem marginalialaw14_DiskMade.calls (a0 : Int) (r : Bool) (w : World) (h : marginalialaw14_DiskMade.f a0 = some r) :
    Calls Try.prog 3 #[.int .i64 a0] w fun e w' => e = .returned (.bool r) ∧ Below w.heap.size w w' := by
  obtain rfl := Option.some.inj h
  exact law_Made a0 w

end Go.Proofs.Ytepipgneefcoiaa.D
