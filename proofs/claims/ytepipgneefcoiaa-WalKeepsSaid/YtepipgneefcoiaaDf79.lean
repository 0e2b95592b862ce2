/- The functions of the program that these laws reach, each as a plain Lean function, and the proof that the machine's call comes to it; no condition beyond those that each theorem names. Made by wip/xprint.py. -/
import Derived.Test.YtepipgneefcoiaaDx0
import Derived.Test.YtepipgneefcoiaaDf72
import Derived.Test.YtepipgneefcoiaaDf86
import Derived.Test.YtepipgneefcoiaaDf87
import Derived.Test.YtepipgneefcoiaaDf88
import Derived.Test.YtepipgneefcoiaaDh
namespace Go.Proofs.Ytepipgneefcoiaa.D
open Go.RowKit Go.Proofs.YtepipgneefcoiaaW.PrintWords Go.Proofs.YtepipgneefcoiaaW.PrintLast Go.Proofs.YtepipgneefcoiaaW.PrintMore
attribute [local go_sem] max2_int min2_int max_two min_two max_three min_three max_four min_four   -- for this text's walks alone
set_option linter.unusedVariables false
set_option linter.unusedSimpArgs false

/-! ### cell_Decode: function 79 -/
mutual
def cell_Decode.j0 : Nat → List Int → Bool → Option (Int × Int × Int × Int × List Int × Int)
  | 0, _, _ => none
  | k + 1, x0, x18 => if x18 = true then (some (0, 0, 0, 0, ([] : List Int), 8)) else (if 8 ≤ (x0.length : Int) then ((cell_number.f k (x0.take 8)).bind fun t121 => (if 8 ≤ 16 then (if 16 ≤ (x0.length : Int) then ((cell_number.f k ((x0.take 16).drop 8)).bind fun t123 => (if 16 ≤ 18 then (if 18 ≤ (x0.length : Int) then ((cell_number.f k ((x0.take 18).drop 16)).bind fun t125 => (if 18 ≤ 20 then (if 20 ≤ (x0.length : Int) then ((cell_number.f k ((x0.take 20).drop 18)).bind fun t127 => (if 20 < (x0.length : Int) then (if (wrap64 (t125)) ≥ (wrap64 (t127)) then (cell_Decode.j1 k x0 (wrap64 (rd x0 20)) true t121 t123 (wrap64 (t125)) (wrap64 (t127))) else (if (wrap64 (rd x0 20)) > 39 then (cell_Decode.j1 k x0 (wrap64 (rd x0 20)) true t121 t123 (wrap64 (t125)) (wrap64 (t127))) else (if 0 ≤ (wrap64 (21 + (wrap64 (rd x0 20)))) then (if (wrap64 (21 + (wrap64 (rd x0 20)))) ≤ 60 then (if 60 ≤ (x0.length : Int) then ((slices_ContainsFunc_byte_byte.f ((x0.take 60).drop ((wrap64 (21 + (wrap64 (rd x0 20)))) : Int).toNat)).bind fun t131 => (cell_Decode.j1 k x0 (wrap64 (rd x0 20)) t131 t121 t123 (wrap64 (t125)) (wrap64 (t127)))) else (none)) else (none)) else (none)))) else (none))) else (none)) else (none))) else (none)) else (none))) else (none)) else (none))) else (none))
def cell_Decode.j1 : Nat → List Int → Int → Bool → Int → Int → Int → Int → Option (Int × Int × Int × Int × List Int × Int)
  | 0, _, _, _, _, _, _, _ => none
  | k + 1, x0, x5, x54, x129000, x129001, x129002, x129003 => if x54 = true then (some (0, 0, 0, 0, ([] : List Int), 8)) else (if 21 ≤ (wrap64 (21 + x5)) then (if (wrap64 (21 + x5)) ≤ (x0.length : Int) then ((slices_Clone_byte_byte.f ((x0.take ((wrap64 (21 + x5)) : Int).toNat).drop 21)).bind fun t133 => (some (x129000, x129001, x129002, x129003, t133, 0))) else (none)) else (none))
end
def cell_Decode.f (k : Nat) (l0 : List Int) : Option (Int × Int × Int × Int × List Int × Int) := if (l0.length : Int) = 64 then (if 60 ≤ (l0.length : Int) then ((crc_Sum.f k (l0.take 60)).bind fun t117 => ((cell_number.f k (l0.drop 60)).bind fun t119 => (cell_Decode.j0 k l0 ((IntKind.u64.wrap (t117)) != t119)))) else (none)) else (cell_Decode.j0 k l0 true)
theorem cell_Decode.mono_l : ∀ k, (∀ y0 y1, LeO (cell_Decode.j0 k y0 y1) (cell_Decode.j0 (k + 1) y0 y1)) ∧ (∀ y0 y1 y2 y3 y4 y5 y6, LeO (cell_Decode.j1 k y0 y1 y2 y3 y4 y5 y6) (cell_Decode.j1 (k + 1) y0 y1 y2 y3 y4 y5 y6))
  | 0 => ⟨fun _ _ r h => by simp [cell_Decode.j0] at h, fun _ _ _ _ _ _ _ r h => by simp [cell_Decode.j1] at h⟩
  | k + 1 => by
    obtain ⟨ih0, ih1⟩ := cell_Decode.mono_l k
    refine ⟨?_, ?_⟩
    · intro y0 y1
      unfold cell_Decode.j0
      repeat' first
      | (with_reducible exact ih0 _ _)
      | (with_reducible exact ih1 _ _ _ _ _ _ _)
      | (with_reducible exact cell_number.mono _ _)
      | (with_reducible exact crc_Sum.mono _ _)
      | (with_reducible exact LeO.refl _)
      | (with_reducible exact LeO.none _)
      | (with_reducible refine LeO.ite ?_ ?_)
      | (with_reducible refine LeO.bind ?_ (fun _ => ?_))
      | exact ih0 _ _
      | exact ih1 _ _ _ _ _ _ _
      | exact cell_number.mono _ _
      | exact crc_Sum.mono _ _
      | exact LeO.none _
      | refine LeO.ite ?_ ?_
      | refine LeO.bind ?_ (fun _ => ?_)
    · intro y0 y1 y2 y3 y4 y5 y6
      unfold cell_Decode.j1
      repeat' first
      | (with_reducible exact ih0 _ _)
      | (with_reducible exact ih1 _ _ _ _ _ _ _)
      | (with_reducible exact cell_number.mono _ _)
      | (with_reducible exact crc_Sum.mono _ _)
      | (with_reducible exact LeO.refl _)
      | (with_reducible exact LeO.none _)
      | (with_reducible refine LeO.ite ?_ ?_)
      | (with_reducible refine LeO.bind ?_ (fun _ => ?_))
      | exact ih0 _ _
      | exact ih1 _ _ _ _ _ _ _
      | exact cell_number.mono _ _
      | exact crc_Sum.mono _ _
      | exact LeO.none _
      | refine LeO.ite ?_ ?_
      | refine LeO.bind ?_ (fun _ => ?_)
theorem cell_Decode.mono : ∀ a0 k, LeO (cell_Decode.f k a0) (cell_Decode.f (k + 1) a0) := by
  intro a0 k
  obtain ⟨ih0, ih1⟩ := cell_Decode.mono_l k
  unfold cell_Decode.f
  repeat' first
      | (with_reducible exact ih0 _ _)
      | (with_reducible exact ih1 _ _ _ _ _ _ _)
      | (with_reducible exact cell_number.mono _ _)
      | (with_reducible exact crc_Sum.mono _ _)
      | (with_reducible exact LeO.refl _)
      | (with_reducible exact LeO.none _)
      | (with_reducible refine LeO.ite ?_ ?_)
      | (with_reducible refine LeO.bind ?_ (fun _ => ?_))
      | exact ih0 _ _
      | exact ih1 _ _ _ _ _ _ _
      | exact cell_number.mono _ _
      | exact crc_Sum.mono _ _
      | exact LeO.none _
      | refine LeO.ite ?_ ?_
      | refine LeO.bind ?_ (fun _ => ?_)
def cell_Decode.T1 : Bool × List (List Nat × List Nat) := (true, [([], []), ([0], [0]), ([1], [1]), ([2], [2]), ([3], [3]), ([4, 3], [3, 4]), ([5, 3, 3], [3, 5]), ([6, 3], [3, 6]), ([3], [3]), ([8, 3], [3, 8]), ([9, 6, 3], [3, 9]), ([7, 10, 3], [3, 7, 10]), ([3, 11], [3, 11])])
def cell_Decode.B1 : List Nat := [0, 1, 3, 7, 15, 31, 63, 127, 15, 271, 895, 2047, 4095]
theorem cell_Decode.tab1 : rtab .any (opsOf Try.f79 1) = cell_Decode.T1 := by kernel_rfl
theorem cell_Decode.bits1 : waitsOk cell_Decode.T1.2 cell_Decode.B1 = true := by kernel_rfl
def cell_Decode.T3 : Bool × List (List Nat × List Nat) := (true, [([], []), ([0], [0]), ([1], [1]), ([], []), ([3], [3]), ([4, 2], [4]), ([], []), ([6], [6]), ([7, 5], [7]), ([8], [8]), ([], []), ([10], [10]), ([11, 8], [11]), ([12], [12]), ([2, 5, 9, 13], [2, 5, 9, 13]), ([], []), ([15, 14, 12, 0, 1, 2, 3, 4, 5, 6, 7, 8, 9, 10, 11, 12, 13, 14, 15], [14, 15])])
def cell_Decode.B3 : List Nat := [0, 1, 3, 0, 8, 31, 0, 64, 255, 511, 0, 1024, 3583, 7679, 16383, 0, 65535]
theorem cell_Decode.tab3 : rtab .any (opsOf Try.f79 3) = cell_Decode.T3 := by kernel_rfl
theorem cell_Decode.bits3 : waitsOk cell_Decode.T3.2 cell_Decode.B3 = true := by kernel_rfl
set_option maxHeartbeats 8000000 in
set_option maxRecDepth 100000 in
theorem cell_Decode.calls (k : Nat) (A0 : Option Addr) (c0 : Nat) (l0 : List Int) (r1 : Int) (r2 : Int) (r3 : Int) (r4 : Int) (r5 : List Int) (r6 : Int) (w : World) (hr0 : Kd.C (Kd.int .u8) w A0 l0.length l0) (hc0 : l0.length ≤ c0) (h : cell_Decode.f k l0 = some (r1, r2, r3, r4, r5, r6)) :
    Calls Try.prog 79 #[.slice A0 l0.length c0] w fun e w' => ∃ v4_ : Value, e = .returned (.tuple #[.agg #[.int .u64 r1, .int .u64 r2, .int .i64 r3, .int .i64 r4, v4_], .int .i64 r6]) ∧ Kd.R (Kd.int .u8) 5 w' w.heap.size (fun _ => True) v4_ r5 ∧ Below w.heap.size w w' := by
  have hu106 := Try.underlying106
  have HR0 := Aside0.mk hr0
  have HC0 := Aside0.mk hc0
  clear hr0 hc0
  have HB := Aside0.mk (Below.refl w.heap.size w)
  have H : (if (l0.length : Int) = 64 then (if 60 ≤ (l0.length : Int) then ((crc_Sum.f k (l0.take 60)).bind fun t117 => ((cell_number.f k (l0.drop 60)).bind fun t119 => (cell_Decode.j0 k l0 ((IntKind.u64.wrap (t117)) != t119)))) else (none)) else (cell_Decode.j0 k l0 true)) = some (r1, r2, r3, r4, r5, r6) := h
  clear h
  have HC2 := Aside0.mk H
  clear H
  go_enter Try.func79, Try.ntmps79
  go_upto_region 1 with (first | ((with_reducible refine gate_dst (N := 2) rfl ?_); refine box_event ?hg (N := 2) ?hd (cs := #[.int .u64 0, .int .u64 0, .int .i64 0, .int .i64 0, .slice none 0 0]) (t := 106) ?hr ?_; (case hd => rfl); (case hg => rfl); (case hr => first | (go_simp; done) | (go_simp; rfl)); intro gb115 hg w3 hbox hb; have n0_ := Aside0.mk (below_step (by repeat (first | (with_reducible first | exact HB.out | apply below_alloc | apply pw_below_drewN | apply below_drew1) | exact HB.out)) hb); have n1_ := Aside0.mk (hbox); have n2_ := Aside0.mk ((by rw [hg]; exact (below_size (by repeat (first | (with_reducible first | exact HB.out | apply below_alloc | apply pw_below_drewN | apply below_drew1) | exact HB.out))) : w.heap.size ≤ gb115)); have n3_ := Aside0.mk ((by rw [hg]; exact (below_size (by repeat (first | (with_reducible first | exact HB.out | apply below_alloc | apply pw_below_drewN | apply below_drew1) | exact HB.out))) : w.heap.size ≤ gb115)); clear HB; have HB := n0_; have BK115 := n1_; have GW115 := n2_; have GE115 := n3_; clear n0_ n1_ n2_ n3_; clear hb hbox hg))
  (try simp only [Act.put, List.setIfInBounds_toArray, List.set_cons_zero, List.set_cons_succ])
  go_cut [18] (fun v18 wc => ∃ (kq : Nat) (x18_1 : Bool), v18 = .bool x18_1 ∧ Aside0 (cell_Decode.j0 kq l0 x18_1 = some (r1, r2, r3, r4, r5, r6)) ∧ Aside0 (kq ≤ k) ∧ Aside0 (wc.heap[gb115]? = some (.cells #[.int .u64 0, .int .u64 0, .int .i64 0, .int .i64 0, (.slice none 0 0)] 106 (0, 0))) ∧ Aside0 (Below w.heap.size w wc))
  case first =>
    have H := HC2.out
    clear HC2
    by_cases c4 : (l0.length : Int) = 64
    · rw [if_pos c4] at H
      have c4b0 : ((l0.length : Int) == 64) = true := beq_iff_eq.mpr c4
      have c4b1 : ((l0.length : Int) != 64) = false := bne_eq_false_iff_eq.mpr c4
      clear c4
      (first | rw [c4b0] | (simp only [i64_w, i32_w]; rw [c4b0]) | skip)
      by_cases c5 : 60 ≤ (l0.length : Int)
      · rw [if_pos c5] at H
        have c5b0 := eq_true c5
        have c5b1 : decide (60 ≤ (l0.length : Int)) = true := decide_eq_true c5
        clear c5
        replace H := Option.bind_eq_some_iff.mp H
        obtain ⟨t117, A60, H⟩ := H
        replace H : ((cell_number.f k (l0.drop 60)).bind fun t119 => (cell_Decode.j0 k l0 ((IntKind.u64.wrap (t117)) != t119))) = some (r1, r2, r3, r4, r5, r6) := H
        have A6 := Aside0.mk A60
        clear A60
        have c7b0 := eq_true (of_decide_eq_true (by first | (with_reducible assumption) | assumption) : 60 ≤ (l0.length : Int))
        replace H := Option.bind_eq_some_iff.mp H
        obtain ⟨t119, A80, H⟩ := H
        replace H : (cell_Decode.j0 k l0 ((IntKind.u64.wrap (t117)) != t119)) = some (r1, r2, r3, r4, r5, r6) := H
        have A8 := Aside0.mk A80
        clear A80
        have H' := Aside0.mk H
        clear H
        try go_wp2
        have n0_ := Aside0.mk (blk_drew BK115.out)
        have n1_ := Aside0.mk (below_drew1 HB.out)
        clear BK115
        clear HB
        have BK115 := n0_
        have HB := n1_
        clear n0_ n1_
        obtain ⟨i010, hi010, _, hsz10, _⟩ := info_parts info5
        obtain ⟨hcut10, hA10, hC10⟩ := print_take_of (P := Try.prog) (Value.int .u8) 0 27 5 .i64 Try.underlying27 hi010 hsz10 A0 c0 l0 60 (by omega) (of_decide_eq_true (by first | (with_reducible assumption) | assumption)) HC0.out
        have HR116 := Aside0.mk (Kd.C_of_reads (h1 := fun _ => rfl) (hA10 _ (Kd.reads_of_C HR0.out)))
        have HC116 := Aside0.mk hC10
        clear hA10 hC10 hi010 hsz10
        obtain ⟨i011, hi011, _, hsz11, _⟩ := info_parts info5
        obtain ⟨A11, hcut11, hA11, hC11⟩ := print_drop_of (P := Try.prog) (Value.int .u8) 0 27 5 .i64 Try.underlying27 hi011 hsz11 A0 c0 l0 60 (by omega) (of_decide_eq_true (by first | (with_reducible assumption) | assumption)) HC0.out
        have HR118 := Aside0.mk (Kd.C_of_reads (h1 := fun _ => rfl) (hA11 _ (Kd.reads_of_C HR0.out)))
        have HC118 := Aside0.mk hC11
        clear hA11 hC11 hi011 hsz11
        refine start_ (n := 13) (S := fun w' => True) (ds := []) #[false, false, false, false, false, false, false, false, false, false, false, false, false] (by kernel_rfl) rfl rfl trivial (fun hHeld => ?_); refine with_tabW cell_Decode.tab1 cell_Decode.bits1 (fun HT_ HW_ => ?_)
        generalize w3.drew = w9 at BK115 HB HR116 HR118 hHeld ⊢
        refine pure_ (i := 0) (N := some 6) (v := ?_) (a' := ?_) #[true, false, false, false, false, false, false, false, false, false, false, false, false] rfl rfl (any_of HT_.out (by kernel_rfl)) (fun _ _ _ h => h) (Or.inl ⟨by rfl, ?_⟩) ?_ ?_
        rotate_left
        · intro w'
          go_simp
          with_reducible rfl
        rotate_left
        · simp only [Act.put, List.setIfInBounds_toArray, List.set_cons_zero, List.set_cons_succ, i64_w, i32_w]
          rfl
        refine pure_ (i := 1) (N := some 7) (v := ?_) (a' := ?_) #[true, true, false, false, false, false, false, false, false, false, false, false, false] rfl rfl (any_of HT_.out (by kernel_rfl)) (fun _ _ _ h => h) (Or.inl ⟨by rfl, ?_⟩) ?_ ?_
        rotate_left
        · intro w'
          go_simp
          with_reducible rfl
        rotate_left
        · simp only [Act.put, List.setIfInBounds_toArray, List.set_cons_zero, List.set_cons_succ, i64_w, i32_w]
          rfl
        refine pure_ (i := 2) (N := some 8) (v := ?_) (a' := ?_) #[true, true, true, false, false, false, false, false, false, false, false, false, false] rfl rfl (any_of HT_.out (by kernel_rfl)) (fun _ _ _ h => h) (Or.inl ⟨by rfl, ?_⟩) ?_ ?_
        rotate_left
        · intro w'
          go_simp
          with_reducible rfl
        rotate_left
        · simp only [Act.put, List.setIfInBounds_toArray, List.set_cons_zero, List.set_cons_succ, i64_w, i32_w]
          rfl
        refine pure_ (i := 3) (N := some 9) (v := ?_) (a' := ?_) #[true, true, true, true, false, false, false, false, false, false, false, false, false] rfl rfl (any_of HT_.out (by kernel_rfl)) (fun _ _ _ h => h) (Or.inl ⟨by rfl, ?_⟩) ?_ ?_
        rotate_left
        · intro w'
          go_simp
          with_reducible rfl
        rotate_left
        · simp only [Act.put, List.setIfInBounds_toArray, List.set_cons_zero, List.set_cons_succ, i64_w, i32_w]
          rfl
        refine pure_ (i := 4) (N := some 10) (v := ?_) (a' := ?_) #[true, true, true, true, true, false, false, false, false, false, false, false, false] rfl rfl (any_of HT_.out (by kernel_rfl)) (fun _ _ _ h => h) (Or.inl ⟨by rfl, ?_⟩) ?_ ?_
        rotate_left
        · intro w'
          go_simp
          with_reducible rfl
        rotate_left
        · simp only [Act.put, List.setIfInBounds_toArray, List.set_cons_zero, List.set_cons_succ, i64_w, i32_w]
          rfl
        refine pure_ (i := 5) (N := some 11) (v := ?_) (a' := ?_) #[true, true, true, true, true, true, false, false, false, false, false, false, false] rfl rfl (any_of HT_.out (by kernel_rfl)) (fun _ _ _ h => h) (Or.inl ⟨by rfl, ?_⟩) ?_ ?_
        rotate_left
        · intro w'
          go_simp
          with_reducible rfl
        rotate_left
        · simp only [Act.put, List.setIfInBounds_toArray, List.set_cons_zero, List.set_cons_succ, i64_w, i32_w]
          rfl
        refine pure_ (i := 8) (N := some 14) (v := ?_) (a' := ?_) #[true, true, true, true, true, true, false, false, true, false, false, false, false] rfl rfl (any_of HT_.out (by kernel_rfl)) (fun _ _ _ h => h) (Or.inl ⟨by rfl, ?_⟩) ?_ ?_
        rotate_left
        · intro w'
          go_simp
          with_reducible rfl
        rotate_left
        · simp only [Act.put, List.setIfInBounds_toArray, List.set_cons_zero, List.set_cons_succ, i64_w, i32_w]
          rfl
        refine pure_ (i := 9) (N := some 15) (v := ?_) (a' := ?_) #[true, true, true, true, true, true, false, false, true, true, false, false, false] rfl rfl (any_of HT_.out (by kernel_rfl)) (fun _ _ _ h => h) (Or.inl ⟨by rfl, ?_⟩) ?_ ?_
        rotate_left
        · intro w'
          go_simp
          with_reducible rfl
        rotate_left
        · simp only [Act.put, List.setIfInBounds_toArray, List.set_cons_zero, List.set_cons_succ, i64_w, i32_w]
          rfl
        refine one_ (i := 6) (N := some 12) #[true, true, true, true, true, true, true, false, true, true, false, false, false] rfl rfl (one_of HT_.out (by kernel_rfl)) (by decide) (fun K hK => ?_)
        refine goes_ Try.func86 (by kernel_rfl) rfl #[.slice A0 (l0.take 60).length c0] (by rfl) rfl rfl (by (try simp only [List.map_toArray, List.map_cons, List.map_nil]); first | done | (rw [show (l0.take 60).length = 60 from (by rw [List.length_take]; have h_ : (60 : Int) ≤ (l0.length : Int) := of_decide_eq_true (by first | (with_reducible assumption) | assumption); omega)] <;> rfl) | rfl | (simp only [List.length_drop, List.length_take]; rfl)) ?_
        with_reducible refine (crc_Sum.calls k _ _ (l0.take 60) t117 _ ?side1 ?side2 A6.out).mono ?_
        (case side1 => repeat (first | exact (Kd.C_below HR116.out HB.out) | (with_reducible refine Kd.C_alloc ?_ _) | (with_reducible refine Kd.C_drewN ?_ _) | (with_reducible refine Kd.C_drew ?_)))
        (case side2 => exact HC116.out)
        rintro e w' ⟨rfl, ⟨nd, rfl⟩⟩
        refine ⟨_, rfl, ?_⟩
        refine hK.out _ _ trivial (fun hHeld => ?_)
        clear hK K
        refine norm_ (a' := ?_) ?_ ?_
        rotate_left
        · show Act.put _ (some 12) _ = _
          simp only [Act.put, List.setIfInBounds_toArray, List.set_cons_zero, List.set_cons_succ, i64_w, i32_w]
          rfl
        refine pure_ (i := 7) (N := some 13) (v := ?_) (a' := ?_) #[true, true, true, true, true, true, true, true, true, true, false, false, false] rfl rfl (any_of HT_.out (by kernel_rfl)) (fun _ _ _ h => h) (Or.inl ⟨by rfl, ?_⟩) ?_ ?_
        rotate_left
        · intro w'
          go_simp
          with_reducible rfl
        rotate_left
        · simp only [Act.put, List.setIfInBounds_toArray, List.set_cons_zero, List.set_cons_succ, i64_w, i32_w]
          rfl
        refine one_ (i := 10) (N := some 16) #[true, true, true, true, true, true, true, true, true, true, true, false, false] rfl rfl (one_of HT_.out (by kernel_rfl)) (by decide) (fun K hK => ?_)
        refine goes_ Try.func87 (by kernel_rfl) rfl #[.slice A11 (l0.drop 60).length (c0 - 60)] (by rfl) rfl rfl (by (try simp only [List.map_toArray, List.map_cons, List.map_nil]); first | done | (rw [show (l0.drop 60).length = (l0.length - 60) from List.length_drop] <;> rfl) | rfl | (simp only [List.length_drop, List.length_take]; rfl)) ?_
        with_reducible refine (cell_number.calls k _ _ (l0.drop 60) t119 _ ?side1 ?side2 A8.out).mono ?_
        (case side1 => repeat (first | exact (Kd.C_below HR118.out (by repeat (first | (with_reducible first | exact HB.out | apply below_alloc | apply pw_below_drewN | apply below_drew1 | refine below_set ?_ GE115.out) | exact HB.out))) | (with_reducible refine Kd.C_alloc ?_ _) | (with_reducible refine Kd.C_drewN ?_ _) | (with_reducible refine Kd.C_drew ?_)))
        (case side2 => exact HC118.out)
        rintro e w' ⟨rfl, ⟨nd, rfl⟩⟩
        refine ⟨_, rfl, ?_⟩
        refine hK.out _ _ trivial (fun hHeld => ?_)
        clear hK K
        refine norm_ (a' := ?_) ?_ ?_
        rotate_left
        · show Act.put _ (some 16) _ = _
          simp only [Act.put, List.setIfInBounds_toArray, List.set_cons_zero, List.set_cons_succ, i64_w, i32_w]
          rfl
        refine pure_ (i := 11) (N := some 17) (v := ?_) (a' := ?_) #[true, true, true, true, true, true, true, true, true, true, true, true, false] rfl rfl (any_of HT_.out (by kernel_rfl)) (fun _ _ _ h => h) (Or.inl ⟨by rfl, ?_⟩) ?_ ?_
        rotate_left
        · intro w'
          go_simp
          with_reducible rfl
        rotate_left
        · simp only [Act.put, List.setIfInBounds_toArray, List.set_cons_zero, List.set_cons_succ, i64_w, i32_w]
          rfl
        refine pure_ (i := 12) (N := some 18) (v := ?_) (a' := ?_) #[true, true, true, true, true, true, true, true, true, true, true, true, true] rfl rfl (any_of HT_.out (by kernel_rfl)) (fun _ _ _ h => h) (Or.inl ⟨by rfl, ?_⟩) ?_ ?_
        rotate_left
        · intro w'
          go_simp
          with_reducible rfl
        rotate_left
        · simp only [Act.put, List.setIfInBounds_toArray, List.set_cons_zero, List.set_cons_succ, i64_w, i32_w]
          rfl
        refine done_ (done_of HT_.out (by kernel_rfl)) ?_
        try go_wp2
        go_meet
        case rel => exact ⟨_, (((IntKind.u64.wrap (t117)) != t119)), (by first | rfl | (simp; done) | (simp [*]; done)), H', ⟨by first | omega | exact Nat.le_refl _⟩, ⟨by (with_reducible repeat (first | refine blk_drewN ?_ _ | refine blk_drew ?_ | refine blk_alloc ?_ _)); exact BK115.out⟩, ⟨by repeat (first | (with_reducible first | exact HB.out | apply below_alloc | apply pw_below_drewN | apply below_drew1 | refine below_set ?_ GE115.out) | exact HB.out)⟩⟩
      · rw [if_neg c5] at H
        exact absurd H (by simp)
    · rw [if_neg c4] at H
      have c4b0 : ((l0.length : Int) == 64) = false := beq_eq_false_iff_ne.mpr c4
      have c4b1 : ((l0.length : Int) != 64) = true := bne_iff_ne.mpr c4
      (first | rw [c4b0] | (simp only [i64_w, i32_w]; rw [c4b0]) | skip)
      have H' := Aside0.mk H
      clear H
      try go_wp2
      have n0_ := Aside0.mk (blk_drew BK115.out)
      have n1_ := Aside0.mk (below_drew1 HB.out)
      clear BK115
      clear HB
      have BK115 := n0_
      have HB := n1_
      clear n0_ n1_
      refine start_ (n := 13) (S := fun w' => True) (ds := []) #[false, false, false, false, false, false, false, false, false, false, false, false, false] (by kernel_rfl) rfl rfl trivial (fun hHeld => ?_); refine with_tabW cell_Decode.tab1 cell_Decode.bits1 (fun HT_ HW_ => ?_)
      generalize w3.drew = w12 at BK115 HB hHeld ⊢
      refine pure_ (i := 0) (N := some 6) (v := ?_) (a' := ?_) #[true, false, false, false, false, false, false, false, false, false, false, false, false] rfl rfl (any_of HT_.out (by kernel_rfl)) (fun _ _ _ h => h) (Or.inl ⟨by rfl, ?_⟩) ?_ ?_
      rotate_left
      · intro w'
        go_simp
        with_reducible rfl
      rotate_left
      · simp only [Act.put, List.setIfInBounds_toArray, List.set_cons_zero, List.set_cons_succ, i64_w, i32_w]
        rfl
      refine pure_ (i := 1) (N := some 7) (v := ?_) (a' := ?_) #[true, true, false, false, false, false, false, false, false, false, false, false, false] rfl rfl (any_of HT_.out (by kernel_rfl)) (fun _ _ _ h => h) (Or.inl ⟨by rfl, ?_⟩) ?_ ?_
      rotate_left
      · intro w'
        go_simp
        with_reducible rfl
      rotate_left
      · simp only [Act.put, List.setIfInBounds_toArray, List.set_cons_zero, List.set_cons_succ, i64_w, i32_w]
        rfl
      refine pure_ (i := 2) (N := some 8) (v := ?_) (a' := ?_) #[true, true, true, false, false, false, false, false, false, false, false, false, false] rfl rfl (any_of HT_.out (by kernel_rfl)) (fun _ _ _ h => h) (Or.inl ⟨by rfl, ?_⟩) ?_ ?_
      rotate_left
      · intro w'
        go_simp
        with_reducible rfl
      rotate_left
      · simp only [Act.put, List.setIfInBounds_toArray, List.set_cons_zero, List.set_cons_succ, i64_w, i32_w]
        rfl
      refine pure_ (i := 3) (N := some 9) (v := ?_) (a' := ?_) #[true, true, true, true, false, false, false, false, false, false, false, false, false] rfl rfl (any_of HT_.out (by kernel_rfl)) (fun _ _ _ h => h) (Or.inl ⟨by rfl, ?_⟩) ?_ ?_
      rotate_left
      · intro w'
        go_simp
        with_reducible rfl
      rotate_left
      · simp only [Act.put, List.setIfInBounds_toArray, List.set_cons_zero, List.set_cons_succ, i64_w, i32_w]
        rfl
      refine pure_ (i := 4) (N := some 10) (v := undef) (a' := ?_) #[true, true, true, true, true, false, false, false, false, false, false, false, false] rfl rfl (any_of HT_.out (by kernel_rfl)) (fun _ _ _ h => h) (Or.inr ⟨by rfl, rfl⟩) ?_ ?_
      rotate_left
      · simp only [Act.put, List.setIfInBounds_toArray, List.set_cons_zero, List.set_cons_succ, i64_w, i32_w]
        rfl
      refine pure_ (i := 5) (N := some 11) (v := undef) (a' := ?_) #[true, true, true, true, true, true, false, false, false, false, false, false, false] rfl rfl (any_of HT_.out (by kernel_rfl)) (fun _ _ _ h => h) (Or.inr ⟨by rfl, rfl⟩) ?_ ?_
      rotate_left
      · simp only [Act.put, List.setIfInBounds_toArray, List.set_cons_zero, List.set_cons_succ, i64_w, i32_w]
        rfl
      refine pure_ (i := 6) (N := some 12) (v := undef) (a' := ?_) #[true, true, true, true, true, true, true, false, false, false, false, false, false] rfl rfl (any_of HT_.out (by kernel_rfl)) (fun _ _ _ h => h) (Or.inr ⟨by rfl, rfl⟩) ?_ ?_
      rotate_left
      · simp only [Act.put, List.setIfInBounds_toArray, List.set_cons_zero, List.set_cons_succ, i64_w, i32_w]
        rfl
      refine pure_ (i := 7) (N := some 13) (v := undef) (a' := ?_) #[true, true, true, true, true, true, true, true, false, false, false, false, false] rfl rfl (any_of HT_.out (by kernel_rfl)) (fun _ _ _ h => h) (Or.inr ⟨by rfl, rfl⟩) ?_ ?_
      rotate_left
      · simp only [Act.put, List.setIfInBounds_toArray, List.set_cons_zero, List.set_cons_succ, i64_w, i32_w]
        rfl
      refine pure_ (i := 8) (N := some 14) (v := undef) (a' := ?_) #[true, true, true, true, true, true, true, true, true, false, false, false, false] rfl rfl (any_of HT_.out (by kernel_rfl)) (fun _ _ _ h => h) (Or.inr ⟨by rfl, rfl⟩) ?_ ?_
      rotate_left
      · simp only [Act.put, List.setIfInBounds_toArray, List.set_cons_zero, List.set_cons_succ, i64_w, i32_w]
        rfl
      refine pure_ (i := 9) (N := some 15) (v := undef) (a' := ?_) #[true, true, true, true, true, true, true, true, true, true, false, false, false] rfl rfl (any_of HT_.out (by kernel_rfl)) (fun _ _ _ h => h) (Or.inr ⟨by rfl, rfl⟩) ?_ ?_
      rotate_left
      · simp only [Act.put, List.setIfInBounds_toArray, List.set_cons_zero, List.set_cons_succ, i64_w, i32_w]
        rfl
      refine pure_ (i := 10) (N := some 16) (v := undef) (a' := ?_) #[true, true, true, true, true, true, true, true, true, true, true, false, false] rfl rfl (any_of HT_.out (by kernel_rfl)) (fun _ _ _ h => h) (Or.inr ⟨by rfl, rfl⟩) ?_ ?_
      rotate_left
      · simp only [Act.put, List.setIfInBounds_toArray, List.set_cons_zero, List.set_cons_succ, i64_w, i32_w]
        rfl
      refine pure_ (i := 11) (N := some 17) (v := undef) (a' := ?_) #[true, true, true, true, true, true, true, true, true, true, true, true, false] rfl rfl (any_of HT_.out (by kernel_rfl)) (fun _ _ _ h => h) (Or.inr ⟨by rfl, rfl⟩) ?_ ?_
      rotate_left
      · simp only [Act.put, List.setIfInBounds_toArray, List.set_cons_zero, List.set_cons_succ, i64_w, i32_w]
        rfl
      refine pure_ (i := 12) (N := some 18) (v := ?_) (a' := ?_) #[true, true, true, true, true, true, true, true, true, true, true, true, true] rfl rfl (any_of HT_.out (by kernel_rfl)) (fun _ _ _ h => h) (Or.inl ⟨by rfl, ?_⟩) ?_ ?_
      rotate_left
      · intro w'
        go_simp
        with_reducible rfl
      rotate_left
      · simp only [Act.put, List.setIfInBounds_toArray, List.set_cons_zero, List.set_cons_succ, i64_w, i32_w]
        rfl
      refine done_ (done_of HT_.out (by kernel_rfl)) ?_
      try go_wp2
      go_meet
      case rel => exact ⟨_, (true), (by first | rfl | (simp; done) | (simp [*]; done)), H', ⟨by first | omega | exact Nat.le_refl _⟩, ⟨by (with_reducible repeat (first | refine blk_drewN ?_ _ | refine blk_drew ?_ | refine blk_alloc ?_ _)); exact BK115.out⟩, ⟨by repeat (first | (with_reducible first | exact HB.out | apply below_alloc | apply pw_below_drewN | apply below_drew1 | refine below_set ?_ GE115.out) | exact HB.out)⟩⟩
  case rest =>
    clear HC2
    try clear p2
    try clear c4
    try clear c4b0
    try clear c4b1
    try clear c5
    try clear c5b0
    try clear c5b1
    try clear c7
    try clear c7b0
    try clear c8
    obtain ⟨kq, x18_1, rfl, HA, HJ1, BK115, HB⟩ := hcut
    cases kq with
    | zero => exact absurd HA.out (by simp [cell_Decode.j0])
    | succ kj1 =>
      have H := HA.out
      clear HA
      simp only [cell_Decode.j0] at H
      by_cases c13 : x18_1 = true
      · subst c13
        have H1 : (some (0, 0, 0, 0, ([] : List Int), 8)) = some (r1, r2, r3, r4, r5, r6) := by rw [if_pos rfl] at H; exact H
        clear H
        have H := H1
        clear H1
        simp only [Option.some.injEq, Prod.mk.injEq] at H
        obtain ⟨rfl, rfl, rfl, rfl, rfl, rfl⟩ := H
        have hcz14_0 : wc.cell? ⟨gb115, 0, none⟩ = some (.int .u64 0) := (blk_cell BK115.out 0).trans rfl
        have hcz14_1 : wc.cell? ⟨gb115, 1, none⟩ = some (.int .u64 0) := (blk_cell BK115.out 1).trans rfl
        have hcz14_2 : wc.cell? ⟨gb115, 2, none⟩ = some (.int .i64 0) := (blk_cell BK115.out 2).trans rfl
        have hcz14_3 : wc.cell? ⟨gb115, 3, none⟩ = some (.int .i64 0) := (blk_cell BK115.out 3).trans rfl
        have hcz14_4 : wc.cell? ⟨gb115, 4, none⟩ = some (.slice none 0 0) := (blk_cell BK115.out 4).trans rfl
        have hfz14_0 := blk_frozen BK115.out 0
        have hfz14_1 := blk_frozen BK115.out 1
        have hfz14_2 := blk_frozen BK115.out 2
        have hfz14_3 := blk_frozen BK115.out 3
        have hfz14_4 := blk_frozen BK115.out 4
        go_wp2
        refine bodyPost_ret (results_ct rfl _ _ gb115 106 #[.int .u64 0, .int .u64 0, .int .i64 0, .int .i64 0, .slice none 0 0] (0, 0) _ rfl (by (with_reducible repeat (first | refine blk_drewN ?_ _ | refine blk_drew ?_ | refine blk_alloc ?_ _)); refine blk_put (cs := #[.int .u64 0, .int .u64 0, .int .i64 0, .int .i64 0, .slice none 0 0]) ?_ 4 _ rfl; (with_reducible repeat (first | refine blk_drewN ?_ _ | refine blk_drew ?_ | refine blk_alloc ?_ _)); refine blk_put (cs := #[.int .u64 0, .int .u64 0, .int .i64 0, .int .i64 0, .slice none 0 0]) ?_ 3 _ rfl; (with_reducible repeat (first | refine blk_drewN ?_ _ | refine blk_drew ?_ | refine blk_alloc ?_ _)); refine blk_put (cs := #[.int .u64 0, .int .u64 0, .int .i64 0, .int .i64 0, .slice none 0 0]) ?_ 2 _ rfl; (with_reducible repeat (first | refine blk_drewN ?_ _ | refine blk_drew ?_ | refine blk_alloc ?_ _)); refine blk_put (cs := #[.int .u64 0, .int .u64 0, .int .i64 0, .int .i64 0, .slice none 0 0]) ?_ 1 _ rfl; (with_reducible repeat (first | refine blk_drewN ?_ _ | refine blk_drew ?_ | refine blk_alloc ?_ _)); refine blk_put (cs := #[.int .u64 0, .int .u64 0, .int .i64 0, .int .i64 0, .slice none 0 0]) ?_ 0 _ rfl; (with_reducible repeat (first | refine blk_drewN ?_ _ | refine blk_drew ?_ | refine blk_alloc ?_ _)); exact BK115.out) Try.underlying106 rfl (by kernel_rfl)) rfl ?_
        exact ⟨_, by first | rfl | (simp [errW_none, errW_some] <;> rfl) | (simp [*, errW_none, errW_some] <;> rfl), by first | exact Kd.R_nil _ _ _ _ _ | exact Kd.N_nil _ _ _ _ _ | exact Kd.V_nil _ _ _ _ _ | exact Kd.Q_nil _ _ _ _ _ | exact Kd.S_nil _ _ _ _ _, by repeat (first | (with_reducible first | exact HB.out | apply below_alloc | apply pw_below_drewN | apply below_drew1 | refine below_set ?_ GE115.out) | exact HB.out)⟩
      · replace c13 := Bool.eq_false_iff.mpr c13
        subst c13
        have H1 : (if 8 ≤ (l0.length : Int) then ((cell_number.f kj1 (l0.take 8)).bind fun t121 => (if 8 ≤ 16 then (if 16 ≤ (l0.length : Int) then ((cell_number.f kj1 ((l0.take 16).drop 8)).bind fun t123 => (if 16 ≤ 18 then (if 18 ≤ (l0.length : Int) then ((cell_number.f kj1 ((l0.take 18).drop 16)).bind fun t125 => (if 18 ≤ 20 then (if 20 ≤ (l0.length : Int) then ((cell_number.f kj1 ((l0.take 20).drop 18)).bind fun t127 => (if 20 < (l0.length : Int) then (if (wrap64 (t125)) ≥ (wrap64 (t127)) then (cell_Decode.j1 kj1 l0 (wrap64 (rd l0 20)) true t121 t123 (wrap64 (t125)) (wrap64 (t127))) else (if (wrap64 (rd l0 20)) > 39 then (cell_Decode.j1 kj1 l0 (wrap64 (rd l0 20)) true t121 t123 (wrap64 (t125)) (wrap64 (t127))) else (if 0 ≤ (wrap64 (21 + (wrap64 (rd l0 20)))) then (if (wrap64 (21 + (wrap64 (rd l0 20)))) ≤ 60 then (if 60 ≤ (l0.length : Int) then ((slices_ContainsFunc_byte_byte.f ((l0.take 60).drop ((wrap64 (21 + (wrap64 (rd l0 20)))) : Int).toNat)).bind fun t131 => (cell_Decode.j1 kj1 l0 (wrap64 (rd l0 20)) t131 t121 t123 (wrap64 (t125)) (wrap64 (t127)))) else (none)) else (none)) else (none)))) else (none))) else (none)) else (none))) else (none)) else (none))) else (none)) else (none))) else (none)) = some (r1, r2, r3, r4, r5, r6) := by rw [if_neg (show ¬ (false = true) by decide)] at H; exact H
        clear H
        have H := H1
        clear H1
        by_cases c15 : 8 ≤ (l0.length : Int)
        · rw [if_pos c15] at H
          have c15b0 := eq_true c15
          have c15b1 : decide (8 ≤ (l0.length : Int)) = true := decide_eq_true c15
          clear c15
          replace H := Option.bind_eq_some_iff.mp H
          obtain ⟨t121, A160, H⟩ := H
          replace H : (if 8 ≤ 16 then (if 16 ≤ (l0.length : Int) then ((cell_number.f kj1 ((l0.take 16).drop 8)).bind fun t123 => (if 16 ≤ 18 then (if 18 ≤ (l0.length : Int) then ((cell_number.f kj1 ((l0.take 18).drop 16)).bind fun t125 => (if 18 ≤ 20 then (if 20 ≤ (l0.length : Int) then ((cell_number.f kj1 ((l0.take 20).drop 18)).bind fun t127 => (if 20 < (l0.length : Int) then (if (wrap64 (t125)) ≥ (wrap64 (t127)) then (cell_Decode.j1 kj1 l0 (wrap64 (rd l0 20)) true t121 t123 (wrap64 (t125)) (wrap64 (t127))) else (if (wrap64 (rd l0 20)) > 39 then (cell_Decode.j1 kj1 l0 (wrap64 (rd l0 20)) true t121 t123 (wrap64 (t125)) (wrap64 (t127))) else (if 0 ≤ (wrap64 (21 + (wrap64 (rd l0 20)))) then (if (wrap64 (21 + (wrap64 (rd l0 20)))) ≤ 60 then (if 60 ≤ (l0.length : Int) then ((slices_ContainsFunc_byte_byte.f ((l0.take 60).drop ((wrap64 (21 + (wrap64 (rd l0 20)))) : Int).toNat)).bind fun t131 => (cell_Decode.j1 kj1 l0 (wrap64 (rd l0 20)) t131 t121 t123 (wrap64 (t125)) (wrap64 (t127)))) else (none)) else (none)) else (none)))) else (none))) else (none)) else (none))) else (none)) else (none))) else (none)) else (none)) = some (r1, r2, r3, r4, r5, r6) := H
          have A16 := Aside0.mk A160
          clear A160
          by_cases c17 : 8 ≤ 16
          · rw [if_pos c17] at H
            have c17b0 := eq_true c17
            have c17b1 : decide (8 ≤ 16) = true := decide_eq_true c17
            clear c17
            by_cases c18 : 16 ≤ (l0.length : Int)
            · rw [if_pos c18] at H
              have c18b0 := eq_true c18
              have c18b1 : decide (16 ≤ (l0.length : Int)) = true := decide_eq_true c18
              clear c18
              replace H := Option.bind_eq_some_iff.mp H
              obtain ⟨t123, A190, H⟩ := H
              replace H : (if 16 ≤ 18 then (if 18 ≤ (l0.length : Int) then ((cell_number.f kj1 ((l0.take 18).drop 16)).bind fun t125 => (if 18 ≤ 20 then (if 20 ≤ (l0.length : Int) then ((cell_number.f kj1 ((l0.take 20).drop 18)).bind fun t127 => (if 20 < (l0.length : Int) then (if (wrap64 (t125)) ≥ (wrap64 (t127)) then (cell_Decode.j1 kj1 l0 (wrap64 (rd l0 20)) true t121 t123 (wrap64 (t125)) (wrap64 (t127))) else (if (wrap64 (rd l0 20)) > 39 then (cell_Decode.j1 kj1 l0 (wrap64 (rd l0 20)) true t121 t123 (wrap64 (t125)) (wrap64 (t127))) else (if 0 ≤ (wrap64 (21 + (wrap64 (rd l0 20)))) then (if (wrap64 (21 + (wrap64 (rd l0 20)))) ≤ 60 then (if 60 ≤ (l0.length : Int) then ((slices_ContainsFunc_byte_byte.f ((l0.take 60).drop ((wrap64 (21 + (wrap64 (rd l0 20)))) : Int).toNat)).bind fun t131 => (cell_Decode.j1 kj1 l0 (wrap64 (rd l0 20)) t131 t121 t123 (wrap64 (t125)) (wrap64 (t127)))) else (none)) else (none)) else (none)))) else (none))) else (none)) else (none))) else (none)) else (none)) = some (r1, r2, r3, r4, r5, r6) := H
              have A19 := Aside0.mk A190
              clear A190
              by_cases c20 : 16 ≤ 18
              · rw [if_pos c20] at H
                have c20b0 := eq_true c20
                have c20b1 : decide (16 ≤ 18) = true := decide_eq_true c20
                clear c20
                by_cases c21 : 18 ≤ (l0.length : Int)
                · rw [if_pos c21] at H
                  have c21b0 := eq_true c21
                  have c21b1 : decide (18 ≤ (l0.length : Int)) = true := decide_eq_true c21
                  clear c21
                  replace H := Option.bind_eq_some_iff.mp H
                  obtain ⟨t125, A220, H⟩ := H
                  replace H : (if 18 ≤ 20 then (if 20 ≤ (l0.length : Int) then ((cell_number.f kj1 ((l0.take 20).drop 18)).bind fun t127 => (if 20 < (l0.length : Int) then (if (wrap64 (t125)) ≥ (wrap64 (t127)) then (cell_Decode.j1 kj1 l0 (wrap64 (rd l0 20)) true t121 t123 (wrap64 (t125)) (wrap64 (t127))) else (if (wrap64 (rd l0 20)) > 39 then (cell_Decode.j1 kj1 l0 (wrap64 (rd l0 20)) true t121 t123 (wrap64 (t125)) (wrap64 (t127))) else (if 0 ≤ (wrap64 (21 + (wrap64 (rd l0 20)))) then (if (wrap64 (21 + (wrap64 (rd l0 20)))) ≤ 60 then (if 60 ≤ (l0.length : Int) then ((slices_ContainsFunc_byte_byte.f ((l0.take 60).drop ((wrap64 (21 + (wrap64 (rd l0 20)))) : Int).toNat)).bind fun t131 => (cell_Decode.j1 kj1 l0 (wrap64 (rd l0 20)) t131 t121 t123 (wrap64 (t125)) (wrap64 (t127)))) else (none)) else (none)) else (none)))) else (none))) else (none)) else (none)) = some (r1, r2, r3, r4, r5, r6) := H
                  have A22 := Aside0.mk A220
                  clear A220
                  by_cases c23 : 18 ≤ 20
                  · rw [if_pos c23] at H
                    have c23b0 := eq_true c23
                    have c23b1 : decide (18 ≤ 20) = true := decide_eq_true c23
                    clear c23
                    by_cases c24 : 20 ≤ (l0.length : Int)
                    · rw [if_pos c24] at H
                      have c24b0 := eq_true c24
                      have c24b1 : decide (20 ≤ (l0.length : Int)) = true := decide_eq_true c24
                      clear c24
                      replace H := Option.bind_eq_some_iff.mp H
                      obtain ⟨t127, A250, H⟩ := H
                      replace H : (if 20 < (l0.length : Int) then (if (wrap64 (t125)) ≥ (wrap64 (t127)) then (cell_Decode.j1 kj1 l0 (wrap64 (rd l0 20)) true t121 t123 (wrap64 (t125)) (wrap64 (t127))) else (if (wrap64 (rd l0 20)) > 39 then (cell_Decode.j1 kj1 l0 (wrap64 (rd l0 20)) true t121 t123 (wrap64 (t125)) (wrap64 (t127))) else (if 0 ≤ (wrap64 (21 + (wrap64 (rd l0 20)))) then (if (wrap64 (21 + (wrap64 (rd l0 20)))) ≤ 60 then (if 60 ≤ (l0.length : Int) then ((slices_ContainsFunc_byte_byte.f ((l0.take 60).drop ((wrap64 (21 + (wrap64 (rd l0 20)))) : Int).toNat)).bind fun t131 => (cell_Decode.j1 kj1 l0 (wrap64 (rd l0 20)) t131 t121 t123 (wrap64 (t125)) (wrap64 (t127)))) else (none)) else (none)) else (none)))) else (none)) = some (r1, r2, r3, r4, r5, r6) := H
                      have A25 := Aside0.mk A250
                      clear A250
                      by_cases c26 : 20 < (l0.length : Int)
                      · rw [if_pos c26] at H
                        have c26b0 : decide (20 < (l0.length : Int)) = true := decide_eq_true c26
                        have c26b1 : decide (20 < l0.length) = true := decide_eq_true (by omega)
                        clear c26
                        have HC27 := Aside0.mk H
                        clear H
                        try go_wp2
                        have n0_ := Aside0.mk (blk_drew BK115.out)
                        have n1_ := Aside0.mk (below_drew1 HB.out)
                        clear BK115
                        clear HB
                        have BK115 := n0_
                        have HB := n1_
                        clear n0_ n1_
                        obtain ⟨i029, hi029, _, hsz29, _⟩ := info_parts info5
                        obtain ⟨hcut29, hA29, hC29⟩ := print_take_of (P := Try.prog) (Value.int .u8) 0 27 5 .i64 Try.underlying27 hi029 hsz29 A0 c0 l0 8 (by omega) (of_decide_eq_true (by first | (with_reducible assumption) | assumption)) HC0.out
                        have HR120 := Aside0.mk (Kd.C_of_reads (h1 := fun _ => rfl) (hA29 _ (Kd.reads_of_C HR0.out)))
                        have HC120 := Aside0.mk hC29
                        clear hA29 hC29 hi029 hsz29
                        obtain ⟨i030, hi030, _, hsz30, _⟩ := info_parts info5
                        obtain ⟨A30, hcut30, hA30, hC30⟩ := print_mid_of (P := Try.prog) (Value.int .u8) 0 27 5 .i64 .i64 Try.underlying27 hi030 hsz30 A0 c0 l0 8 16 (by omega) (by first | omega | exact of_decide_eq_true (by first | (with_reducible assumption) | assumption)) (of_decide_eq_true (by first | (with_reducible assumption) | assumption)) HC0.out
                        have HR122 := Aside0.mk (Kd.C_of_reads (h1 := fun _ => rfl) (hA30 _ (Kd.reads_of_C HR0.out)))
                        have HC122 := Aside0.mk hC30
                        clear hA30 hC30 hi030 hsz30
                        obtain ⟨i031, hi031, _, hsz31, _⟩ := info_parts info5
                        obtain ⟨A31, hcut31, hA31, hC31⟩ := print_mid_of (P := Try.prog) (Value.int .u8) 0 27 5 .i64 .i64 Try.underlying27 hi031 hsz31 A0 c0 l0 16 18 (by omega) (by first | omega | exact of_decide_eq_true (by first | (with_reducible assumption) | assumption)) (of_decide_eq_true (by first | (with_reducible assumption) | assumption)) HC0.out
                        have HR124 := Aside0.mk (Kd.C_of_reads (h1 := fun _ => rfl) (hA31 _ (Kd.reads_of_C HR0.out)))
                        have HC124 := Aside0.mk hC31
                        clear hA31 hC31 hi031 hsz31
                        obtain ⟨i032, hi032, _, hsz32, _⟩ := info_parts info5
                        obtain ⟨A32, hcut32, hA32, hC32⟩ := print_mid_of (P := Try.prog) (Value.int .u8) 0 27 5 .i64 .i64 Try.underlying27 hi032 hsz32 A0 c0 l0 18 20 (by omega) (by first | omega | exact of_decide_eq_true (by first | (with_reducible assumption) | assumption)) (of_decide_eq_true (by first | (with_reducible assumption) | assumption)) HC0.out
                        have HR126 := Aside0.mk (Kd.C_of_reads (h1 := fun _ => rfl) (hA32 _ (Kd.reads_of_C HR0.out)))
                        have HC126 := Aside0.mk hC32
                        clear hA32 hC32 hi032 hsz32
                        refine start_ (n := 17) (S := fun w' => True) (ds := []) #[false, false, false, false, false, false, false, false, false, false, false, false, false, false, false, false, false] (by kernel_rfl) rfl rfl trivial (fun hHeld => ?_); refine with_tabW cell_Decode.tab3 cell_Decode.bits3 (fun HT_ HW_ => ?_)
                        generalize wc.drew = w28 at BK115 HB HR120 HR122 HR124 HR126 hHeld ⊢
                        refine pure_ (i := 0) (N := some 20) (v := ?_) (a' := ?_) #[true, false, false, false, false, false, false, false, false, false, false, false, false, false, false, false, false] rfl rfl (any_of HT_.out (by kernel_rfl)) (fun _ _ _ h => h) (Or.inl ⟨by rfl, ?_⟩) ?_ ?_
                        rotate_left
                        · intro w'
                          go_simp
                          with_reducible rfl
                        rotate_left
                        · simp only [Act.put, List.setIfInBounds_toArray, List.set_cons_zero, List.set_cons_succ, i64_w, i32_w]
                          rfl
                        refine pure_ (i := 1) (N := some 21) (v := ?_) (a' := ?_) #[true, true, false, false, false, false, false, false, false, false, false, false, false, false, false, false, false] rfl rfl (any_of HT_.out (by kernel_rfl)) (fun _ _ _ h => h) (Or.inl ⟨by rfl, ?_⟩) ?_ ?_
                        rotate_left
                        · intro w'
                          go_simp
                          with_reducible rfl
                        rotate_left
                        · simp only [Act.put, List.setIfInBounds_toArray, List.set_cons_zero, List.set_cons_succ, i64_w, i32_w]
                          rfl
                        refine pure_ (i := 3) (N := some 23) (v := ?_) (a' := ?_) #[true, true, false, true, false, false, false, false, false, false, false, false, false, false, false, false, false] rfl rfl (any_of HT_.out (by kernel_rfl)) (fun _ _ _ h => h) (Or.inl ⟨by rfl, ?_⟩) ?_ ?_
                        rotate_left
                        · intro w'
                          go_simp
                          with_reducible rfl
                        rotate_left
                        · simp only [Act.put, List.setIfInBounds_toArray, List.set_cons_zero, List.set_cons_succ, i64_w, i32_w]
                          rfl
                        refine pure_ (i := 4) (N := some 24) (v := ?_) (a' := ?_) #[true, true, false, true, true, false, false, false, false, false, false, false, false, false, false, false, false] rfl rfl (any_of HT_.out (by kernel_rfl)) (fun _ _ _ h => h) (Or.inl ⟨by rfl, ?_⟩) ?_ ?_
                        rotate_left
                        · intro w'
                          go_simp
                          with_reducible rfl
                        rotate_left
                        · simp only [Act.put, List.setIfInBounds_toArray, List.set_cons_zero, List.set_cons_succ, i64_w, i32_w]
                          rfl
                        refine pure_ (i := 6) (N := some 26) (v := ?_) (a' := ?_) #[true, true, false, true, true, false, true, false, false, false, false, false, false, false, false, false, false] rfl rfl (any_of HT_.out (by kernel_rfl)) (fun _ _ _ h => h) (Or.inl ⟨by rfl, ?_⟩) ?_ ?_
                        rotate_left
                        · intro w'
                          go_simp
                          with_reducible rfl
                        rotate_left
                        · simp only [Act.put, List.setIfInBounds_toArray, List.set_cons_zero, List.set_cons_succ, i64_w, i32_w]
                          rfl
                        refine pure_ (i := 7) (N := some 27) (v := ?_) (a' := ?_) #[true, true, false, true, true, false, true, true, false, false, false, false, false, false, false, false, false] rfl rfl (any_of HT_.out (by kernel_rfl)) (fun _ _ _ h => h) (Or.inl ⟨by rfl, ?_⟩) ?_ ?_
                        rotate_left
                        · intro w'
                          go_simp
                          with_reducible rfl
                        rotate_left
                        · simp only [Act.put, List.setIfInBounds_toArray, List.set_cons_zero, List.set_cons_succ, i64_w, i32_w]
                          rfl
                        refine pure_ (i := 10) (N := some 30) (v := ?_) (a' := ?_) #[true, true, false, true, true, false, true, true, false, false, true, false, false, false, false, false, false] rfl rfl (any_of HT_.out (by kernel_rfl)) (fun _ _ _ h => h) (Or.inl ⟨by rfl, ?_⟩) ?_ ?_
                        rotate_left
                        · intro w'
                          go_simp
                          with_reducible rfl
                        rotate_left
                        · simp only [Act.put, List.setIfInBounds_toArray, List.set_cons_zero, List.set_cons_succ, i64_w, i32_w]
                          rfl
                        refine pure_ (i := 11) (N := some 31) (v := ?_) (a' := ?_) #[true, true, false, true, true, false, true, true, false, false, true, true, false, false, false, false, false] rfl rfl (any_of HT_.out (by kernel_rfl)) (fun _ _ _ h => h) (Or.inl ⟨by rfl, ?_⟩) ?_ ?_
                        rotate_left
                        · intro w'
                          go_simp
                          with_reducible rfl
                        rotate_left
                        · simp only [Act.put, List.setIfInBounds_toArray, List.set_cons_zero, List.set_cons_succ, i64_w, i32_w]
                          rfl
                        refine join_ (σ := Nat) 1 #[true, true, true, true, true, true, true, true, true, true, true, true, true, true, true, true, false] (fun s_ => [(22, .int .u64 t121), (25, .int .u64 t123), (28, .int .u64 t125), (32, .int .u64 t127), (4, .pointer (some ⟨s_, 0, none⟩)), (29, .int .i64 (wrap64 (t125))), (33, .int .i64 (wrap64 (t127))), (34, .agg #[.int .u64 t121, .int .u64 t123, .int .i64 (wrap64 (t125)), .int .i64 (wrap64 (t127)), .slice none 0 0])]) (fun s_ w' => (w'.heap[gb115]? = some (.cells #[.int .u64 0, .int .u64 0, .int .i64 0, .int .i64 0, .slice none 0 0] 106 (0, 0))) ∧ (w'.heap[s_]? = some (.cells #[.int .u64 0, .int .u64 0, .int .i64 0, .int .i64 0, .slice none 0 0] 106 (0, 0))) ∧ (w.heap.size ≤ s_) ∧ (w.heap.size ≤ s_) ∧ (gb115 ≠ s_) ∧ (s_ ≠ gb115) ∧ (Below w.heap.size w w')) ?_ ?_
                        rotate_left
                        · intro hJ2_5_8_12_15
                          refine join_ (σ := Unit) 2 #[true, true, true, true, true, true, true, true, true, true, true, true, true, true, true, false, false] (fun s_ => [(22, .int .u64 t121), (25, .int .u64 t123), (28, .int .u64 t125), (32, .int .u64 t127), (29, .int .i64 (wrap64 (t125))), (33, .int .i64 (wrap64 (t127))), (34, .agg #[.int .u64 t121, .int .u64 t123, .int .i64 (wrap64 (t125)), .int .i64 (wrap64 (t127)), .slice none 0 0])]) (fun s_ w' => (w'.heap[gb115]? = some (.cells #[.int .u64 0, .int .u64 0, .int .i64 0, .int .i64 0, .slice none 0 0] 106 (0, 0))) ∧ (Below w.heap.size w w')) ?_ ?_
                          rotate_left
                          · intro hJ2_5_8_12
                            refine join_ (σ := Nat) 4 #[true, true, true, true, true, true, true, true, true, true, true, true, false, false, false, true, false] (fun s_ => [(22, .int .u64 t121), (25, .int .u64 t123), (28, .int .u64 t125), (4, .pointer (some ⟨s_, 0, none⟩)), (29, .int .i64 (wrap64 (t125)))]) (fun s_ w' => (w'.heap[gb115]? = some (.cells #[.int .u64 0, .int .u64 0, .int .i64 0, .int .i64 0, .slice none 0 0] 106 (0, 0))) ∧ (w'.heap[s_]? = some (.cells #[.int .u64 0, .int .u64 0, .int .i64 0, .int .i64 0, .slice none 0 0] 106 (0, 0))) ∧ (w.heap.size ≤ s_) ∧ (w.heap.size ≤ s_) ∧ (gb115 ≠ s_) ∧ (s_ ≠ gb115) ∧ (Below w.heap.size w w')) ?_ ?_
                            rotate_left
                            · intro hJ2_5_8_15
                              refine join_ (σ := Unit) 5 #[true, true, true, true, true, true, true, true, true, true, true, true, false, false, false, false, false] (fun s_ => [(22, .int .u64 t121), (25, .int .u64 t123), (28, .int .u64 t125), (29, .int .i64 (wrap64 (t125)))]) (fun s_ w' => (w'.heap[gb115]? = some (.cells #[.int .u64 0, .int .u64 0, .int .i64 0, .int .i64 0, .slice none 0 0] 106 (0, 0))) ∧ (Below w.heap.size w w')) ?_ ?_
                              rotate_left
                              · intro hJ2_5_8
                                refine join_ (σ := Nat) 6 #[true, true, true, true, true, true, true, true, false, false, true, true, false, false, false, true, false] (fun s_ => [(22, .int .u64 t121), (25, .int .u64 t123), (4, .pointer (some ⟨s_, 0, none⟩))]) (fun s_ w' => (w'.heap[gb115]? = some (.cells #[.int .u64 0, .int .u64 0, .int .i64 0, .int .i64 0, .slice none 0 0] 106 (0, 0))) ∧ (w'.heap[s_]? = some (.cells #[.int .u64 0, .int .u64 0, .int .i64 0, .int .i64 0, .slice none 0 0] 106 (0, 0))) ∧ (w.heap.size ≤ s_) ∧ (w.heap.size ≤ s_) ∧ (gb115 ≠ s_) ∧ (s_ ≠ gb115) ∧ (Below w.heap.size w w')) ?_ ?_
                                rotate_left
                                · intro hJ2_5_15
                                  refine join_ (σ := Unit) 7 #[true, true, true, true, true, true, true, true, false, false, true, true, false, false, false, false, false] (fun s_ => [(22, .int .u64 t121), (25, .int .u64 t123)]) (fun s_ w' => (w'.heap[gb115]? = some (.cells #[.int .u64 0, .int .u64 0, .int .i64 0, .int .i64 0, .slice none 0 0] 106 (0, 0))) ∧ (Below w.heap.size w w')) ?_ ?_
                                  rotate_left
                                  · intro hJ2_5
                                    refine join_ (σ := Nat) 7 #[true, true, true, true, true, false, true, true, false, false, true, true, false, false, false, true, false] (fun s_ => [(22, .int .u64 t121), (4, .pointer (some ⟨s_, 0, none⟩))]) (fun s_ w' => (w'.heap[gb115]? = some (.cells #[.int .u64 0, .int .u64 0, .int .i64 0, .int .i64 0, .slice none 0 0] 106 (0, 0))) ∧ (w'.heap[s_]? = some (.cells #[.int .u64 0, .int .u64 0, .int .i64 0, .int .i64 0, .slice none 0 0] 106 (0, 0))) ∧ (w.heap.size ≤ s_) ∧ (w.heap.size ≤ s_) ∧ (gb115 ≠ s_) ∧ (s_ ≠ gb115) ∧ (Below w.heap.size w w')) ?_ ?_
                                    rotate_left
                                    · intro hJ2_15
                                      refine join_ (σ := Unit) 8 #[true, true, true, true, true, false, true, true, false, false, true, true, false, false, false, false, false] (fun s_ => [(22, .int .u64 t121)]) (fun s_ w' => (w'.heap[gb115]? = some (.cells #[.int .u64 0, .int .u64 0, .int .i64 0, .int .i64 0, .slice none 0 0] 106 (0, 0))) ∧ (Below w.heap.size w w')) ?_ ?_
                                      rotate_left
                                      · intro hJ2
                                        refine join_ (σ := Nat) 8 #[true, true, false, true, true, false, true, true, false, false, true, true, false, false, false, true, false] (fun s_ => [(4, .pointer (some ⟨s_, 0, none⟩))]) (fun s_ w' => (w'.heap[gb115]? = some (.cells #[.int .u64 0, .int .u64 0, .int .i64 0, .int .i64 0, .slice none 0 0] 106 (0, 0))) ∧ (w'.heap[s_]? = some (.cells #[.int .u64 0, .int .u64 0, .int .i64 0, .int .i64 0, .slice none 0 0] 106 (0, 0))) ∧ (w.heap.size ≤ s_) ∧ (w.heap.size ≤ s_) ∧ (gb115 ≠ s_) ∧ (s_ ≠ gb115) ∧ (Below w.heap.size w w')) ?_ ?_
                                        rotate_left
                                        · intro hJ15
                                          refine two_ (i := 2) (j := 15) (Ni := some 22) (Nj := some 4) #[true, true, true, true, true, false, true, true, false, false, true, true, false, false, false, false, false] #[true, true, false, true, true, false, true, true, false, false, true, true, false, false, false, true, false] rfl rfl rfl rfl (two_of HT_.out (by kernel_rfl)) (by decide) (by decide) (fun K hK => ?_) (fun K hK => ?_)
                                          · skip
                                            refine goes_ Try.func87 (by kernel_rfl) rfl #[.slice A0 (l0.take 8).length c0] (by rfl) rfl rfl (by (try simp only [List.map_toArray, List.map_cons, List.map_nil]); first | done | (rw [show (l0.take 8).length = 8 from (by rw [List.length_take]; have h_ : (8 : Int) ≤ (l0.length : Int) := of_decide_eq_true (by first | (with_reducible assumption) | assumption); omega)] <;> rfl) | rfl | (simp only [List.length_drop, List.length_take]; rfl)) ?_
                                            with_reducible refine (cell_number.calls kj1 _ _ (l0.take 8) t121 _ ?side1 ?side2 A16.out).mono ?_
                                            (case side1 => repeat (first | exact (Kd.C_below HR120.out HB.out) | (with_reducible refine Kd.C_alloc ?_ _) | (with_reducible refine Kd.C_drewN ?_ _) | (with_reducible refine Kd.C_drew ?_)))
                                            (case side2 => exact HC120.out)
                                            rintro e w' ⟨rfl, ⟨nd, rfl⟩⟩
                                            refine ⟨_, rfl, ?_⟩
                                            refine hK.out _ _ trivial (fun hHeld => ?_)
                                            clear hK K
                                            refine norm_ (a' := ?_) ?_ ?_
                                            rotate_left
                                            · show Act.put _ (some 22) _ = _
                                              simp only [Act.put, List.setIfInBounds_toArray, List.set_cons_zero, List.set_cons_succ, i64_w, i32_w]
                                              rfl
                                            exact norm_ (by first | (simp only [putAll, Act.put, List.setIfInBounds_toArray, List.set_cons_zero, List.set_cons_succ]; done) | (simp only [putAll, Act.put, List.setIfInBounds_toArray, List.set_cons_zero, List.set_cons_succ]; rfl)) (hJ2 () _ ⟨(by (with_reducible repeat (first | refine blk_drewN ?_ _ | refine blk_drew ?_ | refine blk_alloc ?_ _)); exact BK115.out), (by repeat (first | (with_reducible first | exact HB.out | apply below_alloc | apply pw_below_drewN | apply below_drew1 | refine below_set ?_ GE115.out) | exact HB.out))⟩)
                                          · skip
                                            refine box_step ?hg (N := 4) ?hd (cs := #[.int .u64 0, .int .u64 0, .int .i64 0, .int .i64 0, .slice none 0 0]) (t := 106) ?hr ?_; (case hd => rfl); (case hg => rfl); (case hr => first | (go_simp; done) | (go_simp; rfl))
                                            intro gb128 hg w33 hbox hb
                                            have n0_ := Aside0.mk (blk_below (g := gb115) (o := .cells #[.int .u64 0, .int .u64 0, .int .i64 0, .int .i64 0, .slice none 0 0] 106 (0, 0)) (by (with_reducible repeat (first | refine blk_drewN ?_ _ | refine blk_drew ?_ | refine blk_alloc ?_ _)); exact BK115.out) hb)
                                            have n1_ := Aside0.mk (below_step (by repeat (first | (with_reducible first | exact HB.out | apply below_alloc | apply pw_below_drewN | apply below_drew1 | refine below_set ?_ GE115.out) | exact HB.out)) hb)
                                            have n2_ := Aside0.mk (hbox)
                                            have n3_ := Aside0.mk ((by rw [hg]; exact (below_size (by repeat (first | (with_reducible first | exact HB.out | apply below_alloc | apply pw_below_drewN | apply below_drew1 | refine below_set ?_ GE115.out) | exact HB.out))) : w.heap.size ≤ gb128))
                                            have n4_ := Aside0.mk ((by rw [hg]; exact (below_size (by repeat (first | (with_reducible first | exact HB.out | apply below_alloc | apply pw_below_drewN | apply below_drew1 | refine below_set ?_ GE115.out) | exact HB.out))) : w.heap.size ≤ gb128))
                                            have n5_ := Aside0.mk ((by rw [hg]; exact Nat.ne_of_lt (blk_lt (g := gb115) (o := .cells #[.int .u64 0, .int .u64 0, .int .i64 0, .int .i64 0, .slice none 0 0] 106 (0, 0)) (by (with_reducible repeat (first | refine blk_drewN ?_ _ | refine blk_drew ?_ | refine blk_alloc ?_ _)); exact BK115.out)) : gb115 ≠ gb128))
                                            have n6_ := Aside0.mk ((by rw [hg]; exact Nat.ne_of_gt (blk_lt (g := gb115) (o := .cells #[.int .u64 0, .int .u64 0, .int .i64 0, .int .i64 0, .slice none 0 0] 106 (0, 0)) (by (with_reducible repeat (first | refine blk_drewN ?_ _ | refine blk_drew ?_ | refine blk_alloc ?_ _)); exact BK115.out)) : gb128 ≠ gb115))
                                            clear BK115
                                            clear HB
                                            have BK115 := n0_
                                            have HB := n1_
                                            have BK128 := n2_
                                            have GW128 := n3_
                                            have GE128 := n4_
                                            have NB115_128 := n5_
                                            have NB128_115 := n6_
                                            clear n0_ n1_ n2_ n3_ n4_ n5_ n6_
                                            clear hb hbox hg
                                            refine hK.out _ _ trivial (fun hHeld => ?_)
                                            clear hK K
                                            refine norm_ (a' := ?_) ?_ ?_
                                            rotate_left
                                            · show Act.put _ (some 4) _ = _
                                              simp only [Act.put, List.setIfInBounds_toArray, List.set_cons_zero, List.set_cons_succ, i64_w, i32_w]
                                              rfl
                                            exact norm_ (by first | (simp only [putAll, Act.put, List.setIfInBounds_toArray, List.set_cons_zero, List.set_cons_succ]; done) | (simp only [putAll, Act.put, List.setIfInBounds_toArray, List.set_cons_zero, List.set_cons_succ]; rfl)) (hJ15 (gb128) _ ⟨(by (with_reducible repeat (first | refine blk_drewN ?_ _ | refine blk_drew ?_ | refine blk_alloc ?_ _)); exact BK115.out), (by (with_reducible repeat (first | refine blk_drewN ?_ _ | refine blk_drew ?_ | refine blk_alloc ?_ _)); exact BK128.out), GW128.out, GE128.out, NB115_128.out, NB128_115.out, (by repeat (first | (with_reducible first | exact HB.out | apply below_alloc | apply pw_below_drewN | apply below_drew1 | refine below_set ?_ GE115.out | refine below_set ?_ GE128.out) | exact HB.out))⟩)
                                        · skip
                                          rintro gb128 w34 ⟨h0_, h1_, h2_, h3_, h4_, h5_, h6_⟩
                                          have n0_ : Aside0 (w34.heap[gb115]? = some (.cells #[.int .u64 0, .int .u64 0, .int .i64 0, .int .i64 0, .slice none 0 0] 106 (0, 0))) := ⟨h0_⟩
                                          have n1_ : Aside0 (w34.heap[gb128]? = some (.cells #[.int .u64 0, .int .u64 0, .int .i64 0, .int .i64 0, .slice none 0 0] 106 (0, 0))) := ⟨h1_⟩
                                          have n2_ : Aside0 (w.heap.size ≤ gb128) := ⟨h2_⟩
                                          have n3_ : Aside0 (w.heap.size ≤ gb128) := ⟨h3_⟩
                                          have n4_ : Aside0 (gb115 ≠ gb128) := ⟨h4_⟩
                                          have n5_ : Aside0 (gb128 ≠ gb115) := ⟨h5_⟩
                                          have n6_ : Aside0 (Below w.heap.size w w34) := ⟨h6_⟩
                                          clear BK115
                                          clear HB
                                          clear h0_ h1_ h2_ h3_ h4_ h5_ h6_
                                          have BK115 := n0_
                                          have BK128 := n1_
                                          have GW128 := n2_
                                          have GE128 := n3_
                                          have NB115_128 := n4_
                                          have NB128_115 := n5_
                                          have HB := n6_
                                          clear n0_ n1_ n2_ n3_ n4_ n5_ n6_
                                          have hHeld := trivial
                                          refine norm_ (a' := ?_) ?_ ?_
                                          rotate_left
                                          · simp only [putAll, Act.put, List.setIfInBounds_toArray, List.set_cons_zero, List.set_cons_succ]
                                            rfl
                                          refine one_ (i := 2) (N := some 22) #[true, true, true, true, true, false, true, true, false, false, true, true, false, false, false, true, false] rfl rfl (one_of HT_.out (by kernel_rfl)) (by decide) (fun K hK => ?_)
                                          refine goes_ Try.func87 (by kernel_rfl) rfl #[.slice A0 (l0.take 8).length c0] (by rfl) rfl rfl (by (try simp only [List.map_toArray, List.map_cons, List.map_nil]); first | done | (rw [show (l0.take 8).length = 8 from (by rw [List.length_take]; have h_ : (8 : Int) ≤ (l0.length : Int) := of_decide_eq_true (by first | (with_reducible assumption) | assumption); omega)] <;> rfl) | rfl | (simp only [List.length_drop, List.length_take]; rfl)) ?_
                                          with_reducible refine (cell_number.calls kj1 _ _ (l0.take 8) t121 _ ?side1 ?side2 A16.out).mono ?_
                                          (case side1 => repeat (first | exact (Kd.C_below HR120.out HB.out) | (with_reducible refine Kd.C_alloc ?_ _) | (with_reducible refine Kd.C_drewN ?_ _) | (with_reducible refine Kd.C_drew ?_)))
                                          (case side2 => exact HC120.out)
                                          rintro e w' ⟨rfl, ⟨nd, rfl⟩⟩
                                          refine ⟨_, rfl, ?_⟩
                                          refine hK.out _ _ trivial (fun hHeld => ?_)
                                          clear hK K
                                          refine norm_ (a' := ?_) ?_ ?_
                                          rotate_left
                                          · show Act.put _ (some 22) _ = _
                                            simp only [Act.put, List.setIfInBounds_toArray, List.set_cons_zero, List.set_cons_succ, i64_w, i32_w]
                                            rfl
                                          exact norm_ (by first | (simp only [putAll, Act.put, List.setIfInBounds_toArray, List.set_cons_zero, List.set_cons_succ]; done) | (simp only [putAll, Act.put, List.setIfInBounds_toArray, List.set_cons_zero, List.set_cons_succ]; rfl)) (hJ2_15 (gb128) _ ⟨(by (with_reducible repeat (first | refine blk_drewN ?_ _ | refine blk_drew ?_ | refine blk_alloc ?_ _)); exact BK115.out), (by (with_reducible repeat (first | refine blk_drewN ?_ _ | refine blk_drew ?_ | refine blk_alloc ?_ _)); exact BK128.out), GW128.out, GE128.out, NB115_128.out, NB128_115.out, (by repeat (first | (with_reducible first | exact HB.out | apply below_alloc | apply pw_below_drewN | apply below_drew1 | refine below_set ?_ GE115.out | refine below_set ?_ GE128.out) | exact HB.out))⟩)
                                      · skip
                                        rintro _ w33 ⟨h0_, h1_⟩
                                        have n0_ : Aside0 (w33.heap[gb115]? = some (.cells #[.int .u64 0, .int .u64 0, .int .i64 0, .int .i64 0, .slice none 0 0] 106 (0, 0))) := ⟨h0_⟩
                                        have n1_ : Aside0 (Below w.heap.size w w33) := ⟨h1_⟩
                                        clear BK115
                                        clear HB
                                        clear h0_ h1_
                                        have BK115 := n0_
                                        have HB := n1_
                                        clear n0_ n1_
                                        have hHeld := trivial
                                        refine norm_ (a' := ?_) ?_ ?_
                                        rotate_left
                                        · simp only [putAll, Act.put, List.setIfInBounds_toArray, List.set_cons_zero, List.set_cons_succ]
                                          rfl
                                        refine two_ (i := 5) (j := 15) (Ni := some 25) (Nj := some 4) #[true, true, true, true, true, true, true, true, false, false, true, true, false, false, false, false, false] #[true, true, true, true, true, false, true, true, false, false, true, true, false, false, false, true, false] rfl rfl rfl rfl (two_of HT_.out (by kernel_rfl)) (by decide) (by decide) (fun K hK => ?_) (fun K hK => ?_)
                                        · skip
                                          refine goes_ Try.func87 (by kernel_rfl) rfl #[.slice A30 ((l0.take 16).drop 8).length (c0 - 8)] (by rfl) rfl rfl (by (try simp only [List.map_toArray, List.map_cons, List.map_nil]); first | done | (rw [show ((l0.take 16).drop 8).length = (16 - 8) from (by rw [List.length_drop, List.length_take]; have h_ : (16 : Int) ≤ (l0.length : Int) := of_decide_eq_true (by first | (with_reducible assumption) | assumption); omega)] <;> rfl) | rfl | (simp only [List.length_drop, List.length_take]; rfl)) ?_
                                          with_reducible refine (cell_number.calls kj1 _ _ ((l0.take 16).drop 8) t123 _ ?side1 ?side2 A19.out).mono ?_
                                          (case side1 => repeat (first | exact (Kd.C_below HR122.out HB.out) | (with_reducible refine Kd.C_alloc ?_ _) | (with_reducible refine Kd.C_drewN ?_ _) | (with_reducible refine Kd.C_drew ?_)))
                                          (case side2 => exact HC122.out)
                                          rintro e w' ⟨rfl, ⟨nd, rfl⟩⟩
                                          refine ⟨_, rfl, ?_⟩
                                          refine hK.out _ _ trivial (fun hHeld => ?_)
                                          clear hK K
                                          refine norm_ (a' := ?_) ?_ ?_
                                          rotate_left
                                          · show Act.put _ (some 25) _ = _
                                            simp only [Act.put, List.setIfInBounds_toArray, List.set_cons_zero, List.set_cons_succ, i64_w, i32_w]
                                            rfl
                                          exact norm_ (by first | (simp only [putAll, Act.put, List.setIfInBounds_toArray, List.set_cons_zero, List.set_cons_succ]; done) | (simp only [putAll, Act.put, List.setIfInBounds_toArray, List.set_cons_zero, List.set_cons_succ]; rfl)) (hJ2_5 () _ ⟨(by (with_reducible repeat (first | refine blk_drewN ?_ _ | refine blk_drew ?_ | refine blk_alloc ?_ _)); exact BK115.out), (by repeat (first | (with_reducible first | exact HB.out | apply below_alloc | apply pw_below_drewN | apply below_drew1 | refine below_set ?_ GE115.out) | exact HB.out))⟩)
                                        · skip
                                          refine box_step ?hg (N := 4) ?hd (cs := #[.int .u64 0, .int .u64 0, .int .i64 0, .int .i64 0, .slice none 0 0]) (t := 106) ?hr ?_; (case hd => rfl); (case hg => rfl); (case hr => first | (go_simp; done) | (go_simp; rfl))
                                          intro gb128 hg w34 hbox hb
                                          have n0_ := Aside0.mk (blk_below (g := gb115) (o := .cells #[.int .u64 0, .int .u64 0, .int .i64 0, .int .i64 0, .slice none 0 0] 106 (0, 0)) (by (with_reducible repeat (first | refine blk_drewN ?_ _ | refine blk_drew ?_ | refine blk_alloc ?_ _)); exact BK115.out) hb)
                                          have n1_ := Aside0.mk (below_step (by repeat (first | (with_reducible first | exact HB.out | apply below_alloc | apply pw_below_drewN | apply below_drew1 | refine below_set ?_ GE115.out) | exact HB.out)) hb)
                                          have n2_ := Aside0.mk (hbox)
                                          have n3_ := Aside0.mk ((by rw [hg]; exact (below_size (by repeat (first | (with_reducible first | exact HB.out | apply below_alloc | apply pw_below_drewN | apply below_drew1 | refine below_set ?_ GE115.out) | exact HB.out))) : w.heap.size ≤ gb128))
                                          have n4_ := Aside0.mk ((by rw [hg]; exact (below_size (by repeat (first | (with_reducible first | exact HB.out | apply below_alloc | apply pw_below_drewN | apply below_drew1 | refine below_set ?_ GE115.out) | exact HB.out))) : w.heap.size ≤ gb128))
                                          have n5_ := Aside0.mk ((by rw [hg]; exact Nat.ne_of_lt (blk_lt (g := gb115) (o := .cells #[.int .u64 0, .int .u64 0, .int .i64 0, .int .i64 0, .slice none 0 0] 106 (0, 0)) (by (with_reducible repeat (first | refine blk_drewN ?_ _ | refine blk_drew ?_ | refine blk_alloc ?_ _)); exact BK115.out)) : gb115 ≠ gb128))
                                          have n6_ := Aside0.mk ((by rw [hg]; exact Nat.ne_of_gt (blk_lt (g := gb115) (o := .cells #[.int .u64 0, .int .u64 0, .int .i64 0, .int .i64 0, .slice none 0 0] 106 (0, 0)) (by (with_reducible repeat (first | refine blk_drewN ?_ _ | refine blk_drew ?_ | refine blk_alloc ?_ _)); exact BK115.out)) : gb128 ≠ gb115))
                                          clear BK115
                                          clear HB
                                          have BK115 := n0_
                                          have HB := n1_
                                          have BK128 := n2_
                                          have GW128 := n3_
                                          have GE128 := n4_
                                          have NB115_128 := n5_
                                          have NB128_115 := n6_
                                          clear n0_ n1_ n2_ n3_ n4_ n5_ n6_
                                          clear hb hbox hg
                                          refine hK.out _ _ trivial (fun hHeld => ?_)
                                          clear hK K
                                          refine norm_ (a' := ?_) ?_ ?_
                                          rotate_left
                                          · show Act.put _ (some 4) _ = _
                                            simp only [Act.put, List.setIfInBounds_toArray, List.set_cons_zero, List.set_cons_succ, i64_w, i32_w]
                                            rfl
                                          exact norm_ (by first | (simp only [putAll, Act.put, List.setIfInBounds_toArray, List.set_cons_zero, List.set_cons_succ]; done) | (simp only [putAll, Act.put, List.setIfInBounds_toArray, List.set_cons_zero, List.set_cons_succ]; rfl)) (hJ2_15 (gb128) _ ⟨(by (with_reducible repeat (first | refine blk_drewN ?_ _ | refine blk_drew ?_ | refine blk_alloc ?_ _)); exact BK115.out), (by (with_reducible repeat (first | refine blk_drewN ?_ _ | refine blk_drew ?_ | refine blk_alloc ?_ _)); exact BK128.out), GW128.out, GE128.out, NB115_128.out, NB128_115.out, (by repeat (first | (with_reducible first | exact HB.out | apply below_alloc | apply pw_below_drewN | apply below_drew1 | refine below_set ?_ GE115.out | refine below_set ?_ GE128.out) | exact HB.out))⟩)
                                    · skip
                                      rintro gb128 w34 ⟨h0_, h1_, h2_, h3_, h4_, h5_, h6_⟩
                                      have n0_ : Aside0 (w34.heap[gb115]? = some (.cells #[.int .u64 0, .int .u64 0, .int .i64 0, .int .i64 0, .slice none 0 0] 106 (0, 0))) := ⟨h0_⟩
                                      have n1_ : Aside0 (w34.heap[gb128]? = some (.cells #[.int .u64 0, .int .u64 0, .int .i64 0, .int .i64 0, .slice none 0 0] 106 (0, 0))) := ⟨h1_⟩
                                      have n2_ : Aside0 (w.heap.size ≤ gb128) := ⟨h2_⟩
                                      have n3_ : Aside0 (w.heap.size ≤ gb128) := ⟨h3_⟩
                                      have n4_ : Aside0 (gb115 ≠ gb128) := ⟨h4_⟩
                                      have n5_ : Aside0 (gb128 ≠ gb115) := ⟨h5_⟩
                                      have n6_ : Aside0 (Below w.heap.size w w34) := ⟨h6_⟩
                                      clear BK115
                                      clear HB
                                      clear h0_ h1_ h2_ h3_ h4_ h5_ h6_
                                      have BK115 := n0_
                                      have BK128 := n1_
                                      have GW128 := n2_
                                      have GE128 := n3_
                                      have NB115_128 := n4_
                                      have NB128_115 := n5_
                                      have HB := n6_
                                      clear n0_ n1_ n2_ n3_ n4_ n5_ n6_
                                      have hHeld := trivial
                                      refine norm_ (a' := ?_) ?_ ?_
                                      rotate_left
                                      · simp only [putAll, Act.put, List.setIfInBounds_toArray, List.set_cons_zero, List.set_cons_succ]
                                        rfl
                                      refine one_ (i := 5) (N := some 25) #[true, true, true, true, true, true, true, true, false, false, true, true, false, false, false, true, false] rfl rfl (one_of HT_.out (by kernel_rfl)) (by decide) (fun K hK => ?_)
                                      refine goes_ Try.func87 (by kernel_rfl) rfl #[.slice A30 ((l0.take 16).drop 8).length (c0 - 8)] (by rfl) rfl rfl (by (try simp only [List.map_toArray, List.map_cons, List.map_nil]); first | done | (rw [show ((l0.take 16).drop 8).length = (16 - 8) from (by rw [List.length_drop, List.length_take]; have h_ : (16 : Int) ≤ (l0.length : Int) := of_decide_eq_true (by first | (with_reducible assumption) | assumption); omega)] <;> rfl) | rfl | (simp only [List.length_drop, List.length_take]; rfl)) ?_
                                      with_reducible refine (cell_number.calls kj1 _ _ ((l0.take 16).drop 8) t123 _ ?side1 ?side2 A19.out).mono ?_
                                      (case side1 => repeat (first | exact (Kd.C_below HR122.out HB.out) | (with_reducible refine Kd.C_alloc ?_ _) | (with_reducible refine Kd.C_drewN ?_ _) | (with_reducible refine Kd.C_drew ?_)))
                                      (case side2 => exact HC122.out)
                                      rintro e w' ⟨rfl, ⟨nd, rfl⟩⟩
                                      refine ⟨_, rfl, ?_⟩
                                      refine hK.out _ _ trivial (fun hHeld => ?_)
                                      clear hK K
                                      refine norm_ (a' := ?_) ?_ ?_
                                      rotate_left
                                      · show Act.put _ (some 25) _ = _
                                        simp only [Act.put, List.setIfInBounds_toArray, List.set_cons_zero, List.set_cons_succ, i64_w, i32_w]
                                        rfl
                                      exact norm_ (by first | (simp only [putAll, Act.put, List.setIfInBounds_toArray, List.set_cons_zero, List.set_cons_succ]; done) | (simp only [putAll, Act.put, List.setIfInBounds_toArray, List.set_cons_zero, List.set_cons_succ]; rfl)) (hJ2_5_15 (gb128) _ ⟨(by (with_reducible repeat (first | refine blk_drewN ?_ _ | refine blk_drew ?_ | refine blk_alloc ?_ _)); exact BK115.out), (by (with_reducible repeat (first | refine blk_drewN ?_ _ | refine blk_drew ?_ | refine blk_alloc ?_ _)); exact BK128.out), GW128.out, GE128.out, NB115_128.out, NB128_115.out, (by repeat (first | (with_reducible first | exact HB.out | apply below_alloc | apply pw_below_drewN | apply below_drew1 | refine below_set ?_ GE115.out | refine below_set ?_ GE128.out) | exact HB.out))⟩)
                                  · skip
                                    rintro _ w33 ⟨h0_, h1_⟩
                                    have n0_ : Aside0 (w33.heap[gb115]? = some (.cells #[.int .u64 0, .int .u64 0, .int .i64 0, .int .i64 0, .slice none 0 0] 106 (0, 0))) := ⟨h0_⟩
                                    have n1_ : Aside0 (Below w.heap.size w w33) := ⟨h1_⟩
                                    clear BK115
                                    clear HB
                                    clear h0_ h1_
                                    have BK115 := n0_
                                    have HB := n1_
                                    clear n0_ n1_
                                    have hHeld := trivial
                                    refine norm_ (a' := ?_) ?_ ?_
                                    rotate_left
                                    · simp only [putAll, Act.put, List.setIfInBounds_toArray, List.set_cons_zero, List.set_cons_succ]
                                      rfl
                                    refine two_ (i := 8) (j := 15) (Ni := some 28) (Nj := some 4) #[true, true, true, true, true, true, true, true, true, false, true, true, false, false, false, false, false] #[true, true, true, true, true, true, true, true, false, false, true, true, false, false, false, true, false] rfl rfl rfl rfl (two_of HT_.out (by kernel_rfl)) (by decide) (by decide) (fun K hK => ?_) (fun K hK => ?_)
                                    · skip
                                      refine goes_ Try.func87 (by kernel_rfl) rfl #[.slice A31 ((l0.take 18).drop 16).length (c0 - 16)] (by rfl) rfl rfl (by (try simp only [List.map_toArray, List.map_cons, List.map_nil]); first | done | (rw [show ((l0.take 18).drop 16).length = (18 - 16) from (by rw [List.length_drop, List.length_take]; have h_ : (18 : Int) ≤ (l0.length : Int) := of_decide_eq_true (by first | (with_reducible assumption) | assumption); omega)] <;> rfl) | rfl | (simp only [List.length_drop, List.length_take]; rfl)) ?_
                                      with_reducible refine (cell_number.calls kj1 _ _ ((l0.take 18).drop 16) t125 _ ?side1 ?side2 A22.out).mono ?_
                                      (case side1 => repeat (first | exact (Kd.C_below HR124.out HB.out) | (with_reducible refine Kd.C_alloc ?_ _) | (with_reducible refine Kd.C_drewN ?_ _) | (with_reducible refine Kd.C_drew ?_)))
                                      (case side2 => exact HC124.out)
                                      rintro e w' ⟨rfl, ⟨nd, rfl⟩⟩
                                      refine ⟨_, rfl, ?_⟩
                                      refine hK.out _ _ trivial (fun hHeld => ?_)
                                      clear hK K
                                      refine norm_ (a' := ?_) ?_ ?_
                                      rotate_left
                                      · show Act.put _ (some 28) _ = _
                                        simp only [Act.put, List.setIfInBounds_toArray, List.set_cons_zero, List.set_cons_succ, i64_w, i32_w]
                                        rfl
                                      refine pure_ (i := 9) (N := some 29) (v := ?_) (a' := ?_) #[true, true, true, true, true, true, true, true, true, true, true, true, false, false, false, false, false] rfl rfl (any_of HT_.out (by kernel_rfl)) (fun _ _ _ h => h) (Or.inl ⟨by rfl, ?_⟩) ?_ ?_
                                      rotate_left
                                      · intro w'
                                        go_simp
                                        with_reducible rfl
                                      rotate_left
                                      · simp only [Act.put, List.setIfInBounds_toArray, List.set_cons_zero, List.set_cons_succ, i64_w, i32_w]
                                        rfl
                                      exact norm_ (by first | (simp only [putAll, Act.put, List.setIfInBounds_toArray, List.set_cons_zero, List.set_cons_succ]; done) | (simp only [putAll, Act.put, List.setIfInBounds_toArray, List.set_cons_zero, List.set_cons_succ]; rfl)) (hJ2_5_8 () _ ⟨(by (with_reducible repeat (first | refine blk_drewN ?_ _ | refine blk_drew ?_ | refine blk_alloc ?_ _)); exact BK115.out), (by repeat (first | (with_reducible first | exact HB.out | apply below_alloc | apply pw_below_drewN | apply below_drew1 | refine below_set ?_ GE115.out) | exact HB.out))⟩)
                                    · skip
                                      refine box_step ?hg (N := 4) ?hd (cs := #[.int .u64 0, .int .u64 0, .int .i64 0, .int .i64 0, .slice none 0 0]) (t := 106) ?hr ?_; (case hd => rfl); (case hg => rfl); (case hr => first | (go_simp; done) | (go_simp; rfl))
                                      intro gb128 hg w34 hbox hb
                                      have n0_ := Aside0.mk (blk_below (g := gb115) (o := .cells #[.int .u64 0, .int .u64 0, .int .i64 0, .int .i64 0, .slice none 0 0] 106 (0, 0)) (by (with_reducible repeat (first | refine blk_drewN ?_ _ | refine blk_drew ?_ | refine blk_alloc ?_ _)); exact BK115.out) hb)
                                      have n1_ := Aside0.mk (below_step (by repeat (first | (with_reducible first | exact HB.out | apply below_alloc | apply pw_below_drewN | apply below_drew1 | refine below_set ?_ GE115.out) | exact HB.out)) hb)
                                      have n2_ := Aside0.mk (hbox)
                                      have n3_ := Aside0.mk ((by rw [hg]; exact (below_size (by repeat (first | (with_reducible first | exact HB.out | apply below_alloc | apply pw_below_drewN | apply below_drew1 | refine below_set ?_ GE115.out) | exact HB.out))) : w.heap.size ≤ gb128))
                                      have n4_ := Aside0.mk ((by rw [hg]; exact (below_size (by repeat (first | (with_reducible first | exact HB.out | apply below_alloc | apply pw_below_drewN | apply below_drew1 | refine below_set ?_ GE115.out) | exact HB.out))) : w.heap.size ≤ gb128))
                                      have n5_ := Aside0.mk ((by rw [hg]; exact Nat.ne_of_lt (blk_lt (g := gb115) (o := .cells #[.int .u64 0, .int .u64 0, .int .i64 0, .int .i64 0, .slice none 0 0] 106 (0, 0)) (by (with_reducible repeat (first | refine blk_drewN ?_ _ | refine blk_drew ?_ | refine blk_alloc ?_ _)); exact BK115.out)) : gb115 ≠ gb128))
                                      have n6_ := Aside0.mk ((by rw [hg]; exact Nat.ne_of_gt (blk_lt (g := gb115) (o := .cells #[.int .u64 0, .int .u64 0, .int .i64 0, .int .i64 0, .slice none 0 0] 106 (0, 0)) (by (with_reducible repeat (first | refine blk_drewN ?_ _ | refine blk_drew ?_ | refine blk_alloc ?_ _)); exact BK115.out)) : gb128 ≠ gb115))
                                      clear BK115
                                      clear HB
                                      have BK115 := n0_
                                      have HB := n1_
                                      have BK128 := n2_
                                      have GW128 := n3_
                                      have GE128 := n4_
                                      have NB115_128 := n5_
                                      have NB128_115 := n6_
                                      clear n0_ n1_ n2_ n3_ n4_ n5_ n6_
                                      clear hb hbox hg
                                      refine hK.out _ _ trivial (fun hHeld => ?_)
                                      clear hK K
                                      refine norm_ (a' := ?_) ?_ ?_
                                      rotate_left
                                      · show Act.put _ (some 4) _ = _
                                        simp only [Act.put, List.setIfInBounds_toArray, List.set_cons_zero, List.set_cons_succ, i64_w, i32_w]
                                        rfl
                                      exact norm_ (by first | (simp only [putAll, Act.put, List.setIfInBounds_toArray, List.set_cons_zero, List.set_cons_succ]; done) | (simp only [putAll, Act.put, List.setIfInBounds_toArray, List.set_cons_zero, List.set_cons_succ]; rfl)) (hJ2_5_15 (gb128) _ ⟨(by (with_reducible repeat (first | refine blk_drewN ?_ _ | refine blk_drew ?_ | refine blk_alloc ?_ _)); exact BK115.out), (by (with_reducible repeat (first | refine blk_drewN ?_ _ | refine blk_drew ?_ | refine blk_alloc ?_ _)); exact BK128.out), GW128.out, GE128.out, NB115_128.out, NB128_115.out, (by repeat (first | (with_reducible first | exact HB.out | apply below_alloc | apply pw_below_drewN | apply below_drew1 | refine below_set ?_ GE115.out | refine below_set ?_ GE128.out) | exact HB.out))⟩)
                                · skip
                                  rintro gb128 w34 ⟨h0_, h1_, h2_, h3_, h4_, h5_, h6_⟩
                                  have n0_ : Aside0 (w34.heap[gb115]? = some (.cells #[.int .u64 0, .int .u64 0, .int .i64 0, .int .i64 0, .slice none 0 0] 106 (0, 0))) := ⟨h0_⟩
                                  have n1_ : Aside0 (w34.heap[gb128]? = some (.cells #[.int .u64 0, .int .u64 0, .int .i64 0, .int .i64 0, .slice none 0 0] 106 (0, 0))) := ⟨h1_⟩
                                  have n2_ : Aside0 (w.heap.size ≤ gb128) := ⟨h2_⟩
                                  have n3_ : Aside0 (w.heap.size ≤ gb128) := ⟨h3_⟩
                                  have n4_ : Aside0 (gb115 ≠ gb128) := ⟨h4_⟩
                                  have n5_ : Aside0 (gb128 ≠ gb115) := ⟨h5_⟩
                                  have n6_ : Aside0 (Below w.heap.size w w34) := ⟨h6_⟩
                                  clear BK115
                                  clear HB
                                  clear h0_ h1_ h2_ h3_ h4_ h5_ h6_
                                  have BK115 := n0_
                                  have BK128 := n1_
                                  have GW128 := n2_
                                  have GE128 := n3_
                                  have NB115_128 := n4_
                                  have NB128_115 := n5_
                                  have HB := n6_
                                  clear n0_ n1_ n2_ n3_ n4_ n5_ n6_
                                  have hHeld := trivial
                                  refine norm_ (a' := ?_) ?_ ?_
                                  rotate_left
                                  · simp only [putAll, Act.put, List.setIfInBounds_toArray, List.set_cons_zero, List.set_cons_succ]
                                    rfl
                                  refine one_ (i := 8) (N := some 28) #[true, true, true, true, true, true, true, true, true, false, true, true, false, false, false, true, false] rfl rfl (one_of HT_.out (by kernel_rfl)) (by decide) (fun K hK => ?_)
                                  refine goes_ Try.func87 (by kernel_rfl) rfl #[.slice A31 ((l0.take 18).drop 16).length (c0 - 16)] (by rfl) rfl rfl (by (try simp only [List.map_toArray, List.map_cons, List.map_nil]); first | done | (rw [show ((l0.take 18).drop 16).length = (18 - 16) from (by rw [List.length_drop, List.length_take]; have h_ : (18 : Int) ≤ (l0.length : Int) := of_decide_eq_true (by first | (with_reducible assumption) | assumption); omega)] <;> rfl) | rfl | (simp only [List.length_drop, List.length_take]; rfl)) ?_
                                  with_reducible refine (cell_number.calls kj1 _ _ ((l0.take 18).drop 16) t125 _ ?side1 ?side2 A22.out).mono ?_
                                  (case side1 => repeat (first | exact (Kd.C_below HR124.out HB.out) | (with_reducible refine Kd.C_alloc ?_ _) | (with_reducible refine Kd.C_drewN ?_ _) | (with_reducible refine Kd.C_drew ?_)))
                                  (case side2 => exact HC124.out)
                                  rintro e w' ⟨rfl, ⟨nd, rfl⟩⟩
                                  refine ⟨_, rfl, ?_⟩
                                  refine hK.out _ _ trivial (fun hHeld => ?_)
                                  clear hK K
                                  refine norm_ (a' := ?_) ?_ ?_
                                  rotate_left
                                  · show Act.put _ (some 28) _ = _
                                    simp only [Act.put, List.setIfInBounds_toArray, List.set_cons_zero, List.set_cons_succ, i64_w, i32_w]
                                    rfl
                                  refine pure_ (i := 9) (N := some 29) (v := ?_) (a' := ?_) #[true, true, true, true, true, true, true, true, true, true, true, true, false, false, false, true, false] rfl rfl (any_of HT_.out (by kernel_rfl)) (fun _ _ _ h => h) (Or.inl ⟨by rfl, ?_⟩) ?_ ?_
                                  rotate_left
                                  · intro w'
                                    go_simp
                                    with_reducible rfl
                                  rotate_left
                                  · simp only [Act.put, List.setIfInBounds_toArray, List.set_cons_zero, List.set_cons_succ, i64_w, i32_w]
                                    rfl
                                  exact norm_ (by first | (simp only [putAll, Act.put, List.setIfInBounds_toArray, List.set_cons_zero, List.set_cons_succ]; done) | (simp only [putAll, Act.put, List.setIfInBounds_toArray, List.set_cons_zero, List.set_cons_succ]; rfl)) (hJ2_5_8_15 (gb128) _ ⟨(by (with_reducible repeat (first | refine blk_drewN ?_ _ | refine blk_drew ?_ | refine blk_alloc ?_ _)); exact BK115.out), (by (with_reducible repeat (first | refine blk_drewN ?_ _ | refine blk_drew ?_ | refine blk_alloc ?_ _)); exact BK128.out), GW128.out, GE128.out, NB115_128.out, NB128_115.out, (by repeat (first | (with_reducible first | exact HB.out | apply below_alloc | apply pw_below_drewN | apply below_drew1 | refine below_set ?_ GE115.out | refine below_set ?_ GE128.out) | exact HB.out))⟩)
                              · skip
                                rintro _ w33 ⟨h0_, h1_⟩
                                have n0_ : Aside0 (w33.heap[gb115]? = some (.cells #[.int .u64 0, .int .u64 0, .int .i64 0, .int .i64 0, .slice none 0 0] 106 (0, 0))) := ⟨h0_⟩
                                have n1_ : Aside0 (Below w.heap.size w w33) := ⟨h1_⟩
                                clear BK115
                                clear HB
                                clear h0_ h1_
                                have BK115 := n0_
                                have HB := n1_
                                clear n0_ n1_
                                have hHeld := trivial
                                refine norm_ (a' := ?_) ?_ ?_
                                rotate_left
                                · simp only [putAll, Act.put, List.setIfInBounds_toArray, List.set_cons_zero, List.set_cons_succ]
                                  rfl
                                refine two_ (i := 12) (j := 15) (Ni := some 32) (Nj := some 4) #[true, true, true, true, true, true, true, true, true, true, true, true, true, false, false, false, false] #[true, true, true, true, true, true, true, true, true, true, true, true, false, false, false, true, false] rfl rfl rfl rfl (two_of HT_.out (by kernel_rfl)) (by decide) (by decide) (fun K hK => ?_) (fun K hK => ?_)
                                · skip
                                  refine goes_ Try.func87 (by kernel_rfl) rfl #[.slice A32 ((l0.take 20).drop 18).length (c0 - 18)] (by rfl) rfl rfl (by (try simp only [List.map_toArray, List.map_cons, List.map_nil]); first | done | (rw [show ((l0.take 20).drop 18).length = (20 - 18) from (by rw [List.length_drop, List.length_take]; have h_ : (20 : Int) ≤ (l0.length : Int) := of_decide_eq_true (by first | (with_reducible assumption) | assumption); omega)] <;> rfl) | rfl | (simp only [List.length_drop, List.length_take]; rfl)) ?_
                                  with_reducible refine (cell_number.calls kj1 _ _ ((l0.take 20).drop 18) t127 _ ?side1 ?side2 A25.out).mono ?_
                                  (case side1 => repeat (first | exact (Kd.C_below HR126.out HB.out) | (with_reducible refine Kd.C_alloc ?_ _) | (with_reducible refine Kd.C_drewN ?_ _) | (with_reducible refine Kd.C_drew ?_)))
                                  (case side2 => exact HC126.out)
                                  rintro e w' ⟨rfl, ⟨nd, rfl⟩⟩
                                  refine ⟨_, rfl, ?_⟩
                                  refine hK.out _ _ trivial (fun hHeld => ?_)
                                  clear hK K
                                  refine norm_ (a' := ?_) ?_ ?_
                                  rotate_left
                                  · show Act.put _ (some 32) _ = _
                                    simp only [Act.put, List.setIfInBounds_toArray, List.set_cons_zero, List.set_cons_succ, i64_w, i32_w]
                                    rfl
                                  refine pure_ (i := 13) (N := some 33) (v := ?_) (a' := ?_) #[true, true, true, true, true, true, true, true, true, true, true, true, true, true, false, false, false] rfl rfl (any_of HT_.out (by kernel_rfl)) (fun _ _ _ h => h) (Or.inl ⟨by rfl, ?_⟩) ?_ ?_
                                  rotate_left
                                  · intro w'
                                    go_simp
                                    with_reducible rfl
                                  rotate_left
                                  · simp only [Act.put, List.setIfInBounds_toArray, List.set_cons_zero, List.set_cons_succ, i64_w, i32_w]
                                    rfl
                                  refine pure_ (i := 14) (N := some 34) (v := ?_) (a' := ?_) #[true, true, true, true, true, true, true, true, true, true, true, true, true, true, true, false, false] rfl rfl (any_of HT_.out (by kernel_rfl)) (fun _ _ _ h => h) (Or.inl ⟨by rfl, ?_⟩) ?_ ?_
                                  rotate_left
                                  · intro w'
                                    go_simp
                                    with_reducible rfl
                                  rotate_left
                                  · simp only [Act.put, List.setIfInBounds_toArray, List.set_cons_zero, List.set_cons_succ, i64_w, i32_w]
                                    rfl
                                  exact norm_ (by first | (simp only [putAll, Act.put, List.setIfInBounds_toArray, List.set_cons_zero, List.set_cons_succ]; done) | (simp only [putAll, Act.put, List.setIfInBounds_toArray, List.set_cons_zero, List.set_cons_succ]; rfl)) (hJ2_5_8_12 () _ ⟨(by (with_reducible repeat (first | refine blk_drewN ?_ _ | refine blk_drew ?_ | refine blk_alloc ?_ _)); exact BK115.out), (by repeat (first | (with_reducible first | exact HB.out | apply below_alloc | apply pw_below_drewN | apply below_drew1 | refine below_set ?_ GE115.out) | exact HB.out))⟩)
                                · skip
                                  refine box_step ?hg (N := 4) ?hd (cs := #[.int .u64 0, .int .u64 0, .int .i64 0, .int .i64 0, .slice none 0 0]) (t := 106) ?hr ?_; (case hd => rfl); (case hg => rfl); (case hr => first | (go_simp; done) | (go_simp; rfl))
                                  intro gb128 hg w34 hbox hb
                                  have n0_ := Aside0.mk (blk_below (g := gb115) (o := .cells #[.int .u64 0, .int .u64 0, .int .i64 0, .int .i64 0, .slice none 0 0] 106 (0, 0)) (by (with_reducible repeat (first | refine blk_drewN ?_ _ | refine blk_drew ?_ | refine blk_alloc ?_ _)); exact BK115.out) hb)
                                  have n1_ := Aside0.mk (below_step (by repeat (first | (with_reducible first | exact HB.out | apply below_alloc | apply pw_below_drewN | apply below_drew1 | refine below_set ?_ GE115.out) | exact HB.out)) hb)
                                  have n2_ := Aside0.mk (hbox)
                                  have n3_ := Aside0.mk ((by rw [hg]; exact (below_size (by repeat (first | (with_reducible first | exact HB.out | apply below_alloc | apply pw_below_drewN | apply below_drew1 | refine below_set ?_ GE115.out) | exact HB.out))) : w.heap.size ≤ gb128))
                                  have n4_ := Aside0.mk ((by rw [hg]; exact (below_size (by repeat (first | (with_reducible first | exact HB.out | apply below_alloc | apply pw_below_drewN | apply below_drew1 | refine below_set ?_ GE115.out) | exact HB.out))) : w.heap.size ≤ gb128))
                                  have n5_ := Aside0.mk ((by rw [hg]; exact Nat.ne_of_lt (blk_lt (g := gb115) (o := .cells #[.int .u64 0, .int .u64 0, .int .i64 0, .int .i64 0, .slice none 0 0] 106 (0, 0)) (by (with_reducible repeat (first | refine blk_drewN ?_ _ | refine blk_drew ?_ | refine blk_alloc ?_ _)); exact BK115.out)) : gb115 ≠ gb128))
                                  have n6_ := Aside0.mk ((by rw [hg]; exact Nat.ne_of_gt (blk_lt (g := gb115) (o := .cells #[.int .u64 0, .int .u64 0, .int .i64 0, .int .i64 0, .slice none 0 0] 106 (0, 0)) (by (with_reducible repeat (first | refine blk_drewN ?_ _ | refine blk_drew ?_ | refine blk_alloc ?_ _)); exact BK115.out)) : gb128 ≠ gb115))
                                  clear BK115
                                  clear HB
                                  have BK115 := n0_
                                  have HB := n1_
                                  have BK128 := n2_
                                  have GW128 := n3_
                                  have GE128 := n4_
                                  have NB115_128 := n5_
                                  have NB128_115 := n6_
                                  clear n0_ n1_ n2_ n3_ n4_ n5_ n6_
                                  clear hb hbox hg
                                  refine hK.out _ _ trivial (fun hHeld => ?_)
                                  clear hK K
                                  refine norm_ (a' := ?_) ?_ ?_
                                  rotate_left
                                  · show Act.put _ (some 4) _ = _
                                    simp only [Act.put, List.setIfInBounds_toArray, List.set_cons_zero, List.set_cons_succ, i64_w, i32_w]
                                    rfl
                                  exact norm_ (by first | (simp only [putAll, Act.put, List.setIfInBounds_toArray, List.set_cons_zero, List.set_cons_succ]; done) | (simp only [putAll, Act.put, List.setIfInBounds_toArray, List.set_cons_zero, List.set_cons_succ]; rfl)) (hJ2_5_8_15 (gb128) _ ⟨(by (with_reducible repeat (first | refine blk_drewN ?_ _ | refine blk_drew ?_ | refine blk_alloc ?_ _)); exact BK115.out), (by (with_reducible repeat (first | refine blk_drewN ?_ _ | refine blk_drew ?_ | refine blk_alloc ?_ _)); exact BK128.out), GW128.out, GE128.out, NB115_128.out, NB128_115.out, (by repeat (first | (with_reducible first | exact HB.out | apply below_alloc | apply pw_below_drewN | apply below_drew1 | refine below_set ?_ GE115.out | refine below_set ?_ GE128.out) | exact HB.out))⟩)
                            · skip
                              rintro gb128 w34 ⟨h0_, h1_, h2_, h3_, h4_, h5_, h6_⟩
                              have n0_ : Aside0 (w34.heap[gb115]? = some (.cells #[.int .u64 0, .int .u64 0, .int .i64 0, .int .i64 0, .slice none 0 0] 106 (0, 0))) := ⟨h0_⟩
                              have n1_ : Aside0 (w34.heap[gb128]? = some (.cells #[.int .u64 0, .int .u64 0, .int .i64 0, .int .i64 0, .slice none 0 0] 106 (0, 0))) := ⟨h1_⟩
                              have n2_ : Aside0 (w.heap.size ≤ gb128) := ⟨h2_⟩
                              have n3_ : Aside0 (w.heap.size ≤ gb128) := ⟨h3_⟩
                              have n4_ : Aside0 (gb115 ≠ gb128) := ⟨h4_⟩
                              have n5_ : Aside0 (gb128 ≠ gb115) := ⟨h5_⟩
                              have n6_ : Aside0 (Below w.heap.size w w34) := ⟨h6_⟩
                              clear BK115
                              clear HB
                              clear h0_ h1_ h2_ h3_ h4_ h5_ h6_
                              have BK115 := n0_
                              have BK128 := n1_
                              have GW128 := n2_
                              have GE128 := n3_
                              have NB115_128 := n4_
                              have NB128_115 := n5_
                              have HB := n6_
                              clear n0_ n1_ n2_ n3_ n4_ n5_ n6_
                              have hHeld := trivial
                              refine norm_ (a' := ?_) ?_ ?_
                              rotate_left
                              · simp only [putAll, Act.put, List.setIfInBounds_toArray, List.set_cons_zero, List.set_cons_succ]
                                rfl
                              refine one_ (i := 12) (N := some 32) #[true, true, true, true, true, true, true, true, true, true, true, true, true, false, false, true, false] rfl rfl (one_of HT_.out (by kernel_rfl)) (by decide) (fun K hK => ?_)
                              refine goes_ Try.func87 (by kernel_rfl) rfl #[.slice A32 ((l0.take 20).drop 18).length (c0 - 18)] (by rfl) rfl rfl (by (try simp only [List.map_toArray, List.map_cons, List.map_nil]); first | done | (rw [show ((l0.take 20).drop 18).length = (20 - 18) from (by rw [List.length_drop, List.length_take]; have h_ : (20 : Int) ≤ (l0.length : Int) := of_decide_eq_true (by first | (with_reducible assumption) | assumption); omega)] <;> rfl) | rfl | (simp only [List.length_drop, List.length_take]; rfl)) ?_
                              with_reducible refine (cell_number.calls kj1 _ _ ((l0.take 20).drop 18) t127 _ ?side1 ?side2 A25.out).mono ?_
                              (case side1 => repeat (first | exact (Kd.C_below HR126.out HB.out) | (with_reducible refine Kd.C_alloc ?_ _) | (with_reducible refine Kd.C_drewN ?_ _) | (with_reducible refine Kd.C_drew ?_)))
                              (case side2 => exact HC126.out)
                              rintro e w' ⟨rfl, ⟨nd, rfl⟩⟩
                              refine ⟨_, rfl, ?_⟩
                              refine hK.out _ _ trivial (fun hHeld => ?_)
                              clear hK K
                              refine norm_ (a' := ?_) ?_ ?_
                              rotate_left
                              · show Act.put _ (some 32) _ = _
                                simp only [Act.put, List.setIfInBounds_toArray, List.set_cons_zero, List.set_cons_succ, i64_w, i32_w]
                                rfl
                              refine pure_ (i := 13) (N := some 33) (v := ?_) (a' := ?_) #[true, true, true, true, true, true, true, true, true, true, true, true, true, true, false, true, false] rfl rfl (any_of HT_.out (by kernel_rfl)) (fun _ _ _ h => h) (Or.inl ⟨by rfl, ?_⟩) ?_ ?_
                              rotate_left
                              · intro w'
                                go_simp
                                with_reducible rfl
                              rotate_left
                              · simp only [Act.put, List.setIfInBounds_toArray, List.set_cons_zero, List.set_cons_succ, i64_w, i32_w]
                                rfl
                              refine pure_ (i := 14) (N := some 34) (v := ?_) (a' := ?_) #[true, true, true, true, true, true, true, true, true, true, true, true, true, true, true, true, false] rfl rfl (any_of HT_.out (by kernel_rfl)) (fun _ _ _ h => h) (Or.inl ⟨by rfl, ?_⟩) ?_ ?_
                              rotate_left
                              · intro w'
                                go_simp
                                with_reducible rfl
                              rotate_left
                              · simp only [Act.put, List.setIfInBounds_toArray, List.set_cons_zero, List.set_cons_succ, i64_w, i32_w]
                                rfl
                              exact norm_ (by first | (simp only [putAll, Act.put, List.setIfInBounds_toArray, List.set_cons_zero, List.set_cons_succ]; done) | (simp only [putAll, Act.put, List.setIfInBounds_toArray, List.set_cons_zero, List.set_cons_succ]; rfl)) (hJ2_5_8_12_15 (gb128) _ ⟨(by (with_reducible repeat (first | refine blk_drewN ?_ _ | refine blk_drew ?_ | refine blk_alloc ?_ _)); exact BK115.out), (by (with_reducible repeat (first | refine blk_drewN ?_ _ | refine blk_drew ?_ | refine blk_alloc ?_ _)); exact BK128.out), GW128.out, GE128.out, NB115_128.out, NB128_115.out, (by repeat (first | (with_reducible first | exact HB.out | apply below_alloc | apply pw_below_drewN | apply below_drew1 | refine below_set ?_ GE115.out | refine below_set ?_ GE128.out) | exact HB.out))⟩)
                          · skip
                            rintro _ w33 ⟨h0_, h1_⟩
                            have n0_ : Aside0 (w33.heap[gb115]? = some (.cells #[.int .u64 0, .int .u64 0, .int .i64 0, .int .i64 0, .slice none 0 0] 106 (0, 0))) := ⟨h0_⟩
                            have n1_ : Aside0 (Below w.heap.size w w33) := ⟨h1_⟩
                            clear BK115
                            clear HB
                            clear h0_ h1_
                            have BK115 := n0_
                            have HB := n1_
                            clear n0_ n1_
                            have hHeld := trivial
                            refine norm_ (a' := ?_) ?_ ?_
                            rotate_left
                            · simp only [putAll, Act.put, List.setIfInBounds_toArray, List.set_cons_zero, List.set_cons_succ]
                              rfl
                            refine one_ (i := 15) (N := some 4) #[true, true, true, true, true, true, true, true, true, true, true, true, true, true, true, true, false] rfl rfl (one_of HT_.out (by kernel_rfl)) (by decide) (fun K hK => ?_)
                            refine box_step ?hg (N := 4) ?hd (cs := #[.int .u64 0, .int .u64 0, .int .i64 0, .int .i64 0, .slice none 0 0]) (t := 106) ?hr ?_; (case hd => rfl); (case hg => rfl); (case hr => first | (go_simp; done) | (go_simp; rfl))
                            intro gb128 hg w34 hbox hb
                            have n0_ := Aside0.mk (blk_below (g := gb115) (o := .cells #[.int .u64 0, .int .u64 0, .int .i64 0, .int .i64 0, .slice none 0 0] 106 (0, 0)) (by (with_reducible repeat (first | refine blk_drewN ?_ _ | refine blk_drew ?_ | refine blk_alloc ?_ _)); exact BK115.out) hb)
                            have n1_ := Aside0.mk (below_step (by repeat (first | (with_reducible first | exact HB.out | apply below_alloc | apply pw_below_drewN | apply below_drew1 | refine below_set ?_ GE115.out) | exact HB.out)) hb)
                            have n2_ := Aside0.mk (hbox)
                            have n3_ := Aside0.mk ((by rw [hg]; exact (below_size (by repeat (first | (with_reducible first | exact HB.out | apply below_alloc | apply pw_below_drewN | apply below_drew1 | refine below_set ?_ GE115.out) | exact HB.out))) : w.heap.size ≤ gb128))
                            have n4_ := Aside0.mk ((by rw [hg]; exact (below_size (by repeat (first | (with_reducible first | exact HB.out | apply below_alloc | apply pw_below_drewN | apply below_drew1 | refine below_set ?_ GE115.out) | exact HB.out))) : w.heap.size ≤ gb128))
                            have n5_ := Aside0.mk ((by rw [hg]; exact Nat.ne_of_lt (blk_lt (g := gb115) (o := .cells #[.int .u64 0, .int .u64 0, .int .i64 0, .int .i64 0, .slice none 0 0] 106 (0, 0)) (by (with_reducible repeat (first | refine blk_drewN ?_ _ | refine blk_drew ?_ | refine blk_alloc ?_ _)); exact BK115.out)) : gb115 ≠ gb128))
                            have n6_ := Aside0.mk ((by rw [hg]; exact Nat.ne_of_gt (blk_lt (g := gb115) (o := .cells #[.int .u64 0, .int .u64 0, .int .i64 0, .int .i64 0, .slice none 0 0] 106 (0, 0)) (by (with_reducible repeat (first | refine blk_drewN ?_ _ | refine blk_drew ?_ | refine blk_alloc ?_ _)); exact BK115.out)) : gb128 ≠ gb115))
                            clear BK115
                            clear HB
                            have BK115 := n0_
                            have HB := n1_
                            have BK128 := n2_
                            have GW128 := n3_
                            have GE128 := n4_
                            have NB115_128 := n5_
                            have NB128_115 := n6_
                            clear n0_ n1_ n2_ n3_ n4_ n5_ n6_
                            clear hb hbox hg
                            refine hK.out _ _ trivial (fun hHeld => ?_)
                            clear hK K
                            refine norm_ (a' := ?_) ?_ ?_
                            rotate_left
                            · show Act.put _ (some 4) _ = _
                              simp only [Act.put, List.setIfInBounds_toArray, List.set_cons_zero, List.set_cons_succ, i64_w, i32_w]
                              rfl
                            exact norm_ (by first | (simp only [putAll, Act.put, List.setIfInBounds_toArray, List.set_cons_zero, List.set_cons_succ]; done) | (simp only [putAll, Act.put, List.setIfInBounds_toArray, List.set_cons_zero, List.set_cons_succ]; rfl)) (hJ2_5_8_12_15 (gb128) _ ⟨(by (with_reducible repeat (first | refine blk_drewN ?_ _ | refine blk_drew ?_ | refine blk_alloc ?_ _)); exact BK115.out), (by (with_reducible repeat (first | refine blk_drewN ?_ _ | refine blk_drew ?_ | refine blk_alloc ?_ _)); exact BK128.out), GW128.out, GE128.out, NB115_128.out, NB128_115.out, (by repeat (first | (with_reducible first | exact HB.out | apply below_alloc | apply pw_below_drewN | apply below_drew1 | refine below_set ?_ GE115.out | refine below_set ?_ GE128.out) | exact HB.out))⟩)
                        rintro gb128 w34 ⟨h0_, h1_, h2_, h3_, h4_, h5_, h6_⟩
                        have n0_ : Aside0 (w34.heap[gb115]? = some (.cells #[.int .u64 0, .int .u64 0, .int .i64 0, .int .i64 0, .slice none 0 0] 106 (0, 0))) := ⟨h0_⟩
                        have n1_ : Aside0 (w34.heap[gb128]? = some (.cells #[.int .u64 0, .int .u64 0, .int .i64 0, .int .i64 0, .slice none 0 0] 106 (0, 0))) := ⟨h1_⟩
                        have n2_ : Aside0 (w.heap.size ≤ gb128) := ⟨h2_⟩
                        have n3_ : Aside0 (w.heap.size ≤ gb128) := ⟨h3_⟩
                        have n4_ : Aside0 (gb115 ≠ gb128) := ⟨h4_⟩
                        have n5_ : Aside0 (gb128 ≠ gb115) := ⟨h5_⟩
                        have n6_ : Aside0 (Below w.heap.size w w34) := ⟨h6_⟩
                        clear BK115
                        clear HB
                        clear h0_ h1_ h2_ h3_ h4_ h5_ h6_
                        have BK115 := n0_
                        have BK128 := n1_
                        have GW128 := n2_
                        have GE128 := n3_
                        have NB115_128 := n4_
                        have NB128_115 := n5_
                        have HB := n6_
                        clear n0_ n1_ n2_ n3_ n4_ n5_ n6_
                        have hHeld := trivial
                        refine norm_ (a' := ?_) ?_ ?_
                        rotate_left
                        · simp only [putAll, Act.put, List.setIfInBounds_toArray, List.set_cons_zero, List.set_cons_succ]
                          rfl
                        refine one_ (i := 16) (N := none) #[true, true, true, true, true, true, true, true, true, true, true, true, true, true, true, true, true] rfl rfl (one_of HT_.out (by kernel_rfl)) (by decide) (fun K hK => ?_)
                        have hs35 : w34.cell? ⟨gb128, 0, none⟩ = some (.int .u64 0) := (blk_cell BK128.out 0).trans rfl
                        have hfs35 := blk_frozen BK128.out 0
                        have hns35_0 := NB115_128.out
                        have hms35_0 := NB128_115.out
                        have hs36 : w34.cell? ⟨gb128, 1, none⟩ = some (.int .u64 0) := (blk_cell BK128.out 1).trans rfl
                        have hfs36 := blk_frozen BK128.out 1
                        have hns36_0 := NB115_128.out
                        have hms36_0 := NB128_115.out
                        have hs37 : w34.cell? ⟨gb128, 2, none⟩ = some (.int .i64 0) := (blk_cell BK128.out 2).trans rfl
                        have hfs37 := blk_frozen BK128.out 2
                        have hns37_0 := NB115_128.out
                        have hms37_0 := NB128_115.out
                        have hs38 : w34.cell? ⟨gb128, 3, none⟩ = some (.int .i64 0) := (blk_cell BK128.out 3).trans rfl
                        have hfs38 := blk_frozen BK128.out 3
                        have hns38_0 := NB115_128.out
                        have hms38_0 := NB128_115.out
                        have hs39 : w34.cell? ⟨gb128, 4, none⟩ = some (.slice none 0 0) := (blk_cell BK128.out 4).trans rfl
                        have hfs39 := blk_frozen BK128.out 4
                        have hns39_0 := NB115_128.out
                        have hms39_0 := NB128_115.out
                        refine skip_ (w1 := ?_) (by rfl) rfl ?_ ?_
                        rotate_left
                        · go_simp
                          rfl
                        refine hK.out _ _ trivial (fun hHeld => ?_)
                        clear hK K
                        refine done_ (done_of HT_.out (by kernel_rfl)) ?_
                        have p129 : 0 ≤ (20 : Int) := (by omega)
                        have q129 : 20 < (l0.length : Int) := of_decide_eq_true (by first | (with_reducible assumption) | assumption)
                        obtain ⟨ad129, e129, hx129_0⟩ := Kd.at_int HR0.out 20 p129 q129
                        cases e129
                        (try simp only [show (20 : Int).toNat = 20 from rfl, Nat.reduceMul, Nat.reduceEqDiff, Go.Addr.add, ↓reduceIte] at hx129_0)
                        have qi129 : (20 < l0.length) = True := eq_true (by omega)
                        (try rw [show ((20 : Int)).toNat = 20 from rfl] at hx129_0)
                        have hn129_0 : ad129.block ≠ gb128 := Nat.ne_of_lt (Nat.lt_of_lt_of_le (by have := World.block_lt_of_cell? _ _ hx129_0; first | rwa [add_block] at this | exact this) GW128.out)
                        have hn129_1 : ad129.block ≠ gb128 := Nat.ne_of_lt (Nat.lt_of_lt_of_le (by have := World.block_lt_of_cell? _ _ hx129_0; first | rwa [add_block] at this | exact this) GW128.out)
                        have hn129_2 : ad129.block ≠ gb128 := Nat.ne_of_lt (Nat.lt_of_lt_of_le (by have := World.block_lt_of_cell? _ _ hx129_0; first | rwa [add_block] at this | exact this) GW128.out)
                        have hn129_3 : ad129.block ≠ gb128 := Nat.ne_of_lt (Nat.lt_of_lt_of_le (by have := World.block_lt_of_cell? _ _ hx129_0; first | rwa [add_block] at this | exact this) GW128.out)
                        have hn129_4 : ad129.block ≠ gb128 := Nat.ne_of_lt (Nat.lt_of_lt_of_le (by have := World.block_lt_of_cell? _ _ hx129_0; first | rwa [add_block] at this | exact this) GW128.out)
                        replace hx129_0 := (HB.out.cell (World.block_lt_of_cell? w _ hx129_0)).trans hx129_0
                        replace hx129_0 := (cell_far (p := ⟨gb128, 0, none⟩) (by first | (rw [add_block]; exact hn129_0) | (show (Addr.add _ _).block ≠ _; rw [add_block]; exact hn129_0) | exact hn129_0) (.int .u64 t121)).trans hx129_0
                        replace hx129_0 := (cell_far (p := ⟨gb128, 1, none⟩) (by first | (rw [add_block]; exact hn129_1) | (show (Addr.add _ _).block ≠ _; rw [add_block]; exact hn129_1) | exact hn129_1) (.int .u64 t123)).trans hx129_0
                        replace hx129_0 := (cell_far (p := ⟨gb128, 2, none⟩) (by first | (rw [add_block]; exact hn129_2) | (show (Addr.add _ _).block ≠ _; rw [add_block]; exact hn129_2) | exact hn129_2) (.int .i64 (wrap64 (t125)))).trans hx129_0
                        replace hx129_0 := (cell_far (p := ⟨gb128, 3, none⟩) (by first | (rw [add_block]; exact hn129_3) | (show (Addr.add _ _).block ≠ _; rw [add_block]; exact hn129_3) | exact hn129_3) (.int .i64 (wrap64 (t127)))).trans hx129_0
                        replace hx129_0 := (cell_far (p := ⟨gb128, 4, none⟩) (by first | (rw [add_block]; exact hn129_4) | (show (Addr.add _ _).block ≠ _; rw [add_block]; exact hn129_4) | exact hn129_4) (.slice none 0 0)).trans hx129_0
                        clear hn129_0
                        clear hn129_1
                        clear hn129_2
                        clear hn129_3
                        clear hn129_4
                        replace p129 := eq_true p129
                        replace q129 := eq_true q129
                        go_upto_region 5 with (fail)
                        go_cut [54] (fun v54 wc => ∃ (kq : Nat) (x54_26 : Bool), v54 = .bool x54_26 ∧ Aside0 (cell_Decode.j1 kq l0 (wrap64 (rd l0 20)) x54_26 t121 t123 (wrap64 (t125)) (wrap64 (t127)) = some (r1, r2, r3, r4, r5, r6)) ∧ Aside0 (kq ≤ kj1) ∧ Aside0 (wc.heap[gb115]? = some (.cells #[.int .u64 0, .int .u64 0, .int .i64 0, .int .i64 0, (.slice none 0 0)] 106 (0, 0))) ∧ Aside0 (wc.heap[gb128]? = some (.cells #[.int .u64 t121, .int .u64 t123, .int .i64 (wrap64 (t125)), .int .i64 (wrap64 (t127)), (.slice none 0 0)] 106 (0, 0))) ∧ Aside0 (Below w.heap.size w wc))
                        case first =>
                          have H := HC27.out
                          clear HC27
                          by_cases c40 : (wrap64 (t125)) ≥ (wrap64 (t127))
                          · rw [if_pos c40] at H
                            have c40b0 : decide ((wrap64 (t127)) ≤ (wrap64 (t125))) = true := decide_eq_true c40
                            clear c40
                            (first | rw [c40b0] | (simp only [i64_w, i32_w]; rw [c40b0]) | skip)
                            have H' := Aside0.mk H
                            clear H
                            have hnb41 := NB128_115.out
                            have hnc41 := NB115_128.out
                            have hcz42_0 : w34.cell? ⟨gb128, 0, none⟩ = some (.int .u64 0) := (blk_cell BK128.out 0).trans rfl
                            have hcz42_1 : w34.cell? ⟨gb128, 1, none⟩ = some (.int .u64 0) := (blk_cell BK128.out 1).trans rfl
                            have hcz42_2 : w34.cell? ⟨gb128, 2, none⟩ = some (.int .i64 0) := (blk_cell BK128.out 2).trans rfl
                            have hcz42_3 : w34.cell? ⟨gb128, 3, none⟩ = some (.int .i64 0) := (blk_cell BK128.out 3).trans rfl
                            have hcz42_4 : w34.cell? ⟨gb128, 4, none⟩ = some (.slice none 0 0) := (blk_cell BK128.out 4).trans rfl
                            have hfz42_0 := blk_frozen BK128.out 0
                            have hfz42_1 := blk_frozen BK128.out 1
                            have hfz42_2 := blk_frozen BK128.out 2
                            have hfz42_3 := blk_frozen BK128.out 3
                            have hfz42_4 := blk_frozen BK128.out 4
                            go_wp2
                            go_meet
                            case rel => exact ⟨_, (true), (by first | rfl | (simp; done) | (simp [*]; done)), H', ⟨by have := HJ1.out; first | omega | exact Nat.le_refl _⟩, ⟨by (with_reducible repeat (first | refine blk_drewN ?_ _ | refine blk_drew ?_ | refine blk_alloc ?_ _)); refine blk_far ?_ NB115_128.out _; (with_reducible repeat (first | refine blk_drewN ?_ _ | refine blk_drew ?_ | refine blk_alloc ?_ _)); refine blk_far ?_ NB115_128.out _; (with_reducible repeat (first | refine blk_drewN ?_ _ | refine blk_drew ?_ | refine blk_alloc ?_ _)); refine blk_far ?_ NB115_128.out _; (with_reducible repeat (first | refine blk_drewN ?_ _ | refine blk_drew ?_ | refine blk_alloc ?_ _)); refine blk_far ?_ NB115_128.out _; (with_reducible repeat (first | refine blk_drewN ?_ _ | refine blk_drew ?_ | refine blk_alloc ?_ _)); refine blk_far ?_ NB115_128.out _; (with_reducible repeat (first | refine blk_drewN ?_ _ | refine blk_drew ?_ | refine blk_alloc ?_ _)); exact BK115.out⟩, ⟨by (with_reducible repeat (first | refine blk_drewN ?_ _ | refine blk_drew ?_ | refine blk_alloc ?_ _)); refine blk_put (cs := #[.int .u64 t121, .int .u64 t123, .int .i64 (wrap64 (t125)), .int .i64 (wrap64 (t127)), .slice none 0 0]) ?_ 4 _ rfl; (with_reducible repeat (first | refine blk_drewN ?_ _ | refine blk_drew ?_ | refine blk_alloc ?_ _)); refine blk_put (cs := #[.int .u64 t121, .int .u64 t123, .int .i64 (wrap64 (t125)), .int .i64 0, .slice none 0 0]) ?_ 3 _ rfl; (with_reducible repeat (first | refine blk_drewN ?_ _ | refine blk_drew ?_ | refine blk_alloc ?_ _)); refine blk_put (cs := #[.int .u64 t121, .int .u64 t123, .int .i64 0, .int .i64 0, .slice none 0 0]) ?_ 2 _ rfl; (with_reducible repeat (first | refine blk_drewN ?_ _ | refine blk_drew ?_ | refine blk_alloc ?_ _)); refine blk_put (cs := #[.int .u64 t121, .int .u64 0, .int .i64 0, .int .i64 0, .slice none 0 0]) ?_ 1 _ rfl; (with_reducible repeat (first | refine blk_drewN ?_ _ | refine blk_drew ?_ | refine blk_alloc ?_ _)); refine blk_put (cs := #[.int .u64 0, .int .u64 0, .int .i64 0, .int .i64 0, .slice none 0 0]) ?_ 0 _ rfl; (with_reducible repeat (first | refine blk_drewN ?_ _ | refine blk_drew ?_ | refine blk_alloc ?_ _)); exact BK128.out⟩, ⟨by repeat (first | (with_reducible first | exact HB.out | apply below_alloc | apply pw_below_drewN | apply below_drew1 | refine below_set ?_ GE115.out | refine below_set ?_ GE128.out) | exact HB.out)⟩⟩
                          · rw [if_neg c40] at H
                            have c40b0 : decide ((wrap64 (t127)) ≤ (wrap64 (t125))) = false := decide_eq_false c40
                            clear c40
                            (first | rw [c40b0] | (simp only [i64_w, i32_w]; rw [c40b0]) | skip)
                            by_cases c43 : (wrap64 (rd l0 20)) > 39
                            · rw [if_pos c43] at H
                              have c43b0 : decide (39 < (wrap64 (rd l0 20))) = true := decide_eq_true c43
                              clear c43
                              have H' := Aside0.mk H
                              clear H
                              have hnb44 := NB128_115.out
                              have hnc44 := NB115_128.out
                              have hcz45_0 : w34.cell? ⟨gb128, 0, none⟩ = some (.int .u64 0) := (blk_cell BK128.out 0).trans rfl
                              have hcz45_1 : w34.cell? ⟨gb128, 1, none⟩ = some (.int .u64 0) := (blk_cell BK128.out 1).trans rfl
                              have hcz45_2 : w34.cell? ⟨gb128, 2, none⟩ = some (.int .i64 0) := (blk_cell BK128.out 2).trans rfl
                              have hcz45_3 : w34.cell? ⟨gb128, 3, none⟩ = some (.int .i64 0) := (blk_cell BK128.out 3).trans rfl
                              have hcz45_4 : w34.cell? ⟨gb128, 4, none⟩ = some (.slice none 0 0) := (blk_cell BK128.out 4).trans rfl
                              have hfz45_0 := blk_frozen BK128.out 0
                              have hfz45_1 := blk_frozen BK128.out 1
                              have hfz45_2 := blk_frozen BK128.out 2
                              have hfz45_3 := blk_frozen BK128.out 3
                              have hfz45_4 := blk_frozen BK128.out 4
                              go_wp2
                              go_meet
                              case rel => exact ⟨_, (true), (by first | rfl | (simp; done) | (simp [*]; done)), H', ⟨by have := HJ1.out; first | omega | exact Nat.le_refl _⟩, ⟨by (with_reducible repeat (first | refine blk_drewN ?_ _ | refine blk_drew ?_ | refine blk_alloc ?_ _)); refine blk_far ?_ NB115_128.out _; (with_reducible repeat (first | refine blk_drewN ?_ _ | refine blk_drew ?_ | refine blk_alloc ?_ _)); refine blk_far ?_ NB115_128.out _; (with_reducible repeat (first | refine blk_drewN ?_ _ | refine blk_drew ?_ | refine blk_alloc ?_ _)); refine blk_far ?_ NB115_128.out _; (with_reducible repeat (first | refine blk_drewN ?_ _ | refine blk_drew ?_ | refine blk_alloc ?_ _)); refine blk_far ?_ NB115_128.out _; (with_reducible repeat (first | refine blk_drewN ?_ _ | refine blk_drew ?_ | refine blk_alloc ?_ _)); refine blk_far ?_ NB115_128.out _; (with_reducible repeat (first | refine blk_drewN ?_ _ | refine blk_drew ?_ | refine blk_alloc ?_ _)); exact BK115.out⟩, ⟨by (with_reducible repeat (first | refine blk_drewN ?_ _ | refine blk_drew ?_ | refine blk_alloc ?_ _)); refine blk_put (cs := #[.int .u64 t121, .int .u64 t123, .int .i64 (wrap64 (t125)), .int .i64 (wrap64 (t127)), .slice none 0 0]) ?_ 4 _ rfl; (with_reducible repeat (first | refine blk_drewN ?_ _ | refine blk_drew ?_ | refine blk_alloc ?_ _)); refine blk_put (cs := #[.int .u64 t121, .int .u64 t123, .int .i64 (wrap64 (t125)), .int .i64 0, .slice none 0 0]) ?_ 3 _ rfl; (with_reducible repeat (first | refine blk_drewN ?_ _ | refine blk_drew ?_ | refine blk_alloc ?_ _)); refine blk_put (cs := #[.int .u64 t121, .int .u64 t123, .int .i64 0, .int .i64 0, .slice none 0 0]) ?_ 2 _ rfl; (with_reducible repeat (first | refine blk_drewN ?_ _ | refine blk_drew ?_ | refine blk_alloc ?_ _)); refine blk_put (cs := #[.int .u64 t121, .int .u64 0, .int .i64 0, .int .i64 0, .slice none 0 0]) ?_ 1 _ rfl; (with_reducible repeat (first | refine blk_drewN ?_ _ | refine blk_drew ?_ | refine blk_alloc ?_ _)); refine blk_put (cs := #[.int .u64 0, .int .u64 0, .int .i64 0, .int .i64 0, .slice none 0 0]) ?_ 0 _ rfl; (with_reducible repeat (first | refine blk_drewN ?_ _ | refine blk_drew ?_ | refine blk_alloc ?_ _)); exact BK128.out⟩, ⟨by repeat (first | (with_reducible first | exact HB.out | apply below_alloc | apply pw_below_drewN | apply below_drew1 | refine below_set ?_ GE115.out | refine below_set ?_ GE128.out) | exact HB.out)⟩⟩
                            · rw [if_neg c43] at H
                              have c43b0 : decide (39 < (wrap64 (rd l0 20))) = false := decide_eq_false c43
                              clear c43
                              obtain ⟨ji46, hji46⟩ : ∃ j_ : Int, (wrap64 (21 + (wrap64 (rd l0 20)))) = j_ := ⟨_, rfl⟩
                              replace H : (if 0 ≤ (ji46) then (if (ji46) ≤ 60 then (if 60 ≤ (l0.length : Int) then ((slices_ContainsFunc_byte_byte.f ((l0.take 60).drop ((ji46) : Int).toNat)).bind fun t131 => (cell_Decode.j1 kj1 l0 (wrap64 (rd l0 20)) t131 t121 t123 (wrap64 (t125)) (wrap64 (t127)))) else (none)) else (none)) else (none)) = some (r1, r2, r3, r4, r5, r6) := by first | (rw [hji46] at H; exact H) | (simp only [hji46] at H ⊢; exact H)
                              have hji46w : (IntKind.i64.wrap (21 + (wrap64 (rd l0 20)))) = ji46 := (i64_w _).trans hji46
                              by_cases c47 : 0 ≤ (ji46)
                              · rw [if_pos c47] at H
                                have c47b0 := eq_true c47
                                have c47b1 : decide (0 ≤ (ji46)) = true := decide_eq_true c47
                                clear c47
                                by_cases c48 : (ji46) ≤ 60
                                · rw [if_pos c48] at H
                                  have c48b0 := eq_true c48
                                  have c48b1 : decide ((ji46) ≤ 60) = true := decide_eq_true c48
                                  clear c48
                                  by_cases c49 : 60 ≤ (l0.length : Int)
                                  · rw [if_pos c49] at H
                                    have c49b0 := eq_true c49
                                    have c49b1 : decide (60 ≤ (l0.length : Int)) = true := decide_eq_true c49
                                    clear c49
                                    replace H := Option.bind_eq_some_iff.mp H
                                    obtain ⟨t131, A500, H⟩ := H
                                    replace H : (cell_Decode.j1 kj1 l0 (wrap64 (rd l0 20)) t131 t121 t123 (wrap64 (t125)) (wrap64 (t127))) = some (r1, r2, r3, r4, r5, r6) := H
                                    have A50 := Aside0.mk A500
                                    clear A500
                                    have H' := Aside0.mk H
                                    clear H
                                    have hnb51 := NB128_115.out
                                    have hnc51 := NB115_128.out
                                    have hcz52_0 : w34.cell? ⟨gb128, 0, none⟩ = some (.int .u64 0) := (blk_cell BK128.out 0).trans rfl
                                    have hcz52_1 : w34.cell? ⟨gb128, 1, none⟩ = some (.int .u64 0) := (blk_cell BK128.out 1).trans rfl
                                    have hcz52_2 : w34.cell? ⟨gb128, 2, none⟩ = some (.int .i64 0) := (blk_cell BK128.out 2).trans rfl
                                    have hcz52_3 : w34.cell? ⟨gb128, 3, none⟩ = some (.int .i64 0) := (blk_cell BK128.out 3).trans rfl
                                    have hcz52_4 : w34.cell? ⟨gb128, 4, none⟩ = some (.slice none 0 0) := (blk_cell BK128.out 4).trans rfl
                                    have hfz52_0 := blk_frozen BK128.out 0
                                    have hfz52_1 := blk_frozen BK128.out 1
                                    have hfz52_2 := blk_frozen BK128.out 2
                                    have hfz52_3 := blk_frozen BK128.out 3
                                    have hfz52_4 := blk_frozen BK128.out 4
                                    obtain ⟨i053, hi053, _, hsz53, _⟩ := info_parts info5
                                    obtain ⟨A53, hcut53, hA53, hC53⟩ := print_mid_of (P := Try.prog) (Value.int .u8) 0 27 5 .i64 .i64 Try.underlying27 hi053 hsz53 (some ad129) c0 l0 (ji46) 60 (of_decide_eq_true (by first | (with_reducible assumption) | assumption)) (by first | omega | exact of_decide_eq_true (by first | (with_reducible assumption) | assumption)) (of_decide_eq_true (by first | (with_reducible assumption) | assumption)) HC0.out
                                    have HR130 := Aside0.mk (Kd.C_of_reads (h1 := fun _ => rfl) (hA53 _ (Kd.reads_of_C HR0.out)))
                                    have HC130 := Aside0.mk hC53
                                    clear hA53 hC53 hi053 hsz53
                                    go_wp2_with (first | (go_at_call 88; refine calls_of_args (args' := #[.slice A53 ((l0.take 60).drop ((ji46) : Int).toNat).length (c0 - (ji46).toNat), (.func (.func 89) #[] #[])]) (by first | rfl | (simp only [List.length_drop, List.length_take]; done) | (simp only [List.length_drop, List.length_take]; rfl)) ?_; (with_reducible refine (slices_ContainsFunc_byte_byte.calls _ _ ((l0.take 60).drop ((ji46) : Int).toNat) t131 _ ?side1 ?side2 A50.out).mono ?_); (case side1 => exact Kd.C_below HR130.out (by repeat (first | (with_reducible first | exact HB.out | apply below_alloc | apply pw_below_drewN | apply below_drew1 | refine below_set ?_ GE115.out | refine below_set ?_ GE128.out) | exact HB.out))); (case side2 => exact HC130.out); rintro e w' ⟨rfl, ⟨nd, rfl⟩⟩))
                                    go_meet
                                    case rel => exact ⟨_, (t131), (by first | rfl | (simp; done) | (simp [*]; done)), H', ⟨by have := HJ1.out; first | omega | exact Nat.le_refl _⟩, ⟨by (with_reducible repeat (first | refine blk_drewN ?_ _ | refine blk_drew ?_ | refine blk_alloc ?_ _)); refine blk_far ?_ NB115_128.out _; (with_reducible repeat (first | refine blk_drewN ?_ _ | refine blk_drew ?_ | refine blk_alloc ?_ _)); refine blk_far ?_ NB115_128.out _; (with_reducible repeat (first | refine blk_drewN ?_ _ | refine blk_drew ?_ | refine blk_alloc ?_ _)); refine blk_far ?_ NB115_128.out _; (with_reducible repeat (first | refine blk_drewN ?_ _ | refine blk_drew ?_ | refine blk_alloc ?_ _)); refine blk_far ?_ NB115_128.out _; (with_reducible repeat (first | refine blk_drewN ?_ _ | refine blk_drew ?_ | refine blk_alloc ?_ _)); refine blk_far ?_ NB115_128.out _; (with_reducible repeat (first | refine blk_drewN ?_ _ | refine blk_drew ?_ | refine blk_alloc ?_ _)); exact BK115.out⟩, ⟨by (with_reducible repeat (first | refine blk_drewN ?_ _ | refine blk_drew ?_ | refine blk_alloc ?_ _)); refine blk_put (cs := #[.int .u64 t121, .int .u64 t123, .int .i64 (wrap64 (t125)), .int .i64 (wrap64 (t127)), .slice none 0 0]) ?_ 4 _ rfl; (with_reducible repeat (first | refine blk_drewN ?_ _ | refine blk_drew ?_ | refine blk_alloc ?_ _)); refine blk_put (cs := #[.int .u64 t121, .int .u64 t123, .int .i64 (wrap64 (t125)), .int .i64 0, .slice none 0 0]) ?_ 3 _ rfl; (with_reducible repeat (first | refine blk_drewN ?_ _ | refine blk_drew ?_ | refine blk_alloc ?_ _)); refine blk_put (cs := #[.int .u64 t121, .int .u64 t123, .int .i64 0, .int .i64 0, .slice none 0 0]) ?_ 2 _ rfl; (with_reducible repeat (first | refine blk_drewN ?_ _ | refine blk_drew ?_ | refine blk_alloc ?_ _)); refine blk_put (cs := #[.int .u64 t121, .int .u64 0, .int .i64 0, .int .i64 0, .slice none 0 0]) ?_ 1 _ rfl; (with_reducible repeat (first | refine blk_drewN ?_ _ | refine blk_drew ?_ | refine blk_alloc ?_ _)); refine blk_put (cs := #[.int .u64 0, .int .u64 0, .int .i64 0, .int .i64 0, .slice none 0 0]) ?_ 0 _ rfl; (with_reducible repeat (first | refine blk_drewN ?_ _ | refine blk_drew ?_ | refine blk_alloc ?_ _)); exact BK128.out⟩, ⟨by repeat (first | (with_reducible first | exact HB.out | apply below_alloc | apply pw_below_drewN | apply below_drew1 | refine below_set ?_ GE115.out | refine below_set ?_ GE128.out) | exact HB.out)⟩⟩
                                  · rw [if_neg c49] at H
                                    exact absurd H (by simp)
                                · rw [if_neg c48] at H
                                  exact absurd H (by simp)
                              · rw [if_neg c47] at H
                                exact absurd H (by simp)
                        case rest =>
                          clear HC27
                          try clear p1
                          try clear q1
                          try clear hx1
                          try clear qi1
                          try clear p2
                          try clear c4
                          try clear c5
                          try clear p6
                          try clear c8
                          try clear p12
                          try clear q12
                          try clear hx12
                          try clear qi12
                          try clear c40
                          try clear c40b0
                          try clear c41
                          try clear c43
                          try clear c43b0
                          try clear c44
                          try clear c47
                          try clear c47b0
                          try clear c47b1
                          try clear c48
                          try clear c48b0
                          try clear c48b1
                          try clear c49
                          try clear c49b0
                          try clear c49b1
                          try clear c51
                          try clear hcz42_0
                          try clear hcz42_1
                          try clear hcz42_2
                          try clear hcz42_3
                          try clear hcz42_4
                          try clear hcz45_0
                          try clear hcz45_1
                          try clear hcz45_2
                          try clear hcz45_3
                          try clear hcz45_4
                          try clear hcz52_0
                          try clear hcz52_1
                          try clear hcz52_2
                          try clear hcz52_3
                          try clear hcz52_4
                          try clear hfz42_0
                          try clear hfz42_1
                          try clear hfz42_2
                          try clear hfz42_3
                          try clear hfz42_4
                          try clear hfz45_0
                          try clear hfz45_1
                          try clear hfz45_2
                          try clear hfz45_3
                          try clear hfz45_4
                          try clear hfz52_0
                          try clear hfz52_1
                          try clear hfz52_2
                          try clear hfz52_3
                          try clear hfz52_4
                          try clear hx129_0
                          try clear p129
                          try clear q129
                          obtain ⟨kq, x54_26, rfl, HA, HJ26, BK115, BK128, HB⟩ := hcut
                          cases kq with
                          | zero => exact absurd HA.out (by simp [cell_Decode.j1])
                          | succ kj26 =>
                            have H := HA.out
                            clear HA
                            simp only [cell_Decode.j1] at H
                            by_cases c54 : x54_26 = true
                            · subst c54
                              have H1 : (some (0, 0, 0, 0, ([] : List Int), 8)) = some (r1, r2, r3, r4, r5, r6) := by rw [if_pos rfl] at H; exact H
                              clear H
                              have H := H1
                              clear H1
                              simp only [Option.some.injEq, Prod.mk.injEq] at H
                              obtain ⟨rfl, rfl, rfl, rfl, rfl, rfl⟩ := H
                              have hnb55 := NB115_128.out
                              have hnc55 := NB128_115.out
                              have hcz56_0 : wc.cell? ⟨gb115, 0, none⟩ = some (.int .u64 0) := (blk_cell BK115.out 0).trans rfl
                              have hcz56_1 : wc.cell? ⟨gb115, 1, none⟩ = some (.int .u64 0) := (blk_cell BK115.out 1).trans rfl
                              have hcz56_2 : wc.cell? ⟨gb115, 2, none⟩ = some (.int .i64 0) := (blk_cell BK115.out 2).trans rfl
                              have hcz56_3 : wc.cell? ⟨gb115, 3, none⟩ = some (.int .i64 0) := (blk_cell BK115.out 3).trans rfl
                              have hcz56_4 : wc.cell? ⟨gb115, 4, none⟩ = some (.slice none 0 0) := (blk_cell BK115.out 4).trans rfl
                              have hfz56_0 := blk_frozen BK115.out 0
                              have hfz56_1 := blk_frozen BK115.out 1
                              have hfz56_2 := blk_frozen BK115.out 2
                              have hfz56_3 := blk_frozen BK115.out 3
                              have hfz56_4 := blk_frozen BK115.out 4
                              go_wp2
                              refine bodyPost_ret (results_ct rfl _ _ gb115 106 #[.int .u64 0, .int .u64 0, .int .i64 0, .int .i64 0, .slice none 0 0] (0, 0) _ rfl (by (with_reducible repeat (first | refine blk_drewN ?_ _ | refine blk_drew ?_ | refine blk_alloc ?_ _)); refine blk_put (cs := #[.int .u64 0, .int .u64 0, .int .i64 0, .int .i64 0, .slice none 0 0]) ?_ 4 _ rfl; (with_reducible repeat (first | refine blk_drewN ?_ _ | refine blk_drew ?_ | refine blk_alloc ?_ _)); refine blk_put (cs := #[.int .u64 0, .int .u64 0, .int .i64 0, .int .i64 0, .slice none 0 0]) ?_ 3 _ rfl; (with_reducible repeat (first | refine blk_drewN ?_ _ | refine blk_drew ?_ | refine blk_alloc ?_ _)); refine blk_put (cs := #[.int .u64 0, .int .u64 0, .int .i64 0, .int .i64 0, .slice none 0 0]) ?_ 2 _ rfl; (with_reducible repeat (first | refine blk_drewN ?_ _ | refine blk_drew ?_ | refine blk_alloc ?_ _)); refine blk_put (cs := #[.int .u64 0, .int .u64 0, .int .i64 0, .int .i64 0, .slice none 0 0]) ?_ 1 _ rfl; (with_reducible repeat (first | refine blk_drewN ?_ _ | refine blk_drew ?_ | refine blk_alloc ?_ _)); refine blk_put (cs := #[.int .u64 0, .int .u64 0, .int .i64 0, .int .i64 0, .slice none 0 0]) ?_ 0 _ rfl; (with_reducible repeat (first | refine blk_drewN ?_ _ | refine blk_drew ?_ | refine blk_alloc ?_ _)); exact BK115.out) Try.underlying106 rfl (by kernel_rfl)) rfl ?_
                              exact ⟨_, by first | rfl | (simp [errW_none, errW_some] <;> rfl) | (simp [*, errW_none, errW_some] <;> rfl), by first | exact Kd.R_nil _ _ _ _ _ | exact Kd.N_nil _ _ _ _ _ | exact Kd.V_nil _ _ _ _ _ | exact Kd.Q_nil _ _ _ _ _ | exact Kd.S_nil _ _ _ _ _, by repeat (first | (with_reducible first | exact HB.out | apply below_alloc | apply pw_below_drewN | apply below_drew1 | refine below_set ?_ GE115.out | refine below_set ?_ GE128.out) | exact HB.out)⟩
                            · replace c54 := Bool.eq_false_iff.mpr c54
                              subst c54
                              have H1 : (if 21 ≤ (wrap64 (21 + (wrap64 (rd l0 20)))) then (if (wrap64 (21 + (wrap64 (rd l0 20)))) ≤ (l0.length : Int) then ((slices_Clone_byte_byte.f ((l0.take ((wrap64 (21 + (wrap64 (rd l0 20)))) : Int).toNat).drop 21)).bind fun t133 => (some (t121, t123, (wrap64 (t125)), (wrap64 (t127)), t133, 0))) else (none)) else (none)) = some (r1, r2, r3, r4, r5, r6) := by rw [if_neg (show ¬ (false = true) by decide)] at H; exact H
                              clear H
                              have H := H1
                              clear H1
                              by_cases c57 : 21 ≤ (wrap64 (21 + (wrap64 (rd l0 20))))
                              · rw [if_pos c57] at H
                                have c57b0 := eq_true c57
                                have c57b1 : decide (21 ≤ (wrap64 (21 + (wrap64 (rd l0 20))))) = true := decide_eq_true c57
                                by_cases c58 : (wrap64 (21 + (wrap64 (rd l0 20)))) ≤ (l0.length : Int)
                                · rw [if_pos c58] at H
                                  have c58b0 := eq_true c58
                                  have c58b1 : decide ((wrap64 (21 + (wrap64 (rd l0 20)))) ≤ (l0.length : Int)) = true := decide_eq_true c58
                                  replace H := Option.bind_eq_some_iff.mp H
                                  obtain ⟨t133, A590, H⟩ := H
                                  replace H : (some (t121, t123, (wrap64 (t125)), (wrap64 (t127)), t133, 0)) = some (r1, r2, r3, r4, r5, r6) := H
                                  have A59 := Aside0.mk A590
                                  clear A590
                                  simp only [Option.some.injEq, Prod.mk.injEq] at H
                                  obtain ⟨rfl, rfl, rfl, rfl, rfl, rfl⟩ := H
                                  obtain ⟨i060, hi060, _, hsz60, _⟩ := info_parts info5
                                  obtain ⟨A60, hcut60, hA60, hC60⟩ := print_mid_of (P := Try.prog) (Value.int .u8) 0 27 5 .i64 .i64 Try.underlying27 hi060 hsz60 (some ad129) c0 l0 21 (wrap64 (21 + (wrap64 (rd l0 20)))) (by omega) (by first | omega | exact of_decide_eq_true (by first | (with_reducible assumption) | assumption)) (of_decide_eq_true (by first | (with_reducible assumption) | assumption)) HC0.out
                                  have HR132 := Aside0.mk (Kd.C_of_reads (h1 := fun _ => rfl) (hA60 _ (Kd.reads_of_C HR0.out)))
                                  have HC132 := Aside0.mk hC60
                                  clear hA60 hC60 hi060 hsz60
                                  go_wp2_with (first | ((with_reducible refine gate_callee (f := 72) rfl ?_); refine goesL_ (some 60) rfl rfl Try.func72 (by kernel_rfl) rfl #[.slice A60 ((l0.take ((wrap64 (21 + (wrap64 (rd l0 20)))) : Int).toNat).drop 21).length (c0 - 21)] rfl (by (try simp only [List.map_toArray, List.map_cons, List.map_nil]); first | done | (rw [show ((l0.take ((wrap64 (21 + (wrap64 (rd l0 20)))) : Int).toNat).drop 21).length = ((wrap64 (21 + (wrap64 (rd l0 20)))).toNat - 21) from (by rw [List.length_drop, List.length_take]; have h_ : ((wrap64 (21 + (wrap64 (rd l0 20)))) : Int) ≤ (l0.length : Int) := of_decide_eq_true (by first | (with_reducible assumption) | assumption); omega)] <;> rfl) | rfl | (simp only [List.length_drop, List.length_take]; rfl)) ?_; (with_reducible refine (slices_Clone_byte_byte.calls _ _ ((l0.take ((wrap64 (21 + (wrap64 (rd l0 20)))) : Int).toNat).drop 21) t133 _ ?side1 ?side2 A59.out).mono ?_); (case side1 => repeat (first | exact (Kd.C_below HR132.out HB.out) | (with_reducible refine Kd.C_alloc ?_ _) | (with_reducible refine Kd.C_drewN ?_ _) | (with_reducible refine Kd.C_drew ?_))); (case side2 => exact HC132.out); rintro e w61 ⟨v134, rfl, ho0, hb⟩; refine ⟨_, rfl, ?_⟩; have n0_ := Aside0.mk (Kd.R_lower ho0 (below_size (by repeat (first | (with_reducible first | exact HB.out | apply below_alloc | apply pw_below_drewN | apply below_drew1 | refine below_set ?_ GE115.out | refine below_set ?_ GE128.out) | exact HB.out)))); have n1_ := Aside0.mk (blk_below (g := gb115) (o := .cells #[.int .u64 0, .int .u64 0, .int .i64 0, .int .i64 0, .slice none 0 0] 106 (0, 0)) (by (with_reducible repeat (first | refine blk_drewN ?_ _ | refine blk_drew ?_ | refine blk_alloc ?_ _)); exact BK115.out) hb); have n2_ := Aside0.mk (blk_below (g := gb128) (o := .cells #[.int .u64 t121, .int .u64 t123, .int .i64 (wrap64 (t125)), .int .i64 (wrap64 (t127)), .slice none 0 0] 106 (0, 0)) (by (with_reducible repeat (first | refine blk_drewN ?_ _ | refine blk_drew ?_ | refine blk_alloc ?_ _)); exact BK128.out) hb); have n3_ := Aside0.mk (below_step (by repeat (first | (with_reducible first | exact HB.out | apply below_alloc | apply pw_below_drewN | apply below_drew1 | refine below_set ?_ GE115.out | refine below_set ?_ GE128.out) | exact HB.out)) hb); clear BK115; clear BK128; clear HB; have HO135 := n0_; have BK115 := n1_; have BK128 := n2_; have HB := n3_; clear n0_ n1_ n2_ n3_; (try clear hb); (try clear hb2); (try clear hk); (try clear hi); (try clear ho0); obtain ⟨Ao62, co62, eo62⟩ := Kd.R_slice HO135.out; subst eo62; have hnb63 := NB128_115.out; have hnc63 := NB115_128.out; have hcz64_0 : w61.cell? ⟨gb128, 0, none⟩ = some (.int .u64 t121) := (blk_cell BK128.out 0).trans rfl; have hcz64_1 : w61.cell? ⟨gb128, 1, none⟩ = some (.int .u64 t123) := (blk_cell BK128.out 1).trans rfl; have hcz64_2 : w61.cell? ⟨gb128, 2, none⟩ = some (.int .i64 (wrap64 (t125))) := (blk_cell BK128.out 2).trans rfl; have hcz64_3 : w61.cell? ⟨gb128, 3, none⟩ = some (.int .i64 (wrap64 (t127))) := (blk_cell BK128.out 3).trans rfl; have hcz64_4 : w61.cell? ⟨gb128, 4, none⟩ = some (.slice none 0 0) := (blk_cell BK128.out 4).trans rfl; have hfz64_0 := blk_frozen BK128.out 0; have hfz64_1 := blk_frozen BK128.out 1; have hfz64_2 := blk_frozen BK128.out 2; have hfz64_3 := blk_frozen BK128.out 3; have hfz64_4 := blk_frozen BK128.out 4; have hcz65_0 : w61.cell? ⟨gb115, 0, none⟩ = some (.int .u64 0) := (blk_cell BK115.out 0).trans rfl; have hcz65_1 : w61.cell? ⟨gb115, 1, none⟩ = some (.int .u64 0) := (blk_cell BK115.out 1).trans rfl; have hcz65_2 : w61.cell? ⟨gb115, 2, none⟩ = some (.int .i64 0) := (blk_cell BK115.out 2).trans rfl; have hcz65_3 : w61.cell? ⟨gb115, 3, none⟩ = some (.int .i64 0) := (blk_cell BK115.out 3).trans rfl; have hcz65_4 : w61.cell? ⟨gb115, 4, none⟩ = some (.slice none 0 0) := (blk_cell BK115.out 4).trans rfl; have hfz65_0 := blk_frozen BK115.out 0; have hfz65_1 := blk_frozen BK115.out 1; have hfz65_2 := blk_frozen BK115.out 2; have hfz65_3 := blk_frozen BK115.out 3; have hfz65_4 := blk_frozen BK115.out 4))
                                  refine bodyPost_ret (results_ct rfl _ _ gb115 106 #[.int .u64 t121, .int .u64 t123, .int .i64 (wrap64 (t125)), .int .i64 (wrap64 (t127)), .slice Ao62 t133.length co62] (0, 0) _ rfl (by (with_reducible repeat (first | refine blk_drewN ?_ _ | refine blk_drew ?_ | refine blk_alloc ?_ _)); refine blk_put (cs := #[.int .u64 t121, .int .u64 t123, .int .i64 (wrap64 (t125)), .int .i64 (wrap64 (t127)), .slice none 0 0]) ?_ 4 _ rfl; (with_reducible repeat (first | refine blk_drewN ?_ _ | refine blk_drew ?_ | refine blk_alloc ?_ _)); refine blk_put (cs := #[.int .u64 t121, .int .u64 t123, .int .i64 (wrap64 (t125)), .int .i64 0, .slice none 0 0]) ?_ 3 _ rfl; (with_reducible repeat (first | refine blk_drewN ?_ _ | refine blk_drew ?_ | refine blk_alloc ?_ _)); refine blk_put (cs := #[.int .u64 t121, .int .u64 t123, .int .i64 0, .int .i64 0, .slice none 0 0]) ?_ 2 _ rfl; (with_reducible repeat (first | refine blk_drewN ?_ _ | refine blk_drew ?_ | refine blk_alloc ?_ _)); refine blk_put (cs := #[.int .u64 t121, .int .u64 0, .int .i64 0, .int .i64 0, .slice none 0 0]) ?_ 1 _ rfl; (with_reducible repeat (first | refine blk_drewN ?_ _ | refine blk_drew ?_ | refine blk_alloc ?_ _)); refine blk_put (cs := #[.int .u64 0, .int .u64 0, .int .i64 0, .int .i64 0, .slice none 0 0]) ?_ 0 _ rfl; (with_reducible repeat (first | refine blk_drewN ?_ _ | refine blk_drew ?_ | refine blk_alloc ?_ _)); refine blk_far ?_ NB115_128.out _; (with_reducible repeat (first | refine blk_drewN ?_ _ | refine blk_drew ?_ | refine blk_alloc ?_ _)); exact BK115.out) Try.underlying106 rfl (by kernel_rfl)) rfl ?_
                                  exact ⟨_, by first | rfl | (simp [errW_none, errW_some] <;> rfl) | (simp [*, errW_none, errW_some] <;> rfl), by (with_reducible repeat (first | apply Kd.R_alloc | apply Kd.R_drewN | apply Kd.R_drew)); exact Kd.R_mono (Kd.R_far (p := ⟨gb115, 4, none⟩) (Kd.R_far (p := ⟨gb115, 3, none⟩) (Kd.R_far (p := ⟨gb115, 2, none⟩) (Kd.R_far (p := ⟨gb115, 1, none⟩) (Kd.R_far (p := ⟨gb115, 0, none⟩) (Kd.R_far (p := ⟨gb128, 4, none⟩) (Kd.R_types (Kd.R_types HO135.out BK128.out (by decide)) BK115.out (by decide)) (fun _ hk => hk.1.2) (.slice Ao62 t133.length co62)) (fun _ hk => hk.2) (.int .u64 t121)) (fun _ hk => hk.2) (.int .u64 t123)) (fun _ hk => hk.2) (.int .i64 (wrap64 (t125)))) (fun _ hk => hk.2) (.int .i64 (wrap64 (t127)))) (fun _ hk => hk.2) (.slice Ao62 t133.length co62)) (fun _ hk => trivial), by repeat (first | (with_reducible first | exact HB.out | apply below_alloc | apply pw_below_drewN | apply below_drew1 | refine below_set ?_ GE115.out | refine below_set ?_ GE128.out) | exact HB.out)⟩
                                · rw [if_neg c58] at H
                                  exact absurd H (by simp)
                              · rw [if_neg c57] at H
                                exact absurd H (by simp)
                      · rw [if_neg c26] at H
                        exact absurd H (by simp)
                    · rw [if_neg c24] at H
                      exact absurd H (by simp)
                  · rw [if_neg c23] at H
                    exact absurd H (by simp)
                · rw [if_neg c21] at H
                  exact absurd H (by simp)
              · rw [if_neg c20] at H
                exact absurd H (by simp)
            · rw [if_neg c18] at H
              exact absurd H (by simp)
          · rw [if_neg c17] at H
            exact absurd H (by simp)
        · rw [if_neg c15] at H
          exact absurd H (by simp)

end Go.Proofs.Ytepipgneefcoiaa.D
