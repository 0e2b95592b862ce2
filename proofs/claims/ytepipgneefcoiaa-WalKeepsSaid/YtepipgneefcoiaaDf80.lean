/- The functions of the program that these laws reach, each as a plain Lean function, and the proof that the machine's call comes to it; no condition beyond those that each theorem names. Made by wip/xprint.py. -/
import Derived.Test.YtepipgneefcoiaaDx0
import Derived.Test.YtepipgneefcoiaaDf90
import Derived.Test.YtepipgneefcoiaaDh
namespace Go.Proofs.Ytepipgneefcoiaa.D
open Go.RowKit Go.Proofs.YtepipgneefcoiaaW.PrintWords Go.Proofs.YtepipgneefcoiaaW.PrintLast Go.Proofs.YtepipgneefcoiaaW.PrintMore
attribute [local go_sem] max2_int min2_int max_two min_two max_three min_three max_four min_four   -- for this text's walks alone
set_option linter.unusedVariables false
set_option linter.unusedSimpArgs false

/-! ### cell_Join: function 80 -/
mutual
def cell_Join.l0 : Nat → List (S106) → List Int → List (S106) → Int → Int → Option (List Int × Bool)
  | 0, _, _, _, _, _ => none
  | k + 1, x0, x4, x7, x8, x9 => if x9 < x8 then (if 0 ≤ x9 then (if x9 < (x7.length : Int) then (if 0 < (x0.length : Int) then ((cell_goesOn.f ((rd_T106 x7 x9).f0) ((rd_T106 x7 x9).f1) ((rd_T106 x7 x9).f2) ((rd_T106 x7 x9).f3) ((rd_T106 x7 x9).f4) ((rd_T106 x0 0).f0) ((rd_T106 x0 0).f1) ((rd_T106 x0 0).f2) ((rd_T106 x0 0).f3) ((rd_T106 x0 0).f4) x9 (x0.length : Int)).bind fun t154 => (if t154 = true then (if (((rd_T106 x7 x9).f4).length : Int) = 0 then (cell_Join.j1 k x0 x4 x7 x8 x9 true ((rd_T106 x7 x9).f0) ((rd_T106 x7 x9).f1) ((rd_T106 x7 x9).f2) ((rd_T106 x7 x9).f3) ((rd_T106 x7 x9).f4)) else (cell_Join.j1 k x0 x4 x7 x8 x9 (decide ((((rd_T106 x7 x9).f4).length : Int) > 39)) ((rd_T106 x7 x9).f0) ((rd_T106 x7 x9).f1) ((rd_T106 x7 x9).f2) ((rd_T106 x7 x9).f3) ((rd_T106 x7 x9).f4))) else (cell_Join.j1 k x0 x4 x7 x8 x9 true ((rd_T106 x7 x9).f0) ((rd_T106 x7 x9).f1) ((rd_T106 x7 x9).f2) ((rd_T106 x7 x9).f3) ((rd_T106 x7 x9).f4)))) else (none)) else (none)) else (none)) else (if (x0.length : Int) > 65535 then (some (([] : List Int), false)) else (some (x4, decide ((x0.length : Int) > 0))))
def cell_Join.j1 : Nat → List (S106) → List Int → List (S106) → Int → Int → Bool → Int → Int → Int → Int → List Int → Option (List Int × Bool)
  | 0, _, _, _, _, _, _, _, _, _, _, _ => none
  | k + 1, x0, x4, x7, x8, x9, x34, x153000, x153001, x153002, x153003, x153004 => if x34 = true then (some (([] : List Int), false)) else (if x4.length + x153004.length < 140737488355328 then (cell_Join.l0 k x0 (x4 ++ x153004) x7 x8 (wrap64 (x9 + 1))) else (none))
end
def cell_Join.f (k : Nat) (l0 : List (S106)) : Option (List Int × Bool) := cell_Join.l0 k l0 ([] : List Int) l0 (l0.length : Int) 0
theorem cell_Join.mono_l : ∀ k, (∀ y0 y1 y2 y3 y4, LeO (cell_Join.l0 k y0 y1 y2 y3 y4) (cell_Join.l0 (k + 1) y0 y1 y2 y3 y4)) ∧ (∀ y0 y1 y2 y3 y4 y5 y6 y7 y8 y9 y10, LeO (cell_Join.j1 k y0 y1 y2 y3 y4 y5 y6 y7 y8 y9 y10) (cell_Join.j1 (k + 1) y0 y1 y2 y3 y4 y5 y6 y7 y8 y9 y10))
  | 0 => ⟨fun _ _ _ _ _ r h => by simp [cell_Join.l0] at h, fun _ _ _ _ _ _ _ _ _ _ _ r h => by simp [cell_Join.j1] at h⟩
  | k + 1 => by
    obtain ⟨ih0, ih1⟩ := cell_Join.mono_l k
    refine ⟨?_, ?_⟩
    · intro y0 y1 y2 y3 y4
      unfold cell_Join.l0
      repeat' first
      | (with_reducible exact ih0 _ _ _ _ _)
      | (with_reducible exact ih1 _ _ _ _ _ _ _ _ _ _ _)
      | (with_reducible exact LeO.refl _)
      | (with_reducible exact LeO.none _)
      | (with_reducible refine LeO.ite ?_ ?_)
      | (with_reducible refine LeO.bind ?_ (fun _ => ?_))
      | exact ih0 _ _ _ _ _
      | exact ih1 _ _ _ _ _ _ _ _ _ _ _
      | exact LeO.none _
      | refine LeO.ite ?_ ?_
      | refine LeO.bind ?_ (fun _ => ?_)
    · intro y0 y1 y2 y3 y4 y5 y6 y7 y8 y9 y10
      unfold cell_Join.j1
      repeat' first
      | (with_reducible exact ih0 _ _ _ _ _)
      | (with_reducible exact ih1 _ _ _ _ _ _ _ _ _ _ _)
      | (with_reducible exact LeO.refl _)
      | (with_reducible exact LeO.none _)
      | (with_reducible refine LeO.ite ?_ ?_)
      | (with_reducible refine LeO.bind ?_ (fun _ => ?_))
      | exact ih0 _ _ _ _ _
      | exact ih1 _ _ _ _ _ _ _ _ _ _ _
      | exact LeO.none _
      | refine LeO.ite ?_ ?_
      | refine LeO.bind ?_ (fun _ => ?_)
theorem cell_Join.mono : ∀ a0 k, LeO (cell_Join.f k a0) (cell_Join.f (k + 1) a0) := by
  intro a0 k
  obtain ⟨ih0, ih1⟩ := cell_Join.mono_l k
  unfold cell_Join.f
  repeat' first
      | (with_reducible exact ih0 _ _ _ _ _)
      | (with_reducible exact ih1 _ _ _ _ _ _ _ _ _ _ _)
      | (with_reducible exact LeO.refl _)
      | (with_reducible exact LeO.none _)
      | (with_reducible refine LeO.ite ?_ ?_)
      | (with_reducible refine LeO.bind ?_ (fun _ => ?_))
      | exact ih0 _ _ _ _ _
      | exact ih1 _ _ _ _ _ _ _ _ _ _ _
      | exact LeO.none _
      | refine LeO.ite ?_ ?_
      | refine LeO.bind ?_ (fun _ => ?_)
def cell_Join.T5 : Bool × List (List Nat × List Nat) := (true, [([], []), ([], []), ([1], [1]), ([2], [2]), ([], []), ([], []), ([5], [5]), ([0, 3, 4, 6], [0, 3, 4, 6]), ([7], [7]), ([8, 7], [8]), ([9], [9]), ([10, 9], [9, 10]), ([11, 9], [9, 11]), ([12, 9], [9, 12]), ([9, 13], [9, 13]), ([14, 9], [14]), ([15], [15]), ([16, 15], [15, 16]), ([17, 15], [15, 17]), ([18, 15], [15, 18]), ([15, 19], [15, 19])])
def cell_Join.B5 : List Nat := [0, 0, 2, 6, 0, 0, 32, 127, 255, 511, 1023, 2047, 4095, 8191, 16383, 32767, 65535, 131071, 262143, 524287, 1048575]
theorem cell_Join.tab5 : rtab .any (opsOf Try.f80 5) = cell_Join.T5 := by kernel_rfl
theorem cell_Join.bits5 : waitsOk cell_Join.T5.2 cell_Join.B5 = true := by kernel_rfl
set_option maxHeartbeats 8000000 in
set_option maxRecDepth 100000 in
theorem cell_Join.calls (k : Nat) (A0 : Option Addr) (c0 : Nat) (l0 : List (S106)) (r1 : List Int) (r2 : Bool) (w : World) (hr0 : Kd.C k106 w A0 l0.length l0) (hc0 : l0.length ≤ c0) (h : cell_Join.f k l0 = some (r1, r2)) :
    Calls Try.prog 80 #[.slice A0 l0.length c0] w fun e w' => ∃ v0_ : Value, e = .returned (.tuple #[v0_, .bool r2]) ∧ Kd.R (Kd.int .u8) 5 w' w.heap.size (fun _ => True) v0_ r1 ∧ Below w.heap.size w w' := by
  have hu106 := Try.underlying106
  have HR0 := Aside0.mk hr0
  have HC0 := Aside0.mk hc0
  clear hr0 hc0
  have HB := Aside0.mk (Below.refl w.heap.size w)
  have H : (cell_Join.l0 k l0 ([] : List Int) l0 (l0.length : Int) 0) = some (r1, r2) := h
  clear h
  have H' := Aside0.mk H
  clear H
  go_enter Try.func80, Try.ntmps80
  go_wp2
  go_loopg [4, 9] k (fun kq v4 v9 w' => ∃ (x4_1 : List Int) (x9_1 : Int), v9 = .int .i64 x9_1 ∧ Aside0 (cell_Join.l0 kq l0 x4_1 l0 (l0.length : Int) x9_1 = some (r1, r2)) ∧ Aside0 (kq ≤ k) ∧ Aside0 (Kd.R (Kd.int .u8) 5 w' w.heap.size (fun _ => True) v4 x4_1) ∧ Aside0 (Below w.heap.size w w'))
  case atStart => exact ⟨(([] : List Int)), (0), (by first | rfl | (simp; done) | (simp [*]; done)), H', ⟨Nat.le_refl _⟩, ⟨by first | exact Kd.R_nil _ _ _ _ _ | exact Kd.N_nil _ _ _ _ _ | exact Kd.V_nil _ _ _ _ _ | exact Kd.Q_nil _ _ _ _ _ | exact Kd.S_nil _ _ _ _ _⟩, ⟨by repeat (first | (with_reducible first | exact HB.out | apply below_alloc | apply pw_below_drewN | apply below_drew1) | exact HB.out)⟩⟩
  case round =>
    clear H'
    obtain ⟨x4_1, x9_1, rfl, HA, HK1, HO_4, HB⟩ := hrel
    cases gk with
    | zero => exact absurd HA.out (by simp [cell_Join.l0])
    | succ k1 =>
      have H := HA.out
      clear HA
      simp only [cell_Join.l0] at H
      by_cases c2 : x9_1 < (l0.length : Int)
      · rw [if_pos c2] at H
        have c2b0 : decide (x9_1 < (l0.length : Int)) = true := decide_eq_true c2
        clear c2
        by_cases c3 : 0 ≤ x9_1
        · rw [if_pos c3] at H
          have c3b0 : decide (0 ≤ x9_1) = true := decide_eq_true c3
          clear c3
          by_cases c4 : x9_1 < (l0.length : Int)
          · rw [if_pos c4] at H
            have c4b0 : decide (x9_1 < (l0.length : Int)) = true := decide_eq_true c4
            clear c4
            have HC5 := Aside0.mk H
            clear H
            have p151 : 0 ≤ (x9_1 : Int) := of_decide_eq_true (by first | (with_reducible assumption) | assumption)
            have q151 : x9_1 < (l0.length : Int) := of_decide_eq_true (by first | (with_reducible assumption) | assumption)
            obtain ⟨ad151, A151_4, c151_4, e151, hx151_0, hx151_1, hx151_2, hx151_3, hx151_4, hl151_4, hi151_4⟩ := at_T106 HR0.out x9_1 p151 q151
            cases e151
            replace hx151_0 := (HB.out.cell (World.block_lt_of_cell? w _ hx151_0)).trans hx151_0
            replace hx151_1 := (HB.out.cell (World.block_lt_of_cell? w _ hx151_1)).trans hx151_1
            replace hx151_2 := (HB.out.cell (World.block_lt_of_cell? w _ hx151_2)).trans hx151_2
            replace hx151_3 := (HB.out.cell (World.block_lt_of_cell? w _ hx151_3)).trans hx151_3
            replace hx151_4 := (HB.out.cell (World.block_lt_of_cell? w _ hx151_4)).trans hx151_4
            have HR151_4 := Aside0.mk hi151_4
            have HC151_4 := Aside0.mk hl151_4
            clear hi151_4 hl151_4
            replace p151 := eq_true p151
            replace q151 := eq_true q151
            go_upto_region 5 with (first | ((with_reducible refine gate_dst (N := 6) rfl ?_); (try (refine gate_guard (by rfl) ?_; dsimp only)); refine box_event ?hg (N := 6) ?hd (cs := #[.int .u64 0, .int .u64 0, .int .i64 0, .int .i64 0, .slice none 0 0]) (t := 106) ?hr ?_; (case hd => rfl); (case hg => rfl); (case hr => first | (go_simp; done) | (go_simp; rfl)); intro gb152 hg w6 hbox hb; have n0_ := Aside0.mk (Kd.R_below (by (with_reducible repeat (first | apply Kd.R_alloc | apply Kd.R_drewN | apply Kd.R_drew)); exact HO_4.out) hb); have n1_ := Aside0.mk (below_step (by repeat (first | (with_reducible first | exact HB.out | apply below_alloc | apply pw_below_drewN | apply below_drew1) | exact HB.out)) hb); have n2_ := Aside0.mk (hbox); have n3_ := Aside0.mk ((by rw [hg]; exact (below_size (by repeat (first | (with_reducible first | exact HB.out | apply below_alloc | apply pw_below_drewN | apply below_drew1) | exact HB.out))) : w.heap.size ≤ gb152)); have n4_ := Aside0.mk ((by rw [hg]; exact (below_size (by repeat (first | (with_reducible first | exact HB.out | apply below_alloc | apply pw_below_drewN | apply below_drew1) | exact HB.out))) : w.heap.size ≤ gb152)); clear HO_4; clear HB; have HO_4 := n0_; have HB := n1_; have BK152 := n2_; have GW152 := n3_; have GE152 := n4_; clear n0_ n1_ n2_ n3_ n4_; clear hb hbox hg; have hcz7_0 : w6.cell? ⟨gb152, 0, none⟩ = some (.int .u64 0) := (blk_cell BK152.out 0).trans rfl; have hcz7_1 : w6.cell? ⟨gb152, 1, none⟩ = some (.int .u64 0) := (blk_cell BK152.out 1).trans rfl; have hcz7_2 : w6.cell? ⟨gb152, 2, none⟩ = some (.int .i64 0) := (blk_cell BK152.out 2).trans rfl; have hcz7_3 : w6.cell? ⟨gb152, 3, none⟩ = some (.int .i64 0) := (blk_cell BK152.out 3).trans rfl; have hcz7_4 : w6.cell? ⟨gb152, 4, none⟩ = some (.slice none 0 0) := (blk_cell BK152.out 4).trans rfl; have hfz7_0 := blk_frozen BK152.out 0; have hfz7_1 := blk_frozen BK152.out 1; have hfz7_2 := blk_frozen BK152.out 2; have hfz7_3 := blk_frozen BK152.out 3; have hfz7_4 := blk_frozen BK152.out 4))
            (try simp only [Act.put, List.setIfInBounds_toArray, List.set_cons_zero, List.set_cons_succ])
            go_cut [34] (fun v34 wc => ∃ (kq : Nat) (x34_4 : Bool), v34 = .bool x34_4 ∧ Aside0 (cell_Join.j1 kq l0 x4_1 l0 (l0.length : Int) x9_1 x34_4 ((rd_T106 l0 x9_1).f0) ((rd_T106 l0 x9_1).f1) ((rd_T106 l0 x9_1).f2) ((rd_T106 l0 x9_1).f3) ((rd_T106 l0 x9_1).f4) = some (r1, r2)) ∧ Aside0 (kq ≤ k1) ∧ Aside0 (Kd.R (Kd.int .u8) 5 wc w.heap.size (fun _ => True) u4 x4_1) ∧ Aside0 (wc.heap[gb152]? = some (.cells #[.int .u64 ((rd_T106 l0 x9_1).f0), .int .u64 ((rd_T106 l0 x9_1).f1), .int .i64 ((rd_T106 l0 x9_1).f2), .int .i64 ((rd_T106 l0 x9_1).f3), (.slice A151_4 ((rd_T106 l0 x9_1).f4).length c151_4)] 106 (0, 0))) ∧ Aside0 (Below w.heap.size w wc))
            case first =>
              have H := HC5.out
              clear HC5
              by_cases c8 : 0 < (l0.length : Int)
              · rw [if_pos c8] at H
                have c8b0 : decide (0 < (l0.length : Int)) = true := decide_eq_true c8
                have c8b1 : decide (0 < l0.length) = true := decide_eq_true (by omega)
                clear c8
                (first | rw [c8b0] | (simp only [i64_w, i32_w]; rw [c8b0]) | skip)
                replace H := Option.bind_eq_some_iff.mp H
                obtain ⟨t154, A90, H⟩ := H
                replace H : (if t154 = true then (if (((rd_T106 l0 x9_1).f4).length : Int) = 0 then (cell_Join.j1 k1 l0 x4_1 l0 (l0.length : Int) x9_1 true ((rd_T106 l0 x9_1).f0) ((rd_T106 l0 x9_1).f1) ((rd_T106 l0 x9_1).f2) ((rd_T106 l0 x9_1).f3) ((rd_T106 l0 x9_1).f4)) else (cell_Join.j1 k1 l0 x4_1 l0 (l0.length : Int) x9_1 (decide ((((rd_T106 l0 x9_1).f4).length : Int) > 39)) ((rd_T106 l0 x9_1).f0) ((rd_T106 l0 x9_1).f1) ((rd_T106 l0 x9_1).f2) ((rd_T106 l0 x9_1).f3) ((rd_T106 l0 x9_1).f4))) else (cell_Join.j1 k1 l0 x4_1 l0 (l0.length : Int) x9_1 true ((rd_T106 l0 x9_1).f0) ((rd_T106 l0 x9_1).f1) ((rd_T106 l0 x9_1).f2) ((rd_T106 l0 x9_1).f3) ((rd_T106 l0 x9_1).f4))) = some (r1, r2) := H
                have A9 := Aside0.mk A90
                clear A90
                by_cases c10 : t154 = true
                · subst c10
                  have H1 : (if (((rd_T106 l0 x9_1).f4).length : Int) = 0 then (cell_Join.j1 k1 l0 x4_1 l0 (l0.length : Int) x9_1 true ((rd_T106 l0 x9_1).f0) ((rd_T106 l0 x9_1).f1) ((rd_T106 l0 x9_1).f2) ((rd_T106 l0 x9_1).f3) ((rd_T106 l0 x9_1).f4)) else (cell_Join.j1 k1 l0 x4_1 l0 (l0.length : Int) x9_1 (decide ((((rd_T106 l0 x9_1).f4).length : Int) > 39)) ((rd_T106 l0 x9_1).f0) ((rd_T106 l0 x9_1).f1) ((rd_T106 l0 x9_1).f2) ((rd_T106 l0 x9_1).f3) ((rd_T106 l0 x9_1).f4))) = some (r1, r2) := by rw [if_pos rfl] at H; exact H
                  clear H
                  have H := H1
                  clear H1
                  by_cases c11 : (((rd_T106 l0 x9_1).f4).length : Int) = 0
                  · rw [if_pos c11] at H
                    have c11b0 : ((((rd_T106 l0 x9_1).f4).length : Int) == 0) = true := beq_iff_eq.mpr c11
                    have c11b1 : ((((rd_T106 l0 x9_1).f4).length : Int) != 0) = false := bne_eq_false_iff_eq.mpr c11
                    clear c11
                    have H' := Aside0.mk H
                    clear H
                    try go_wp2
                    have n0_ : Aside0 (Kd.R (Kd.int .u8) 5 (((((w6.setCell ⟨gb152, 0, none⟩ (.int .u64 ((rd_T106 l0 x9_1).f0))).setCell ⟨gb152, 1, none⟩ (.int .u64 ((rd_T106 l0 x9_1).f1))).setCell ⟨gb152, 2, none⟩ (.int .i64 ((rd_T106 l0 x9_1).f2))).setCell ⟨gb152, 3, none⟩ (.int .i64 ((rd_T106 l0 x9_1).f3))).setCell ⟨gb152, 4, none⟩ (.slice A151_4 ((rd_T106 l0 x9_1).f4).length c151_4)) w.heap.size (fun _ => True) u4 x4_1) := ⟨by (with_reducible repeat (first | apply Kd.R_alloc | apply Kd.R_drewN | apply Kd.R_drew)); exact Kd.R_mono (Kd.R_far (p := ⟨gb152, 4, none⟩) (Kd.R_far (p := ⟨gb152, 3, none⟩) (Kd.R_far (p := ⟨gb152, 2, none⟩) (Kd.R_far (p := ⟨gb152, 1, none⟩) (Kd.R_far (p := ⟨gb152, 0, none⟩) (Kd.R_types HO_4.out BK152.out (by decide)) (fun _ hk => hk.2) (.int .u64 ((rd_T106 l0 x9_1).f0))) (fun _ hk => hk.2) (.int .u64 ((rd_T106 l0 x9_1).f1))) (fun _ hk => hk.2) (.int .i64 ((rd_T106 l0 x9_1).f2))) (fun _ hk => hk.2) (.int .i64 ((rd_T106 l0 x9_1).f3))) (fun _ hk => hk.2) (.slice A151_4 ((rd_T106 l0 x9_1).f4).length c151_4)) (fun _ hk => trivial)⟩
                    have n1_ : Aside0 ((((((w6.setCell ⟨gb152, 0, none⟩ (.int .u64 ((rd_T106 l0 x9_1).f0))).setCell ⟨gb152, 1, none⟩ (.int .u64 ((rd_T106 l0 x9_1).f1))).setCell ⟨gb152, 2, none⟩ (.int .i64 ((rd_T106 l0 x9_1).f2))).setCell ⟨gb152, 3, none⟩ (.int .i64 ((rd_T106 l0 x9_1).f3))).setCell ⟨gb152, 4, none⟩ (.slice A151_4 ((rd_T106 l0 x9_1).f4).length c151_4)).heap[gb152]? = some (.cells #[.int .u64 ((rd_T106 l0 x9_1).f0), .int .u64 ((rd_T106 l0 x9_1).f1), .int .i64 ((rd_T106 l0 x9_1).f2), .int .i64 ((rd_T106 l0 x9_1).f3), .slice A151_4 ((rd_T106 l0 x9_1).f4).length c151_4] 106 (0, 0))) := ⟨by (with_reducible repeat (first | refine blk_drewN ?_ _ | refine blk_drew ?_ | refine blk_alloc ?_ _)); refine blk_put (cs := #[.int .u64 ((rd_T106 l0 x9_1).f0), .int .u64 ((rd_T106 l0 x9_1).f1), .int .i64 ((rd_T106 l0 x9_1).f2), .int .i64 ((rd_T106 l0 x9_1).f3), .slice none 0 0]) ?_ 4 _ rfl; (with_reducible repeat (first | refine blk_drewN ?_ _ | refine blk_drew ?_ | refine blk_alloc ?_ _)); refine blk_put (cs := #[.int .u64 ((rd_T106 l0 x9_1).f0), .int .u64 ((rd_T106 l0 x9_1).f1), .int .i64 ((rd_T106 l0 x9_1).f2), .int .i64 0, .slice none 0 0]) ?_ 3 _ rfl; (with_reducible repeat (first | refine blk_drewN ?_ _ | refine blk_drew ?_ | refine blk_alloc ?_ _)); refine blk_put (cs := #[.int .u64 ((rd_T106 l0 x9_1).f0), .int .u64 ((rd_T106 l0 x9_1).f1), .int .i64 0, .int .i64 0, .slice none 0 0]) ?_ 2 _ rfl; (with_reducible repeat (first | refine blk_drewN ?_ _ | refine blk_drew ?_ | refine blk_alloc ?_ _)); refine blk_put (cs := #[.int .u64 ((rd_T106 l0 x9_1).f0), .int .u64 0, .int .i64 0, .int .i64 0, .slice none 0 0]) ?_ 1 _ rfl; (with_reducible repeat (first | refine blk_drewN ?_ _ | refine blk_drew ?_ | refine blk_alloc ?_ _)); refine blk_put (cs := #[.int .u64 0, .int .u64 0, .int .i64 0, .int .i64 0, .slice none 0 0]) ?_ 0 _ rfl; (with_reducible repeat (first | refine blk_drewN ?_ _ | refine blk_drew ?_ | refine blk_alloc ?_ _)); exact BK152.out⟩
                    have n2_ : Aside0 (Below w.heap.size w (((((w6.setCell ⟨gb152, 0, none⟩ (.int .u64 ((rd_T106 l0 x9_1).f0))).setCell ⟨gb152, 1, none⟩ (.int .u64 ((rd_T106 l0 x9_1).f1))).setCell ⟨gb152, 2, none⟩ (.int .i64 ((rd_T106 l0 x9_1).f2))).setCell ⟨gb152, 3, none⟩ (.int .i64 ((rd_T106 l0 x9_1).f3))).setCell ⟨gb152, 4, none⟩ (.slice A151_4 ((rd_T106 l0 x9_1).f4).length c151_4))) := ⟨by repeat (first | (with_reducible first | exact HB.out | apply below_alloc | apply pw_below_drewN | apply below_drew1 | refine below_set ?_ GE152.out) | exact HB.out)⟩
                    (try clear HO_4)
                    (try clear BK152)
                    (try clear HB)
                    generalize (((((w6.setCell ⟨gb152, 0, none⟩ (.int .u64 ((rd_T106 l0 x9_1).f0))).setCell ⟨gb152, 1, none⟩ (.int .u64 ((rd_T106 l0 x9_1).f1))).setCell ⟨gb152, 2, none⟩ (.int .i64 ((rd_T106 l0 x9_1).f2))).setCell ⟨gb152, 3, none⟩ (.int .i64 ((rd_T106 l0 x9_1).f3))).setCell ⟨gb152, 4, none⟩ (.slice A151_4 ((rd_T106 l0 x9_1).f4).length c151_4)) = w12 at n0_ n1_ n2_ ⊢
                    have HO_4 := n0_
                    have BK152 := n1_
                    have HB := n2_
                    clear n0_ n1_ n2_
                    have n0_ := Aside0.mk (Kd.R_drew HO_4.out)
                    have n1_ := Aside0.mk (blk_drew BK152.out)
                    have n2_ := Aside0.mk (below_drew1 HB.out)
                    clear HO_4
                    clear BK152
                    clear HB
                    have HO_4 := n0_
                    have BK152 := n1_
                    have HB := n2_
                    clear n0_ n1_ n2_
                    have p153 : 0 ≤ (0 : Int) := (by omega)
                    have q153 : 0 < (l0.length : Int) := of_decide_eq_true (by first | (with_reducible assumption) | assumption)
                    obtain ⟨ad153, A153_4, c153_4, e153, hx153_0, hx153_1, hx153_2, hx153_3, hx153_4, hl153_4, hi153_4⟩ := at_T106 HR0.out 0 p153 q153
                    have hw153_4 := hx153_4
                    (try rw [show ((0 : Int)).toNat = 0 from rfl] at hw153_4)
                    (try rw [show 0 * 5 = 0 from rfl] at hw153_4)
                    (try rw [Addr.add_zero'] at hw153_4)
                    have hw153_3 := hx153_3
                    (try rw [show ((0 : Int)).toNat = 0 from rfl] at hw153_3)
                    (try rw [show 0 * 5 = 0 from rfl] at hw153_3)
                    (try rw [Addr.add_zero'] at hw153_3)
                    have hw153_2 := hx153_2
                    (try rw [show ((0 : Int)).toNat = 0 from rfl] at hw153_2)
                    (try rw [show 0 * 5 = 0 from rfl] at hw153_2)
                    (try rw [Addr.add_zero'] at hw153_2)
                    have hw153_1 := hx153_1
                    (try rw [show ((0 : Int)).toNat = 0 from rfl] at hw153_1)
                    (try rw [show 0 * 5 = 0 from rfl] at hw153_1)
                    (try rw [Addr.add_zero'] at hw153_1)
                    have hw153_0 := hx153_0
                    (try rw [show ((0 : Int)).toNat = 0 from rfl] at hw153_0)
                    (try rw [show 0 * 5 = 0 from rfl] at hw153_0)
                    (try rw [Addr.add_zero'] at hw153_0)
                    obtain rfl : ad151 = ad153 := (by injection e153)
                    have qi153 : (0 < l0.length) = True := eq_true (by omega)
                    (try rw [show ((0 : Int)).toNat = 0 from rfl] at hx153_0)
                    (try rw [show 0 * 5 = 0 from rfl] at hx153_0)
                    (try rw [Addr.add_zero'] at hx153_0)
                    (try rw [show ((0 : Int)).toNat = 0 from rfl] at hx153_1)
                    (try rw [show 0 * 5 = 0 from rfl] at hx153_1)
                    (try rw [Addr.add_zero'] at hx153_1)
                    (try rw [show ((0 : Int)).toNat = 0 from rfl] at hx153_2)
                    (try rw [show 0 * 5 = 0 from rfl] at hx153_2)
                    (try rw [Addr.add_zero'] at hx153_2)
                    (try rw [show ((0 : Int)).toNat = 0 from rfl] at hx153_3)
                    (try rw [show 0 * 5 = 0 from rfl] at hx153_3)
                    (try rw [Addr.add_zero'] at hx153_3)
                    (try rw [show ((0 : Int)).toNat = 0 from rfl] at hx153_4)
                    (try rw [show 0 * 5 = 0 from rfl] at hx153_4)
                    (try rw [Addr.add_zero'] at hx153_4)
                    replace hx153_0 := (HB.out.cell (World.block_lt_of_cell? w _ hx153_0)).trans hx153_0
                    replace hx153_1 := (HB.out.cell (World.block_lt_of_cell? w _ hx153_1)).trans hx153_1
                    replace hx153_2 := (HB.out.cell (World.block_lt_of_cell? w _ hx153_2)).trans hx153_2
                    replace hx153_3 := (HB.out.cell (World.block_lt_of_cell? w _ hx153_3)).trans hx153_3
                    replace hx153_4 := (HB.out.cell (World.block_lt_of_cell? w _ hx153_4)).trans hx153_4
                    have HR153_4 := Aside0.mk hi153_4
                    have HC153_4 := Aside0.mk hl153_4
                    clear hi153_4 hl153_4
                    replace p153 := eq_true p153
                    replace q153 := eq_true q153
                    refine start_ (n := 21) (S := fun w' => w'.cell? ⟨gb152, 0, none⟩ = some (.int .u64 ((rd_T106 l0 x9_1).f0)) ∧ w'.cell? ⟨gb152, 1, none⟩ = some (.int .u64 ((rd_T106 l0 x9_1).f1)) ∧ w'.cell? ⟨gb152, 2, none⟩ = some (.int .i64 ((rd_T106 l0 x9_1).f2)) ∧ w'.cell? ⟨gb152, 3, none⟩ = some (.int .i64 ((rd_T106 l0 x9_1).f3)) ∧ w'.cell? ⟨gb152, 4, none⟩ = some (.slice A151_4 ((rd_T106 l0 x9_1).f4).length c151_4) ∧ w'.cell? ad151 = some (.int .u64 ((rd_T106 l0 0).f0)) ∧ w'.cell? ⟨ad151.block, ad151.off + 1, none⟩ = some (.int .u64 ((rd_T106 l0 0).f1)) ∧ w'.cell? ⟨ad151.block, ad151.off + 2, none⟩ = some (.int .i64 ((rd_T106 l0 0).f2)) ∧ w'.cell? ⟨ad151.block, ad151.off + 3, none⟩ = some (.int .i64 ((rd_T106 l0 0).f3)) ∧ w'.cell? ⟨ad151.block, ad151.off + 4, none⟩ = some (.slice A153_4 ((rd_T106 l0 0).f4).length c153_4)) (ds := []) #[false, false, false, false, false, false, false, false, false, false, false, false, false, false, false, false, false, false, false, false, false] (by kernel_rfl) rfl rfl ⟨(blk_cell BK152.out 0).trans rfl, (blk_cell BK152.out 1).trans rfl, (blk_cell BK152.out 2).trans rfl, (blk_cell BK152.out 3).trans rfl, (blk_cell BK152.out 4).trans rfl, ((HB.out.cell (World.block_lt_of_cell? w _ hw153_0)).trans hw153_0), ((HB.out.cell (World.block_lt_of_cell? w _ hw153_1)).trans hw153_1), ((HB.out.cell (World.block_lt_of_cell? w _ hw153_2)).trans hw153_2), ((HB.out.cell (World.block_lt_of_cell? w _ hw153_3)).trans hw153_3), ((HB.out.cell (World.block_lt_of_cell? w _ hw153_4)).trans hw153_4)⟩ (fun hHeld => ?_); refine with_tabW cell_Join.tab5 cell_Join.bits5 (fun HT_ HW_ => ?_)
                    generalize w12.drew = w13 at HO_4 BK152 HB HR153_4 hx153_0 hx153_1 hx153_2 hx153_3 hx153_4 hHeld ⊢
                    refine pure_ (i := 1) (N := some 15) (v := ?_) (a' := ?_) #[false, true, false, false, false, false, false, false, false, false, false, false, false, false, false, false, false, false, false, false, false] rfl rfl (any_of HT_.out (by kernel_rfl)) (fun _ _ _ h => h) (Or.inl ⟨by rfl, ?_⟩) ?_ ?_
                    rotate_left
                    · intro w'
                      go_simp
                      with_reducible rfl
                    rotate_left
                    · simp only [Act.put, List.setIfInBounds_toArray, List.set_cons_zero, List.set_cons_succ, i64_w, i32_w]
                      rfl
                    refine pure_ (i := 2) (N := some 16) (v := ?_) (a' := ?_) #[false, true, true, false, false, false, false, false, false, false, false, false, false, false, false, false, false, false, false, false, false] rfl rfl (any_of HT_.out (by kernel_rfl)) (fun _ _ _ h => h) (Or.inl ⟨by rfl, ?_⟩) ?_ ?_
                    rotate_left
                    · intro w'
                      go_simp
                      with_reducible rfl
                    rotate_left
                    · simp only [Act.put, List.setIfInBounds_toArray, List.set_cons_zero, List.set_cons_succ, i64_w, i32_w]
                      rfl
                    refine pure_ (i := 4) (N := some 18) (v := ?_) (a' := ?_) #[false, true, true, false, true, false, false, false, false, false, false, false, false, false, false, false, false, false, false, false, false] rfl rfl (any_of HT_.out (by kernel_rfl)) (fun _ _ _ h => h) (Or.inl ⟨by rfl, ?_⟩) ?_ ?_
                    rotate_left
                    · intro w'
                      go_simp
                      with_reducible rfl
                    rotate_left
                    · simp only [Act.put, List.setIfInBounds_toArray, List.set_cons_zero, List.set_cons_succ, i64_w, i32_w]
                      rfl
                    refine pure_ (i := 5) (N := some 19) (v := ?_) (a' := ?_) #[false, true, true, false, true, true, false, false, false, false, false, false, false, false, false, false, false, false, false, false, false] rfl rfl (any_of HT_.out (by kernel_rfl)) (fun _ _ _ h => h) (Or.inl ⟨by rfl, ?_⟩) ?_ ?_
                    rotate_left
                    · intro w'
                      go_simp
                      with_reducible rfl
                    rotate_left
                    · simp only [Act.put, List.setIfInBounds_toArray, List.set_cons_zero, List.set_cons_succ, i64_w, i32_w]
                      rfl
                    refine pure_ (i := 6) (N := some 20) (v := ?_) (a' := ?_) #[false, true, true, false, true, true, true, false, false, false, false, false, false, false, false, false, false, false, false, false, false] rfl rfl (any_of HT_.out (by kernel_rfl)) (fun _ _ _ h => h) (Or.inl ⟨by rfl, ?_⟩) ?_ ?_
                    rotate_left
                    · intro w'
                      go_simp
                      with_reducible rfl
                    rotate_left
                    · simp only [Act.put, List.setIfInBounds_toArray, List.set_cons_zero, List.set_cons_succ, i64_w, i32_w]
                      rfl
                    refine take_ (i := 0) (N := some 14) (v := ?_) (a' := ?_) #[true, true, true, false, true, true, true, false, false, false, false, false, false, false, false, false, false, false, false, false, false] rfl rfl (take_ofW HT_.out HW_.out (by kernel_rfl)) (fun _ _ _ h => h) (Or.inl ⟨by rfl, ?_⟩) hHeld ?_ ?_
                    rotate_left
                    · rintro w' ⟨s0, s1, s2, s3, s4, s5, s6, s7, s8, s9⟩
                      go_simp
                      with_reducible rfl
                    rotate_left
                    · simp only [Act.put, List.setIfInBounds_toArray, List.set_cons_zero, List.set_cons_succ, i64_w, i32_w]
                      rfl
                    refine take_ (i := 3) (N := some 17) (v := ?_) (a' := ?_) #[true, true, true, true, true, true, true, false, false, false, false, false, false, false, false, false, false, false, false, false, false] rfl rfl (take_ofW HT_.out HW_.out (by kernel_rfl)) (fun _ _ _ h => h) (Or.inl ⟨by rfl, ?_⟩) hHeld ?_ ?_
                    rotate_left
                    · rintro w' ⟨s0, s1, s2, s3, s4, s5, s6, s7, s8, s9⟩
                      go_simp
                      with_reducible rfl
                    rotate_left
                    · simp only [Act.put, List.setIfInBounds_toArray, List.set_cons_zero, List.set_cons_succ, i64_w, i32_w]
                      rfl
                    refine one_ (i := 7) (N := some 21) #[true, true, true, true, true, true, true, true, false, false, false, false, false, false, false, false, false, false, false, false, false] rfl rfl (one_of HT_.out (by kernel_rfl)) (by decide) (fun K hK => ?_)
                    refine goes_ Try.func90 (by kernel_rfl) rfl #[.agg #[.int .u64 ((rd_T106 l0 x9_1).f0), .int .u64 ((rd_T106 l0 x9_1).f1), .int .i64 ((rd_T106 l0 x9_1).f2), .int .i64 ((rd_T106 l0 x9_1).f3), .slice A151_4 ((rd_T106 l0 x9_1).f4).length c151_4], .agg #[.int .u64 ((rd_T106 l0 0).f0), .int .u64 ((rd_T106 l0 0).f1), .int .i64 ((rd_T106 l0 0).f2), .int .i64 ((rd_T106 l0 0).f3), .slice A153_4 ((rd_T106 l0 0).f4).length c153_4], .int .i64 x9_1, .int .i64 (l0.length : Int)] (by rfl) rfl rfl (by (try simp only [List.map_toArray, List.map_cons, List.map_nil]); first | done | rfl | (simp only [List.length_drop, List.length_take]; rfl)) ?_
                    with_reducible refine (cell_goesOn.calls ((rd_T106 l0 x9_1).f0) ((rd_T106 l0 x9_1).f1) ((rd_T106 l0 x9_1).f2) ((rd_T106 l0 x9_1).f3) _ _ ((rd_T106 l0 x9_1).f4) ((rd_T106 l0 0).f0) ((rd_T106 l0 0).f1) ((rd_T106 l0 0).f2) ((rd_T106 l0 0).f3) _ _ ((rd_T106 l0 0).f4) x9_1 (l0.length : Int) true _ ?side1 ?side2 ?side3 ?side4 A9.out).mono ?_
                    (case side1 => repeat (first | exact (Kd.C_below HR151_4.out HB.out) | (with_reducible refine Kd.C_alloc ?_ _) | (with_reducible refine Kd.C_drewN ?_ _) | (with_reducible refine Kd.C_drew ?_)))
                    (case side2 => exact HC151_4.out)
                    (case side3 => repeat (first | exact (Kd.C_below HR153_4.out HB.out) | (with_reducible refine Kd.C_alloc ?_ _) | (with_reducible refine Kd.C_drewN ?_ _) | (with_reducible refine Kd.C_drew ?_)))
                    (case side4 => exact HC153_4.out)
                    rintro e w14 ⟨rfl, hb⟩
                    refine ⟨_, rfl, ?_⟩
                    have n0_ := Aside0.mk (Kd.R_below (by (with_reducible repeat (first | apply Kd.R_alloc | apply Kd.R_drewN | apply Kd.R_drew)); exact HO_4.out) hb)
                    have n1_ := Aside0.mk (blk_below (g := gb152) (o := .cells #[.int .u64 ((rd_T106 l0 x9_1).f0), .int .u64 ((rd_T106 l0 x9_1).f1), .int .i64 ((rd_T106 l0 x9_1).f2), .int .i64 ((rd_T106 l0 x9_1).f3), .slice A151_4 ((rd_T106 l0 x9_1).f4).length c151_4] 106 (0, 0)) (by (with_reducible repeat (first | refine blk_drewN ?_ _ | refine blk_drew ?_ | refine blk_alloc ?_ _)); exact BK152.out) hb)
                    have n2_ := Aside0.mk (below_step (by repeat (first | (with_reducible first | exact HB.out | apply below_alloc | apply pw_below_drewN | apply below_drew1 | refine below_set ?_ GE152.out) | exact HB.out)) hb)
                    clear HO_4
                    clear BK152
                    clear HB
                    have HO_4 := n0_
                    have BK152 := n1_
                    have HB := n2_
                    clear n0_ n1_ n2_
                    (try clear hb)
                    (try clear hb2)
                    (try clear hk)
                    (try clear hi)
                    refine hK.out _ _ ⟨(blk_cell BK152.out 0).trans rfl, (blk_cell BK152.out 1).trans rfl, (blk_cell BK152.out 2).trans rfl, (blk_cell BK152.out 3).trans rfl, (blk_cell BK152.out 4).trans rfl, ((HB.out.cell (World.block_lt_of_cell? w _ hw153_0)).trans hw153_0), ((HB.out.cell (World.block_lt_of_cell? w _ hw153_1)).trans hw153_1), ((HB.out.cell (World.block_lt_of_cell? w _ hw153_2)).trans hw153_2), ((HB.out.cell (World.block_lt_of_cell? w _ hw153_3)).trans hw153_3), ((HB.out.cell (World.block_lt_of_cell? w _ hw153_4)).trans hw153_4)⟩ (fun hHeld => ?_)
                    clear hK K
                    refine norm_ (a' := ?_) ?_ ?_
                    rotate_left
                    · show Act.put _ (some 21) _ = _
                      simp only [Act.put, List.setIfInBounds_toArray, List.set_cons_zero, List.set_cons_succ, i64_w, i32_w]
                      rfl
                    refine pure_ (i := 8) (N := some 22) (v := ?_) (a' := ?_) #[true, true, true, true, true, true, true, true, true, false, false, false, false, false, false, false, false, false, false, false, false] rfl rfl (any_of HT_.out (by kernel_rfl)) (fun _ _ _ h => h) (Or.inl ⟨by rfl, ?_⟩) ?_ ?_
                    rotate_left
                    · intro w'
                      go_simp
                      with_reducible rfl
                    rotate_left
                    · simp only [Act.put, List.setIfInBounds_toArray, List.set_cons_zero, List.set_cons_succ, i64_w, i32_w]
                      rfl
                    refine pure_ (i := 9) (N := some 23) (v := ?_) (a' := ?_) #[true, true, true, true, true, true, true, true, true, true, false, false, false, false, false, false, false, false, false, false, false] rfl rfl (any_of HT_.out (by kernel_rfl)) (fun _ _ _ h => h) (Or.inl ⟨by rfl, ?_⟩) ?_ ?_
                    rotate_left
                    · intro w'
                      go_simp
                      with_reducible rfl
                    rotate_left
                    · simp only [Act.put, List.setIfInBounds_toArray, List.set_cons_zero, List.set_cons_succ, i64_w, i32_w]
                      rfl
                    refine pure_ (i := 10) (N := some 24) (v := ?_) (a' := ?_) #[true, true, true, true, true, true, true, true, true, true, true, false, false, false, false, false, false, false, false, false, false] rfl rfl (any_of HT_.out (by kernel_rfl)) (fun _ _ _ h => h) (Or.inl ⟨by rfl, ?_⟩) ?_ ?_
                    rotate_left
                    · intro w'
                      go_simp
                      with_reducible rfl
                    rotate_left
                    · simp only [Act.put, List.setIfInBounds_toArray, List.set_cons_zero, List.set_cons_succ, i64_w, i32_w]
                      rfl
                    refine take_ (i := 11) (N := some 25) (v := ?_) (a' := ?_) #[true, true, true, true, true, true, true, true, true, true, true, true, false, false, false, false, false, false, false, false, false] rfl rfl (take_ofW HT_.out HW_.out (by kernel_rfl)) (fun _ _ _ h => h) (Or.inl ⟨by rfl, ?_⟩) hHeld ?_ ?_
                    rotate_left
                    · rintro w' ⟨s0, s1, s2, s3, s4, s5, s6, s7, s8, s9⟩
                      go_simp
                      with_reducible rfl
                    rotate_left
                    · simp only [Act.put, List.setIfInBounds_toArray, List.set_cons_zero, List.set_cons_succ, i64_w, i32_w]
                      rfl
                    refine pure_ (i := 12) (N := some 26) (v := ?_) (a' := ?_) #[true, true, true, true, true, true, true, true, true, true, true, true, true, false, false, false, false, false, false, false, false] rfl rfl (any_of HT_.out (by kernel_rfl)) (fun _ _ _ h => h) (Or.inl ⟨by rfl, ?_⟩) ?_ ?_
                    rotate_left
                    · intro w'
                      go_simp
                      with_reducible rfl
                    rotate_left
                    · simp only [Act.put, List.setIfInBounds_toArray, List.set_cons_zero, List.set_cons_succ, i64_w, i32_w]
                      rfl
                    refine pure_ (i := 13) (N := some 27) (v := ?_) (a' := ?_) #[true, true, true, true, true, true, true, true, true, true, true, true, true, true, false, false, false, false, false, false, false] rfl rfl (any_of HT_.out (by kernel_rfl)) (fun _ _ _ h => h) (Or.inl ⟨by rfl, ?_⟩) ?_ ?_
                    rotate_left
                    · intro w'
                      go_simp
                      with_reducible rfl
                    rotate_left
                    · simp only [Act.put, List.setIfInBounds_toArray, List.set_cons_zero, List.set_cons_succ, i64_w, i32_w]
                      rfl
                    refine pure_ (i := 14) (N := some 28) (v := ?_) (a' := ?_) #[true, true, true, true, true, true, true, true, true, true, true, true, true, true, true, false, false, false, false, false, false] rfl rfl (any_of HT_.out (by kernel_rfl)) (fun _ _ _ h => h) (Or.inl ⟨by rfl, ?_⟩) ?_ ?_
                    rotate_left
                    · intro w'
                      go_simp
                      with_reducible rfl
                    rotate_left
                    · simp only [Act.put, List.setIfInBounds_toArray, List.set_cons_zero, List.set_cons_succ, i64_w, i32_w]
                      rfl
                    refine pure_ (i := 15) (N := some 29) (v := ?_) (a' := ?_) #[true, true, true, true, true, true, true, true, true, true, true, true, true, true, true, true, false, false, false, false, false] rfl rfl (any_of HT_.out (by kernel_rfl)) (fun _ _ _ h => h) (Or.inl ⟨by rfl, ?_⟩) ?_ ?_
                    rotate_left
                    · intro w'
                      go_simp
                      with_reducible rfl
                    rotate_left
                    · simp only [Act.put, List.setIfInBounds_toArray, List.set_cons_zero, List.set_cons_succ, i64_w, i32_w]
                      rfl
                    refine pure_ (i := 16) (N := some 30) (v := undef) (a' := ?_) #[true, true, true, true, true, true, true, true, true, true, true, true, true, true, true, true, true, false, false, false, false] rfl rfl (any_of HT_.out (by kernel_rfl)) (fun _ _ _ h => h) (Or.inr ⟨by rfl, rfl⟩) ?_ ?_
                    rotate_left
                    · simp only [Act.put, List.setIfInBounds_toArray, List.set_cons_zero, List.set_cons_succ, i64_w, i32_w]
                      rfl
                    refine pure_ (i := 17) (N := some 31) (v := undef) (a' := ?_) #[true, true, true, true, true, true, true, true, true, true, true, true, true, true, true, true, true, true, false, false, false] rfl rfl (any_of HT_.out (by kernel_rfl)) (fun _ _ _ h => h) (Or.inr ⟨by rfl, rfl⟩) ?_ ?_
                    rotate_left
                    · simp only [Act.put, List.setIfInBounds_toArray, List.set_cons_zero, List.set_cons_succ, i64_w, i32_w]
                      rfl
                    refine pure_ (i := 18) (N := some 32) (v := undef) (a' := ?_) #[true, true, true, true, true, true, true, true, true, true, true, true, true, true, true, true, true, true, true, false, false] rfl rfl (any_of HT_.out (by kernel_rfl)) (fun _ _ _ h => h) (Or.inr ⟨by rfl, rfl⟩) ?_ ?_
                    rotate_left
                    · simp only [Act.put, List.setIfInBounds_toArray, List.set_cons_zero, List.set_cons_succ, i64_w, i32_w]
                      rfl
                    refine pure_ (i := 19) (N := some 33) (v := undef) (a' := ?_) #[true, true, true, true, true, true, true, true, true, true, true, true, true, true, true, true, true, true, true, true, false] rfl rfl (any_of HT_.out (by kernel_rfl)) (fun _ _ _ h => h) (Or.inr ⟨by rfl, rfl⟩) ?_ ?_
                    rotate_left
                    · simp only [Act.put, List.setIfInBounds_toArray, List.set_cons_zero, List.set_cons_succ, i64_w, i32_w]
                      rfl
                    refine pure_ (i := 20) (N := some 34) (v := ?_) (a' := ?_) #[true, true, true, true, true, true, true, true, true, true, true, true, true, true, true, true, true, true, true, true, true] rfl rfl (any_of HT_.out (by kernel_rfl)) (fun _ _ _ h => h) (Or.inl ⟨by rfl, ?_⟩) ?_ ?_
                    rotate_left
                    · intro w'
                      go_simp
                      with_reducible rfl
                    rotate_left
                    · simp only [Act.put, List.setIfInBounds_toArray, List.set_cons_zero, List.set_cons_succ, i64_w, i32_w]
                      rfl
                    refine done_ (done_of HT_.out (by kernel_rfl)) ?_
                    try go_wp2
                    go_meet
                    case rel => exact ⟨_, (true), (by first | rfl | (simp; done) | (simp [*]; done)), H', ⟨by have := HK1.out; first | omega | exact Nat.le_refl _⟩, ⟨by (with_reducible repeat (first | apply Kd.R_alloc | apply Kd.R_drewN | apply Kd.R_drew)); exact HO_4.out⟩, ⟨by (with_reducible repeat (first | refine blk_drewN ?_ _ | refine blk_drew ?_ | refine blk_alloc ?_ _)); exact BK152.out⟩, ⟨by repeat (first | (with_reducible first | exact HB.out | apply below_alloc | apply pw_below_drewN | apply below_drew1 | refine below_set ?_ GE152.out) | exact HB.out)⟩⟩
                  · rw [if_neg c11] at H
                    have c11b0 : ((((rd_T106 l0 x9_1).f4).length : Int) == 0) = false := beq_eq_false_iff_ne.mpr c11
                    have c11b1 : ((((rd_T106 l0 x9_1).f4).length : Int) != 0) = true := bne_iff_ne.mpr c11
                    have c11b2 : ¬ (((rd_T106 l0 x9_1).f4) = []) := fun h_ => c11 (by rw [h_]; rfl)
                    have H' := Aside0.mk H
                    clear H
                    try go_wp2
                    have n0_ : Aside0 (Kd.R (Kd.int .u8) 5 (((((w6.setCell ⟨gb152, 0, none⟩ (.int .u64 ((rd_T106 l0 x9_1).f0))).setCell ⟨gb152, 1, none⟩ (.int .u64 ((rd_T106 l0 x9_1).f1))).setCell ⟨gb152, 2, none⟩ (.int .i64 ((rd_T106 l0 x9_1).f2))).setCell ⟨gb152, 3, none⟩ (.int .i64 ((rd_T106 l0 x9_1).f3))).setCell ⟨gb152, 4, none⟩ (.slice A151_4 ((rd_T106 l0 x9_1).f4).length c151_4)) w.heap.size (fun _ => True) u4 x4_1) := ⟨by (with_reducible repeat (first | apply Kd.R_alloc | apply Kd.R_drewN | apply Kd.R_drew)); exact Kd.R_mono (Kd.R_far (p := ⟨gb152, 4, none⟩) (Kd.R_far (p := ⟨gb152, 3, none⟩) (Kd.R_far (p := ⟨gb152, 2, none⟩) (Kd.R_far (p := ⟨gb152, 1, none⟩) (Kd.R_far (p := ⟨gb152, 0, none⟩) (Kd.R_types HO_4.out BK152.out (by decide)) (fun _ hk => hk.2) (.int .u64 ((rd_T106 l0 x9_1).f0))) (fun _ hk => hk.2) (.int .u64 ((rd_T106 l0 x9_1).f1))) (fun _ hk => hk.2) (.int .i64 ((rd_T106 l0 x9_1).f2))) (fun _ hk => hk.2) (.int .i64 ((rd_T106 l0 x9_1).f3))) (fun _ hk => hk.2) (.slice A151_4 ((rd_T106 l0 x9_1).f4).length c151_4)) (fun _ hk => trivial)⟩
                    have n1_ : Aside0 ((((((w6.setCell ⟨gb152, 0, none⟩ (.int .u64 ((rd_T106 l0 x9_1).f0))).setCell ⟨gb152, 1, none⟩ (.int .u64 ((rd_T106 l0 x9_1).f1))).setCell ⟨gb152, 2, none⟩ (.int .i64 ((rd_T106 l0 x9_1).f2))).setCell ⟨gb152, 3, none⟩ (.int .i64 ((rd_T106 l0 x9_1).f3))).setCell ⟨gb152, 4, none⟩ (.slice A151_4 ((rd_T106 l0 x9_1).f4).length c151_4)).heap[gb152]? = some (.cells #[.int .u64 ((rd_T106 l0 x9_1).f0), .int .u64 ((rd_T106 l0 x9_1).f1), .int .i64 ((rd_T106 l0 x9_1).f2), .int .i64 ((rd_T106 l0 x9_1).f3), .slice A151_4 ((rd_T106 l0 x9_1).f4).length c151_4] 106 (0, 0))) := ⟨by (with_reducible repeat (first | refine blk_drewN ?_ _ | refine blk_drew ?_ | refine blk_alloc ?_ _)); refine blk_put (cs := #[.int .u64 ((rd_T106 l0 x9_1).f0), .int .u64 ((rd_T106 l0 x9_1).f1), .int .i64 ((rd_T106 l0 x9_1).f2), .int .i64 ((rd_T106 l0 x9_1).f3), .slice none 0 0]) ?_ 4 _ rfl; (with_reducible repeat (first | refine blk_drewN ?_ _ | refine blk_drew ?_ | refine blk_alloc ?_ _)); refine blk_put (cs := #[.int .u64 ((rd_T106 l0 x9_1).f0), .int .u64 ((rd_T106 l0 x9_1).f1), .int .i64 ((rd_T106 l0 x9_1).f2), .int .i64 0, .slice none 0 0]) ?_ 3 _ rfl; (with_reducible repeat (first | refine blk_drewN ?_ _ | refine blk_drew ?_ | refine blk_alloc ?_ _)); refine blk_put (cs := #[.int .u64 ((rd_T106 l0 x9_1).f0), .int .u64 ((rd_T106 l0 x9_1).f1), .int .i64 0, .int .i64 0, .slice none 0 0]) ?_ 2 _ rfl; (with_reducible repeat (first | refine blk_drewN ?_ _ | refine blk_drew ?_ | refine blk_alloc ?_ _)); refine blk_put (cs := #[.int .u64 ((rd_T106 l0 x9_1).f0), .int .u64 0, .int .i64 0, .int .i64 0, .slice none 0 0]) ?_ 1 _ rfl; (with_reducible repeat (first | refine blk_drewN ?_ _ | refine blk_drew ?_ | refine blk_alloc ?_ _)); refine blk_put (cs := #[.int .u64 0, .int .u64 0, .int .i64 0, .int .i64 0, .slice none 0 0]) ?_ 0 _ rfl; (with_reducible repeat (first | refine blk_drewN ?_ _ | refine blk_drew ?_ | refine blk_alloc ?_ _)); exact BK152.out⟩
                    have n2_ : Aside0 (Below w.heap.size w (((((w6.setCell ⟨gb152, 0, none⟩ (.int .u64 ((rd_T106 l0 x9_1).f0))).setCell ⟨gb152, 1, none⟩ (.int .u64 ((rd_T106 l0 x9_1).f1))).setCell ⟨gb152, 2, none⟩ (.int .i64 ((rd_T106 l0 x9_1).f2))).setCell ⟨gb152, 3, none⟩ (.int .i64 ((rd_T106 l0 x9_1).f3))).setCell ⟨gb152, 4, none⟩ (.slice A151_4 ((rd_T106 l0 x9_1).f4).length c151_4))) := ⟨by repeat (first | (with_reducible first | exact HB.out | apply below_alloc | apply pw_below_drewN | apply below_drew1 | refine below_set ?_ GE152.out) | exact HB.out)⟩
                    (try clear HO_4)
                    (try clear BK152)
                    (try clear HB)
                    generalize (((((w6.setCell ⟨gb152, 0, none⟩ (.int .u64 ((rd_T106 l0 x9_1).f0))).setCell ⟨gb152, 1, none⟩ (.int .u64 ((rd_T106 l0 x9_1).f1))).setCell ⟨gb152, 2, none⟩ (.int .i64 ((rd_T106 l0 x9_1).f2))).setCell ⟨gb152, 3, none⟩ (.int .i64 ((rd_T106 l0 x9_1).f3))).setCell ⟨gb152, 4, none⟩ (.slice A151_4 ((rd_T106 l0 x9_1).f4).length c151_4)) = w15 at n0_ n1_ n2_ ⊢
                    have HO_4 := n0_
                    have BK152 := n1_
                    have HB := n2_
                    clear n0_ n1_ n2_
                    have n0_ := Aside0.mk (Kd.R_drew HO_4.out)
                    have n1_ := Aside0.mk (blk_drew BK152.out)
                    have n2_ := Aside0.mk (below_drew1 HB.out)
                    clear HO_4
                    clear BK152
                    clear HB
                    have HO_4 := n0_
                    have BK152 := n1_
                    have HB := n2_
                    clear n0_ n1_ n2_
                    have p153 : 0 ≤ (0 : Int) := (by omega)
                    have q153 : 0 < (l0.length : Int) := of_decide_eq_true (by first | (with_reducible assumption) | assumption)
                    obtain ⟨ad153, A153_4, c153_4, e153, hx153_0, hx153_1, hx153_2, hx153_3, hx153_4, hl153_4, hi153_4⟩ := at_T106 HR0.out 0 p153 q153
                    have hw153_4 := hx153_4
                    (try rw [show ((0 : Int)).toNat = 0 from rfl] at hw153_4)
                    (try rw [show 0 * 5 = 0 from rfl] at hw153_4)
                    (try rw [Addr.add_zero'] at hw153_4)
                    have hw153_3 := hx153_3
                    (try rw [show ((0 : Int)).toNat = 0 from rfl] at hw153_3)
                    (try rw [show 0 * 5 = 0 from rfl] at hw153_3)
                    (try rw [Addr.add_zero'] at hw153_3)
                    have hw153_2 := hx153_2
                    (try rw [show ((0 : Int)).toNat = 0 from rfl] at hw153_2)
                    (try rw [show 0 * 5 = 0 from rfl] at hw153_2)
                    (try rw [Addr.add_zero'] at hw153_2)
                    have hw153_1 := hx153_1
                    (try rw [show ((0 : Int)).toNat = 0 from rfl] at hw153_1)
                    (try rw [show 0 * 5 = 0 from rfl] at hw153_1)
                    (try rw [Addr.add_zero'] at hw153_1)
                    have hw153_0 := hx153_0
                    (try rw [show ((0 : Int)).toNat = 0 from rfl] at hw153_0)
                    (try rw [show 0 * 5 = 0 from rfl] at hw153_0)
                    (try rw [Addr.add_zero'] at hw153_0)
                    obtain rfl : ad151 = ad153 := (by injection e153)
                    have qi153 : (0 < l0.length) = True := eq_true (by omega)
                    (try rw [show ((0 : Int)).toNat = 0 from rfl] at hx153_0)
                    (try rw [show 0 * 5 = 0 from rfl] at hx153_0)
                    (try rw [Addr.add_zero'] at hx153_0)
                    (try rw [show ((0 : Int)).toNat = 0 from rfl] at hx153_1)
                    (try rw [show 0 * 5 = 0 from rfl] at hx153_1)
                    (try rw [Addr.add_zero'] at hx153_1)
                    (try rw [show ((0 : Int)).toNat = 0 from rfl] at hx153_2)
                    (try rw [show 0 * 5 = 0 from rfl] at hx153_2)
                    (try rw [Addr.add_zero'] at hx153_2)
                    (try rw [show ((0 : Int)).toNat = 0 from rfl] at hx153_3)
                    (try rw [show 0 * 5 = 0 from rfl] at hx153_3)
                    (try rw [Addr.add_zero'] at hx153_3)
                    (try rw [show ((0 : Int)).toNat = 0 from rfl] at hx153_4)
                    (try rw [show 0 * 5 = 0 from rfl] at hx153_4)
                    (try rw [Addr.add_zero'] at hx153_4)
                    replace hx153_0 := (HB.out.cell (World.block_lt_of_cell? w _ hx153_0)).trans hx153_0
                    replace hx153_1 := (HB.out.cell (World.block_lt_of_cell? w _ hx153_1)).trans hx153_1
                    replace hx153_2 := (HB.out.cell (World.block_lt_of_cell? w _ hx153_2)).trans hx153_2
                    replace hx153_3 := (HB.out.cell (World.block_lt_of_cell? w _ hx153_3)).trans hx153_3
                    replace hx153_4 := (HB.out.cell (World.block_lt_of_cell? w _ hx153_4)).trans hx153_4
                    have HR153_4 := Aside0.mk hi153_4
                    have HC153_4 := Aside0.mk hl153_4
                    clear hi153_4 hl153_4
                    replace p153 := eq_true p153
                    replace q153 := eq_true q153
                    refine start_ (n := 21) (S := fun w' => w'.cell? ⟨gb152, 0, none⟩ = some (.int .u64 ((rd_T106 l0 x9_1).f0)) ∧ w'.cell? ⟨gb152, 1, none⟩ = some (.int .u64 ((rd_T106 l0 x9_1).f1)) ∧ w'.cell? ⟨gb152, 2, none⟩ = some (.int .i64 ((rd_T106 l0 x9_1).f2)) ∧ w'.cell? ⟨gb152, 3, none⟩ = some (.int .i64 ((rd_T106 l0 x9_1).f3)) ∧ w'.cell? ⟨gb152, 4, none⟩ = some (.slice A151_4 ((rd_T106 l0 x9_1).f4).length c151_4) ∧ w'.cell? ad151 = some (.int .u64 ((rd_T106 l0 0).f0)) ∧ w'.cell? ⟨ad151.block, ad151.off + 1, none⟩ = some (.int .u64 ((rd_T106 l0 0).f1)) ∧ w'.cell? ⟨ad151.block, ad151.off + 2, none⟩ = some (.int .i64 ((rd_T106 l0 0).f2)) ∧ w'.cell? ⟨ad151.block, ad151.off + 3, none⟩ = some (.int .i64 ((rd_T106 l0 0).f3)) ∧ w'.cell? ⟨ad151.block, ad151.off + 4, none⟩ = some (.slice A153_4 ((rd_T106 l0 0).f4).length c153_4)) (ds := []) #[false, false, false, false, false, false, false, false, false, false, false, false, false, false, false, false, false, false, false, false, false] (by kernel_rfl) rfl rfl ⟨(blk_cell BK152.out 0).trans rfl, (blk_cell BK152.out 1).trans rfl, (blk_cell BK152.out 2).trans rfl, (blk_cell BK152.out 3).trans rfl, (blk_cell BK152.out 4).trans rfl, ((HB.out.cell (World.block_lt_of_cell? w _ hw153_0)).trans hw153_0), ((HB.out.cell (World.block_lt_of_cell? w _ hw153_1)).trans hw153_1), ((HB.out.cell (World.block_lt_of_cell? w _ hw153_2)).trans hw153_2), ((HB.out.cell (World.block_lt_of_cell? w _ hw153_3)).trans hw153_3), ((HB.out.cell (World.block_lt_of_cell? w _ hw153_4)).trans hw153_4)⟩ (fun hHeld => ?_); refine with_tabW cell_Join.tab5 cell_Join.bits5 (fun HT_ HW_ => ?_)
                    generalize w15.drew = w16 at HO_4 BK152 HB HR153_4 hx153_0 hx153_1 hx153_2 hx153_3 hx153_4 hHeld ⊢
                    refine pure_ (i := 1) (N := some 15) (v := ?_) (a' := ?_) #[false, true, false, false, false, false, false, false, false, false, false, false, false, false, false, false, false, false, false, false, false] rfl rfl (any_of HT_.out (by kernel_rfl)) (fun _ _ _ h => h) (Or.inl ⟨by rfl, ?_⟩) ?_ ?_
                    rotate_left
                    · intro w'
                      go_simp
                      with_reducible rfl
                    rotate_left
                    · simp only [Act.put, List.setIfInBounds_toArray, List.set_cons_zero, List.set_cons_succ, i64_w, i32_w]
                      rfl
                    refine pure_ (i := 2) (N := some 16) (v := ?_) (a' := ?_) #[false, true, true, false, false, false, false, false, false, false, false, false, false, false, false, false, false, false, false, false, false] rfl rfl (any_of HT_.out (by kernel_rfl)) (fun _ _ _ h => h) (Or.inl ⟨by rfl, ?_⟩) ?_ ?_
                    rotate_left
                    · intro w'
                      go_simp
                      with_reducible rfl
                    rotate_left
                    · simp only [Act.put, List.setIfInBounds_toArray, List.set_cons_zero, List.set_cons_succ, i64_w, i32_w]
                      rfl
                    refine pure_ (i := 4) (N := some 18) (v := ?_) (a' := ?_) #[false, true, true, false, true, false, false, false, false, false, false, false, false, false, false, false, false, false, false, false, false] rfl rfl (any_of HT_.out (by kernel_rfl)) (fun _ _ _ h => h) (Or.inl ⟨by rfl, ?_⟩) ?_ ?_
                    rotate_left
                    · intro w'
                      go_simp
                      with_reducible rfl
                    rotate_left
                    · simp only [Act.put, List.setIfInBounds_toArray, List.set_cons_zero, List.set_cons_succ, i64_w, i32_w]
                      rfl
                    refine pure_ (i := 5) (N := some 19) (v := ?_) (a' := ?_) #[false, true, true, false, true, true, false, false, false, false, false, false, false, false, false, false, false, false, false, false, false] rfl rfl (any_of HT_.out (by kernel_rfl)) (fun _ _ _ h => h) (Or.inl ⟨by rfl, ?_⟩) ?_ ?_
                    rotate_left
                    · intro w'
                      go_simp
                      with_reducible rfl
                    rotate_left
                    · simp only [Act.put, List.setIfInBounds_toArray, List.set_cons_zero, List.set_cons_succ, i64_w, i32_w]
                      rfl
                    refine pure_ (i := 6) (N := some 20) (v := ?_) (a' := ?_) #[false, true, true, false, true, true, true, false, false, false, false, false, false, false, false, false, false, false, false, false, false] rfl rfl (any_of HT_.out (by kernel_rfl)) (fun _ _ _ h => h) (Or.inl ⟨by rfl, ?_⟩) ?_ ?_
                    rotate_left
                    · intro w'
                      go_simp
                      with_reducible rfl
                    rotate_left
                    · simp only [Act.put, List.setIfInBounds_toArray, List.set_cons_zero, List.set_cons_succ, i64_w, i32_w]
                      rfl
                    refine take_ (i := 0) (N := some 14) (v := ?_) (a' := ?_) #[true, true, true, false, true, true, true, false, false, false, false, false, false, false, false, false, false, false, false, false, false] rfl rfl (take_ofW HT_.out HW_.out (by kernel_rfl)) (fun _ _ _ h => h) (Or.inl ⟨by rfl, ?_⟩) hHeld ?_ ?_
                    rotate_left
                    · rintro w' ⟨s0, s1, s2, s3, s4, s5, s6, s7, s8, s9⟩
                      go_simp
                      with_reducible rfl
                    rotate_left
                    · simp only [Act.put, List.setIfInBounds_toArray, List.set_cons_zero, List.set_cons_succ, i64_w, i32_w]
                      rfl
                    refine take_ (i := 3) (N := some 17) (v := ?_) (a' := ?_) #[true, true, true, true, true, true, true, false, false, false, false, false, false, false, false, false, false, false, false, false, false] rfl rfl (take_ofW HT_.out HW_.out (by kernel_rfl)) (fun _ _ _ h => h) (Or.inl ⟨by rfl, ?_⟩) hHeld ?_ ?_
                    rotate_left
                    · rintro w' ⟨s0, s1, s2, s3, s4, s5, s6, s7, s8, s9⟩
                      go_simp
                      with_reducible rfl
                    rotate_left
                    · simp only [Act.put, List.setIfInBounds_toArray, List.set_cons_zero, List.set_cons_succ, i64_w, i32_w]
                      rfl
                    refine one_ (i := 7) (N := some 21) #[true, true, true, true, true, true, true, true, false, false, false, false, false, false, false, false, false, false, false, false, false] rfl rfl (one_of HT_.out (by kernel_rfl)) (by decide) (fun K hK => ?_)
                    refine goes_ Try.func90 (by kernel_rfl) rfl #[.agg #[.int .u64 ((rd_T106 l0 x9_1).f0), .int .u64 ((rd_T106 l0 x9_1).f1), .int .i64 ((rd_T106 l0 x9_1).f2), .int .i64 ((rd_T106 l0 x9_1).f3), .slice A151_4 ((rd_T106 l0 x9_1).f4).length c151_4], .agg #[.int .u64 ((rd_T106 l0 0).f0), .int .u64 ((rd_T106 l0 0).f1), .int .i64 ((rd_T106 l0 0).f2), .int .i64 ((rd_T106 l0 0).f3), .slice A153_4 ((rd_T106 l0 0).f4).length c153_4], .int .i64 x9_1, .int .i64 (l0.length : Int)] (by rfl) rfl rfl (by (try simp only [List.map_toArray, List.map_cons, List.map_nil]); first | done | rfl | (simp only [List.length_drop, List.length_take]; rfl)) ?_
                    with_reducible refine (cell_goesOn.calls ((rd_T106 l0 x9_1).f0) ((rd_T106 l0 x9_1).f1) ((rd_T106 l0 x9_1).f2) ((rd_T106 l0 x9_1).f3) _ _ ((rd_T106 l0 x9_1).f4) ((rd_T106 l0 0).f0) ((rd_T106 l0 0).f1) ((rd_T106 l0 0).f2) ((rd_T106 l0 0).f3) _ _ ((rd_T106 l0 0).f4) x9_1 (l0.length : Int) true _ ?side1 ?side2 ?side3 ?side4 A9.out).mono ?_
                    (case side1 => repeat (first | exact (Kd.C_below HR151_4.out HB.out) | (with_reducible refine Kd.C_alloc ?_ _) | (with_reducible refine Kd.C_drewN ?_ _) | (with_reducible refine Kd.C_drew ?_)))
                    (case side2 => exact HC151_4.out)
                    (case side3 => repeat (first | exact (Kd.C_below HR153_4.out HB.out) | (with_reducible refine Kd.C_alloc ?_ _) | (with_reducible refine Kd.C_drewN ?_ _) | (with_reducible refine Kd.C_drew ?_)))
                    (case side4 => exact HC153_4.out)
                    rintro e w17 ⟨rfl, hb⟩
                    refine ⟨_, rfl, ?_⟩
                    have n0_ := Aside0.mk (Kd.R_below (by (with_reducible repeat (first | apply Kd.R_alloc | apply Kd.R_drewN | apply Kd.R_drew)); exact HO_4.out) hb)
                    have n1_ := Aside0.mk (blk_below (g := gb152) (o := .cells #[.int .u64 ((rd_T106 l0 x9_1).f0), .int .u64 ((rd_T106 l0 x9_1).f1), .int .i64 ((rd_T106 l0 x9_1).f2), .int .i64 ((rd_T106 l0 x9_1).f3), .slice A151_4 ((rd_T106 l0 x9_1).f4).length c151_4] 106 (0, 0)) (by (with_reducible repeat (first | refine blk_drewN ?_ _ | refine blk_drew ?_ | refine blk_alloc ?_ _)); exact BK152.out) hb)
                    have n2_ := Aside0.mk (below_step (by repeat (first | (with_reducible first | exact HB.out | apply below_alloc | apply pw_below_drewN | apply below_drew1 | refine below_set ?_ GE152.out) | exact HB.out)) hb)
                    clear HO_4
                    clear BK152
                    clear HB
                    have HO_4 := n0_
                    have BK152 := n1_
                    have HB := n2_
                    clear n0_ n1_ n2_
                    (try clear hb)
                    (try clear hb2)
                    (try clear hk)
                    (try clear hi)
                    refine hK.out _ _ ⟨(blk_cell BK152.out 0).trans rfl, (blk_cell BK152.out 1).trans rfl, (blk_cell BK152.out 2).trans rfl, (blk_cell BK152.out 3).trans rfl, (blk_cell BK152.out 4).trans rfl, ((HB.out.cell (World.block_lt_of_cell? w _ hw153_0)).trans hw153_0), ((HB.out.cell (World.block_lt_of_cell? w _ hw153_1)).trans hw153_1), ((HB.out.cell (World.block_lt_of_cell? w _ hw153_2)).trans hw153_2), ((HB.out.cell (World.block_lt_of_cell? w _ hw153_3)).trans hw153_3), ((HB.out.cell (World.block_lt_of_cell? w _ hw153_4)).trans hw153_4)⟩ (fun hHeld => ?_)
                    clear hK K
                    refine norm_ (a' := ?_) ?_ ?_
                    rotate_left
                    · show Act.put _ (some 21) _ = _
                      simp only [Act.put, List.setIfInBounds_toArray, List.set_cons_zero, List.set_cons_succ, i64_w, i32_w]
                      rfl
                    refine pure_ (i := 8) (N := some 22) (v := ?_) (a' := ?_) #[true, true, true, true, true, true, true, true, true, false, false, false, false, false, false, false, false, false, false, false, false] rfl rfl (any_of HT_.out (by kernel_rfl)) (fun _ _ _ h => h) (Or.inl ⟨by rfl, ?_⟩) ?_ ?_
                    rotate_left
                    · intro w'
                      go_simp
                      with_reducible rfl
                    rotate_left
                    · simp only [Act.put, List.setIfInBounds_toArray, List.set_cons_zero, List.set_cons_succ, i64_w, i32_w]
                      rfl
                    refine pure_ (i := 9) (N := some 23) (v := ?_) (a' := ?_) #[true, true, true, true, true, true, true, true, true, true, false, false, false, false, false, false, false, false, false, false, false] rfl rfl (any_of HT_.out (by kernel_rfl)) (fun _ _ _ h => h) (Or.inl ⟨by rfl, ?_⟩) ?_ ?_
                    rotate_left
                    · intro w'
                      go_simp
                      with_reducible rfl
                    rotate_left
                    · simp only [Act.put, List.setIfInBounds_toArray, List.set_cons_zero, List.set_cons_succ, i64_w, i32_w]
                      rfl
                    refine pure_ (i := 10) (N := some 24) (v := ?_) (a' := ?_) #[true, true, true, true, true, true, true, true, true, true, true, false, false, false, false, false, false, false, false, false, false] rfl rfl (any_of HT_.out (by kernel_rfl)) (fun _ _ _ h => h) (Or.inl ⟨by rfl, ?_⟩) ?_ ?_
                    rotate_left
                    · intro w'
                      go_simp
                      with_reducible rfl
                    rotate_left
                    · simp only [Act.put, List.setIfInBounds_toArray, List.set_cons_zero, List.set_cons_succ, i64_w, i32_w]
                      rfl
                    refine take_ (i := 11) (N := some 25) (v := ?_) (a' := ?_) #[true, true, true, true, true, true, true, true, true, true, true, true, false, false, false, false, false, false, false, false, false] rfl rfl (take_ofW HT_.out HW_.out (by kernel_rfl)) (fun _ _ _ h => h) (Or.inl ⟨by rfl, ?_⟩) hHeld ?_ ?_
                    rotate_left
                    · rintro w' ⟨s0, s1, s2, s3, s4, s5, s6, s7, s8, s9⟩
                      go_simp
                      with_reducible rfl
                    rotate_left
                    · simp only [Act.put, List.setIfInBounds_toArray, List.set_cons_zero, List.set_cons_succ, i64_w, i32_w]
                      rfl
                    refine pure_ (i := 12) (N := some 26) (v := ?_) (a' := ?_) #[true, true, true, true, true, true, true, true, true, true, true, true, true, false, false, false, false, false, false, false, false] rfl rfl (any_of HT_.out (by kernel_rfl)) (fun _ _ _ h => h) (Or.inl ⟨by rfl, ?_⟩) ?_ ?_
                    rotate_left
                    · intro w'
                      go_simp
                      with_reducible rfl
                    rotate_left
                    · simp only [Act.put, List.setIfInBounds_toArray, List.set_cons_zero, List.set_cons_succ, i64_w, i32_w]
                      rfl
                    refine pure_ (i := 13) (N := some 27) (v := ?_) (a' := ?_) #[true, true, true, true, true, true, true, true, true, true, true, true, true, true, false, false, false, false, false, false, false] rfl rfl (any_of HT_.out (by kernel_rfl)) (fun _ _ _ h => h) (Or.inl ⟨by rfl, ?_⟩) ?_ ?_
                    rotate_left
                    · intro w'
                      go_simp
                      with_reducible rfl
                    rotate_left
                    · simp only [Act.put, List.setIfInBounds_toArray, List.set_cons_zero, List.set_cons_succ, i64_w, i32_w]
                      rfl
                    refine pure_ (i := 14) (N := some 28) (v := ?_) (a' := ?_) #[true, true, true, true, true, true, true, true, true, true, true, true, true, true, true, false, false, false, false, false, false] rfl rfl (any_of HT_.out (by kernel_rfl)) (fun _ _ _ h => h) (Or.inl ⟨by rfl, ?_⟩) ?_ ?_
                    rotate_left
                    · intro w'
                      go_simp
                      with_reducible rfl
                    rotate_left
                    · simp only [Act.put, List.setIfInBounds_toArray, List.set_cons_zero, List.set_cons_succ, i64_w, i32_w]
                      rfl
                    refine pure_ (i := 15) (N := some 29) (v := ?_) (a' := ?_) #[true, true, true, true, true, true, true, true, true, true, true, true, true, true, true, true, false, false, false, false, false] rfl rfl (any_of HT_.out (by kernel_rfl)) (fun _ _ _ h => h) (Or.inl ⟨by rfl, ?_⟩) ?_ ?_
                    rotate_left
                    · intro w'
                      go_simp
                      with_reducible rfl
                    rotate_left
                    · simp only [Act.put, List.setIfInBounds_toArray, List.set_cons_zero, List.set_cons_succ, i64_w, i32_w]
                      rfl
                    refine pure_ (i := 16) (N := some 30) (v := ?_) (a' := ?_) #[true, true, true, true, true, true, true, true, true, true, true, true, true, true, true, true, true, false, false, false, false] rfl rfl (any_of HT_.out (by kernel_rfl)) (fun _ _ _ h => h) (Or.inl ⟨by rfl, ?_⟩) ?_ ?_
                    rotate_left
                    · intro w'
                      go_simp
                      with_reducible rfl
                    rotate_left
                    · simp only [Act.put, List.setIfInBounds_toArray, List.set_cons_zero, List.set_cons_succ, i64_w, i32_w]
                      rfl
                    refine take_ (i := 17) (N := some 31) (v := ?_) (a' := ?_) #[true, true, true, true, true, true, true, true, true, true, true, true, true, true, true, true, true, true, false, false, false] rfl rfl (take_ofW HT_.out HW_.out (by kernel_rfl)) (fun _ _ _ h => h) (Or.inl ⟨by rfl, ?_⟩) hHeld ?_ ?_
                    rotate_left
                    · rintro w' ⟨s0, s1, s2, s3, s4, s5, s6, s7, s8, s9⟩
                      go_simp
                      with_reducible rfl
                    rotate_left
                    · simp only [Act.put, List.setIfInBounds_toArray, List.set_cons_zero, List.set_cons_succ, i64_w, i32_w]
                      rfl
                    refine pure_ (i := 18) (N := some 32) (v := ?_) (a' := ?_) #[true, true, true, true, true, true, true, true, true, true, true, true, true, true, true, true, true, true, true, false, false] rfl rfl (any_of HT_.out (by kernel_rfl)) (fun _ _ _ h => h) (Or.inl ⟨by rfl, ?_⟩) ?_ ?_
                    rotate_left
                    · intro w'
                      go_simp
                      with_reducible rfl
                    rotate_left
                    · simp only [Act.put, List.setIfInBounds_toArray, List.set_cons_zero, List.set_cons_succ, i64_w, i32_w]
                      rfl
                    refine pure_ (i := 19) (N := some 33) (v := ?_) (a' := ?_) #[true, true, true, true, true, true, true, true, true, true, true, true, true, true, true, true, true, true, true, true, false] rfl rfl (any_of HT_.out (by kernel_rfl)) (fun _ _ _ h => h) (Or.inl ⟨by rfl, ?_⟩) ?_ ?_
                    rotate_left
                    · intro w'
                      go_simp
                      with_reducible rfl
                    rotate_left
                    · simp only [Act.put, List.setIfInBounds_toArray, List.set_cons_zero, List.set_cons_succ, i64_w, i32_w]
                      rfl
                    refine pure_ (i := 20) (N := some 34) (v := ?_) (a' := ?_) #[true, true, true, true, true, true, true, true, true, true, true, true, true, true, true, true, true, true, true, true, true] rfl rfl (any_of HT_.out (by kernel_rfl)) (fun _ _ _ h => h) (Or.inl ⟨by rfl, ?_⟩) ?_ ?_
                    rotate_left
                    · intro w'
                      go_simp
                      with_reducible rfl
                    rotate_left
                    · simp only [Act.put, List.setIfInBounds_toArray, List.set_cons_zero, List.set_cons_succ, i64_w, i32_w]
                      rfl
                    refine done_ (done_of HT_.out (by kernel_rfl)) ?_
                    try go_wp2
                    go_meet
                    case rel => exact ⟨_, (decide ((((rd_T106 l0 x9_1).f4).length : Int) > 39)), (by first | rfl | (simp; done) | (simp [*]; done)), H', ⟨by have := HK1.out; first | omega | exact Nat.le_refl _⟩, ⟨by (with_reducible repeat (first | apply Kd.R_alloc | apply Kd.R_drewN | apply Kd.R_drew)); exact HO_4.out⟩, ⟨by (with_reducible repeat (first | refine blk_drewN ?_ _ | refine blk_drew ?_ | refine blk_alloc ?_ _)); exact BK152.out⟩, ⟨by repeat (first | (with_reducible first | exact HB.out | apply below_alloc | apply pw_below_drewN | apply below_drew1 | refine below_set ?_ GE152.out) | exact HB.out)⟩⟩
                · replace c10 := Bool.eq_false_iff.mpr c10
                  subst c10
                  have H1 : (cell_Join.j1 k1 l0 x4_1 l0 (l0.length : Int) x9_1 true ((rd_T106 l0 x9_1).f0) ((rd_T106 l0 x9_1).f1) ((rd_T106 l0 x9_1).f2) ((rd_T106 l0 x9_1).f3) ((rd_T106 l0 x9_1).f4)) = some (r1, r2) := by rw [if_neg (show ¬ (false = true) by decide)] at H; exact H
                  clear H
                  have H := H1
                  clear H1
                  have H' := Aside0.mk H
                  clear H
                  try go_wp2
                  have n0_ : Aside0 (Kd.R (Kd.int .u8) 5 (((((w6.setCell ⟨gb152, 0, none⟩ (.int .u64 ((rd_T106 l0 x9_1).f0))).setCell ⟨gb152, 1, none⟩ (.int .u64 ((rd_T106 l0 x9_1).f1))).setCell ⟨gb152, 2, none⟩ (.int .i64 ((rd_T106 l0 x9_1).f2))).setCell ⟨gb152, 3, none⟩ (.int .i64 ((rd_T106 l0 x9_1).f3))).setCell ⟨gb152, 4, none⟩ (.slice A151_4 ((rd_T106 l0 x9_1).f4).length c151_4)) w.heap.size (fun _ => True) u4 x4_1) := ⟨by (with_reducible repeat (first | apply Kd.R_alloc | apply Kd.R_drewN | apply Kd.R_drew)); exact Kd.R_mono (Kd.R_far (p := ⟨gb152, 4, none⟩) (Kd.R_far (p := ⟨gb152, 3, none⟩) (Kd.R_far (p := ⟨gb152, 2, none⟩) (Kd.R_far (p := ⟨gb152, 1, none⟩) (Kd.R_far (p := ⟨gb152, 0, none⟩) (Kd.R_types HO_4.out BK152.out (by decide)) (fun _ hk => hk.2) (.int .u64 ((rd_T106 l0 x9_1).f0))) (fun _ hk => hk.2) (.int .u64 ((rd_T106 l0 x9_1).f1))) (fun _ hk => hk.2) (.int .i64 ((rd_T106 l0 x9_1).f2))) (fun _ hk => hk.2) (.int .i64 ((rd_T106 l0 x9_1).f3))) (fun _ hk => hk.2) (.slice A151_4 ((rd_T106 l0 x9_1).f4).length c151_4)) (fun _ hk => trivial)⟩
                  have n1_ : Aside0 ((((((w6.setCell ⟨gb152, 0, none⟩ (.int .u64 ((rd_T106 l0 x9_1).f0))).setCell ⟨gb152, 1, none⟩ (.int .u64 ((rd_T106 l0 x9_1).f1))).setCell ⟨gb152, 2, none⟩ (.int .i64 ((rd_T106 l0 x9_1).f2))).setCell ⟨gb152, 3, none⟩ (.int .i64 ((rd_T106 l0 x9_1).f3))).setCell ⟨gb152, 4, none⟩ (.slice A151_4 ((rd_T106 l0 x9_1).f4).length c151_4)).heap[gb152]? = some (.cells #[.int .u64 ((rd_T106 l0 x9_1).f0), .int .u64 ((rd_T106 l0 x9_1).f1), .int .i64 ((rd_T106 l0 x9_1).f2), .int .i64 ((rd_T106 l0 x9_1).f3), .slice A151_4 ((rd_T106 l0 x9_1).f4).length c151_4] 106 (0, 0))) := ⟨by (with_reducible repeat (first | refine blk_drewN ?_ _ | refine blk_drew ?_ | refine blk_alloc ?_ _)); refine blk_put (cs := #[.int .u64 ((rd_T106 l0 x9_1).f0), .int .u64 ((rd_T106 l0 x9_1).f1), .int .i64 ((rd_T106 l0 x9_1).f2), .int .i64 ((rd_T106 l0 x9_1).f3), .slice none 0 0]) ?_ 4 _ rfl; (with_reducible repeat (first | refine blk_drewN ?_ _ | refine blk_drew ?_ | refine blk_alloc ?_ _)); refine blk_put (cs := #[.int .u64 ((rd_T106 l0 x9_1).f0), .int .u64 ((rd_T106 l0 x9_1).f1), .int .i64 ((rd_T106 l0 x9_1).f2), .int .i64 0, .slice none 0 0]) ?_ 3 _ rfl; (with_reducible repeat (first | refine blk_drewN ?_ _ | refine blk_drew ?_ | refine blk_alloc ?_ _)); refine blk_put (cs := #[.int .u64 ((rd_T106 l0 x9_1).f0), .int .u64 ((rd_T106 l0 x9_1).f1), .int .i64 0, .int .i64 0, .slice none 0 0]) ?_ 2 _ rfl; (with_reducible repeat (first | refine blk_drewN ?_ _ | refine blk_drew ?_ | refine blk_alloc ?_ _)); refine blk_put (cs := #[.int .u64 ((rd_T106 l0 x9_1).f0), .int .u64 0, .int .i64 0, .int .i64 0, .slice none 0 0]) ?_ 1 _ rfl; (with_reducible repeat (first | refine blk_drewN ?_ _ | refine blk_drew ?_ | refine blk_alloc ?_ _)); refine blk_put (cs := #[.int .u64 0, .int .u64 0, .int .i64 0, .int .i64 0, .slice none 0 0]) ?_ 0 _ rfl; (with_reducible repeat (first | refine blk_drewN ?_ _ | refine blk_drew ?_ | refine blk_alloc ?_ _)); exact BK152.out⟩
                  have n2_ : Aside0 (Below w.heap.size w (((((w6.setCell ⟨gb152, 0, none⟩ (.int .u64 ((rd_T106 l0 x9_1).f0))).setCell ⟨gb152, 1, none⟩ (.int .u64 ((rd_T106 l0 x9_1).f1))).setCell ⟨gb152, 2, none⟩ (.int .i64 ((rd_T106 l0 x9_1).f2))).setCell ⟨gb152, 3, none⟩ (.int .i64 ((rd_T106 l0 x9_1).f3))).setCell ⟨gb152, 4, none⟩ (.slice A151_4 ((rd_T106 l0 x9_1).f4).length c151_4))) := ⟨by repeat (first | (with_reducible first | exact HB.out | apply below_alloc | apply pw_below_drewN | apply below_drew1 | refine below_set ?_ GE152.out) | exact HB.out)⟩
                  (try clear HO_4)
                  (try clear BK152)
                  (try clear HB)
                  generalize (((((w6.setCell ⟨gb152, 0, none⟩ (.int .u64 ((rd_T106 l0 x9_1).f0))).setCell ⟨gb152, 1, none⟩ (.int .u64 ((rd_T106 l0 x9_1).f1))).setCell ⟨gb152, 2, none⟩ (.int .i64 ((rd_T106 l0 x9_1).f2))).setCell ⟨gb152, 3, none⟩ (.int .i64 ((rd_T106 l0 x9_1).f3))).setCell ⟨gb152, 4, none⟩ (.slice A151_4 ((rd_T106 l0 x9_1).f4).length c151_4)) = w18 at n0_ n1_ n2_ ⊢
                  have HO_4 := n0_
                  have BK152 := n1_
                  have HB := n2_
                  clear n0_ n1_ n2_
                  have n0_ := Aside0.mk (Kd.R_drew HO_4.out)
                  have n1_ := Aside0.mk (blk_drew BK152.out)
                  have n2_ := Aside0.mk (below_drew1 HB.out)
                  clear HO_4
                  clear BK152
                  clear HB
                  have HO_4 := n0_
                  have BK152 := n1_
                  have HB := n2_
                  clear n0_ n1_ n2_
                  have p153 : 0 ≤ (0 : Int) := (by omega)
                  have q153 : 0 < (l0.length : Int) := of_decide_eq_true (by first | (with_reducible assumption) | assumption)
                  obtain ⟨ad153, A153_4, c153_4, e153, hx153_0, hx153_1, hx153_2, hx153_3, hx153_4, hl153_4, hi153_4⟩ := at_T106 HR0.out 0 p153 q153
                  have hw153_4 := hx153_4
                  (try rw [show ((0 : Int)).toNat = 0 from rfl] at hw153_4)
                  (try rw [show 0 * 5 = 0 from rfl] at hw153_4)
                  (try rw [Addr.add_zero'] at hw153_4)
                  have hw153_3 := hx153_3
                  (try rw [show ((0 : Int)).toNat = 0 from rfl] at hw153_3)
                  (try rw [show 0 * 5 = 0 from rfl] at hw153_3)
                  (try rw [Addr.add_zero'] at hw153_3)
                  have hw153_2 := hx153_2
                  (try rw [show ((0 : Int)).toNat = 0 from rfl] at hw153_2)
                  (try rw [show 0 * 5 = 0 from rfl] at hw153_2)
                  (try rw [Addr.add_zero'] at hw153_2)
                  have hw153_1 := hx153_1
                  (try rw [show ((0 : Int)).toNat = 0 from rfl] at hw153_1)
                  (try rw [show 0 * 5 = 0 from rfl] at hw153_1)
                  (try rw [Addr.add_zero'] at hw153_1)
                  have hw153_0 := hx153_0
                  (try rw [show ((0 : Int)).toNat = 0 from rfl] at hw153_0)
                  (try rw [show 0 * 5 = 0 from rfl] at hw153_0)
                  (try rw [Addr.add_zero'] at hw153_0)
                  obtain rfl : ad151 = ad153 := (by injection e153)
                  have qi153 : (0 < l0.length) = True := eq_true (by omega)
                  (try rw [show ((0 : Int)).toNat = 0 from rfl] at hx153_0)
                  (try rw [show 0 * 5 = 0 from rfl] at hx153_0)
                  (try rw [Addr.add_zero'] at hx153_0)
                  (try rw [show ((0 : Int)).toNat = 0 from rfl] at hx153_1)
                  (try rw [show 0 * 5 = 0 from rfl] at hx153_1)
                  (try rw [Addr.add_zero'] at hx153_1)
                  (try rw [show ((0 : Int)).toNat = 0 from rfl] at hx153_2)
                  (try rw [show 0 * 5 = 0 from rfl] at hx153_2)
                  (try rw [Addr.add_zero'] at hx153_2)
                  (try rw [show ((0 : Int)).toNat = 0 from rfl] at hx153_3)
                  (try rw [show 0 * 5 = 0 from rfl] at hx153_3)
                  (try rw [Addr.add_zero'] at hx153_3)
                  (try rw [show ((0 : Int)).toNat = 0 from rfl] at hx153_4)
                  (try rw [show 0 * 5 = 0 from rfl] at hx153_4)
                  (try rw [Addr.add_zero'] at hx153_4)
                  replace hx153_0 := (HB.out.cell (World.block_lt_of_cell? w _ hx153_0)).trans hx153_0
                  replace hx153_1 := (HB.out.cell (World.block_lt_of_cell? w _ hx153_1)).trans hx153_1
                  replace hx153_2 := (HB.out.cell (World.block_lt_of_cell? w _ hx153_2)).trans hx153_2
                  replace hx153_3 := (HB.out.cell (World.block_lt_of_cell? w _ hx153_3)).trans hx153_3
                  replace hx153_4 := (HB.out.cell (World.block_lt_of_cell? w _ hx153_4)).trans hx153_4
                  have HR153_4 := Aside0.mk hi153_4
                  have HC153_4 := Aside0.mk hl153_4
                  clear hi153_4 hl153_4
                  replace p153 := eq_true p153
                  replace q153 := eq_true q153
                  refine start_ (n := 21) (S := fun w' => w'.cell? ⟨gb152, 0, none⟩ = some (.int .u64 ((rd_T106 l0 x9_1).f0)) ∧ w'.cell? ⟨gb152, 1, none⟩ = some (.int .u64 ((rd_T106 l0 x9_1).f1)) ∧ w'.cell? ⟨gb152, 2, none⟩ = some (.int .i64 ((rd_T106 l0 x9_1).f2)) ∧ w'.cell? ⟨gb152, 3, none⟩ = some (.int .i64 ((rd_T106 l0 x9_1).f3)) ∧ w'.cell? ⟨gb152, 4, none⟩ = some (.slice A151_4 ((rd_T106 l0 x9_1).f4).length c151_4) ∧ w'.cell? ad151 = some (.int .u64 ((rd_T106 l0 0).f0)) ∧ w'.cell? ⟨ad151.block, ad151.off + 1, none⟩ = some (.int .u64 ((rd_T106 l0 0).f1)) ∧ w'.cell? ⟨ad151.block, ad151.off + 2, none⟩ = some (.int .i64 ((rd_T106 l0 0).f2)) ∧ w'.cell? ⟨ad151.block, ad151.off + 3, none⟩ = some (.int .i64 ((rd_T106 l0 0).f3)) ∧ w'.cell? ⟨ad151.block, ad151.off + 4, none⟩ = some (.slice A153_4 ((rd_T106 l0 0).f4).length c153_4)) (ds := []) #[false, false, false, false, false, false, false, false, false, false, false, false, false, false, false, false, false, false, false, false, false] (by kernel_rfl) rfl rfl ⟨(blk_cell BK152.out 0).trans rfl, (blk_cell BK152.out 1).trans rfl, (blk_cell BK152.out 2).trans rfl, (blk_cell BK152.out 3).trans rfl, (blk_cell BK152.out 4).trans rfl, ((HB.out.cell (World.block_lt_of_cell? w _ hw153_0)).trans hw153_0), ((HB.out.cell (World.block_lt_of_cell? w _ hw153_1)).trans hw153_1), ((HB.out.cell (World.block_lt_of_cell? w _ hw153_2)).trans hw153_2), ((HB.out.cell (World.block_lt_of_cell? w _ hw153_3)).trans hw153_3), ((HB.out.cell (World.block_lt_of_cell? w _ hw153_4)).trans hw153_4)⟩ (fun hHeld => ?_); refine with_tabW cell_Join.tab5 cell_Join.bits5 (fun HT_ HW_ => ?_)
                  generalize w18.drew = w19 at HO_4 BK152 HB HR153_4 hx153_0 hx153_1 hx153_2 hx153_3 hx153_4 hHeld ⊢
                  refine pure_ (i := 1) (N := some 15) (v := ?_) (a' := ?_) #[false, true, false, false, false, false, false, false, false, false, false, false, false, false, false, false, false, false, false, false, false] rfl rfl (any_of HT_.out (by kernel_rfl)) (fun _ _ _ h => h) (Or.inl ⟨by rfl, ?_⟩) ?_ ?_
                  rotate_left
                  · intro w'
                    go_simp
                    with_reducible rfl
                  rotate_left
                  · simp only [Act.put, List.setIfInBounds_toArray, List.set_cons_zero, List.set_cons_succ, i64_w, i32_w]
                    rfl
                  refine pure_ (i := 2) (N := some 16) (v := ?_) (a' := ?_) #[false, true, true, false, false, false, false, false, false, false, false, false, false, false, false, false, false, false, false, false, false] rfl rfl (any_of HT_.out (by kernel_rfl)) (fun _ _ _ h => h) (Or.inl ⟨by rfl, ?_⟩) ?_ ?_
                  rotate_left
                  · intro w'
                    go_simp
                    with_reducible rfl
                  rotate_left
                  · simp only [Act.put, List.setIfInBounds_toArray, List.set_cons_zero, List.set_cons_succ, i64_w, i32_w]
                    rfl
                  refine pure_ (i := 4) (N := some 18) (v := ?_) (a' := ?_) #[false, true, true, false, true, false, false, false, false, false, false, false, false, false, false, false, false, false, false, false, false] rfl rfl (any_of HT_.out (by kernel_rfl)) (fun _ _ _ h => h) (Or.inl ⟨by rfl, ?_⟩) ?_ ?_
                  rotate_left
                  · intro w'
                    go_simp
                    with_reducible rfl
                  rotate_left
                  · simp only [Act.put, List.setIfInBounds_toArray, List.set_cons_zero, List.set_cons_succ, i64_w, i32_w]
                    rfl
                  refine pure_ (i := 5) (N := some 19) (v := ?_) (a' := ?_) #[false, true, true, false, true, true, false, false, false, false, false, false, false, false, false, false, false, false, false, false, false] rfl rfl (any_of HT_.out (by kernel_rfl)) (fun _ _ _ h => h) (Or.inl ⟨by rfl, ?_⟩) ?_ ?_
                  rotate_left
                  · intro w'
                    go_simp
                    with_reducible rfl
                  rotate_left
                  · simp only [Act.put, List.setIfInBounds_toArray, List.set_cons_zero, List.set_cons_succ, i64_w, i32_w]
                    rfl
                  refine pure_ (i := 6) (N := some 20) (v := ?_) (a' := ?_) #[false, true, true, false, true, true, true, false, false, false, false, false, false, false, false, false, false, false, false, false, false] rfl rfl (any_of HT_.out (by kernel_rfl)) (fun _ _ _ h => h) (Or.inl ⟨by rfl, ?_⟩) ?_ ?_
                  rotate_left
                  · intro w'
                    go_simp
                    with_reducible rfl
                  rotate_left
                  · simp only [Act.put, List.setIfInBounds_toArray, List.set_cons_zero, List.set_cons_succ, i64_w, i32_w]
                    rfl
                  refine take_ (i := 0) (N := some 14) (v := ?_) (a' := ?_) #[true, true, true, false, true, true, true, false, false, false, false, false, false, false, false, false, false, false, false, false, false] rfl rfl (take_ofW HT_.out HW_.out (by kernel_rfl)) (fun _ _ _ h => h) (Or.inl ⟨by rfl, ?_⟩) hHeld ?_ ?_
                  rotate_left
                  · rintro w' ⟨s0, s1, s2, s3, s4, s5, s6, s7, s8, s9⟩
                    go_simp
                    with_reducible rfl
                  rotate_left
                  · simp only [Act.put, List.setIfInBounds_toArray, List.set_cons_zero, List.set_cons_succ, i64_w, i32_w]
                    rfl
                  refine take_ (i := 3) (N := some 17) (v := ?_) (a' := ?_) #[true, true, true, true, true, true, true, false, false, false, false, false, false, false, false, false, false, false, false, false, false] rfl rfl (take_ofW HT_.out HW_.out (by kernel_rfl)) (fun _ _ _ h => h) (Or.inl ⟨by rfl, ?_⟩) hHeld ?_ ?_
                  rotate_left
                  · rintro w' ⟨s0, s1, s2, s3, s4, s5, s6, s7, s8, s9⟩
                    go_simp
                    with_reducible rfl
                  rotate_left
                  · simp only [Act.put, List.setIfInBounds_toArray, List.set_cons_zero, List.set_cons_succ, i64_w, i32_w]
                    rfl
                  refine one_ (i := 7) (N := some 21) #[true, true, true, true, true, true, true, true, false, false, false, false, false, false, false, false, false, false, false, false, false] rfl rfl (one_of HT_.out (by kernel_rfl)) (by decide) (fun K hK => ?_)
                  refine goes_ Try.func90 (by kernel_rfl) rfl #[.agg #[.int .u64 ((rd_T106 l0 x9_1).f0), .int .u64 ((rd_T106 l0 x9_1).f1), .int .i64 ((rd_T106 l0 x9_1).f2), .int .i64 ((rd_T106 l0 x9_1).f3), .slice A151_4 ((rd_T106 l0 x9_1).f4).length c151_4], .agg #[.int .u64 ((rd_T106 l0 0).f0), .int .u64 ((rd_T106 l0 0).f1), .int .i64 ((rd_T106 l0 0).f2), .int .i64 ((rd_T106 l0 0).f3), .slice A153_4 ((rd_T106 l0 0).f4).length c153_4], .int .i64 x9_1, .int .i64 (l0.length : Int)] (by rfl) rfl rfl (by (try simp only [List.map_toArray, List.map_cons, List.map_nil]); first | done | rfl | (simp only [List.length_drop, List.length_take]; rfl)) ?_
                  with_reducible refine (cell_goesOn.calls ((rd_T106 l0 x9_1).f0) ((rd_T106 l0 x9_1).f1) ((rd_T106 l0 x9_1).f2) ((rd_T106 l0 x9_1).f3) _ _ ((rd_T106 l0 x9_1).f4) ((rd_T106 l0 0).f0) ((rd_T106 l0 0).f1) ((rd_T106 l0 0).f2) ((rd_T106 l0 0).f3) _ _ ((rd_T106 l0 0).f4) x9_1 (l0.length : Int) false _ ?side1 ?side2 ?side3 ?side4 A9.out).mono ?_
                  (case side1 => repeat (first | exact (Kd.C_below HR151_4.out HB.out) | (with_reducible refine Kd.C_alloc ?_ _) | (with_reducible refine Kd.C_drewN ?_ _) | (with_reducible refine Kd.C_drew ?_)))
                  (case side2 => exact HC151_4.out)
                  (case side3 => repeat (first | exact (Kd.C_below HR153_4.out HB.out) | (with_reducible refine Kd.C_alloc ?_ _) | (with_reducible refine Kd.C_drewN ?_ _) | (with_reducible refine Kd.C_drew ?_)))
                  (case side4 => exact HC153_4.out)
                  rintro e w20 ⟨rfl, hb⟩
                  refine ⟨_, rfl, ?_⟩
                  have n0_ := Aside0.mk (Kd.R_below (by (with_reducible repeat (first | apply Kd.R_alloc | apply Kd.R_drewN | apply Kd.R_drew)); exact HO_4.out) hb)
                  have n1_ := Aside0.mk (blk_below (g := gb152) (o := .cells #[.int .u64 ((rd_T106 l0 x9_1).f0), .int .u64 ((rd_T106 l0 x9_1).f1), .int .i64 ((rd_T106 l0 x9_1).f2), .int .i64 ((rd_T106 l0 x9_1).f3), .slice A151_4 ((rd_T106 l0 x9_1).f4).length c151_4] 106 (0, 0)) (by (with_reducible repeat (first | refine blk_drewN ?_ _ | refine blk_drew ?_ | refine blk_alloc ?_ _)); exact BK152.out) hb)
                  have n2_ := Aside0.mk (below_step (by repeat (first | (with_reducible first | exact HB.out | apply below_alloc | apply pw_below_drewN | apply below_drew1 | refine below_set ?_ GE152.out) | exact HB.out)) hb)
                  clear HO_4
                  clear BK152
                  clear HB
                  have HO_4 := n0_
                  have BK152 := n1_
                  have HB := n2_
                  clear n0_ n1_ n2_
                  (try clear hb)
                  (try clear hb2)
                  (try clear hk)
                  (try clear hi)
                  refine hK.out _ _ ⟨(blk_cell BK152.out 0).trans rfl, (blk_cell BK152.out 1).trans rfl, (blk_cell BK152.out 2).trans rfl, (blk_cell BK152.out 3).trans rfl, (blk_cell BK152.out 4).trans rfl, ((HB.out.cell (World.block_lt_of_cell? w _ hw153_0)).trans hw153_0), ((HB.out.cell (World.block_lt_of_cell? w _ hw153_1)).trans hw153_1), ((HB.out.cell (World.block_lt_of_cell? w _ hw153_2)).trans hw153_2), ((HB.out.cell (World.block_lt_of_cell? w _ hw153_3)).trans hw153_3), ((HB.out.cell (World.block_lt_of_cell? w _ hw153_4)).trans hw153_4)⟩ (fun hHeld => ?_)
                  clear hK K
                  refine norm_ (a' := ?_) ?_ ?_
                  rotate_left
                  · show Act.put _ (some 21) _ = _
                    simp only [Act.put, List.setIfInBounds_toArray, List.set_cons_zero, List.set_cons_succ, i64_w, i32_w]
                    rfl
                  refine pure_ (i := 8) (N := some 22) (v := ?_) (a' := ?_) #[true, true, true, true, true, true, true, true, true, false, false, false, false, false, false, false, false, false, false, false, false] rfl rfl (any_of HT_.out (by kernel_rfl)) (fun _ _ _ h => h) (Or.inl ⟨by rfl, ?_⟩) ?_ ?_
                  rotate_left
                  · intro w'
                    go_simp
                    with_reducible rfl
                  rotate_left
                  · simp only [Act.put, List.setIfInBounds_toArray, List.set_cons_zero, List.set_cons_succ, i64_w, i32_w]
                    rfl
                  refine pure_ (i := 9) (N := some 23) (v := ?_) (a' := ?_) #[true, true, true, true, true, true, true, true, true, true, false, false, false, false, false, false, false, false, false, false, false] rfl rfl (any_of HT_.out (by kernel_rfl)) (fun _ _ _ h => h) (Or.inl ⟨by rfl, ?_⟩) ?_ ?_
                  rotate_left
                  · intro w'
                    go_simp
                    with_reducible rfl
                  rotate_left
                  · simp only [Act.put, List.setIfInBounds_toArray, List.set_cons_zero, List.set_cons_succ, i64_w, i32_w]
                    rfl
                  refine pure_ (i := 10) (N := some 24) (v := undef) (a' := ?_) #[true, true, true, true, true, true, true, true, true, true, true, false, false, false, false, false, false, false, false, false, false] rfl rfl (any_of HT_.out (by kernel_rfl)) (fun _ _ _ h => h) (Or.inr ⟨by rfl, rfl⟩) ?_ ?_
                  rotate_left
                  · simp only [Act.put, List.setIfInBounds_toArray, List.set_cons_zero, List.set_cons_succ, i64_w, i32_w]
                    rfl
                  refine pure_ (i := 11) (N := some 25) (v := undef) (a' := ?_) #[true, true, true, true, true, true, true, true, true, true, true, true, false, false, false, false, false, false, false, false, false] rfl rfl (any_of HT_.out (by kernel_rfl)) (fun _ _ _ h => h) (Or.inr ⟨by rfl, rfl⟩) ?_ ?_
                  rotate_left
                  · simp only [Act.put, List.setIfInBounds_toArray, List.set_cons_zero, List.set_cons_succ, i64_w, i32_w]
                    rfl
                  refine pure_ (i := 12) (N := some 26) (v := undef) (a' := ?_) #[true, true, true, true, true, true, true, true, true, true, true, true, true, false, false, false, false, false, false, false, false] rfl rfl (any_of HT_.out (by kernel_rfl)) (fun _ _ _ h => h) (Or.inr ⟨by rfl, rfl⟩) ?_ ?_
                  rotate_left
                  · simp only [Act.put, List.setIfInBounds_toArray, List.set_cons_zero, List.set_cons_succ, i64_w, i32_w]
                    rfl
                  refine pure_ (i := 13) (N := some 27) (v := undef) (a' := ?_) #[true, true, true, true, true, true, true, true, true, true, true, true, true, true, false, false, false, false, false, false, false] rfl rfl (any_of HT_.out (by kernel_rfl)) (fun _ _ _ h => h) (Or.inr ⟨by rfl, rfl⟩) ?_ ?_
                  rotate_left
                  · simp only [Act.put, List.setIfInBounds_toArray, List.set_cons_zero, List.set_cons_succ, i64_w, i32_w]
                    rfl
                  refine pure_ (i := 14) (N := some 28) (v := ?_) (a' := ?_) #[true, true, true, true, true, true, true, true, true, true, true, true, true, true, true, false, false, false, false, false, false] rfl rfl (any_of HT_.out (by kernel_rfl)) (fun _ _ _ h => h) (Or.inl ⟨by rfl, ?_⟩) ?_ ?_
                  rotate_left
                  · intro w'
                    go_simp
                    with_reducible rfl
                  rotate_left
                  · simp only [Act.put, List.setIfInBounds_toArray, List.set_cons_zero, List.set_cons_succ, i64_w, i32_w]
                    rfl
                  refine pure_ (i := 15) (N := some 29) (v := ?_) (a' := ?_) #[true, true, true, true, true, true, true, true, true, true, true, true, true, true, true, true, false, false, false, false, false] rfl rfl (any_of HT_.out (by kernel_rfl)) (fun _ _ _ h => h) (Or.inl ⟨by rfl, ?_⟩) ?_ ?_
                  rotate_left
                  · intro w'
                    go_simp
                    with_reducible rfl
                  rotate_left
                  · simp only [Act.put, List.setIfInBounds_toArray, List.set_cons_zero, List.set_cons_succ, i64_w, i32_w]
                    rfl
                  refine pure_ (i := 16) (N := some 30) (v := undef) (a' := ?_) #[true, true, true, true, true, true, true, true, true, true, true, true, true, true, true, true, true, false, false, false, false] rfl rfl (any_of HT_.out (by kernel_rfl)) (fun _ _ _ h => h) (Or.inr ⟨by rfl, rfl⟩) ?_ ?_
                  rotate_left
                  · simp only [Act.put, List.setIfInBounds_toArray, List.set_cons_zero, List.set_cons_succ, i64_w, i32_w]
                    rfl
                  refine pure_ (i := 17) (N := some 31) (v := undef) (a' := ?_) #[true, true, true, true, true, true, true, true, true, true, true, true, true, true, true, true, true, true, false, false, false] rfl rfl (any_of HT_.out (by kernel_rfl)) (fun _ _ _ h => h) (Or.inr ⟨by rfl, rfl⟩) ?_ ?_
                  rotate_left
                  · simp only [Act.put, List.setIfInBounds_toArray, List.set_cons_zero, List.set_cons_succ, i64_w, i32_w]
                    rfl
                  refine pure_ (i := 18) (N := some 32) (v := undef) (a' := ?_) #[true, true, true, true, true, true, true, true, true, true, true, true, true, true, true, true, true, true, true, false, false] rfl rfl (any_of HT_.out (by kernel_rfl)) (fun _ _ _ h => h) (Or.inr ⟨by rfl, rfl⟩) ?_ ?_
                  rotate_left
                  · simp only [Act.put, List.setIfInBounds_toArray, List.set_cons_zero, List.set_cons_succ, i64_w, i32_w]
                    rfl
                  refine pure_ (i := 19) (N := some 33) (v := undef) (a' := ?_) #[true, true, true, true, true, true, true, true, true, true, true, true, true, true, true, true, true, true, true, true, false] rfl rfl (any_of HT_.out (by kernel_rfl)) (fun _ _ _ h => h) (Or.inr ⟨by rfl, rfl⟩) ?_ ?_
                  rotate_left
                  · simp only [Act.put, List.setIfInBounds_toArray, List.set_cons_zero, List.set_cons_succ, i64_w, i32_w]
                    rfl
                  refine pure_ (i := 20) (N := some 34) (v := ?_) (a' := ?_) #[true, true, true, true, true, true, true, true, true, true, true, true, true, true, true, true, true, true, true, true, true] rfl rfl (any_of HT_.out (by kernel_rfl)) (fun _ _ _ h => h) (Or.inl ⟨by rfl, ?_⟩) ?_ ?_
                  rotate_left
                  · intro w'
                    go_simp
                    with_reducible rfl
                  rotate_left
                  · simp only [Act.put, List.setIfInBounds_toArray, List.set_cons_zero, List.set_cons_succ, i64_w, i32_w]
                    rfl
                  refine done_ (done_of HT_.out (by kernel_rfl)) ?_
                  try go_wp2
                  go_meet
                  case rel => exact ⟨_, (true), (by first | rfl | (simp; done) | (simp [*]; done)), H', ⟨by have := HK1.out; first | omega | exact Nat.le_refl _⟩, ⟨by (with_reducible repeat (first | apply Kd.R_alloc | apply Kd.R_drewN | apply Kd.R_drew)); exact HO_4.out⟩, ⟨by (with_reducible repeat (first | refine blk_drewN ?_ _ | refine blk_drew ?_ | refine blk_alloc ?_ _)); exact BK152.out⟩, ⟨by repeat (first | (with_reducible first | exact HB.out | apply below_alloc | apply pw_below_drewN | apply below_drew1 | refine below_set ?_ GE152.out) | exact HB.out)⟩⟩
              · rw [if_neg c8] at H
                exact absurd H (by simp)
            case rest =>
              clear HC5
              try clear c1
              try clear p1
              try clear q1
              try clear hx1
              try clear qi1
              try clear p2
              try clear c8
              try clear c9
              try clear c10
              try clear c11
              try clear c11b0
              try clear c11b1
              try clear c11b2
              try clear c15
              try clear p15
              try clear q15
              try clear hx15
              try clear qi15
              try clear hx153_0
              try clear hx153_1
              try clear hx153_2
              try clear hx153_3
              try clear hx153_4
              try clear p153
              try clear q153
              obtain ⟨kq, x34_4, rfl, HA, HJ4, HO_4, BK152, HB⟩ := hcut
              cases kq with
              | zero => exact absurd HA.out (by simp [cell_Join.j1])
              | succ kj4 =>
                have H := HA.out
                clear HA
                simp only [cell_Join.j1] at H
                by_cases c21 : x34_4 = true
                · subst c21
                  have H1 : (some (([] : List Int), false)) = some (r1, r2) := by rw [if_pos rfl] at H; exact H
                  clear H
                  have H := H1
                  clear H1
                  simp only [Option.some.injEq, Prod.mk.injEq] at H
                  obtain ⟨rfl, rfl⟩ := H
                  go_wp2
                  go_ret2
                  exact ⟨_, by first | rfl | (simp [errW_none, errW_some] <;> rfl) | (simp [*, errW_none, errW_some] <;> rfl), by first | exact Kd.R_nil _ _ _ _ _ | exact Kd.N_nil _ _ _ _ _ | exact Kd.V_nil _ _ _ _ _ | exact Kd.Q_nil _ _ _ _ _ | exact Kd.S_nil _ _ _ _ _, by repeat (first | (with_reducible first | exact HB.out | apply below_alloc | apply pw_below_drewN | apply below_drew1 | refine below_set ?_ GE152.out) | exact HB.out)⟩
                · replace c21 := Bool.eq_false_iff.mpr c21
                  subst c21
                  have H1 : (if x4_1.length + ((rd_T106 l0 x9_1).f4).length < 140737488355328 then (cell_Join.l0 kj4 l0 (x4_1 ++ ((rd_T106 l0 x9_1).f4)) l0 (l0.length : Int) (wrap64 (x9_1 + 1))) else (none)) = some (r1, r2) := by rw [if_neg (show ¬ (false = true) by decide)] at H; exact H
                  clear H
                  have H := H1
                  clear H1
                  by_cases c22 : x4_1.length + ((rd_T106 l0 x9_1).f4).length < 140737488355328
                  · rw [if_pos c22] at H
                    have LMc22 := Aside0.mk c22
                    clear c22
                    obtain ⟨y155, hy155⟩ : ∃ y_ : List Int, y_ = (x4_1 ++ ((rd_T106 l0 x9_1).f4)) := ⟨_, rfl⟩
                    replace H : (cell_Join.l0 kj4 l0 y155 l0 (l0.length : Int) (wrap64 (x9_1 + 1))) = some (r1, r2) := by first | (rw [hy155]; with_reducible exact H) | (have H2_ := (Option.bind_some _ _).symm.trans H; rw [hy155]; with_reducible exact H2_) | (have H2_ := (Option.bind_some _ _).symm.trans H; with_reducible exact H2_) | with_reducible exact H | (rw [hy155]; exact H) | exact H
                    have Ny155 := Aside0.mk hy155
                    clear hy155
                    have H' := Aside0.mk H
                    clear H
                    have hcz23_0 : wc.cell? ⟨gb152, 0, none⟩ = some (.int .u64 ((rd_T106 l0 x9_1).f0)) := (blk_cell BK152.out 0).trans rfl
                    have hcz23_1 : wc.cell? ⟨gb152, 1, none⟩ = some (.int .u64 ((rd_T106 l0 x9_1).f1)) := (blk_cell BK152.out 1).trans rfl
                    have hcz23_2 : wc.cell? ⟨gb152, 2, none⟩ = some (.int .i64 ((rd_T106 l0 x9_1).f2)) := (blk_cell BK152.out 2).trans rfl
                    have hcz23_3 : wc.cell? ⟨gb152, 3, none⟩ = some (.int .i64 ((rd_T106 l0 x9_1).f3)) := (blk_cell BK152.out 3).trans rfl
                    have hcz23_4 : wc.cell? ⟨gb152, 4, none⟩ = some (.slice A151_4 ((rd_T106 l0 x9_1).f4).length c151_4) := (blk_cell BK152.out 4).trans rfl
                    have hfz23_0 := blk_frozen BK152.out 0
                    have hfz23_1 := blk_frozen BK152.out 1
                    have hfz23_2 := blk_frozen BK152.out 2
                    have hfz23_3 := blk_frozen BK152.out 3
                    have hfz23_4 := blk_frozen BK152.out 4
                    go_wp2_with (first | ((with_reducible refine gate_builtin (b := .append) (xs := #[.tmp 35, .tmp 37]) rfl ?_); (try (refine gate_guard (by rfl) ?_; dsimp only)); at_builtin; refine Kd.R_append_rows (Kd.int .u8) (w0 := w) w.heap.size rfl (.tmp 35) (.tmp 37) 27 5 (.int .u8 0) 1 rfl Try.underlying27 info5 rfl (by decide) (by omega) u4 x4_1 ((rd_T106 l0 x9_1).f4) _ _ _ (fun _ => True) (fun _ => False) rfl rfl ?aO ?aR (fun _ _ h => h) (fun _ h => h.elim) ?aF ?aB ?aS ?aL ?_; (case aR => repeat (first | exact (Kd.C_below HR151_4.out HB.out) | (with_reducible refine Kd.C_alloc ?_ _) | (with_reducible refine Kd.C_drewN ?_ _) | (with_reducible refine Kd.C_drew ?_))); (case aB => exact (by repeat (first | (with_reducible first | exact HB.out | apply below_alloc | apply pw_below_drewN | apply below_drew1 | refine below_set ?_ GE152.out) | exact HB.out))); (case aF => exact (fun _ _ => trivial)); (case aO => exact (by (with_reducible repeat (first | apply Kd.R_alloc | apply Kd.R_drewN | apply Kd.R_drew)); exact HO_4.out)); (case aS => exact (below_size (by repeat (first | (with_reducible first | exact HB.out | apply below_alloc | apply pw_below_drewN | apply below_drew1 | refine below_set ?_ GE152.out) | exact HB.out)))); (case aL => have := LMc22.out; omega); intro v156 w24 ho hb hg hat; rw [← Ny155.out] at ho; have n0_ := Aside0.mk (blk_grown (g := gb152) (o := .cells #[.int .u64 ((rd_T106 l0 x9_1).f0), .int .u64 ((rd_T106 l0 x9_1).f1), .int .i64 ((rd_T106 l0 x9_1).f2), .int .i64 ((rd_T106 l0 x9_1).f3), .slice A151_4 ((rd_T106 l0 x9_1).f4).length c151_4] 106 (0, 0)) (by (with_reducible repeat (first | refine blk_drewN ?_ _ | refine blk_drew ?_ | refine blk_alloc ?_ _)); exact BK152.out) hg (Kd.R_ne HO_4.out BK152.out (by decide))); have n1_ := Aside0.mk (hb); have n2_ := Aside0.mk (ho); clear BK152; clear HB; clear HO_4; have BK152 := n0_; have HB := n1_; have HO157 := n2_; clear n0_ n1_ n2_; clear ho hb hg hat))
                    go_roundg kj4
                    case measure => have := HK1.out; have := HJ4.out; omega
                    case rel => exact ⟨(y155), (wrap64 (x9_1 + 1)), (by first | rfl | (simp; done) | (simp [*]; done)), H', ⟨by have := HK1.out; have := HJ4.out; omega⟩, ⟨by (with_reducible repeat (first | apply Kd.R_alloc | apply Kd.R_drewN | apply Kd.R_drew)); exact HO157.out⟩, ⟨by repeat (first | (with_reducible first | exact HB.out | apply below_alloc | apply pw_below_drewN | apply below_drew1 | refine below_set ?_ GE152.out) | exact HB.out)⟩⟩
                  · rw [if_neg c22] at H
                    exact absurd H (by simp)
          · rw [if_neg c4] at H
            exact absurd H (by simp)
        · rw [if_neg c3] at H
          exact absurd H (by simp)
      · rw [if_neg c2] at H
        have c2b0 : decide (x9_1 < (l0.length : Int)) = false := decide_eq_false c2
        clear c2
        by_cases c25 : (l0.length : Int) > 65535
        · rw [if_pos c25] at H
          have c25b0 : decide (65535 < (l0.length : Int)) = true := decide_eq_true c25
          have c25b1 : decide (65535 < l0.length) = true := decide_eq_true (by omega)
          clear c25
          simp only [Option.some.injEq, Prod.mk.injEq] at H
          obtain ⟨rfl, rfl⟩ := H
          go_wp2
          go_ret2
          exact ⟨_, by first | rfl | (simp [errW_none, errW_some] <;> rfl) | (simp [*, errW_none, errW_some] <;> rfl), by first | exact Kd.R_nil _ _ _ _ _ | exact Kd.N_nil _ _ _ _ _ | exact Kd.V_nil _ _ _ _ _ | exact Kd.Q_nil _ _ _ _ _ | exact Kd.S_nil _ _ _ _ _, by repeat (first | (with_reducible first | exact HB.out | apply below_alloc | apply pw_below_drewN | apply below_drew1) | exact HB.out)⟩
        · rw [if_neg c25] at H
          have c25b0 : decide (65535 < (l0.length : Int)) = false := decide_eq_false c25
          have c25b1 : decide (65535 < l0.length) = false := decide_eq_false (by omega)
          clear c25
          simp only [Option.some.injEq, Prod.mk.injEq] at H
          obtain ⟨rfl, rfl⟩ := H
          go_wp2
          go_ret2
          exact ⟨_, by first | rfl | (simp [errW_none, errW_some] <;> rfl) | (simp [*, errW_none, errW_some] <;> rfl), by (with_reducible repeat (first | apply Kd.R_alloc | apply Kd.R_drewN | apply Kd.R_drew)); exact HO_4.out, by repeat (first | (with_reducible first | exact HB.out | apply below_alloc | apply pw_below_drewN | apply below_drew1) | exact HB.out)⟩

end Go.Proofs.Ytepipgneefcoiaa.D
