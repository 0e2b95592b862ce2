/- The functions of the program that these laws reach, each as a plain Lean function, and the proof that the machine's call comes to it; no condition beyond those that each theorem names. Made by wip/xprint.py. -/
import Derived.Test.YtnkaidaflegnlaaAx0
import Derived.Test.YtnkaidaflegnlaaAh
namespace Go.Proofs.Ytnkaidaflegnlaa.A
open Go.RowKit Go.Proofs.YtnkaidaflegnlaaW.PrintWords Go.Proofs.YtnkaidaflegnlaaW.PrintLast Go.Proofs.YtnkaidaflegnlaaW.PrintMore
attribute [local go_sem] max2_int min2_int max_two min_two max_three min_three max_four min_four   -- for this text's walks alone
set_option linter.unusedVariables false
set_option linter.unusedSimpArgs false

/-! ### marginalialaw05_count: function 46 -/
mutual
def marginalialaw05_count.l0 : Nat → Int → Int → Int → Int → ByteArray → List (S103) → ByteArray → List (S67) → Option (Int)
  | 0, _, _, _, _, _, _, _, _ => none
  | k + 1, x3, x4, x348000, x348001, x348002, x348003, x348004, x348005 => if x4 < (x348005.length : Int) then (if 0 ≤ x4 then ((marginalialaw05_count.f k ((rd_T67 x348005 x4).f0) ((rd_T67 x348005 x4).f1) ((rd_T67 x348005 x4).f2) ((rd_T67 x348005 x4).f3) ((rd_T67 x348005 x4).f4) ((rd_T67 x348005 x4).f5)).bind fun t349 => (marginalialaw05_count.l0 k (wrap64 (x3 + t349)) (wrap64 (x4 + 1)) x348000 x348001 x348002 x348003 x348004 x348005)) else (none)) else (some x3)
def marginalialaw05_count.f : Nat → Int → Int → ByteArray → List (S103) → ByteArray → List (S67) → Option (Int)
  | 0, _, _, _, _, _, _ => none
  | k + 1, a0_0, a0_1, a0_2, l0_3, a0_4, l0_5 => marginalialaw05_count.l0 k 1 0 a0_0 a0_1 a0_2 l0_3 a0_4 l0_5
end
theorem marginalialaw05_count.mono_l : ∀ k, (∀ y0 y1 y2 y3 y4 y5, LeO (marginalialaw05_count.f k y0 y1 y2 y3 y4 y5) (marginalialaw05_count.f (k + 1) y0 y1 y2 y3 y4 y5)) ∧ (∀ y0 y1 y2 y3 y4 y5 y6 y7, LeO (marginalialaw05_count.l0 k y0 y1 y2 y3 y4 y5 y6 y7) (marginalialaw05_count.l0 (k + 1) y0 y1 y2 y3 y4 y5 y6 y7))
  | 0 => ⟨fun _ _ _ _ _ _ r h => by simp [marginalialaw05_count.f] at h, fun _ _ _ _ _ _ _ _ r h => by simp [marginalialaw05_count.l0] at h⟩
  | k + 1 => by
    obtain ⟨ih0, ih1⟩ := marginalialaw05_count.mono_l k
    refine ⟨?_, ?_⟩
    · intro y0 y1 y2 y3 y4 y5
      unfold marginalialaw05_count.f
      repeat' first
      | (with_reducible exact ih0 _ _ _ _ _ _)
      | (with_reducible exact ih1 _ _ _ _ _ _ _ _)
      | (with_reducible exact LeO.refl _)
      | (with_reducible exact LeO.none _)
      | (with_reducible refine LeO.ite ?_ ?_)
      | (with_reducible refine LeO.bind ?_ (fun _ => ?_))
      | exact ih0 _ _ _ _ _ _
      | exact ih1 _ _ _ _ _ _ _ _
      | exact LeO.none _
      | refine LeO.ite ?_ ?_
      | refine LeO.bind ?_ (fun _ => ?_)
    · intro y0 y1 y2 y3 y4 y5 y6 y7
      unfold marginalialaw05_count.l0
      repeat' first
      | (with_reducible exact ih0 _ _ _ _ _ _)
      | (with_reducible exact ih1 _ _ _ _ _ _ _ _)
      | (with_reducible exact LeO.refl _)
      | (with_reducible exact LeO.none _)
      | (with_reducible refine LeO.ite ?_ ?_)
      | (with_reducible refine LeO.bind ?_ (fun _ => ?_))
      | exact ih0 _ _ _ _ _ _
      | exact ih1 _ _ _ _ _ _ _ _
      | exact LeO.none _
      | refine LeO.ite ?_ ?_
      | refine LeO.bind ?_ (fun _ => ?_)
theorem marginalialaw05_count.mono : ∀ a0 a1 a2 a3 a4 a5 k, LeO (marginalialaw05_count.f k a0 a1 a2 a3 a4 a5) (marginalialaw05_count.f (k + 1) a0 a1 a2 a3 a4 a5) := by
  intro a0 a1 a2 a3 a4 a5 k
  obtain ⟨ih0, ih1⟩ := marginalialaw05_count.mono_l k
  exact ih0 a0 a1 a2 a3 a4 a5
set_option maxHeartbeats 8000000 in
set_option maxRecDepth 100000 in
theorem marginalialaw05_count.calls (k : Nat) : ∀ (a0_0 : Int) (a0_1 : Int) (a0_2 : ByteArray) (A0_3 : Option Addr) (c0_3 : Nat) (l0_3 : List (S103)) (a0_4 : ByteArray) (A0_5 : Option Addr) (c0_5 : Nat) (l0_5 : List (S67)) (r : Int) (w : World) (hr0_3 : Kd.C k103 w A0_3 l0_3.length l0_3) (hc0_3 : l0_3.length ≤ c0_3) (hr0_5 : Kd.C k67 w A0_5 l0_5.length l0_5) (hc0_5 : l0_5.length ≤ c0_5) (h : marginalialaw05_count.f k a0_0 a0_1 a0_2 l0_3 a0_4 l0_5 = some r),
    Calls Try.prog 46 #[.agg #[.int .i64 a0_0, .int .i64 a0_1, .string a0_2, .slice A0_3 l0_3.length c0_3, .string a0_4, .slice A0_5 l0_5.length c0_5]] w fun e w' => e = .returned (.int .i64 r) ∧ Below w.heap.size w w' := by
  induction k using Nat.strongRecOn with
  | _ k ih =>
  intro a0_0 a0_1 a0_2 A0_3 c0_3 l0_3 a0_4 A0_5 c0_5 l0_5 r w hr0_3 hc0_3 hr0_5 hc0_5 h
  cases k with
  | zero => exact absurd h (by simp [marginalialaw05_count.f])
  | succ k =>
  simp only [marginalialaw05_count.f] at h
  have hu67 := Try.underlying67
  have HR0_3 := Aside0.mk hr0_3
  have HC0_3 := Aside0.mk hc0_3
  clear hr0_3 hc0_3
  have HR0_5 := Aside0.mk hr0_5
  have HC0_5 := Aside0.mk hc0_5
  clear hr0_5 hc0_5
  have HB := Aside0.mk (Below.refl w.heap.size w)
  have H : (marginalialaw05_count.l0 k 1 0 a0_0 a0_1 a0_2 l0_3 a0_4 l0_5) = some r := h
  clear h
  have H' := Aside0.mk H
  clear H
  go_enter Try.func46, Try.ntmps46
  go_wp2_with (first | ((with_reducible refine gate_dst (N := 1) rfl ?_); refine box_event ?hg (N := 1) ?hd (cs := #[.int .i64 a0_0, .int .i64 a0_1, .string a0_2, .slice A0_3 l0_3.length c0_3, .string a0_4, .slice A0_5 l0_5.length c0_5]) (t := 67) ?hr ?_; (case hd => rfl); (case hg => rfl); (case hr => first | (go_simp; done) | (go_simp; rfl)); intro gb347 hg w2 hbox hb; have n0_ := Aside0.mk (below_step (by repeat (first | (with_reducible first | exact HB.out | apply below_alloc | apply pw_below_drewN | apply below_drew1) | exact HB.out)) hb); have n1_ := Aside0.mk (hbox); have n2_ := Aside0.mk ((by rw [hg]; exact (below_size (by repeat (first | (with_reducible first | exact HB.out | apply below_alloc | apply pw_below_drewN | apply below_drew1) | exact HB.out))) : w.heap.size ≤ gb347)); have n3_ := Aside0.mk ((by rw [hg]; exact (below_size (by repeat (first | (with_reducible first | exact HB.out | apply below_alloc | apply pw_below_drewN | apply below_drew1) | exact HB.out))) : w.heap.size ≤ gb347)); clear HB; have HB := n0_; have BK347 := n1_; have GW347 := n2_; have GE347 := n3_; clear n0_ n1_ n2_ n3_; clear hb hbox hg))
  go_loopg [3, 4] k (fun kq v3 v4 w' => ∃ (x3_1 : Int) (x4_1 : Int), v3 = .int .i64 x3_1 ∧ v4 = .int .i64 x4_1 ∧ Aside0 (marginalialaw05_count.l0 kq x3_1 x4_1 a0_0 a0_1 a0_2 l0_3 a0_4 l0_5 = some r) ∧ Aside0 (kq ≤ k) ∧ Aside0 (w'.heap[gb347]? = some (.cells #[.int .i64 a0_0, .int .i64 a0_1, .string a0_2, (.slice A0_3 l0_3.length c0_3), .string a0_4, (.slice A0_5 l0_5.length c0_5)] 67 (0, 0))) ∧ Aside0 (Below w.heap.size w w'))
  case atStart => exact ⟨(1), (0), (by first | rfl | (simp; done) | (simp [*]; done)), (by first | rfl | (simp; done) | (simp [*]; done)), H', ⟨Nat.le_refl _⟩, ⟨by (with_reducible repeat (first | refine blk_drewN ?_ _ | refine blk_drew ?_ | refine blk_alloc ?_ _)); exact BK347.out⟩, ⟨by repeat (first | (with_reducible first | exact HB.out | apply below_alloc | apply pw_below_drewN | apply below_drew1 | refine below_set ?_ GE347.out) | exact HB.out)⟩⟩
  case round =>
    clear H'
    try clear p2
    obtain ⟨x3_1, x4_1, rfl, rfl, HA, HK1, BK347, HB⟩ := hrel
    cases gk with
    | zero => exact absurd HA.out (by simp [marginalialaw05_count.l0])
    | succ k1 =>
      have H := HA.out
      clear HA
      simp only [marginalialaw05_count.l0] at H
      by_cases c3 : x4_1 < (l0_5.length : Int)
      · rw [if_pos c3] at H
        have c3b0 : decide (x4_1 < (l0_5.length : Int)) = true := decide_eq_true c3
        clear c3
        by_cases c4 : 0 ≤ x4_1
        · rw [if_pos c4] at H
          have c4b0 : decide (0 ≤ x4_1) = true := decide_eq_true c4
          clear c4
          replace H := Option.bind_eq_some_iff.mp H
          obtain ⟨t349, A50, H⟩ := H
          replace H : (marginalialaw05_count.l0 k1 (wrap64 (x3_1 + t349)) (wrap64 (x4_1 + 1)) a0_0 a0_1 a0_2 l0_3 a0_4 l0_5) = some r := H
          have A5 := Aside0.mk A50
          clear A50
          have H' := Aside0.mk H
          clear H
          have hcz6_0 : wr.cell? ⟨gb347, 0, none⟩ = some (.int .i64 a0_0) := (blk_cell BK347.out 0).trans rfl
          have hcz6_1 : wr.cell? ⟨gb347, 1, none⟩ = some (.int .i64 a0_1) := (blk_cell BK347.out 1).trans rfl
          have hcz6_2 : wr.cell? ⟨gb347, 2, none⟩ = some (.string a0_2) := (blk_cell BK347.out 2).trans rfl
          have hcz6_3 : wr.cell? ⟨gb347, 3, none⟩ = some (.slice A0_3 l0_3.length c0_3) := (blk_cell BK347.out 3).trans rfl
          have hcz6_4 : wr.cell? ⟨gb347, 4, none⟩ = some (.string a0_4) := (blk_cell BK347.out 4).trans rfl
          have hcz6_5 : wr.cell? ⟨gb347, 5, none⟩ = some (.slice A0_5 l0_5.length c0_5) := (blk_cell BK347.out 5).trans rfl
          have hfz6_0 := blk_frozen BK347.out 0
          have hfz6_1 := blk_frozen BK347.out 1
          have hfz6_2 := blk_frozen BK347.out 2
          have hfz6_3 := blk_frozen BK347.out 3
          have hfz6_4 := blk_frozen BK347.out 4
          have hfz6_5 := blk_frozen BK347.out 5
          have p348 : 0 ≤ (x4_1 : Int) := of_decide_eq_true (by first | (with_reducible assumption) | assumption)
          have q348 : x4_1 < (l0_5.length : Int) := of_decide_eq_true (by first | (with_reducible assumption) | assumption)
          obtain ⟨ad348, A348_3, c348_3, A348_5, c348_5, e348, hx348_0, hx348_1, hx348_2, hx348_3, hx348_4, hx348_5, hl348_3, hi348_3, hl348_5, hi348_5⟩ := at_T67 HR0_5.out x4_1 p348 q348
          cases e348
          replace hx348_0 := (HB.out.cell (World.block_lt_of_cell? w _ hx348_0)).trans hx348_0
          replace hx348_1 := (HB.out.cell (World.block_lt_of_cell? w _ hx348_1)).trans hx348_1
          replace hx348_2 := (HB.out.cell (World.block_lt_of_cell? w _ hx348_2)).trans hx348_2
          replace hx348_3 := (HB.out.cell (World.block_lt_of_cell? w _ hx348_3)).trans hx348_3
          replace hx348_4 := (HB.out.cell (World.block_lt_of_cell? w _ hx348_4)).trans hx348_4
          replace hx348_5 := (HB.out.cell (World.block_lt_of_cell? w _ hx348_5)).trans hx348_5
          have HR348_3 := Aside0.mk hi348_3
          have HC348_3 := Aside0.mk hl348_3
          clear hi348_3 hl348_3
          have HR348_5 := Aside0.mk hi348_5
          have HC348_5 := Aside0.mk hl348_5
          clear hi348_5 hl348_5
          replace p348 := eq_true p348
          replace q348 := eq_true q348
          go_wp2_with (first | ((with_reducible refine gate_callee (f := 46) rfl ?_); refine goesL_ (some 18) rfl rfl Try.func46 (by kernel_rfl) rfl #[.agg #[.int .i64 ((rd_T67 l0_5 x4_1).f0), .int .i64 ((rd_T67 l0_5 x4_1).f1), .string ((rd_T67 l0_5 x4_1).f2), .slice A348_3 ((rd_T67 l0_5 x4_1).f3).length c348_3, .string ((rd_T67 l0_5 x4_1).f4), .slice A348_5 ((rd_T67 l0_5 x4_1).f5).length c348_5]] rfl (by (try simp only [List.map_toArray, List.map_cons, List.map_nil]); first | done | rfl | (simp only [List.length_drop, List.length_take]; rfl)) ?_; (with_reducible refine (ih k1 (by have := HK1.out; omega) ((rd_T67 l0_5 x4_1).f0) ((rd_T67 l0_5 x4_1).f1) ((rd_T67 l0_5 x4_1).f2) _ _ ((rd_T67 l0_5 x4_1).f3) ((rd_T67 l0_5 x4_1).f4) _ _ ((rd_T67 l0_5 x4_1).f5) t349 _ ?side1 ?side2 ?side3 ?side4 A5.out).mono ?_); (case side1 => repeat (first | exact (Kd.C_below HR348_3.out HB.out) | (with_reducible refine Kd.C_alloc ?_ _) | (with_reducible refine Kd.C_drewN ?_ _) | (with_reducible refine Kd.C_drew ?_))); (case side2 => exact HC348_3.out); (case side3 => repeat (first | exact (Kd.C_below HR348_5.out HB.out) | (with_reducible refine Kd.C_alloc ?_ _) | (with_reducible refine Kd.C_drewN ?_ _) | (with_reducible refine Kd.C_drew ?_))); (case side4 => exact HC348_5.out); rintro e w7 ⟨rfl, hb⟩; refine ⟨_, rfl, ?_⟩; have n0_ := Aside0.mk (blk_below (g := gb347) (o := .cells #[.int .i64 a0_0, .int .i64 a0_1, .string a0_2, .slice A0_3 l0_3.length c0_3, .string a0_4, .slice (some ad348) l0_5.length c0_5] 67 (0, 0)) (by (with_reducible repeat (first | refine blk_drewN ?_ _ | refine blk_drew ?_ | refine blk_alloc ?_ _)); exact BK347.out) hb); have n1_ := Aside0.mk (below_step (by repeat (first | (with_reducible first | exact HB.out | apply below_alloc | apply pw_below_drewN | apply below_drew1 | refine below_set ?_ GE347.out) | exact HB.out)) hb); clear BK347; clear HB; have BK347 := n0_; have HB := n1_; clear n0_ n1_; (try clear hb); (try clear hb2); (try clear hk); (try clear hi)))
          go_roundg k1
          case measure => have := HK1.out; omega
          case rel => exact ⟨(wrap64 (x3_1 + t349)), (wrap64 (x4_1 + 1)), (by first | rfl | (simp; done) | (simp [*]; done)), (by first | rfl | (simp; done) | (simp [*]; done)), H', ⟨by have := HK1.out; omega⟩, ⟨by (with_reducible repeat (first | refine blk_drewN ?_ _ | refine blk_drew ?_ | refine blk_alloc ?_ _)); exact BK347.out⟩, ⟨by repeat (first | (with_reducible first | exact HB.out | apply below_alloc | apply pw_below_drewN | apply below_drew1 | refine below_set ?_ GE347.out) | exact HB.out)⟩⟩
        · rw [if_neg c4] at H
          exact absurd H (by simp)
      · rw [if_neg c3] at H
        have c3b0 : decide (x4_1 < (l0_5.length : Int)) = false := decide_eq_false c3
        clear c3
        obtain rfl := Option.some.inj H
        have hcz8_0 : wr.cell? ⟨gb347, 0, none⟩ = some (.int .i64 a0_0) := (blk_cell BK347.out 0).trans rfl
        have hcz8_1 : wr.cell? ⟨gb347, 1, none⟩ = some (.int .i64 a0_1) := (blk_cell BK347.out 1).trans rfl
        have hcz8_2 : wr.cell? ⟨gb347, 2, none⟩ = some (.string a0_2) := (blk_cell BK347.out 2).trans rfl
        have hcz8_3 : wr.cell? ⟨gb347, 3, none⟩ = some (.slice A0_3 l0_3.length c0_3) := (blk_cell BK347.out 3).trans rfl
        have hcz8_4 : wr.cell? ⟨gb347, 4, none⟩ = some (.string a0_4) := (blk_cell BK347.out 4).trans rfl
        have hcz8_5 : wr.cell? ⟨gb347, 5, none⟩ = some (.slice A0_5 l0_5.length c0_5) := (blk_cell BK347.out 5).trans rfl
        have hfz8_0 := blk_frozen BK347.out 0
        have hfz8_1 := blk_frozen BK347.out 1
        have hfz8_2 := blk_frozen BK347.out 2
        have hfz8_3 := blk_frozen BK347.out 3
        have hfz8_4 := blk_frozen BK347.out 4
        have hfz8_5 := blk_frozen BK347.out 5
        go_wp2
        go_ret
        exact ⟨by first | rfl | (simp [errW_none, errW_some] <;> rfl) | (simp [*, errW_none, errW_some] <;> rfl), by repeat (first | (with_reducible first | exact HB.out | apply below_alloc | apply pw_below_drewN | apply below_drew1 | refine below_set ?_ GE347.out) | exact HB.out)⟩

end Go.Proofs.Ytnkaidaflegnlaa.A
