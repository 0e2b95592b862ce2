/- The functions of the program that these laws reach, each as a plain Lean function, and the proof that the machine's call comes to it; no condition beyond those that each theorem names. Made by wip/xprint.py. -/
import Derived.Test.YtepipgneefcoiaaDx0
import Derived.Test.YtepipgneefcoiaaDh
namespace Go.Proofs.Ytepipgneefcoiaa.D
open Go.RowKit Go.Proofs.YtepipgneefcoiaaW.PrintWords Go.Proofs.YtepipgneefcoiaaW.PrintLast Go.Proofs.YtepipgneefcoiaaW.PrintMore
attribute [local go_sem] max2_int min2_int max_two min_two max_three min_three max_four min_four   -- for this text's walks alone
set_option linter.unusedVariables false
set_option linter.unusedSimpArgs false

/-! ### marginaliaref14_spend: function 65 -/
def marginaliaref14_spend.j0 : Nat → Bool → List ByteArray → List (S111) → Int → Bool → Bool → Option (List ByteArray × (List (S111)) × Int × Bool × Bool × Bool)
  | 0, _, _, _, _, _, _ => none
  | k + 1, x14, x150000, x150001, x150002, x150003, x150004 => if x14 = true then (some (x150000, x150001, x150002, false, true, false)) else (if x150003 = true then (some (x150000, x150001, wrap64 (x150002 - 1), x150003, x150004, true)) else (some (x150000, x150001, x150002, x150003, x150004, true)))
def marginaliaref14_spend.f (k : Nat) (l0_0 : List ByteArray) (l0_1 : List (S111)) (a0_2 : Int) (a0_3 : Bool) (a0_4 : Bool) : Option (List ByteArray × (List (S111)) × Int × Bool × Bool × Bool) := if a0_4 = true then (marginaliaref14_spend.j0 k true l0_0 l0_1 a0_2 a0_3 a0_4) else (if a0_3 = true then (marginaliaref14_spend.j0 k (a0_2 == 0) l0_0 l0_1 a0_2 a0_3 a0_4) else (marginaliaref14_spend.j0 k false l0_0 l0_1 a0_2 a0_3 a0_4))
theorem marginaliaref14_spend.mono_l : ∀ k, (∀ y0 y1 y2 y3 y4 y5, LeO (marginaliaref14_spend.j0 k y0 y1 y2 y3 y4 y5) (marginaliaref14_spend.j0 (k + 1) y0 y1 y2 y3 y4 y5))
  | 0 => fun _ _ _ _ _ _ r h => by simp [marginaliaref14_spend.j0] at h
  | k + 1 => by
    have ih0 := marginaliaref14_spend.mono_l k
    · intro y0 y1 y2 y3 y4 y5
      unfold marginaliaref14_spend.j0
      repeat' first
      | (with_reducible exact ih0 _ _ _ _ _ _)
      | (with_reducible exact LeO.refl _)
      | (with_reducible exact LeO.none _)
      | (with_reducible refine LeO.ite ?_ ?_)
      | (with_reducible refine LeO.bind ?_ (fun _ => ?_))
      | exact ih0 _ _ _ _ _ _
      | exact LeO.none _
      | refine LeO.ite ?_ ?_
      | refine LeO.bind ?_ (fun _ => ?_)
theorem marginaliaref14_spend.mono : ∀ a0 a1 a2 a3 a4 k, LeO (marginaliaref14_spend.f k a0 a1 a2 a3 a4) (marginaliaref14_spend.f (k + 1) a0 a1 a2 a3 a4) := by
  intro a0 a1 a2 a3 a4 k
  have ih0 := marginaliaref14_spend.mono_l k
  unfold marginaliaref14_spend.f
  repeat' first
      | (with_reducible exact ih0 _ _ _ _ _ _)
      | (with_reducible exact LeO.refl _)
      | (with_reducible exact LeO.none _)
      | (with_reducible refine LeO.ite ?_ ?_)
      | (with_reducible refine LeO.bind ?_ (fun _ => ?_))
      | exact ih0 _ _ _ _ _ _
      | exact LeO.none _
      | refine LeO.ite ?_ ?_
      | refine LeO.bind ?_ (fun _ => ?_)
set_option maxHeartbeats 8000000 in
set_option maxRecDepth 100000 in
theorem marginaliaref14_spend.calls (k : Nat) (P0_0_ : Nat → Prop) (u9000_ : Value) (l0_0 : List ByteArray) (P0_1_ : Nat → Prop) (u9001_ : Value) (l0_1 : List (S111)) (a0_2 : Int) (a0_3 : Bool) (a0_4 : Bool) (r1 : List ByteArray) (r2 : List (S111)) (r3 : Int) (r4 : Bool) (r5 : Bool) (r6 : Bool) (w0 w : World) (hB : Below w0.heap.size w0 w) (ho0_0 : Kd.R Kd.string 9 w w0.heap.size P0_0_ u9000_ l0_0) (ho0_1 : Kd.R k111 111 w w0.heap.size P0_1_ u9001_ l0_1) (h : marginaliaref14_spend.f k l0_0 l0_1 a0_2 a0_3 a0_4 = some (r1, r2, r3, r4, r5, r6)) :
    Calls Try.prog 65 #[.agg #[u9000_, u9001_, .int .i64 a0_2, .bool a0_3, .bool a0_4]] w fun e w' => ∃ v0_ v1_ : Value, e = .returned (.tuple #[.agg #[v0_, v1_, .int .i64 r3, .bool r4, .bool r5], .bool r6]) ∧ Kd.R Kd.string 9 w' w0.heap.size (fun k_ => ((P0_0_ k_ ∨ P0_1_ k_) ∨ w.heap.size ≤ k_)) v0_ r1 ∧ Kd.R k111 111 w' w0.heap.size (fun k_ => ((P0_0_ k_ ∨ P0_1_ k_) ∨ w.heap.size ≤ k_)) v1_ r2 ∧ Below w0.heap.size w0 w' ∧ Kept w w' (fun k_ => P0_0_ k_ ∨ P0_1_ k_) := by
  have hu51 := Try.underlying51
  have HO0_0 := Aside0.mk (show Kd.R Kd.string 9 w w0.heap.size (fun k_ => ((P0_0_ k_ ∨ P0_1_ k_) ∨ w.heap.size ≤ k_)) u9000_ l0_0 from Kd.R_mono ho0_0 (fun k_ hk => (.inl (.inl hk))))
  have HO0_1 := Aside0.mk (show Kd.R k111 111 w w0.heap.size (fun k_ => ((P0_0_ k_ ∨ P0_1_ k_) ∨ w.heap.size ≤ k_)) u9001_ l0_1 from Kd.R_mono ho0_1 (fun k_ hk => (.inl (.inr hk))))
  have HK := Aside0.mk (Kept.refl w (fun k_ => P0_0_ k_ ∨ P0_1_ k_))
  have HW0 := Aside0.mk hB.size
  have HB := Aside0.mk hB
  clear hB
  have H : (if a0_4 = true then (marginaliaref14_spend.j0 k true l0_0 l0_1 a0_2 a0_3 a0_4) else (if a0_3 = true then (marginaliaref14_spend.j0 k (a0_2 == 0) l0_0 l0_1 a0_2 a0_3 a0_4) else (marginaliaref14_spend.j0 k false l0_0 l0_1 a0_2 a0_3 a0_4))) = some (r1, r2, r3, r4, r5, r6) := h
  clear h
  have HC2 := Aside0.mk H
  clear H
  obtain ⟨Ao3, co3, eo3⟩ := Kd.R_slice HO0_0.out
  subst eo3
  obtain ⟨Ao4, co4, eo4⟩ := Kd.R_slice HO0_1.out
  subst eo4
  go_enter Try.func65, Try.ntmps65
  go_upto_region 1 with (first | ((with_reducible refine gate_dst (N := 1) rfl ?_); refine box_event ?hg (N := 1) ?hd (cs := #[.slice Ao3 l0_0.length co3, .slice Ao4 l0_1.length co4, .int .i64 a0_2, .bool a0_3, .bool a0_4]) (t := 51) ?hr ?_; (case hd => rfl); (case hg => rfl); (case hr => first | (go_simp; done) | (go_simp; rfl)); intro gb149 hg w5 hbox hb; have n0_ := Aside0.mk (Kd.R_below (by (with_reducible repeat (first | apply Kd.R_alloc | apply Kd.R_drewN | apply Kd.R_drew)); exact HO0_0.out) hb); have n1_ := Aside0.mk (Kd.R_below (by (with_reducible repeat (first | apply Kd.R_alloc | apply Kd.R_drewN | apply Kd.R_drew)); exact HO0_1.out) hb); have n2_ := Aside0.mk (Kept.below (S := (fun k_ => P0_0_ k_ ∨ P0_1_ k_)) (by repeat (first | (with_reducible first | exact HK.out | apply Kept.alloc | apply Kept.drewN | apply Kept.drew) | exact HK.out)) hb); have n3_ := Aside0.mk (below_step (by repeat (first | (with_reducible first | exact HB.out | apply below_alloc | apply pw_below_drewN | apply below_drew1) | exact HB.out)) hb); have n4_ := Aside0.mk (hbox); have n5_ := Aside0.mk ((by rw [hg]; exact (by first | exact HK.out.1 | exact (show Kept w _ (fun k_ => P0_0_ k_ ∨ P0_1_ k_) from by repeat (first | (with_reducible first | exact HK.out | apply Kept.alloc | apply Kept.drewN | apply Kept.drew) | exact HK.out)).1) : w.heap.size ≤ gb149)); have n6_ := Aside0.mk ((by rw [hg]; exact (below_size (by repeat (first | (with_reducible first | exact HB.out | apply below_alloc | apply pw_below_drewN | apply below_drew1) | exact HB.out))) : w0.heap.size ≤ gb149)); clear HO0_0; clear HO0_1; clear HK; clear HB; have HO0_0 := n0_; have HO0_1 := n1_; have HK := n2_; have HB := n3_; have BK149 := n4_; have GW149 := n5_; have GE149 := n6_; clear n0_ n1_ n2_ n3_ n4_ n5_ n6_; clear hb hbox hg) | ((with_reducible refine gate_dst (N := 2) rfl ?_); refine box_event ?hg (N := 2) ?hd (cs := #[.slice none 0 0, .slice none 0 0, .int .i64 0, .bool false, .bool false]) (t := 51) ?hr ?_; (case hd => rfl); (case hg => rfl); (case hr => first | (go_simp; done) | (go_simp; rfl)); intro gb150 hg w6 hbox hb; have n0_ := Aside0.mk (Kd.R_below (by (with_reducible repeat (first | apply Kd.R_alloc | apply Kd.R_drewN | apply Kd.R_drew)); exact HO0_0.out) hb); have n1_ := Aside0.mk (Kd.R_below (by (with_reducible repeat (first | apply Kd.R_alloc | apply Kd.R_drewN | apply Kd.R_drew)); exact HO0_1.out) hb); have n2_ := Aside0.mk (blk_below (g := gb149) (o := .cells #[.slice Ao3 l0_0.length co3, .slice Ao4 l0_1.length co4, .int .i64 a0_2, .bool a0_3, .bool a0_4] 51 (0, 0)) (by (with_reducible repeat (first | refine blk_drewN ?_ _ | refine blk_drew ?_ | refine blk_alloc ?_ _)); exact BK149.out) hb); have n3_ := Aside0.mk (Kept.below (S := (fun k_ => P0_0_ k_ ∨ P0_1_ k_)) (by repeat (first | (with_reducible first | exact HK.out | apply Kept.alloc | apply Kept.drewN | apply Kept.drew | refine Kept.setCell ?_ (.inr GW149.out) _) | exact HK.out)) hb); have n4_ := Aside0.mk (below_step (by repeat (first | (with_reducible first | exact HB.out | apply below_alloc | apply pw_below_drewN | apply below_drew1 | refine below_set ?_ GE149.out) | exact HB.out)) hb); have n5_ := Aside0.mk (hbox); have n6_ := Aside0.mk ((by rw [hg]; exact (by first | exact HK.out.1 | exact (show Kept w _ (fun k_ => P0_0_ k_ ∨ P0_1_ k_) from by repeat (first | (with_reducible first | exact HK.out | apply Kept.alloc | apply Kept.drewN | apply Kept.drew | refine Kept.setCell ?_ (.inr GW149.out) _) | exact HK.out)).1) : w.heap.size ≤ gb150)); have n7_ := Aside0.mk ((by rw [hg]; exact (below_size (by repeat (first | (with_reducible first | exact HB.out | apply below_alloc | apply pw_below_drewN | apply below_drew1 | refine below_set ?_ GE149.out) | exact HB.out))) : w0.heap.size ≤ gb150)); have n8_ := Aside0.mk ((by rw [hg]; exact Nat.ne_of_lt (blk_lt (g := gb149) (o := .cells #[.slice Ao3 l0_0.length co3, .slice Ao4 l0_1.length co4, .int .i64 a0_2, .bool a0_3, .bool a0_4] 51 (0, 0)) (by (with_reducible repeat (first | refine blk_drewN ?_ _ | refine blk_drew ?_ | refine blk_alloc ?_ _)); exact BK149.out)) : gb149 ≠ gb150)); have n9_ := Aside0.mk ((by rw [hg]; exact Nat.ne_of_gt (blk_lt (g := gb149) (o := .cells #[.slice Ao3 l0_0.length co3, .slice Ao4 l0_1.length co4, .int .i64 a0_2, .bool a0_3, .bool a0_4] 51 (0, 0)) (by (with_reducible repeat (first | refine blk_drewN ?_ _ | refine blk_drew ?_ | refine blk_alloc ?_ _)); exact BK149.out)) : gb150 ≠ gb149)); clear HO0_0; clear HO0_1; clear BK149; clear HK; clear HB; have HO0_0 := n0_; have HO0_1 := n1_; have BK149 := n2_; have HK := n3_; have HB := n4_; have BK150 := n5_; have GW150 := n6_; have GE150 := n7_; have NB149_150 := n8_; have NB150_149 := n9_; clear n0_ n1_ n2_ n3_ n4_ n5_ n6_ n7_ n8_ n9_; clear hb hbox hg))
  (try simp only [Act.put, List.setIfInBounds_toArray, List.set_cons_zero, List.set_cons_succ])
  go_cut [14] (fun v14 wc => ∃ (kq : Nat) (x14_1 : Bool), v14 = .bool x14_1 ∧ Aside0 (marginaliaref14_spend.j0 kq x14_1 l0_0 l0_1 a0_2 a0_3 a0_4 = some (r1, r2, r3, r4, r5, r6)) ∧ Aside0 (kq ≤ k) ∧ Aside0 (Kd.R Kd.string 9 wc w0.heap.size (fun k_ => ((P0_0_ k_ ∨ P0_1_ k_) ∨ w.heap.size ≤ k_)) (.slice Ao3 l0_0.length co3) l0_0) ∧ Aside0 (Kd.R k111 111 wc w0.heap.size (fun k_ => ((P0_0_ k_ ∨ P0_1_ k_) ∨ w.heap.size ≤ k_)) (.slice Ao4 l0_1.length co4) l0_1) ∧ Aside0 (wc.heap[gb149]? = some (.cells #[(.slice Ao3 l0_0.length co3), (.slice Ao4 l0_1.length co4), .int .i64 a0_2, .bool a0_3, .bool a0_4] 51 (0, 0))) ∧ Aside0 (wc.heap[gb150]? = some (.cells #[(.slice none 0 0), (.slice none 0 0), .int .i64 0, .bool false, .bool false] 51 (0, 0))) ∧ Aside0 (Kept w wc (fun k_ => P0_0_ k_ ∨ P0_1_ k_)) ∧ Aside0 (Below w0.heap.size w0 wc))
  case first =>
    have H := HC2.out
    clear HC2
    by_cases c7 : a0_4 = true
    · subst c7
      have H1 : (marginaliaref14_spend.j0 k true l0_0 l0_1 a0_2 a0_3 true) = some (r1, r2, r3, r4, r5, r6) := by rw [if_pos rfl] at H; exact H
      clear H
      have H := H1
      clear H1
      have H' := Aside0.mk H
      clear H
      have hnb8 := NB149_150.out
      have hnc8 := NB150_149.out
      have hcz9_0 : w6.cell? ⟨gb149, 0, none⟩ = some (.slice Ao3 l0_0.length co3) := (blk_cell BK149.out 0).trans rfl
      have hcz9_1 : w6.cell? ⟨gb149, 1, none⟩ = some (.slice Ao4 l0_1.length co4) := (blk_cell BK149.out 1).trans rfl
      have hcz9_2 : w6.cell? ⟨gb149, 2, none⟩ = some (.int .i64 a0_2) := (blk_cell BK149.out 2).trans rfl
      have hcz9_3 : w6.cell? ⟨gb149, 3, none⟩ = some (.bool a0_3) := (blk_cell BK149.out 3).trans rfl
      have hcz9_4 : w6.cell? ⟨gb149, 4, none⟩ = some (.bool true) := (blk_cell BK149.out 4).trans rfl
      have hfz9_0 := blk_frozen BK149.out 0
      have hfz9_1 := blk_frozen BK149.out 1
      have hfz9_2 := blk_frozen BK149.out 2
      have hfz9_3 := blk_frozen BK149.out 3
      have hfz9_4 := blk_frozen BK149.out 4
      go_wp2
      go_meet
      case rel => exact ⟨_, (true), (by first | rfl | (simp; done) | (simp [*]; done)), H', ⟨by first | omega | exact Nat.le_refl _⟩, ⟨by (with_reducible repeat (first | apply Kd.R_alloc | apply Kd.R_drewN | apply Kd.R_drew)); exact HO0_0.out⟩, ⟨by (with_reducible repeat (first | apply Kd.R_alloc | apply Kd.R_drewN | apply Kd.R_drew)); exact HO0_1.out⟩, ⟨by (with_reducible repeat (first | refine blk_drewN ?_ _ | refine blk_drew ?_ | refine blk_alloc ?_ _)); exact BK149.out⟩, ⟨by (with_reducible repeat (first | refine blk_drewN ?_ _ | refine blk_drew ?_ | refine blk_alloc ?_ _)); exact BK150.out⟩, ⟨by repeat (first | (with_reducible first | exact HK.out | apply Kept.alloc | apply Kept.drewN | apply Kept.drew | refine Kept.setCell ?_ (.inr GW149.out) _ | refine Kept.setCell ?_ (.inr GW150.out) _) | exact HK.out)⟩, ⟨by repeat (first | (with_reducible first | exact HB.out | apply below_alloc | apply pw_below_drewN | apply below_drew1 | refine below_set ?_ GE149.out | refine below_set ?_ GE150.out) | exact HB.out)⟩⟩
    · replace c7 := Bool.eq_false_iff.mpr c7
      subst c7
      have H1 : (if a0_3 = true then (marginaliaref14_spend.j0 k (a0_2 == 0) l0_0 l0_1 a0_2 a0_3 false) else (marginaliaref14_spend.j0 k false l0_0 l0_1 a0_2 a0_3 false)) = some (r1, r2, r3, r4, r5, r6) := by rw [if_neg (show ¬ (false = true) by decide)] at H; exact H
      clear H
      have H := H1
      clear H1
      by_cases c10 : a0_3 = true
      · subst c10
        have H1 : (marginaliaref14_spend.j0 k (a0_2 == 0) l0_0 l0_1 a0_2 true false) = some (r1, r2, r3, r4, r5, r6) := by rw [if_pos rfl] at H; exact H
        clear H
        have H := H1
        clear H1
        have H' := Aside0.mk H
        clear H
        have hnb11 := NB149_150.out
        have hnc11 := NB150_149.out
        have hcz12_0 : w6.cell? ⟨gb149, 0, none⟩ = some (.slice Ao3 l0_0.length co3) := (blk_cell BK149.out 0).trans rfl
        have hcz12_1 : w6.cell? ⟨gb149, 1, none⟩ = some (.slice Ao4 l0_1.length co4) := (blk_cell BK149.out 1).trans rfl
        have hcz12_2 : w6.cell? ⟨gb149, 2, none⟩ = some (.int .i64 a0_2) := (blk_cell BK149.out 2).trans rfl
        have hcz12_3 : w6.cell? ⟨gb149, 3, none⟩ = some (.bool true) := (blk_cell BK149.out 3).trans rfl
        have hcz12_4 : w6.cell? ⟨gb149, 4, none⟩ = some (.bool false) := (blk_cell BK149.out 4).trans rfl
        have hfz12_0 := blk_frozen BK149.out 0
        have hfz12_1 := blk_frozen BK149.out 1
        have hfz12_2 := blk_frozen BK149.out 2
        have hfz12_3 := blk_frozen BK149.out 3
        have hfz12_4 := blk_frozen BK149.out 4
        go_wp2
        go_meet
        case rel => exact ⟨_, ((a0_2 == 0)), (by first | rfl | (simp; done) | (simp [*]; done)), H', ⟨by first | omega | exact Nat.le_refl _⟩, ⟨by (with_reducible repeat (first | apply Kd.R_alloc | apply Kd.R_drewN | apply Kd.R_drew)); exact HO0_0.out⟩, ⟨by (with_reducible repeat (first | apply Kd.R_alloc | apply Kd.R_drewN | apply Kd.R_drew)); exact HO0_1.out⟩, ⟨by (with_reducible repeat (first | refine blk_drewN ?_ _ | refine blk_drew ?_ | refine blk_alloc ?_ _)); exact BK149.out⟩, ⟨by (with_reducible repeat (first | refine blk_drewN ?_ _ | refine blk_drew ?_ | refine blk_alloc ?_ _)); exact BK150.out⟩, ⟨by repeat (first | (with_reducible first | exact HK.out | apply Kept.alloc | apply Kept.drewN | apply Kept.drew | refine Kept.setCell ?_ (.inr GW149.out) _ | refine Kept.setCell ?_ (.inr GW150.out) _) | exact HK.out)⟩, ⟨by repeat (first | (with_reducible first | exact HB.out | apply below_alloc | apply pw_below_drewN | apply below_drew1 | refine below_set ?_ GE149.out | refine below_set ?_ GE150.out) | exact HB.out)⟩⟩
      · replace c10 := Bool.eq_false_iff.mpr c10
        subst c10
        have H1 : (marginaliaref14_spend.j0 k false l0_0 l0_1 a0_2 false false) = some (r1, r2, r3, r4, r5, r6) := by rw [if_neg (show ¬ (false = true) by decide)] at H; exact H
        clear H
        have H := H1
        clear H1
        have H' := Aside0.mk H
        clear H
        have hnb13 := NB149_150.out
        have hnc13 := NB150_149.out
        have hcz14_0 : w6.cell? ⟨gb149, 0, none⟩ = some (.slice Ao3 l0_0.length co3) := (blk_cell BK149.out 0).trans rfl
        have hcz14_1 : w6.cell? ⟨gb149, 1, none⟩ = some (.slice Ao4 l0_1.length co4) := (blk_cell BK149.out 1).trans rfl
        have hcz14_2 : w6.cell? ⟨gb149, 2, none⟩ = some (.int .i64 a0_2) := (blk_cell BK149.out 2).trans rfl
        have hcz14_3 : w6.cell? ⟨gb149, 3, none⟩ = some (.bool false) := (blk_cell BK149.out 3).trans rfl
        have hcz14_4 : w6.cell? ⟨gb149, 4, none⟩ = some (.bool false) := (blk_cell BK149.out 4).trans rfl
        have hfz14_0 := blk_frozen BK149.out 0
        have hfz14_1 := blk_frozen BK149.out 1
        have hfz14_2 := blk_frozen BK149.out 2
        have hfz14_3 := blk_frozen BK149.out 3
        have hfz14_4 := blk_frozen BK149.out 4
        go_wp2
        go_meet
        case rel => exact ⟨_, (false), (by first | rfl | (simp; done) | (simp [*]; done)), H', ⟨by first | omega | exact Nat.le_refl _⟩, ⟨by (with_reducible repeat (first | apply Kd.R_alloc | apply Kd.R_drewN | apply Kd.R_drew)); exact HO0_0.out⟩, ⟨by (with_reducible repeat (first | apply Kd.R_alloc | apply Kd.R_drewN | apply Kd.R_drew)); exact HO0_1.out⟩, ⟨by (with_reducible repeat (first | refine blk_drewN ?_ _ | refine blk_drew ?_ | refine blk_alloc ?_ _)); exact BK149.out⟩, ⟨by (with_reducible repeat (first | refine blk_drewN ?_ _ | refine blk_drew ?_ | refine blk_alloc ?_ _)); exact BK150.out⟩, ⟨by repeat (first | (with_reducible first | exact HK.out | apply Kept.alloc | apply Kept.drewN | apply Kept.drew | refine Kept.setCell ?_ (.inr GW149.out) _ | refine Kept.setCell ?_ (.inr GW150.out) _) | exact HK.out)⟩, ⟨by repeat (first | (with_reducible first | exact HB.out | apply below_alloc | apply pw_below_drewN | apply below_drew1 | refine below_set ?_ GE149.out | refine below_set ?_ GE150.out) | exact HB.out)⟩⟩
  case rest =>
    clear HC2
    try clear c1
    try clear p2
    try clear c6
    try clear c7
    try clear c8
    try clear c10
    try clear c11
    try clear c13
    try clear hcz12_0
    try clear hcz12_1
    try clear hcz12_2
    try clear hcz12_3
    try clear hcz12_4
    try clear hcz14_0
    try clear hcz14_1
    try clear hcz14_2
    try clear hcz14_3
    try clear hcz14_4
    try clear hcz9_0
    try clear hcz9_1
    try clear hcz9_2
    try clear hcz9_3
    try clear hcz9_4
    try clear hfz12_0
    try clear hfz12_1
    try clear hfz12_2
    try clear hfz12_3
    try clear hfz12_4
    try clear hfz14_0
    try clear hfz14_1
    try clear hfz14_2
    try clear hfz14_3
    try clear hfz14_4
    try clear hfz9_0
    try clear hfz9_1
    try clear hfz9_2
    try clear hfz9_3
    try clear hfz9_4
    obtain ⟨kq, x14_1, rfl, HA, HJ1, HO_150000, HO_150001, BK149, BK150, HK, HB⟩ := hcut
    cases kq with
    | zero => exact absurd HA.out (by simp [marginaliaref14_spend.j0])
    | succ kj1 =>
      have H := HA.out
      clear HA
      simp only [marginaliaref14_spend.j0] at H
      by_cases c15 : x14_1 = true
      · subst c15
        have H1 : (some (l0_0, l0_1, a0_2, false, true, false)) = some (r1, r2, r3, r4, r5, r6) := by rw [if_pos rfl] at H; exact H
        clear H
        have H := H1
        clear H1
        simp only [Option.some.injEq, Prod.mk.injEq] at H
        obtain ⟨rfl, rfl, rfl, rfl, rfl, rfl⟩ := H
        have hnb16 := NB149_150.out
        have hnc16 := NB150_149.out
        have hcz17_0 : wc.cell? ⟨gb149, 0, none⟩ = some (.slice Ao3 l0_0.length co3) := (blk_cell BK149.out 0).trans rfl
        have hcz17_1 : wc.cell? ⟨gb149, 1, none⟩ = some (.slice Ao4 l0_1.length co4) := (blk_cell BK149.out 1).trans rfl
        have hcz17_2 : wc.cell? ⟨gb149, 2, none⟩ = some (.int .i64 a0_2) := (blk_cell BK149.out 2).trans rfl
        have hcz17_3 : wc.cell? ⟨gb149, 3, none⟩ = some (.bool a0_3) := (blk_cell BK149.out 3).trans rfl
        have hcz17_4 : wc.cell? ⟨gb149, 4, none⟩ = some (.bool a0_4) := (blk_cell BK149.out 4).trans rfl
        have hfz17_0 := blk_frozen BK149.out 0
        have hfz17_1 := blk_frozen BK149.out 1
        have hfz17_2 := blk_frozen BK149.out 2
        have hfz17_3 := blk_frozen BK149.out 3
        have hfz17_4 := blk_frozen BK149.out 4
        have hcz18_0 : wc.cell? ⟨gb150, 0, none⟩ = some (.slice none 0 0) := (blk_cell BK150.out 0).trans rfl
        have hcz18_1 : wc.cell? ⟨gb150, 1, none⟩ = some (.slice none 0 0) := (blk_cell BK150.out 1).trans rfl
        have hcz18_2 : wc.cell? ⟨gb150, 2, none⟩ = some (.int .i64 0) := (blk_cell BK150.out 2).trans rfl
        have hcz18_3 : wc.cell? ⟨gb150, 3, none⟩ = some (.bool false) := (blk_cell BK150.out 3).trans rfl
        have hcz18_4 : wc.cell? ⟨gb150, 4, none⟩ = some (.bool false) := (blk_cell BK150.out 4).trans rfl
        have hfz18_0 := blk_frozen BK150.out 0
        have hfz18_1 := blk_frozen BK150.out 1
        have hfz18_2 := blk_frozen BK150.out 2
        have hfz18_3 := blk_frozen BK150.out 3
        have hfz18_4 := blk_frozen BK150.out 4
        go_wp2
        refine bodyPost_ret (results_ct rfl _ _ gb150 51 #[.slice Ao3 l0_0.length co3, .slice Ao4 l0_1.length co4, .int .i64 a0_2, .bool false, .bool true] (0, 0) _ rfl (by (with_reducible repeat (first | refine blk_drewN ?_ _ | refine blk_drew ?_ | refine blk_alloc ?_ _)); refine blk_put (cs := #[.slice Ao3 l0_0.length co3, .slice Ao4 l0_1.length co4, .int .i64 a0_2, .bool false, .bool false]) ?_ 4 _ rfl; (with_reducible repeat (first | refine blk_drewN ?_ _ | refine blk_drew ?_ | refine blk_alloc ?_ _)); refine blk_put (cs := #[.slice Ao3 l0_0.length co3, .slice Ao4 l0_1.length co4, .int .i64 a0_2, .bool false, .bool false]) ?_ 3 _ rfl; (with_reducible repeat (first | refine blk_drewN ?_ _ | refine blk_drew ?_ | refine blk_alloc ?_ _)); refine blk_put (cs := #[.slice Ao3 l0_0.length co3, .slice Ao4 l0_1.length co4, .int .i64 0, .bool false, .bool false]) ?_ 2 _ rfl; (with_reducible repeat (first | refine blk_drewN ?_ _ | refine blk_drew ?_ | refine blk_alloc ?_ _)); refine blk_put (cs := #[.slice Ao3 l0_0.length co3, .slice none 0 0, .int .i64 0, .bool false, .bool false]) ?_ 1 _ rfl; (with_reducible repeat (first | refine blk_drewN ?_ _ | refine blk_drew ?_ | refine blk_alloc ?_ _)); refine blk_put (cs := #[.slice none 0 0, .slice none 0 0, .int .i64 0, .bool false, .bool false]) ?_ 0 _ rfl; (with_reducible repeat (first | refine blk_drewN ?_ _ | refine blk_drew ?_ | refine blk_alloc ?_ _)); refine blk_far ?_ NB150_149.out _; (with_reducible repeat (first | refine blk_drewN ?_ _ | refine blk_drew ?_ | refine blk_alloc ?_ _)); refine blk_far ?_ NB150_149.out _; (with_reducible repeat (first | refine blk_drewN ?_ _ | refine blk_drew ?_ | refine blk_alloc ?_ _)); exact BK150.out) Try.underlying51 rfl (by kernel_rfl)) rfl ?_
        exact ⟨_, _, by first | rfl | (simp [errW_none, errW_some] <;> rfl) | (simp [*, errW_none, errW_some] <;> rfl), by (with_reducible repeat (first | apply Kd.R_alloc | apply Kd.R_drewN | apply Kd.R_drew)); exact Kd.R_mono (Kd.R_far (p := ⟨gb150, 4, none⟩) (Kd.R_far (p := ⟨gb150, 3, none⟩) (Kd.R_far (p := ⟨gb150, 2, none⟩) (Kd.R_far (p := ⟨gb150, 1, none⟩) (Kd.R_far (p := ⟨gb150, 0, none⟩) (Kd.R_far (p := ⟨gb149, 3, none⟩) (Kd.R_far (p := ⟨gb149, 4, none⟩) (Kd.R_types (Kd.R_types HO_150000.out BK149.out (by decide)) BK150.out (by decide)) (fun _ hk => hk.1.2) (.bool true)) (fun _ hk => hk.1.2) (.bool false)) (fun _ hk => hk.2) (.slice Ao3 l0_0.length co3)) (fun _ hk => hk.2) (.slice Ao4 l0_1.length co4)) (fun _ hk => hk.2) (.int .i64 a0_2)) (fun _ hk => hk.2) (.bool false)) (fun _ hk => hk.2) (.bool true)) (fun _ hk => hk.1.1), by (with_reducible repeat (first | apply Kd.R_alloc | apply Kd.R_drewN | apply Kd.R_drew)); exact Kd.R_mono (Kd.R_far (p := ⟨gb150, 4, none⟩) (Kd.R_far (p := ⟨gb150, 3, none⟩) (Kd.R_far (p := ⟨gb150, 2, none⟩) (Kd.R_far (p := ⟨gb150, 1, none⟩) (Kd.R_far (p := ⟨gb150, 0, none⟩) (Kd.R_far (p := ⟨gb149, 3, none⟩) (Kd.R_far (p := ⟨gb149, 4, none⟩) (Kd.R_types (Kd.R_types HO_150001.out BK149.out (by decide)) BK150.out (by decide)) (fun _ hk => hk.1.2) (.bool true)) (fun _ hk => hk.1.2) (.bool false)) (fun _ hk => hk.2) (.slice Ao3 l0_0.length co3)) (fun _ hk => hk.2) (.slice Ao4 l0_1.length co4)) (fun _ hk => hk.2) (.int .i64 a0_2)) (fun _ hk => hk.2) (.bool false)) (fun _ hk => hk.2) (.bool true)) (fun _ hk => hk.1.1), by repeat (first | (with_reducible first | exact HB.out | apply below_alloc | apply pw_below_drewN | apply below_drew1 | refine below_set ?_ GE149.out | refine below_set ?_ GE150.out) | exact HB.out), by repeat (first | (with_reducible first | exact HK.out | apply Kept.alloc | apply Kept.drewN | apply Kept.drew | refine Kept.setCell ?_ (.inr GW149.out) _ | refine Kept.setCell ?_ (.inr GW150.out) _) | exact HK.out)⟩
      · replace c15 := Bool.eq_false_iff.mpr c15
        subst c15
        have H1 : (if a0_3 = true then (some (l0_0, l0_1, wrap64 (a0_2 - 1), a0_3, a0_4, true)) else (some (l0_0, l0_1, a0_2, a0_3, a0_4, true))) = some (r1, r2, r3, r4, r5, r6) := by rw [if_neg (show ¬ (false = true) by decide)] at H; exact H
        clear H
        have H := H1
        clear H1
        by_cases c19 : a0_3 = true
        · subst c19
          have H1 : (some (l0_0, l0_1, wrap64 (a0_2 - 1), true, a0_4, true)) = some (r1, r2, r3, r4, r5, r6) := by rw [if_pos rfl] at H; exact H
          clear H
          have H := H1
          clear H1
          simp only [Option.some.injEq, Prod.mk.injEq] at H
          obtain ⟨rfl, rfl, rfl, rfl, rfl, rfl⟩ := H
          have hnb20 := NB149_150.out
          have hnc20 := NB150_149.out
          have hcz21_0 : wc.cell? ⟨gb149, 0, none⟩ = some (.slice Ao3 l0_0.length co3) := (blk_cell BK149.out 0).trans rfl
          have hcz21_1 : wc.cell? ⟨gb149, 1, none⟩ = some (.slice Ao4 l0_1.length co4) := (blk_cell BK149.out 1).trans rfl
          have hcz21_2 : wc.cell? ⟨gb149, 2, none⟩ = some (.int .i64 a0_2) := (blk_cell BK149.out 2).trans rfl
          have hcz21_3 : wc.cell? ⟨gb149, 3, none⟩ = some (.bool true) := (blk_cell BK149.out 3).trans rfl
          have hcz21_4 : wc.cell? ⟨gb149, 4, none⟩ = some (.bool a0_4) := (blk_cell BK149.out 4).trans rfl
          have hfz21_0 := blk_frozen BK149.out 0
          have hfz21_1 := blk_frozen BK149.out 1
          have hfz21_2 := blk_frozen BK149.out 2
          have hfz21_3 := blk_frozen BK149.out 3
          have hfz21_4 := blk_frozen BK149.out 4
          have hcz22_0 : wc.cell? ⟨gb150, 0, none⟩ = some (.slice none 0 0) := (blk_cell BK150.out 0).trans rfl
          have hcz22_1 : wc.cell? ⟨gb150, 1, none⟩ = some (.slice none 0 0) := (blk_cell BK150.out 1).trans rfl
          have hcz22_2 : wc.cell? ⟨gb150, 2, none⟩ = some (.int .i64 0) := (blk_cell BK150.out 2).trans rfl
          have hcz22_3 : wc.cell? ⟨gb150, 3, none⟩ = some (.bool false) := (blk_cell BK150.out 3).trans rfl
          have hcz22_4 : wc.cell? ⟨gb150, 4, none⟩ = some (.bool false) := (blk_cell BK150.out 4).trans rfl
          have hfz22_0 := blk_frozen BK150.out 0
          have hfz22_1 := blk_frozen BK150.out 1
          have hfz22_2 := blk_frozen BK150.out 2
          have hfz22_3 := blk_frozen BK150.out 3
          have hfz22_4 := blk_frozen BK150.out 4
          go_wp2
          refine bodyPost_ret (results_ct rfl _ _ gb150 51 #[.slice Ao3 l0_0.length co3, .slice Ao4 l0_1.length co4, .int .i64 (wrap64 (a0_2 - 1)), .bool true, .bool a0_4] (0, 0) _ rfl (by (with_reducible repeat (first | refine blk_drewN ?_ _ | refine blk_drew ?_ | refine blk_alloc ?_ _)); refine blk_put (cs := #[.slice Ao3 l0_0.length co3, .slice Ao4 l0_1.length co4, .int .i64 (wrap64 (a0_2 - 1)), .bool true, .bool false]) ?_ 4 _ rfl; (with_reducible repeat (first | refine blk_drewN ?_ _ | refine blk_drew ?_ | refine blk_alloc ?_ _)); refine blk_put (cs := #[.slice Ao3 l0_0.length co3, .slice Ao4 l0_1.length co4, .int .i64 (wrap64 (a0_2 - 1)), .bool false, .bool false]) ?_ 3 _ rfl; (with_reducible repeat (first | refine blk_drewN ?_ _ | refine blk_drew ?_ | refine blk_alloc ?_ _)); refine blk_put (cs := #[.slice Ao3 l0_0.length co3, .slice Ao4 l0_1.length co4, .int .i64 0, .bool false, .bool false]) ?_ 2 _ rfl; (with_reducible repeat (first | refine blk_drewN ?_ _ | refine blk_drew ?_ | refine blk_alloc ?_ _)); refine blk_put (cs := #[.slice Ao3 l0_0.length co3, .slice none 0 0, .int .i64 0, .bool false, .bool false]) ?_ 1 _ rfl; (with_reducible repeat (first | refine blk_drewN ?_ _ | refine blk_drew ?_ | refine blk_alloc ?_ _)); refine blk_put (cs := #[.slice none 0 0, .slice none 0 0, .int .i64 0, .bool false, .bool false]) ?_ 0 _ rfl; (with_reducible repeat (first | refine blk_drewN ?_ _ | refine blk_drew ?_ | refine blk_alloc ?_ _)); refine blk_far ?_ NB150_149.out _; (with_reducible repeat (first | refine blk_drewN ?_ _ | refine blk_drew ?_ | refine blk_alloc ?_ _)); exact BK150.out) Try.underlying51 rfl (by kernel_rfl)) rfl ?_
          exact ⟨_, _, by first | rfl | (simp [errW_none, errW_some] <;> rfl) | (simp [*, errW_none, errW_some] <;> rfl), by (with_reducible repeat (first | apply Kd.R_alloc | apply Kd.R_drewN | apply Kd.R_drew)); exact Kd.R_mono (Kd.R_far (p := ⟨gb150, 4, none⟩) (Kd.R_far (p := ⟨gb150, 3, none⟩) (Kd.R_far (p := ⟨gb150, 2, none⟩) (Kd.R_far (p := ⟨gb150, 1, none⟩) (Kd.R_far (p := ⟨gb150, 0, none⟩) (Kd.R_far (p := ⟨gb149, 2, none⟩) (Kd.R_types (Kd.R_types HO_150000.out BK149.out (by decide)) BK150.out (by decide)) (fun _ hk => hk.1.2) (.int .i64 (wrap64 (a0_2 - 1)))) (fun _ hk => hk.2) (.slice Ao3 l0_0.length co3)) (fun _ hk => hk.2) (.slice Ao4 l0_1.length co4)) (fun _ hk => hk.2) (.int .i64 (wrap64 (a0_2 - 1)))) (fun _ hk => hk.2) (.bool true)) (fun _ hk => hk.2) (.bool a0_4)) (fun _ hk => hk.1.1), by (with_reducible repeat (first | apply Kd.R_alloc | apply Kd.R_drewN | apply Kd.R_drew)); exact Kd.R_mono (Kd.R_far (p := ⟨gb150, 4, none⟩) (Kd.R_far (p := ⟨gb150, 3, none⟩) (Kd.R_far (p := ⟨gb150, 2, none⟩) (Kd.R_far (p := ⟨gb150, 1, none⟩) (Kd.R_far (p := ⟨gb150, 0, none⟩) (Kd.R_far (p := ⟨gb149, 2, none⟩) (Kd.R_types (Kd.R_types HO_150001.out BK149.out (by decide)) BK150.out (by decide)) (fun _ hk => hk.1.2) (.int .i64 (wrap64 (a0_2 - 1)))) (fun _ hk => hk.2) (.slice Ao3 l0_0.length co3)) (fun _ hk => hk.2) (.slice Ao4 l0_1.length co4)) (fun _ hk => hk.2) (.int .i64 (wrap64 (a0_2 - 1)))) (fun _ hk => hk.2) (.bool true)) (fun _ hk => hk.2) (.bool a0_4)) (fun _ hk => hk.1.1), by repeat (first | (with_reducible first | exact HB.out | apply below_alloc | apply pw_below_drewN | apply below_drew1 | refine below_set ?_ GE149.out | refine below_set ?_ GE150.out) | exact HB.out), by repeat (first | (with_reducible first | exact HK.out | apply Kept.alloc | apply Kept.drewN | apply Kept.drew | refine Kept.setCell ?_ (.inr GW149.out) _ | refine Kept.setCell ?_ (.inr GW150.out) _) | exact HK.out)⟩
        · replace c19 := Bool.eq_false_iff.mpr c19
          subst c19
          have H1 : (some (l0_0, l0_1, a0_2, false, a0_4, true)) = some (r1, r2, r3, r4, r5, r6) := by rw [if_neg (show ¬ (false = true) by decide)] at H; exact H
          clear H
          have H := H1
          clear H1
          simp only [Option.some.injEq, Prod.mk.injEq] at H
          obtain ⟨rfl, rfl, rfl, rfl, rfl, rfl⟩ := H
          have hnb23 := NB149_150.out
          have hnc23 := NB150_149.out
          have hcz24_0 : wc.cell? ⟨gb149, 0, none⟩ = some (.slice Ao3 l0_0.length co3) := (blk_cell BK149.out 0).trans rfl
          have hcz24_1 : wc.cell? ⟨gb149, 1, none⟩ = some (.slice Ao4 l0_1.length co4) := (blk_cell BK149.out 1).trans rfl
          have hcz24_2 : wc.cell? ⟨gb149, 2, none⟩ = some (.int .i64 a0_2) := (blk_cell BK149.out 2).trans rfl
          have hcz24_3 : wc.cell? ⟨gb149, 3, none⟩ = some (.bool false) := (blk_cell BK149.out 3).trans rfl
          have hcz24_4 : wc.cell? ⟨gb149, 4, none⟩ = some (.bool a0_4) := (blk_cell BK149.out 4).trans rfl
          have hfz24_0 := blk_frozen BK149.out 0
          have hfz24_1 := blk_frozen BK149.out 1
          have hfz24_2 := blk_frozen BK149.out 2
          have hfz24_3 := blk_frozen BK149.out 3
          have hfz24_4 := blk_frozen BK149.out 4
          have hcz25_0 : wc.cell? ⟨gb150, 0, none⟩ = some (.slice none 0 0) := (blk_cell BK150.out 0).trans rfl
          have hcz25_1 : wc.cell? ⟨gb150, 1, none⟩ = some (.slice none 0 0) := (blk_cell BK150.out 1).trans rfl
          have hcz25_2 : wc.cell? ⟨gb150, 2, none⟩ = some (.int .i64 0) := (blk_cell BK150.out 2).trans rfl
          have hcz25_3 : wc.cell? ⟨gb150, 3, none⟩ = some (.bool false) := (blk_cell BK150.out 3).trans rfl
          have hcz25_4 : wc.cell? ⟨gb150, 4, none⟩ = some (.bool false) := (blk_cell BK150.out 4).trans rfl
          have hfz25_0 := blk_frozen BK150.out 0
          have hfz25_1 := blk_frozen BK150.out 1
          have hfz25_2 := blk_frozen BK150.out 2
          have hfz25_3 := blk_frozen BK150.out 3
          have hfz25_4 := blk_frozen BK150.out 4
          go_wp2
          refine bodyPost_ret (results_ct rfl _ _ gb150 51 #[.slice Ao3 l0_0.length co3, .slice Ao4 l0_1.length co4, .int .i64 a0_2, .bool false, .bool a0_4] (0, 0) _ rfl (by (with_reducible repeat (first | refine blk_drewN ?_ _ | refine blk_drew ?_ | refine blk_alloc ?_ _)); refine blk_put (cs := #[.slice Ao3 l0_0.length co3, .slice Ao4 l0_1.length co4, .int .i64 a0_2, .bool false, .bool false]) ?_ 4 _ rfl; (with_reducible repeat (first | refine blk_drewN ?_ _ | refine blk_drew ?_ | refine blk_alloc ?_ _)); refine blk_put (cs := #[.slice Ao3 l0_0.length co3, .slice Ao4 l0_1.length co4, .int .i64 a0_2, .bool false, .bool false]) ?_ 3 _ rfl; (with_reducible repeat (first | refine blk_drewN ?_ _ | refine blk_drew ?_ | refine blk_alloc ?_ _)); refine blk_put (cs := #[.slice Ao3 l0_0.length co3, .slice Ao4 l0_1.length co4, .int .i64 0, .bool false, .bool false]) ?_ 2 _ rfl; (with_reducible repeat (first | refine blk_drewN ?_ _ | refine blk_drew ?_ | refine blk_alloc ?_ _)); refine blk_put (cs := #[.slice Ao3 l0_0.length co3, .slice none 0 0, .int .i64 0, .bool false, .bool false]) ?_ 1 _ rfl; (with_reducible repeat (first | refine blk_drewN ?_ _ | refine blk_drew ?_ | refine blk_alloc ?_ _)); refine blk_put (cs := #[.slice none 0 0, .slice none 0 0, .int .i64 0, .bool false, .bool false]) ?_ 0 _ rfl; (with_reducible repeat (first | refine blk_drewN ?_ _ | refine blk_drew ?_ | refine blk_alloc ?_ _)); exact BK150.out) Try.underlying51 rfl (by kernel_rfl)) rfl ?_
          exact ⟨_, _, by first | rfl | (simp [errW_none, errW_some] <;> rfl) | (simp [*, errW_none, errW_some] <;> rfl), by (with_reducible repeat (first | apply Kd.R_alloc | apply Kd.R_drewN | apply Kd.R_drew)); exact Kd.R_mono (Kd.R_far (p := ⟨gb150, 4, none⟩) (Kd.R_far (p := ⟨gb150, 3, none⟩) (Kd.R_far (p := ⟨gb150, 2, none⟩) (Kd.R_far (p := ⟨gb150, 1, none⟩) (Kd.R_far (p := ⟨gb150, 0, none⟩) (Kd.R_types HO_150000.out BK150.out (by decide)) (fun _ hk => hk.2) (.slice Ao3 l0_0.length co3)) (fun _ hk => hk.2) (.slice Ao4 l0_1.length co4)) (fun _ hk => hk.2) (.int .i64 a0_2)) (fun _ hk => hk.2) (.bool false)) (fun _ hk => hk.2) (.bool a0_4)) (fun _ hk => hk.1), by (with_reducible repeat (first | apply Kd.R_alloc | apply Kd.R_drewN | apply Kd.R_drew)); exact Kd.R_mono (Kd.R_far (p := ⟨gb150, 4, none⟩) (Kd.R_far (p := ⟨gb150, 3, none⟩) (Kd.R_far (p := ⟨gb150, 2, none⟩) (Kd.R_far (p := ⟨gb150, 1, none⟩) (Kd.R_far (p := ⟨gb150, 0, none⟩) (Kd.R_types HO_150001.out BK150.out (by decide)) (fun _ hk => hk.2) (.slice Ao3 l0_0.length co3)) (fun _ hk => hk.2) (.slice Ao4 l0_1.length co4)) (fun _ hk => hk.2) (.int .i64 a0_2)) (fun _ hk => hk.2) (.bool false)) (fun _ hk => hk.2) (.bool a0_4)) (fun _ hk => hk.1), by repeat (first | (with_reducible first | exact HB.out | apply below_alloc | apply pw_below_drewN | apply below_drew1 | refine below_set ?_ GE149.out | refine below_set ?_ GE150.out) | exact HB.out), by repeat (first | (with_reducible first | exact HK.out | apply Kept.alloc | apply Kept.drewN | apply Kept.drew | refine Kept.setCell ?_ (.inr GW149.out) _ | refine Kept.setCell ?_ (.inr GW150.out) _) | exact HK.out)⟩

end Go.Proofs.Ytepipgneefcoiaa.D
