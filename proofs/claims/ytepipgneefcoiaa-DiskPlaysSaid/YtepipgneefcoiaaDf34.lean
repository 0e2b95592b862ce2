/- The functions of the program that these laws reach, each as a plain Lean function, and the proof that the machine's call comes to it; no condition beyond those that each theorem names. Made by wip/xprint.py. -/
import Derived.Test.YtepipgneefcoiaaDx0
import Derived.Test.YtepipgneefcoiaaDf62
import Derived.Test.YtepipgneefcoiaaDf65
import Derived.Test.YtepipgneefcoiaaDh
namespace Go.Proofs.Ytepipgneefcoiaa.D
open Go.RowKit Go.Proofs.YtepipgneefcoiaaW.PrintWords Go.Proofs.YtepipgneefcoiaaW.PrintLast Go.Proofs.YtepipgneefcoiaaW.PrintMore
attribute [local go_sem] max2_int min2_int max_two min_two max_three min_three max_four min_four   -- for this text's walks alone
set_option linter.unusedVariables false
set_option linter.unusedSimpArgs false

/-! ### marginaliaref14_Write: function 34 -/
mutual
def marginaliaref14_Write.j0 : Nat → Int → List Int → Bool → List ByteArray → List (S111) → Int → Bool → Bool → Option (List ByteArray × (List (S111)) × Int × Bool × Bool × Int)
  | 0, _, _, _, _, _, _, _, _ => none
  | k + 1, x1, x2, x19, x152000, x152001, x152002, x152003, x152004 => if x19 = true then (some (x152000, x152001, x152002, x152003, x152004, 1)) else ((marginaliaref14_spend.f k x152000 x152001 x152002 x152003 x152004).bind fun bt154 => (if bt154.2.2.2.2.2 = true then ((some (([] : List (S111)) : List (S111))).bind fun y164 => (if y164.length + bt154.2.1.length < 5864062014805 then (marginaliaref14_Write.l0 k x1 x2 (y164 ++ bt154.2.1) 0 bt154.1 bt154.2.1 bt154.2.2.1 bt154.2.2.2.1 bt154.2.2.2.2.1) else (none))) else (some (bt154.1, bt154.2.1, bt154.2.2.1, bt154.2.2.2.1, bt154.2.2.2.2.1, 9))))
def marginaliaref14_Write.l0 : Nat → Int → List Int → List (S111) → Int → List ByteArray → List (S111) → Int → Bool → Bool → Option (List ByteArray × (List (S111)) × Int × Bool × Bool × Int)
  | 0, _, _, _, _, _, _, _, _, _ => none
  | k + 1, x1, x2, x9, x10, x152000, x152001, x152002, x152003, x152004 => if x10 < 4 then (if 0 ≤ (wrap64 (x10 * 64)) then (if (wrap64 (x10 * 64)) ≤ (wrap64 ((wrap64 (x10 + 1)) * 64)) then (if (wrap64 ((wrap64 (x10 + 1)) * 64)) ≤ (x2.length : Int) then (if x9.length < 5864062014805 then (marginaliaref14_Write.l0 k x1 x2 (x9 ++ [(⟨wrap64 ((wrap64 (x1 * 4)) + x10), strOfNums ((x2.take ((wrap64 ((wrap64 (x10 + 1)) * 64)) : Int).toNat).drop ((wrap64 (x10 * 64)) : Int).toNat)⟩ : S111)]) (wrap64 (x10 + 1)) x152000 x152001 x152002 x152003 x152004) else (none)) else (none)) else (none)) else (none)) else (some (x152000, x9, x152002, x152003, x152004, 0))
end
def marginaliaref14_Write.f (k : Nat) (l0_0 : List ByteArray) (l0_1 : List (S111)) (a0_2 : Int) (a0_3 : Bool) (a0_4 : Bool) (a1 : Int) (l2 : List Int) : Option (List ByteArray × (List (S111)) × Int × Bool × Bool × Int) := (marginaliaref14_Is.f l0_0 l0_1 a0_2 a0_3 a0_4 a1).bind fun t153 => (if t153 = true then (marginaliaref14_Write.j0 k a1 l2 ((l2.length : Int) != 256) l0_0 l0_1 a0_2 a0_3 a0_4) else (marginaliaref14_Write.j0 k a1 l2 true l0_0 l0_1 a0_2 a0_3 a0_4))
theorem marginaliaref14_Write.mono_l : ∀ k, (∀ y0 y1 y2 y3 y4 y5 y6 y7, LeO (marginaliaref14_Write.j0 k y0 y1 y2 y3 y4 y5 y6 y7) (marginaliaref14_Write.j0 (k + 1) y0 y1 y2 y3 y4 y5 y6 y7)) ∧ (∀ y0 y1 y2 y3 y4 y5 y6 y7 y8, LeO (marginaliaref14_Write.l0 k y0 y1 y2 y3 y4 y5 y6 y7 y8) (marginaliaref14_Write.l0 (k + 1) y0 y1 y2 y3 y4 y5 y6 y7 y8))
  | 0 => ⟨fun _ _ _ _ _ _ _ _ r h => by simp [marginaliaref14_Write.j0] at h, fun _ _ _ _ _ _ _ _ _ r h => by simp [marginaliaref14_Write.l0] at h⟩
  | k + 1 => by
    obtain ⟨ih0, ih1⟩ := marginaliaref14_Write.mono_l k
    refine ⟨?_, ?_⟩
    · intro y0 y1 y2 y3 y4 y5 y6 y7
      unfold marginaliaref14_Write.j0
      repeat' first
      | (with_reducible exact ih0 _ _ _ _ _ _ _ _)
      | (with_reducible exact ih1 _ _ _ _ _ _ _ _ _)
      | (with_reducible exact marginaliaref14_spend.mono _ _ _ _ _ _)
      | (with_reducible exact LeO.refl _)
      | (with_reducible exact LeO.none _)
      | (with_reducible refine LeO.ite ?_ ?_)
      | (with_reducible refine LeO.bind ?_ (fun _ => ?_))
      | exact ih0 _ _ _ _ _ _ _ _
      | exact ih1 _ _ _ _ _ _ _ _ _
      | exact marginaliaref14_spend.mono _ _ _ _ _ _
      | exact LeO.none _
      | refine LeO.ite ?_ ?_
      | refine LeO.bind ?_ (fun _ => ?_)
    · intro y0 y1 y2 y3 y4 y5 y6 y7 y8
      unfold marginaliaref14_Write.l0
      repeat' first
      | (with_reducible exact ih0 _ _ _ _ _ _ _ _)
      | (with_reducible exact ih1 _ _ _ _ _ _ _ _ _)
      | (with_reducible exact marginaliaref14_spend.mono _ _ _ _ _ _)
      | (with_reducible exact LeO.refl _)
      | (with_reducible exact LeO.none _)
      | (with_reducible refine LeO.ite ?_ ?_)
      | (with_reducible refine LeO.bind ?_ (fun _ => ?_))
      | exact ih0 _ _ _ _ _ _ _ _
      | exact ih1 _ _ _ _ _ _ _ _ _
      | exact marginaliaref14_spend.mono _ _ _ _ _ _
      | exact LeO.none _
      | refine LeO.ite ?_ ?_
      | refine LeO.bind ?_ (fun _ => ?_)
theorem marginaliaref14_Write.mono : ∀ a0 a1 a2 a3 a4 a5 a6 k, LeO (marginaliaref14_Write.f k a0 a1 a2 a3 a4 a5 a6) (marginaliaref14_Write.f (k + 1) a0 a1 a2 a3 a4 a5 a6) := by
  intro a0 a1 a2 a3 a4 a5 a6 k
  obtain ⟨ih0, ih1⟩ := marginaliaref14_Write.mono_l k
  unfold marginaliaref14_Write.f
  repeat' first
      | (with_reducible exact ih0 _ _ _ _ _ _ _ _)
      | (with_reducible exact ih1 _ _ _ _ _ _ _ _ _)
      | (with_reducible exact marginaliaref14_spend.mono _ _ _ _ _ _)
      | (with_reducible exact LeO.refl _)
      | (with_reducible exact LeO.none _)
      | (with_reducible refine LeO.ite ?_ ?_)
      | (with_reducible refine LeO.bind ?_ (fun _ => ?_))
      | exact ih0 _ _ _ _ _ _ _ _
      | exact ih1 _ _ _ _ _ _ _ _ _
      | exact marginaliaref14_spend.mono _ _ _ _ _ _
      | exact LeO.none _
      | refine LeO.ite ?_ ?_
      | refine LeO.bind ?_ (fun _ => ?_)
set_option maxHeartbeats 8000000 in
set_option maxRecDepth 100000 in
theorem marginaliaref14_Write.calls (k : Nat) (P0_0_ : Nat → Prop) (u9000_ : Value) (l0_0 : List ByteArray) (P0_1_ : Nat → Prop) (u9001_ : Value) (l0_1 : List (S111)) (a0_2 : Int) (a0_3 : Bool) (a0_4 : Bool) (a1 : Int) (A2 : Option Addr) (c2 : Nat) (l2 : List Int) (r1 : List ByteArray) (r2 : List (S111)) (r3 : Int) (r4 : Bool) (r5 : Bool) (r6 : Int) (w0 w : World) (hB : Below w0.heap.size w0 w) (ho0_0 : Kd.R Kd.string 9 w w0.heap.size P0_0_ u9000_ l0_0) (ho0_1 : Kd.R k111 111 w w0.heap.size P0_1_ u9001_ l0_1) (hr2 : ∀ W_, Kept w W_ (fun k_ => P0_0_ k_ ∨ P0_1_ k_) → Kd.C (Kd.int .u8) W_ A2 l2.length l2) (hc2 : l2.length ≤ c2) (h : marginaliaref14_Write.f k l0_0 l0_1 a0_2 a0_3 a0_4 a1 l2 = some (r1, r2, r3, r4, r5, r6)) :
    Calls Try.prog 34 #[.agg #[u9000_, u9001_, .int .i64 a0_2, .bool a0_3, .bool a0_4], .int .i64 a1, .slice A2 l2.length c2] w fun e w' => ∃ v0_ v1_ : Value, e = .returned (.tuple #[.agg #[v0_, v1_, .int .i64 r3, .bool r4, .bool r5], .int .i64 r6]) ∧ Kd.R Kd.string 9 w' w0.heap.size (fun k_ => ((P0_0_ k_ ∨ P0_1_ k_) ∨ w.heap.size ≤ k_)) v0_ r1 ∧ Kd.R k111 111 w' w0.heap.size (fun k_ => ((P0_0_ k_ ∨ P0_1_ k_) ∨ w.heap.size ≤ k_)) v1_ r2 ∧ Below w0.heap.size w0 w' ∧ Kept w w' (fun k_ => P0_0_ k_ ∨ P0_1_ k_) := by
  have hu51 := Try.underlying51
  have hu111 := Try.underlying111
  have HO0_0 := Aside0.mk (show Kd.R Kd.string 9 w w0.heap.size (fun k_ => ((P0_0_ k_ ∨ P0_1_ k_) ∨ w.heap.size ≤ k_)) u9000_ l0_0 from Kd.R_mono ho0_0 (fun k_ hk => (.inl (.inl hk))))
  have HO0_1 := Aside0.mk (show Kd.R k111 111 w w0.heap.size (fun k_ => ((P0_0_ k_ ∨ P0_1_ k_) ∨ w.heap.size ≤ k_)) u9001_ l0_1 from Kd.R_mono ho0_1 (fun k_ hk => (.inl (.inr hk))))
  have HR2 := Aside0.mk hr2
  have HC2 := Aside0.mk hc2
  clear hr2 hc2
  have HK := Aside0.mk (Kept.refl w (fun k_ => P0_0_ k_ ∨ P0_1_ k_))
  have HW0 := Aside0.mk hB.size
  have HB := Aside0.mk hB
  clear hB
  have H : ((marginaliaref14_Is.f l0_0 l0_1 a0_2 a0_3 a0_4 a1).bind fun t153 => (if t153 = true then (marginaliaref14_Write.j0 k a1 l2 ((l2.length : Int) != 256) l0_0 l0_1 a0_2 a0_3 a0_4) else (marginaliaref14_Write.j0 k a1 l2 true l0_0 l0_1 a0_2 a0_3 a0_4))) = some (r1, r2, r3, r4, r5, r6) := h
  clear h
  have HC4 := Aside0.mk H
  clear H
  obtain ⟨Ao5, co5, eo5⟩ := Kd.R_slice HO0_0.out
  subst eo5
  obtain ⟨Ao6, co6, eo6⟩ := Kd.R_slice HO0_1.out
  subst eo6
  go_enter Try.func34, Try.ntmps34
  go_upto_region 1 with (first | ((with_reducible refine gate_dst (N := 3) rfl ?_); (try (refine gate_guard (by rfl) ?_; dsimp only)); refine box_event ?hg (N := 3) ?hd (cs := #[.slice Ao5 l0_0.length co5, .slice Ao6 l0_1.length co6, .int .i64 a0_2, .bool a0_3, .bool a0_4]) (t := 51) ?hr ?_; (case hd => rfl); (case hg => rfl); (case hr => first | (go_simp; done) | (go_simp; rfl)); intro gb151 hg w7 hbox hb; have n0_ := Aside0.mk (Kd.R_below (by (with_reducible repeat (first | apply Kd.R_alloc | apply Kd.R_drewN | apply Kd.R_drew)); exact HO0_0.out) hb); have n1_ := Aside0.mk (Kd.R_below (by (with_reducible repeat (first | apply Kd.R_alloc | apply Kd.R_drewN | apply Kd.R_drew)); exact HO0_1.out) hb); have n2_ := Aside0.mk (Kept.below (S := (fun k_ => P0_0_ k_ ∨ P0_1_ k_)) (by repeat (first | (with_reducible first | exact HK.out | apply Kept.alloc | apply Kept.drewN | apply Kept.drew) | exact HK.out)) hb); have n3_ := Aside0.mk (below_step (by repeat (first | (with_reducible first | exact HB.out | apply below_alloc | apply pw_below_drewN | apply below_drew1) | exact HB.out)) hb); have n4_ := Aside0.mk (hbox); have n5_ := Aside0.mk ((by rw [hg]; exact (by first | exact HK.out.1 | exact (show Kept w _ (fun k_ => P0_0_ k_ ∨ P0_1_ k_) from by repeat (first | (with_reducible first | exact HK.out | apply Kept.alloc | apply Kept.drewN | apply Kept.drew) | exact HK.out)).1) : w.heap.size ≤ gb151)); have n6_ := Aside0.mk ((by rw [hg]; exact (below_size (by repeat (first | (with_reducible first | exact HB.out | apply below_alloc | apply pw_below_drewN | apply below_drew1) | exact HB.out))) : w0.heap.size ≤ gb151)); clear HO0_0; clear HO0_1; clear HK; clear HB; have HO0_0 := n0_; have HO0_1 := n1_; have HK := n2_; have HB := n3_; have BK151 := n4_; have GW151 := n5_; have GE151 := n6_; clear n0_ n1_ n2_ n3_ n4_ n5_ n6_; clear hb hbox hg) | ((with_reducible refine gate_dst (N := 6) rfl ?_); (try (refine gate_guard (by rfl) ?_; dsimp only)); refine box_event ?hg (N := 6) ?hd (cs := #[.slice none 0 0, .slice none 0 0, .int .i64 0, .bool false, .bool false]) (t := 51) ?hr ?_; (case hd => rfl); (case hg => rfl); (case hr => first | (go_simp; done) | (go_simp; rfl)); intro gb152 hg w8 hbox hb; have n0_ := Aside0.mk (Kd.R_below (by (with_reducible repeat (first | apply Kd.R_alloc | apply Kd.R_drewN | apply Kd.R_drew)); exact HO0_0.out) hb); have n1_ := Aside0.mk (Kd.R_below (by (with_reducible repeat (first | apply Kd.R_alloc | apply Kd.R_drewN | apply Kd.R_drew)); exact HO0_1.out) hb); have n2_ := Aside0.mk (blk_below (g := gb151) (o := .cells #[.slice Ao5 l0_0.length co5, .slice Ao6 l0_1.length co6, .int .i64 a0_2, .bool a0_3, .bool a0_4] 51 (0, 0)) (by (with_reducible repeat (first | refine blk_drewN ?_ _ | refine blk_drew ?_ | refine blk_alloc ?_ _)); exact BK151.out) hb); have n3_ := Aside0.mk (Kept.below (S := (fun k_ => P0_0_ k_ ∨ P0_1_ k_)) (by repeat (first | (with_reducible first | exact HK.out | apply Kept.alloc | apply Kept.drewN | apply Kept.drew | refine Kept.setCell ?_ (.inr GW151.out) _) | exact HK.out)) hb); have n4_ := Aside0.mk (below_step (by repeat (first | (with_reducible first | exact HB.out | apply below_alloc | apply pw_below_drewN | apply below_drew1 | refine below_set ?_ GE151.out) | exact HB.out)) hb); have n5_ := Aside0.mk (hbox); have n6_ := Aside0.mk ((by rw [hg]; exact (by first | exact HK.out.1 | exact (show Kept w _ (fun k_ => P0_0_ k_ ∨ P0_1_ k_) from by repeat (first | (with_reducible first | exact HK.out | apply Kept.alloc | apply Kept.drewN | apply Kept.drew | refine Kept.setCell ?_ (.inr GW151.out) _) | exact HK.out)).1) : w.heap.size ≤ gb152)); have n7_ := Aside0.mk ((by rw [hg]; exact (below_size (by repeat (first | (with_reducible first | exact HB.out | apply below_alloc | apply pw_below_drewN | apply below_drew1 | refine below_set ?_ GE151.out) | exact HB.out))) : w0.heap.size ≤ gb152)); have n8_ := Aside0.mk ((by rw [hg]; exact Nat.ne_of_lt (blk_lt (g := gb151) (o := .cells #[.slice Ao5 l0_0.length co5, .slice Ao6 l0_1.length co6, .int .i64 a0_2, .bool a0_3, .bool a0_4] 51 (0, 0)) (by (with_reducible repeat (first | refine blk_drewN ?_ _ | refine blk_drew ?_ | refine blk_alloc ?_ _)); exact BK151.out)) : gb151 ≠ gb152)); have n9_ := Aside0.mk ((by rw [hg]; exact Nat.ne_of_gt (blk_lt (g := gb151) (o := .cells #[.slice Ao5 l0_0.length co5, .slice Ao6 l0_1.length co6, .int .i64 a0_2, .bool a0_3, .bool a0_4] 51 (0, 0)) (by (with_reducible repeat (first | refine blk_drewN ?_ _ | refine blk_drew ?_ | refine blk_alloc ?_ _)); exact BK151.out)) : gb152 ≠ gb151)); clear HO0_0; clear HO0_1; clear BK151; clear HK; clear HB; have HO0_0 := n0_; have HO0_1 := n1_; have BK151 := n2_; have HK := n3_; have HB := n4_; have BK152 := n5_; have GW152 := n6_; have GE152 := n7_; have NB151_152 := n8_; have NB152_151 := n9_; clear n0_ n1_ n2_ n3_ n4_ n5_ n6_ n7_ n8_ n9_; clear hb hbox hg))
  (try simp only [Act.put, List.setIfInBounds_toArray, List.set_cons_zero, List.set_cons_succ])
  go_cut [19] (fun v19 wc => ∃ (kq : Nat) (x19_3 : Bool), v19 = .bool x19_3 ∧ Aside0 (marginaliaref14_Write.j0 kq a1 l2 x19_3 l0_0 l0_1 a0_2 a0_3 a0_4 = some (r1, r2, r3, r4, r5, r6)) ∧ Aside0 (kq ≤ k) ∧ Aside0 (Kd.R Kd.string 9 wc w0.heap.size (fun k_ => ((P0_0_ k_ ∨ P0_1_ k_) ∨ w.heap.size ≤ k_)) (.slice Ao5 l0_0.length co5) l0_0) ∧ Aside0 (Kd.R k111 111 wc w0.heap.size (fun k_ => ((P0_0_ k_ ∨ P0_1_ k_) ∨ w.heap.size ≤ k_)) (.slice Ao6 l0_1.length co6) l0_1) ∧ Aside0 (wc.heap[gb151]? = some (.cells #[(.slice Ao5 l0_0.length co5), (.slice Ao6 l0_1.length co6), .int .i64 a0_2, .bool a0_3, .bool a0_4] 51 (0, 0))) ∧ Aside0 (wc.heap[gb152]? = some (.cells #[(.slice none 0 0), (.slice none 0 0), .int .i64 0, .bool false, .bool false] 51 (0, 0))) ∧ Aside0 (Kept w wc (fun k_ => P0_0_ k_ ∨ P0_1_ k_)) ∧ Aside0 (Below w0.heap.size w0 wc))
  case first =>
    have H := HC4.out
    clear HC4
    replace H := Option.bind_eq_some_iff.mp H
    obtain ⟨t153, A90, H⟩ := H
    replace H : (if t153 = true then (marginaliaref14_Write.j0 k a1 l2 ((l2.length : Int) != 256) l0_0 l0_1 a0_2 a0_3 a0_4) else (marginaliaref14_Write.j0 k a1 l2 true l0_0 l0_1 a0_2 a0_3 a0_4)) = some (r1, r2, r3, r4, r5, r6) := H
    have A9 := Aside0.mk A90
    clear A90
    by_cases c10 : t153 = true
    · subst c10
      have H1 : (marginaliaref14_Write.j0 k a1 l2 ((l2.length : Int) != 256) l0_0 l0_1 a0_2 a0_3 a0_4) = some (r1, r2, r3, r4, r5, r6) := by rw [if_pos rfl] at H; exact H
      clear H
      have H := H1
      clear H1
      have H' := Aside0.mk H
      clear H
      have hnb11 := NB151_152.out
      have hnc11 := NB152_151.out
      have hcz12_0 : w8.cell? ⟨gb151, 0, none⟩ = some (.slice Ao5 l0_0.length co5) := (blk_cell BK151.out 0).trans rfl
      have hcz12_1 : w8.cell? ⟨gb151, 1, none⟩ = some (.slice Ao6 l0_1.length co6) := (blk_cell BK151.out 1).trans rfl
      have hcz12_2 : w8.cell? ⟨gb151, 2, none⟩ = some (.int .i64 a0_2) := (blk_cell BK151.out 2).trans rfl
      have hcz12_3 : w8.cell? ⟨gb151, 3, none⟩ = some (.bool a0_3) := (blk_cell BK151.out 3).trans rfl
      have hcz12_4 : w8.cell? ⟨gb151, 4, none⟩ = some (.bool a0_4) := (blk_cell BK151.out 4).trans rfl
      have hfz12_0 := blk_frozen BK151.out 0
      have hfz12_1 := blk_frozen BK151.out 1
      have hfz12_2 := blk_frozen BK151.out 2
      have hfz12_3 := blk_frozen BK151.out 3
      have hfz12_4 := blk_frozen BK151.out 4
      go_wp2_with (first | ((with_reducible refine gate_callee (f := 62) rfl ?_); refine goesL_ (some 13) rfl rfl Try.func62 (by kernel_rfl) rfl #[.agg #[.slice Ao5 l0_0.length co5, .slice Ao6 l0_1.length co6, .int .i64 a0_2, .bool a0_3, .bool a0_4], .int .i64 a1] rfl (by (try simp only [List.map_toArray, List.map_cons, List.map_nil]); first | done | rfl | (simp only [List.length_drop, List.length_take]; rfl)) ?_; (with_reducible refine (marginaliaref14_Is.calls _ _ l0_0 _ _ l0_1 a0_2 a0_3 a0_4 a1 true _ ?side1 ?side2 ?side3 ?side4 A9.out).mono ?_); (case side1 => repeat (first | exact (Kd.R_reads' HO0_0.out).2.2 | (with_reducible refine Kd.C_alloc ?_ _) | (with_reducible refine Kd.C_drewN ?_ _) | (with_reducible refine Kd.C_drew ?_))); (case side2 => exact (Kd.R_reads' HO0_0.out).2.1); (case side3 => repeat (first | exact (Kd.R_reads' HO0_1.out).2.2 | (with_reducible refine Kd.C_alloc ?_ _) | (with_reducible refine Kd.C_drewN ?_ _) | (with_reducible refine Kd.C_drew ?_))); (case side4 => exact (Kd.R_reads' HO0_1.out).2.1); rintro e w13 ⟨rfl, hb⟩; refine ⟨_, rfl, ?_⟩; have n0_ := Aside0.mk (Kd.R_below (by (with_reducible repeat (first | apply Kd.R_alloc | apply Kd.R_drewN | apply Kd.R_drew)); exact HO0_0.out) hb); have n1_ := Aside0.mk (Kd.R_below (by (with_reducible repeat (first | apply Kd.R_alloc | apply Kd.R_drewN | apply Kd.R_drew)); exact HO0_1.out) hb); have n2_ := Aside0.mk (blk_below (g := gb151) (o := .cells #[.slice Ao5 l0_0.length co5, .slice Ao6 l0_1.length co6, .int .i64 a0_2, .bool a0_3, .bool a0_4] 51 (0, 0)) (by (with_reducible repeat (first | refine blk_drewN ?_ _ | refine blk_drew ?_ | refine blk_alloc ?_ _)); exact BK151.out) hb); have n3_ := Aside0.mk (blk_below (g := gb152) (o := .cells #[.slice none 0 0, .slice none 0 0, .int .i64 0, .bool false, .bool false] 51 (0, 0)) (by (with_reducible repeat (first | refine blk_drewN ?_ _ | refine blk_drew ?_ | refine blk_alloc ?_ _)); exact BK152.out) hb); have n4_ := Aside0.mk (Kept.below (S := (fun k_ => P0_0_ k_ ∨ P0_1_ k_)) (by repeat (first | (with_reducible first | exact HK.out | apply Kept.alloc | apply Kept.drewN | apply Kept.drew | refine Kept.setCell ?_ (.inr GW151.out) _ | refine Kept.setCell ?_ (.inr GW152.out) _) | exact HK.out)) hb); have n5_ := Aside0.mk (below_step (by repeat (first | (with_reducible first | exact HB.out | apply below_alloc | apply pw_below_drewN | apply below_drew1 | refine below_set ?_ GE151.out | refine below_set ?_ GE152.out) | exact HB.out)) hb); clear HO0_0; clear HO0_1; clear BK151; clear BK152; clear HK; clear HB; have HO0_0 := n0_; have HO0_1 := n1_; have BK151 := n2_; have BK152 := n3_; have HK := n4_; have HB := n5_; clear n0_ n1_ n2_ n3_ n4_ n5_; (try clear hb); (try clear hb2); (try clear hk); (try clear hi)))
      go_meet
      case rel => exact ⟨_, (((l2.length : Int) != 256)), (by first | rfl | (simp; done) | (simp [*]; done)), H', ⟨by first | omega | exact Nat.le_refl _⟩, ⟨by (with_reducible repeat (first | apply Kd.R_alloc | apply Kd.R_drewN | apply Kd.R_drew)); exact HO0_0.out⟩, ⟨by (with_reducible repeat (first | apply Kd.R_alloc | apply Kd.R_drewN | apply Kd.R_drew)); exact HO0_1.out⟩, ⟨by (with_reducible repeat (first | refine blk_drewN ?_ _ | refine blk_drew ?_ | refine blk_alloc ?_ _)); exact BK151.out⟩, ⟨by (with_reducible repeat (first | refine blk_drewN ?_ _ | refine blk_drew ?_ | refine blk_alloc ?_ _)); exact BK152.out⟩, ⟨by repeat (first | (with_reducible first | exact HK.out | apply Kept.alloc | apply Kept.drewN | apply Kept.drew | refine Kept.setCell ?_ (.inr GW151.out) _ | refine Kept.setCell ?_ (.inr GW152.out) _) | exact HK.out)⟩, ⟨by repeat (first | (with_reducible first | exact HB.out | apply below_alloc | apply pw_below_drewN | apply below_drew1 | refine below_set ?_ GE151.out | refine below_set ?_ GE152.out) | exact HB.out)⟩⟩
    · replace c10 := Bool.eq_false_iff.mpr c10
      subst c10
      have H1 : (marginaliaref14_Write.j0 k a1 l2 true l0_0 l0_1 a0_2 a0_3 a0_4) = some (r1, r2, r3, r4, r5, r6) := by rw [if_neg (show ¬ (false = true) by decide)] at H; exact H
      clear H
      have H := H1
      clear H1
      have H' := Aside0.mk H
      clear H
      have hnb14 := NB151_152.out
      have hnc14 := NB152_151.out
      have hcz15_0 : w8.cell? ⟨gb151, 0, none⟩ = some (.slice Ao5 l0_0.length co5) := (blk_cell BK151.out 0).trans rfl
      have hcz15_1 : w8.cell? ⟨gb151, 1, none⟩ = some (.slice Ao6 l0_1.length co6) := (blk_cell BK151.out 1).trans rfl
      have hcz15_2 : w8.cell? ⟨gb151, 2, none⟩ = some (.int .i64 a0_2) := (blk_cell BK151.out 2).trans rfl
      have hcz15_3 : w8.cell? ⟨gb151, 3, none⟩ = some (.bool a0_3) := (blk_cell BK151.out 3).trans rfl
      have hcz15_4 : w8.cell? ⟨gb151, 4, none⟩ = some (.bool a0_4) := (blk_cell BK151.out 4).trans rfl
      have hfz15_0 := blk_frozen BK151.out 0
      have hfz15_1 := blk_frozen BK151.out 1
      have hfz15_2 := blk_frozen BK151.out 2
      have hfz15_3 := blk_frozen BK151.out 3
      have hfz15_4 := blk_frozen BK151.out 4
      go_wp2_with (first | ((with_reducible refine gate_callee (f := 62) rfl ?_); refine goesL_ (some 13) rfl rfl Try.func62 (by kernel_rfl) rfl #[.agg #[.slice Ao5 l0_0.length co5, .slice Ao6 l0_1.length co6, .int .i64 a0_2, .bool a0_3, .bool a0_4], .int .i64 a1] rfl (by (try simp only [List.map_toArray, List.map_cons, List.map_nil]); first | done | rfl | (simp only [List.length_drop, List.length_take]; rfl)) ?_; (with_reducible refine (marginaliaref14_Is.calls _ _ l0_0 _ _ l0_1 a0_2 a0_3 a0_4 a1 false _ ?side1 ?side2 ?side3 ?side4 A9.out).mono ?_); (case side1 => repeat (first | exact (Kd.R_reads' HO0_0.out).2.2 | (with_reducible refine Kd.C_alloc ?_ _) | (with_reducible refine Kd.C_drewN ?_ _) | (with_reducible refine Kd.C_drew ?_))); (case side2 => exact (Kd.R_reads' HO0_0.out).2.1); (case side3 => repeat (first | exact (Kd.R_reads' HO0_1.out).2.2 | (with_reducible refine Kd.C_alloc ?_ _) | (with_reducible refine Kd.C_drewN ?_ _) | (with_reducible refine Kd.C_drew ?_))); (case side4 => exact (Kd.R_reads' HO0_1.out).2.1); rintro e w16 ⟨rfl, hb⟩; refine ⟨_, rfl, ?_⟩; have n0_ := Aside0.mk (Kd.R_below (by (with_reducible repeat (first | apply Kd.R_alloc | apply Kd.R_drewN | apply Kd.R_drew)); exact HO0_0.out) hb); have n1_ := Aside0.mk (Kd.R_below (by (with_reducible repeat (first | apply Kd.R_alloc | apply Kd.R_drewN | apply Kd.R_drew)); exact HO0_1.out) hb); have n2_ := Aside0.mk (blk_below (g := gb151) (o := .cells #[.slice Ao5 l0_0.length co5, .slice Ao6 l0_1.length co6, .int .i64 a0_2, .bool a0_3, .bool a0_4] 51 (0, 0)) (by (with_reducible repeat (first | refine blk_drewN ?_ _ | refine blk_drew ?_ | refine blk_alloc ?_ _)); exact BK151.out) hb); have n3_ := Aside0.mk (blk_below (g := gb152) (o := .cells #[.slice none 0 0, .slice none 0 0, .int .i64 0, .bool false, .bool false] 51 (0, 0)) (by (with_reducible repeat (first | refine blk_drewN ?_ _ | refine blk_drew ?_ | refine blk_alloc ?_ _)); exact BK152.out) hb); have n4_ := Aside0.mk (Kept.below (S := (fun k_ => P0_0_ k_ ∨ P0_1_ k_)) (by repeat (first | (with_reducible first | exact HK.out | apply Kept.alloc | apply Kept.drewN | apply Kept.drew | refine Kept.setCell ?_ (.inr GW151.out) _ | refine Kept.setCell ?_ (.inr GW152.out) _) | exact HK.out)) hb); have n5_ := Aside0.mk (below_step (by repeat (first | (with_reducible first | exact HB.out | apply below_alloc | apply pw_below_drewN | apply below_drew1 | refine below_set ?_ GE151.out | refine below_set ?_ GE152.out) | exact HB.out)) hb); clear HO0_0; clear HO0_1; clear BK151; clear BK152; clear HK; clear HB; have HO0_0 := n0_; have HO0_1 := n1_; have BK151 := n2_; have BK152 := n3_; have HK := n4_; have HB := n5_; clear n0_ n1_ n2_ n3_ n4_ n5_; (try clear hb); (try clear hb2); (try clear hk); (try clear hi)))
      go_meet
      case rel => exact ⟨_, (true), (by first | rfl | (simp; done) | (simp [*]; done)), H', ⟨by first | omega | exact Nat.le_refl _⟩, ⟨by (with_reducible repeat (first | apply Kd.R_alloc | apply Kd.R_drewN | apply Kd.R_drew)); exact HO0_0.out⟩, ⟨by (with_reducible repeat (first | apply Kd.R_alloc | apply Kd.R_drewN | apply Kd.R_drew)); exact HO0_1.out⟩, ⟨by (with_reducible repeat (first | refine blk_drewN ?_ _ | refine blk_drew ?_ | refine blk_alloc ?_ _)); exact BK151.out⟩, ⟨by (with_reducible repeat (first | refine blk_drewN ?_ _ | refine blk_drew ?_ | refine blk_alloc ?_ _)); exact BK152.out⟩, ⟨by repeat (first | (with_reducible first | exact HK.out | apply Kept.alloc | apply Kept.drewN | apply Kept.drew | refine Kept.setCell ?_ (.inr GW151.out) _ | refine Kept.setCell ?_ (.inr GW152.out) _) | exact HK.out)⟩, ⟨by repeat (first | (with_reducible first | exact HB.out | apply below_alloc | apply pw_below_drewN | apply below_drew1 | refine below_set ?_ GE151.out | refine below_set ?_ GE152.out) | exact HB.out)⟩⟩
  case rest =>
    clear HC4
    try clear c1
    try clear c2
    try clear p2
    try clear c3
    try clear c6
    try clear c10
    try clear c11
    try clear c14
    try clear hcz12_0
    try clear hcz12_1
    try clear hcz12_2
    try clear hcz12_3
    try clear hcz12_4
    try clear hcz15_0
    try clear hcz15_1
    try clear hcz15_2
    try clear hcz15_3
    try clear hcz15_4
    try clear hfz12_0
    try clear hfz12_1
    try clear hfz12_2
    try clear hfz12_3
    try clear hfz12_4
    try clear hfz15_0
    try clear hfz15_1
    try clear hfz15_2
    try clear hfz15_3
    try clear hfz15_4
    obtain ⟨kq, x19_3, rfl, HA, HJ3, HO_152000, HO_152001, BK151, BK152, HK, HB⟩ := hcut
    cases kq with
    | zero => exact absurd HA.out (by simp [marginaliaref14_Write.j0])
    | succ kj3 =>
      have H := HA.out
      clear HA
      simp only [marginaliaref14_Write.j0] at H
      by_cases c17 : x19_3 = true
      · subst c17
        have H1 : (some (l0_0, l0_1, a0_2, a0_3, a0_4, 1)) = some (r1, r2, r3, r4, r5, r6) := by rw [if_pos rfl] at H; exact H
        clear H
        have H := H1
        clear H1
        simp only [Option.some.injEq, Prod.mk.injEq] at H
        obtain ⟨rfl, rfl, rfl, rfl, rfl, rfl⟩ := H
        have hnb18 := NB151_152.out
        have hnc18 := NB152_151.out
        have hcz19_0 : wc.cell? ⟨gb151, 0, none⟩ = some (.slice Ao5 l0_0.length co5) := (blk_cell BK151.out 0).trans rfl
        have hcz19_1 : wc.cell? ⟨gb151, 1, none⟩ = some (.slice Ao6 l0_1.length co6) := (blk_cell BK151.out 1).trans rfl
        have hcz19_2 : wc.cell? ⟨gb151, 2, none⟩ = some (.int .i64 a0_2) := (blk_cell BK151.out 2).trans rfl
        have hcz19_3 : wc.cell? ⟨gb151, 3, none⟩ = some (.bool a0_3) := (blk_cell BK151.out 3).trans rfl
        have hcz19_4 : wc.cell? ⟨gb151, 4, none⟩ = some (.bool a0_4) := (blk_cell BK151.out 4).trans rfl
        have hfz19_0 := blk_frozen BK151.out 0
        have hfz19_1 := blk_frozen BK151.out 1
        have hfz19_2 := blk_frozen BK151.out 2
        have hfz19_3 := blk_frozen BK151.out 3
        have hfz19_4 := blk_frozen BK151.out 4
        have hcz20_0 : wc.cell? ⟨gb152, 0, none⟩ = some (.slice none 0 0) := (blk_cell BK152.out 0).trans rfl
        have hcz20_1 : wc.cell? ⟨gb152, 1, none⟩ = some (.slice none 0 0) := (blk_cell BK152.out 1).trans rfl
        have hcz20_2 : wc.cell? ⟨gb152, 2, none⟩ = some (.int .i64 0) := (blk_cell BK152.out 2).trans rfl
        have hcz20_3 : wc.cell? ⟨gb152, 3, none⟩ = some (.bool false) := (blk_cell BK152.out 3).trans rfl
        have hcz20_4 : wc.cell? ⟨gb152, 4, none⟩ = some (.bool false) := (blk_cell BK152.out 4).trans rfl
        have hfz20_0 := blk_frozen BK152.out 0
        have hfz20_1 := blk_frozen BK152.out 1
        have hfz20_2 := blk_frozen BK152.out 2
        have hfz20_3 := blk_frozen BK152.out 3
        have hfz20_4 := blk_frozen BK152.out 4
        go_wp2
        refine bodyPost_ret (results_ct rfl _ _ gb152 51 #[.slice Ao5 l0_0.length co5, .slice Ao6 l0_1.length co6, .int .i64 a0_2, .bool a0_3, .bool a0_4] (0, 0) _ rfl (by (with_reducible repeat (first | refine blk_drewN ?_ _ | refine blk_drew ?_ | refine blk_alloc ?_ _)); refine blk_put (cs := #[.slice Ao5 l0_0.length co5, .slice Ao6 l0_1.length co6, .int .i64 a0_2, .bool a0_3, .bool false]) ?_ 4 _ rfl; (with_reducible repeat (first | refine blk_drewN ?_ _ | refine blk_drew ?_ | refine blk_alloc ?_ _)); refine blk_put (cs := #[.slice Ao5 l0_0.length co5, .slice Ao6 l0_1.length co6, .int .i64 a0_2, .bool false, .bool false]) ?_ 3 _ rfl; (with_reducible repeat (first | refine blk_drewN ?_ _ | refine blk_drew ?_ | refine blk_alloc ?_ _)); refine blk_put (cs := #[.slice Ao5 l0_0.length co5, .slice Ao6 l0_1.length co6, .int .i64 0, .bool false, .bool false]) ?_ 2 _ rfl; (with_reducible repeat (first | refine blk_drewN ?_ _ | refine blk_drew ?_ | refine blk_alloc ?_ _)); refine blk_put (cs := #[.slice Ao5 l0_0.length co5, .slice none 0 0, .int .i64 0, .bool false, .bool false]) ?_ 1 _ rfl; (with_reducible repeat (first | refine blk_drewN ?_ _ | refine blk_drew ?_ | refine blk_alloc ?_ _)); refine blk_put (cs := #[.slice none 0 0, .slice none 0 0, .int .i64 0, .bool false, .bool false]) ?_ 0 _ rfl; (with_reducible repeat (first | refine blk_drewN ?_ _ | refine blk_drew ?_ | refine blk_alloc ?_ _)); exact BK152.out) Try.underlying51 rfl (by kernel_rfl)) rfl ?_
        exact ⟨_, _, by first | rfl | (simp [errW_none, errW_some] <;> rfl) | (simp [*, errW_none, errW_some] <;> rfl), by (with_reducible repeat (first | apply Kd.R_alloc | apply Kd.R_drewN | apply Kd.R_drew)); exact Kd.R_mono (Kd.R_far (p := ⟨gb152, 4, none⟩) (Kd.R_far (p := ⟨gb152, 3, none⟩) (Kd.R_far (p := ⟨gb152, 2, none⟩) (Kd.R_far (p := ⟨gb152, 1, none⟩) (Kd.R_far (p := ⟨gb152, 0, none⟩) (Kd.R_types HO_152000.out BK152.out (by decide)) (fun _ hk => hk.2) (.slice Ao5 l0_0.length co5)) (fun _ hk => hk.2) (.slice Ao6 l0_1.length co6)) (fun _ hk => hk.2) (.int .i64 a0_2)) (fun _ hk => hk.2) (.bool a0_3)) (fun _ hk => hk.2) (.bool a0_4)) (fun _ hk => hk.1), by (with_reducible repeat (first | apply Kd.R_alloc | apply Kd.R_drewN | apply Kd.R_drew)); exact Kd.R_mono (Kd.R_far (p := ⟨gb152, 4, none⟩) (Kd.R_far (p := ⟨gb152, 3, none⟩) (Kd.R_far (p := ⟨gb152, 2, none⟩) (Kd.R_far (p := ⟨gb152, 1, none⟩) (Kd.R_far (p := ⟨gb152, 0, none⟩) (Kd.R_types HO_152001.out BK152.out (by decide)) (fun _ hk => hk.2) (.slice Ao5 l0_0.length co5)) (fun _ hk => hk.2) (.slice Ao6 l0_1.length co6)) (fun _ hk => hk.2) (.int .i64 a0_2)) (fun _ hk => hk.2) (.bool a0_3)) (fun _ hk => hk.2) (.bool a0_4)) (fun _ hk => hk.1), by repeat (first | (with_reducible first | exact HB.out | apply below_alloc | apply pw_below_drewN | apply below_drew1 | refine below_set ?_ GE151.out | refine below_set ?_ GE152.out) | exact HB.out), by repeat (first | (with_reducible first | exact HK.out | apply Kept.alloc | apply Kept.drewN | apply Kept.drew | refine Kept.setCell ?_ (.inr GW151.out) _ | refine Kept.setCell ?_ (.inr GW152.out) _) | exact HK.out)⟩
      · replace c17 := Bool.eq_false_iff.mpr c17
        subst c17
        have H1 : ((marginaliaref14_spend.f kj3 l0_0 l0_1 a0_2 a0_3 a0_4).bind fun bt154 => (if bt154.2.2.2.2.2 = true then ((some (([] : List (S111)) : List (S111))).bind fun y164 => (if y164.length + bt154.2.1.length < 5864062014805 then (marginaliaref14_Write.l0 kj3 a1 l2 (y164 ++ bt154.2.1) 0 bt154.1 bt154.2.1 bt154.2.2.1 bt154.2.2.2.1 bt154.2.2.2.2.1) else (none))) else (some (bt154.1, bt154.2.1, bt154.2.2.1, bt154.2.2.2.1, bt154.2.2.2.2.1, 9)))) = some (r1, r2, r3, r4, r5, r6) := by rw [if_neg (show ¬ (false = true) by decide)] at H; exact H
        clear H
        have H := H1
        clear H1
        replace H := Option.bind_eq_some_iff.mp H
        obtain ⟨⟨t154, t157, t160, t161, t162, t163⟩, A210, H⟩ := H
        replace H : (if t163 = true then ((some (([] : List (S111)) : List (S111))).bind fun y164 => (if y164.length + t157.length < 5864062014805 then (marginaliaref14_Write.l0 kj3 a1 l2 (y164 ++ t157) 0 t154 t157 t160 t161 t162) else (none))) else (some (t154, t157, t160, t161, t162, 9))) = some (r1, r2, r3, r4, r5, r6) := H
        have A21 := Aside0.mk A210
        clear A210
        by_cases c22 : t163 = true
        · subst c22
          have H1 : ((some (([] : List (S111)) : List (S111))).bind fun y164 => (if y164.length + t157.length < 5864062014805 then (marginaliaref14_Write.l0 kj3 a1 l2 (y164 ++ t157) 0 t154 t157 t160 t161 t162) else (none))) = some (r1, r2, r3, r4, r5, r6) := by rw [if_pos rfl] at H; exact H
          clear H
          have H := H1
          clear H1
          obtain ⟨y164, hy164⟩ : ∃ y_ : List (S111), y_ = (([] : List (S111))) := ⟨_, rfl⟩
          replace H : (if y164.length + t157.length < 5864062014805 then (marginaliaref14_Write.l0 kj3 a1 l2 (y164 ++ t157) 0 t154 t157 t160 t161 t162) else (none)) = some (r1, r2, r3, r4, r5, r6) := by first | (rw [hy164]; with_reducible exact H) | (have H2_ := (Option.bind_some _ _).symm.trans H; rw [hy164]; with_reducible exact H2_) | (have H2_ := (Option.bind_some _ _).symm.trans H; with_reducible exact H2_) | with_reducible exact H | (rw [hy164]; exact H) | exact H
          have Ny164 := Aside0.mk hy164
          clear hy164
          by_cases c23 : y164.length + t157.length < 5864062014805
          · rw [if_pos c23] at H
            have LMc23 := Aside0.mk c23
            clear c23
            obtain ⟨y167, hy167⟩ : ∃ y_ : List (S111), y_ = (y164 ++ t157) := ⟨_, rfl⟩
            replace H : (marginaliaref14_Write.l0 kj3 a1 l2 y167 0 t154 t157 t160 t161 t162) = some (r1, r2, r3, r4, r5, r6) := by first | (rw [hy167]; with_reducible exact H) | (have H2_ := (Option.bind_some _ _).symm.trans H; rw [hy167]; with_reducible exact H2_) | (have H2_ := (Option.bind_some _ _).symm.trans H; with_reducible exact H2_) | with_reducible exact H | (rw [hy167]; exact H) | exact H
            have Ny167 := Aside0.mk hy167
            clear hy167
            have H' := Aside0.mk H
            clear H
            have hnb24 := NB151_152.out
            have hnc24 := NB152_151.out
            have hcz25_0 : wc.cell? ⟨gb151, 0, none⟩ = some (.slice Ao5 l0_0.length co5) := (blk_cell BK151.out 0).trans rfl
            have hcz25_1 : wc.cell? ⟨gb151, 1, none⟩ = some (.slice Ao6 l0_1.length co6) := (blk_cell BK151.out 1).trans rfl
            have hcz25_2 : wc.cell? ⟨gb151, 2, none⟩ = some (.int .i64 a0_2) := (blk_cell BK151.out 2).trans rfl
            have hcz25_3 : wc.cell? ⟨gb151, 3, none⟩ = some (.bool a0_3) := (blk_cell BK151.out 3).trans rfl
            have hcz25_4 : wc.cell? ⟨gb151, 4, none⟩ = some (.bool a0_4) := (blk_cell BK151.out 4).trans rfl
            have hfz25_0 := blk_frozen BK151.out 0
            have hfz25_1 := blk_frozen BK151.out 1
            have hfz25_2 := blk_frozen BK151.out 2
            have hfz25_3 := blk_frozen BK151.out 3
            have hfz25_4 := blk_frozen BK151.out 4
            go_wp2_with (first | ((with_reducible refine gate_callee (f := 65) rfl ?_); refine goesL_ (some 23) rfl rfl Try.func65 (by kernel_rfl) rfl #[.agg #[.slice Ao5 l0_0.length co5, .slice Ao6 l0_1.length co6, .int .i64 a0_2, .bool a0_3, .bool a0_4]] rfl (by (try simp only [List.map_toArray, List.map_cons, List.map_nil]); first | done | rfl | (simp only [List.length_drop, List.length_take]; rfl)) ?_; (with_reducible refine (marginaliaref14_spend.calls kj3 (fun k_ => some k_ = (.slice Ao5 l0_0.length co5 : Value).ownBlock) (.slice Ao5 l0_0.length co5) l0_0 (fun k_ => some k_ = (.slice Ao6 l0_1.length co6 : Value).ownBlock) (.slice Ao6 l0_1.length co6) l0_1 a0_2 a0_3 a0_4 t154 t157 t160 t161 t162 true w0 _ ?side1 ?side2 ?side3 A21.out).mono ?_); (case side1 => repeat (first | (with_reducible first | exact HB.out | apply below_alloc | apply pw_below_drewN | apply below_drew1 | refine below_set ?_ GE151.out | refine below_set ?_ GE152.out) | exact HB.out)); (case side2 => exact Kd.R_tight rfl HO_152000.out); (case side3 => exact Kd.R_tight rfl HO_152001.out); rintro e w26 ⟨v155, v158, rfl, ho0, ho1, hb, hkp⟩; refine ⟨_, rfl, ?_⟩; have n0_ := Aside0.mk (blk_kept (by (with_reducible repeat (first | refine blk_drewN ?_ _ | refine blk_drew ?_ | refine blk_alloc ?_ _)); exact BK151.out) hkp (fun hs_ => Or.elim hs_ (fun e_ => (fun e_ => (Kd.R_ne HO_152000.out BK151.out (by decide)) e_) e_) (fun e_ => (fun e_ => (Kd.R_ne HO_152001.out BK151.out (by decide)) e_) e_))); have n1_ := Aside0.mk (blk_kept (by (with_reducible repeat (first | refine blk_drewN ?_ _ | refine blk_drew ?_ | refine blk_alloc ?_ _)); exact BK152.out) hkp (fun hs_ => Or.elim hs_ (fun e_ => (fun e_ => (Kd.R_ne HO_152000.out BK152.out (by decide)) e_) e_) (fun e_ => (fun e_ => (Kd.R_ne HO_152001.out BK152.out (by decide)) e_) e_))); have n2_ := Aside0.mk (Kd.R_mono (ok' := fun k_ => ((P0_0_ k_ ∨ P0_1_ k_) ∨ w.heap.size ≤ k_)) ho0 (fun k_ hk_ => Or.elim hk_ (fun hs_ => Or.elim hs_ (fun hs_ => (HO_152000.out.1 k_ (hs_).symm)) (fun hs_ => (HO_152001.out.1 k_ (hs_).symm))) (fun hn_ => (.inr (Nat.le_trans (by first | exact HK.out.1 | exact (show Kept w _ (fun k_ => P0_0_ k_ ∨ P0_1_ k_) from by repeat (first | (with_reducible first | exact HK.out | apply Kept.alloc | apply Kept.drewN | apply Kept.drew | refine Kept.setCell ?_ (.inr GW151.out) _ | refine Kept.setCell ?_ (.inr GW152.out) _) | exact HK.out)).1) hn_))))); have n3_ := Aside0.mk (Kd.R_mono (ok' := fun k_ => ((P0_0_ k_ ∨ P0_1_ k_) ∨ w.heap.size ≤ k_)) ho1 (fun k_ hk_ => Or.elim hk_ (fun hs_ => Or.elim hs_ (fun hs_ => (HO_152000.out.1 k_ (hs_).symm)) (fun hs_ => (HO_152001.out.1 k_ (hs_).symm))) (fun hn_ => (.inr (Nat.le_trans (by first | exact HK.out.1 | exact (show Kept w _ (fun k_ => P0_0_ k_ ∨ P0_1_ k_) from by repeat (first | (with_reducible first | exact HK.out | apply Kept.alloc | apply Kept.drewN | apply Kept.drew | refine Kept.setCell ?_ (.inr GW151.out) _ | refine Kept.setCell ?_ (.inr GW152.out) _) | exact HK.out)).1) hn_))))); have n4_ := Aside0.mk (Kept.then_ (S := (fun k_ => P0_0_ k_ ∨ P0_1_ k_)) (by repeat (first | (with_reducible first | exact HK.out | apply Kept.alloc | apply Kept.drewN | apply Kept.drew | refine Kept.setCell ?_ (.inr GW151.out) _ | refine Kept.setCell ?_ (.inr GW152.out) _) | exact HK.out)) hkp (fun k_ hs_ => Or.elim hs_ (fun e_ => (fun e_ => (HO_152000.out.1 k_ e_.symm)) e_) (fun e_ => (fun e_ => (HO_152001.out.1 k_ e_.symm)) e_))); have n5_ := Aside0.mk (hb); clear BK151; clear BK152; clear HK; clear HB; clear HO_152000; clear HO_152001; have BK151 := n0_; have BK152 := n1_; have HO156 := n2_; have HO159 := n3_; have HK := n4_; have HB := n5_; clear n0_ n1_ n2_ n3_ n4_ n5_; (try clear hb); (try clear hkp); (try clear ho0); (try clear ho1); obtain ⟨Ao27, co27, eo27⟩ := Kd.R_slice HO156.out; subst eo27; have hcz28_0 : w26.cell? ⟨gb151, 0, none⟩ = some (.slice Ao5 l0_0.length co5) := (blk_cell BK151.out 0).trans rfl; have hcz28_1 : w26.cell? ⟨gb151, 1, none⟩ = some (.slice Ao6 l0_1.length co6) := (blk_cell BK151.out 1).trans rfl; have hcz28_2 : w26.cell? ⟨gb151, 2, none⟩ = some (.int .i64 a0_2) := (blk_cell BK151.out 2).trans rfl; have hcz28_3 : w26.cell? ⟨gb151, 3, none⟩ = some (.bool a0_3) := (blk_cell BK151.out 3).trans rfl; have hcz28_4 : w26.cell? ⟨gb151, 4, none⟩ = some (.bool a0_4) := (blk_cell BK151.out 4).trans rfl; have hfz28_0 := blk_frozen BK151.out 0; have hfz28_1 := blk_frozen BK151.out 1; have hfz28_2 := blk_frozen BK151.out 2; have hfz28_3 := blk_frozen BK151.out 3; have hfz28_4 := blk_frozen BK151.out 4; obtain ⟨Ao29, co29, eo29⟩ := Kd.R_slice HO159.out; subst eo29) | ((with_reducible refine gate_dst (N := 29) rfl ?_); (try (refine gate_guard (by rfl) ?_; dsimp only)); refine Kd.R_lit k111 _ 111 ?hg (N := 29) ?hd (xs := ([] : List (S111))) (inner := []) (ok := fun _ => True) (okp := fun _ => True) ?hr ?hp (fun _ hk => hk) trivial (Below.refl _ _) (Nat.le_refl _) (by simp) ?_; (case hd => rfl); (case hg => rfl); (case hr => first | (go_simp; done) | (go_simp; rfl)); (case hp => exact (Reps.none _ _)); intro v165 w30 ho31 hb hg_ hnew_; clear hg_ hnew_; (first | rw [← Ny164.out] at ho31 | (simp only [Int.reduceToNat] at ho31; rw [← Ny164.out] at ho31)); have n0_ := Aside0.mk (Kd.R_below (by (with_reducible repeat (first | apply Kd.R_alloc | apply Kd.R_drewN | apply Kd.R_drew)); exact (Kd.R_mono (Kd.R_far (p := ⟨gb151, 4, none⟩) (Kd.R_far (p := ⟨gb151, 3, none⟩) (Kd.R_far (p := ⟨gb151, 2, none⟩) (Kd.R_far (p := ⟨gb151, 1, none⟩) (Kd.R_far (p := ⟨gb151, 0, none⟩) (Kd.R_types HO156.out BK151.out (by decide)) (fun _ hk => hk.2) (.slice Ao27 t154.length co27)) (fun _ hk => hk.2) (.slice Ao29 t157.length co29)) (fun _ hk => hk.2) (.int .i64 t160)) (fun _ hk => hk.2) (.bool t161)) (fun _ hk => hk.2) (.bool t162)) (fun _ h_ => h_.1))) hb); have n1_ := Aside0.mk (Kd.R_elder' (by (with_reducible repeat (first | apply Kd.R_alloc | apply Kd.R_drewN | apply Kd.R_drew)); exact (Kd.R_mono (Kd.R_far (p := ⟨gb151, 4, none⟩) (Kd.R_far (p := ⟨gb151, 3, none⟩) (Kd.R_far (p := ⟨gb151, 2, none⟩) (Kd.R_far (p := ⟨gb151, 1, none⟩) (Kd.R_far (p := ⟨gb151, 0, none⟩) (Kd.R_types HO159.out BK151.out (by decide)) (fun _ hk => hk.2) (.slice Ao27 t154.length co27)) (fun _ hk => hk.2) (.slice Ao29 t157.length co29)) (fun _ hk => hk.2) (.int .i64 t160)) (fun _ hk => hk.2) (.bool t161)) (fun _ hk => hk.2) (.bool t162)) (fun _ h_ => h_.1))) (Kd.R_base ho31) hb); have n2_ := Aside0.mk (Kd.R_lower (Kd.R_new' (Kd.R_newM (M := fun k_ => ((P0_0_ k_ ∨ P0_1_ k_) ∨ w.heap.size ≤ k_)) ho31 (show Kept w _ (fun k_ => P0_0_ k_ ∨ P0_1_ k_) from by repeat (first | (with_reducible first | exact HK.out | apply Kept.alloc | apply Kept.drewN | apply Kept.drew | refine Kept.setCell ?_ (.inr GW151.out) _ | refine Kept.setCell ?_ (.inr GW152.out) _) | exact HK.out)).1 (fun k_ h_ => .inr h_)) (Kd.R_lt (by (with_reducible repeat (first | apply Kd.R_alloc | apply Kd.R_drewN | apply Kd.R_drew)); exact (Kd.R_mono (Kd.R_far (p := ⟨gb151, 4, none⟩) (Kd.R_far (p := ⟨gb151, 3, none⟩) (Kd.R_far (p := ⟨gb151, 2, none⟩) (Kd.R_far (p := ⟨gb151, 1, none⟩) (Kd.R_far (p := ⟨gb151, 0, none⟩) (Kd.R_types HO159.out BK151.out (by decide)) (fun _ hk => hk.2) (.slice Ao27 t154.length co27)) (fun _ hk => hk.2) (.slice Ao29 t157.length co29)) (fun _ hk => hk.2) (.int .i64 t160)) (fun _ hk => hk.2) (.bool t161)) (fun _ hk => hk.2) (.bool t162)) (fun _ h_ => h_.1))))) (below_size (by repeat (first | (with_reducible first | exact HB.out | apply below_alloc | apply pw_below_drewN | apply below_drew1 | refine below_set ?_ GE151.out | refine below_set ?_ GE152.out) | exact HB.out)))); have n3_ := Aside0.mk (blk_below (g := gb151) (o := .cells #[.slice Ao27 t154.length co27, .slice Ao29 t157.length co29, .int .i64 t160, .bool t161, .bool t162] 51 (0, 0)) (by (with_reducible repeat (first | refine blk_drewN ?_ _ | refine blk_drew ?_ | refine blk_alloc ?_ _)); refine blk_put (cs := #[.slice Ao27 t154.length co27, .slice Ao29 t157.length co29, .int .i64 t160, .bool t161, .bool a0_4]) ?_ 4 _ rfl; (with_reducible repeat (first | refine blk_drewN ?_ _ | refine blk_drew ?_ | refine blk_alloc ?_ _)); refine blk_put (cs := #[.slice Ao27 t154.length co27, .slice Ao29 t157.length co29, .int .i64 t160, .bool a0_3, .bool a0_4]) ?_ 3 _ rfl; (with_reducible repeat (first | refine blk_drewN ?_ _ | refine blk_drew ?_ | refine blk_alloc ?_ _)); refine blk_put (cs := #[.slice Ao27 t154.length co27, .slice Ao29 t157.length co29, .int .i64 a0_2, .bool a0_3, .bool a0_4]) ?_ 2 _ rfl; (with_reducible repeat (first | refine blk_drewN ?_ _ | refine blk_drew ?_ | refine blk_alloc ?_ _)); refine blk_put (cs := #[.slice Ao27 t154.length co27, .slice Ao6 l0_1.length co6, .int .i64 a0_2, .bool a0_3, .bool a0_4]) ?_ 1 _ rfl; (with_reducible repeat (first | refine blk_drewN ?_ _ | refine blk_drew ?_ | refine blk_alloc ?_ _)); refine blk_put (cs := #[.slice Ao5 l0_0.length co5, .slice Ao6 l0_1.length co6, .int .i64 a0_2, .bool a0_3, .bool a0_4]) ?_ 0 _ rfl; (with_reducible repeat (first | refine blk_drewN ?_ _ | refine blk_drew ?_ | refine blk_alloc ?_ _)); exact BK151.out) hb); have n4_ := Aside0.mk (blk_below (g := gb152) (o := .cells #[.slice none 0 0, .slice none 0 0, .int .i64 0, .bool false, .bool false] 51 (0, 0)) (by (with_reducible repeat (first | refine blk_drewN ?_ _ | refine blk_drew ?_ | refine blk_alloc ?_ _)); refine blk_far ?_ NB152_151.out _; (with_reducible repeat (first | refine blk_drewN ?_ _ | refine blk_drew ?_ | refine blk_alloc ?_ _)); refine blk_far ?_ NB152_151.out _; (with_reducible repeat (first | refine blk_drewN ?_ _ | refine blk_drew ?_ | refine blk_alloc ?_ _)); refine blk_far ?_ NB152_151.out _; (with_reducible repeat (first | refine blk_drewN ?_ _ | refine blk_drew ?_ | refine blk_alloc ?_ _)); refine blk_far ?_ NB152_151.out _; (with_reducible repeat (first | refine blk_drewN ?_ _ | refine blk_drew ?_ | refine blk_alloc ?_ _)); refine blk_far ?_ NB152_151.out _; (with_reducible repeat (first | refine blk_drewN ?_ _ | refine blk_drew ?_ | refine blk_alloc ?_ _)); exact BK152.out) hb); have n5_ := Aside0.mk (Kept.below (S := (fun k_ => P0_0_ k_ ∨ P0_1_ k_)) (by repeat (first | (with_reducible first | exact HK.out | apply Kept.alloc | apply Kept.drewN | apply Kept.drew | refine Kept.setCell ?_ (.inr GW151.out) _ | refine Kept.setCell ?_ (.inr GW152.out) _) | exact HK.out)) hb); have n6_ := Aside0.mk (below_step (by repeat (first | (with_reducible first | exact HB.out | apply below_alloc | apply pw_below_drewN | apply below_drew1 | refine below_set ?_ GE151.out | refine below_set ?_ GE152.out) | exact HB.out)) hb); clear HO156; clear HO159; clear BK151; clear BK152; clear HK; clear HB; have HO156 := n0_; have HO159 := n1_; have HO166 := n2_; have BK151 := n3_; have BK152 := n4_; have HK := n5_; have HB := n6_; clear n0_ n1_ n2_ n3_ n4_ n5_ n6_; clear hb ho31; have hcz32_0 : w30.cell? ⟨gb151, 0, none⟩ = some (.slice Ao27 t154.length co27) := (blk_cell BK151.out 0).trans rfl; have hcz32_1 : w30.cell? ⟨gb151, 1, none⟩ = some (.slice Ao29 t157.length co29) := (blk_cell BK151.out 1).trans rfl; have hcz32_2 : w30.cell? ⟨gb151, 2, none⟩ = some (.int .i64 t160) := (blk_cell BK151.out 2).trans rfl; have hcz32_3 : w30.cell? ⟨gb151, 3, none⟩ = some (.bool t161) := (blk_cell BK151.out 3).trans rfl; have hcz32_4 : w30.cell? ⟨gb151, 4, none⟩ = some (.bool t162) := (blk_cell BK151.out 4).trans rfl; have hfz32_0 := blk_frozen BK151.out 0; have hfz32_1 := blk_frozen BK151.out 1; have hfz32_2 := blk_frozen BK151.out 2; have hfz32_3 := blk_frozen BK151.out 3; have hfz32_4 := blk_frozen BK151.out 4) | ((with_reducible refine gate_builtin (b := .append) (xs := #[.tmp 29, .tmp 31]) rfl ?_); (try (refine gate_guard (by rfl) ?_; dsimp only)); at_builtin; refine Kd.R_append_rows k111 (w0 := w0) w0.heap.size rfl (.tmp 29) (.tmp 31) 49 111 (.agg #[(.int .i64 0), (.string ⟨#[]⟩)]) 24 rfl Try.underlying49 info111 rfl (by decide) (by omega) v165 y164 t157 _ _ _ (fun k_ => ((P0_0_ k_ ∨ P0_1_ k_) ∨ w.heap.size ≤ k_) ∧ some k_ ≠ (.slice Ao29 t157.length co29 : Value).ownBlock) (fun _ => False) rfl rfl ?aO ?aR (fun _ _ h => h) (fun _ h => h.elim) ?aF ?aB ?aS ?aL ?_; (case aR => repeat (first | exact (Kd.R_reads' HO159.out).2.2 | (with_reducible refine Kd.C_alloc ?_ _) | (with_reducible refine Kd.C_drewN ?_ _) | (with_reducible refine Kd.C_drew ?_))); (case aB => exact (by repeat (first | (with_reducible first | exact HB.out | apply below_alloc | apply pw_below_drewN | apply below_drew1 | refine below_set ?_ GE151.out | refine below_set ?_ GE152.out) | exact HB.out))); (case aF => exact (fun k_ hk => ⟨(.inr (Nat.le_trans (by first | exact HK.out.1 | exact (show Kept w _ (fun k_ => P0_0_ k_ ∨ P0_1_ k_) from by repeat (first | (with_reducible first | exact HK.out | apply Kept.alloc | apply Kept.drewN | apply Kept.drew | refine Kept.setCell ?_ (.inr GW151.out) _ | refine Kept.setCell ?_ (.inr GW152.out) _) | exact HK.out)).1) hk)), Kd.fresh' (Kd.R_lt (by (with_reducible repeat (first | apply Kd.R_alloc | apply Kd.R_drewN | apply Kd.R_drew)); exact HO159.out)) k_ hk⟩)); (case aO => exact (by (with_reducible repeat (first | apply Kd.R_alloc | apply Kd.R_drewN | apply Kd.R_drew)); exact Kd.R_mono HO166.out (fun _ hk => ⟨hk.1.1, hk.2⟩))); (case aS => exact (below_size (by repeat (first | (with_reducible first | exact HB.out | apply below_alloc | apply pw_below_drewN | apply below_drew1 | refine below_set ?_ GE151.out | refine below_set ?_ GE152.out) | exact HB.out)))); (case aL => have := LMc23.out; omega); intro v168 w33 ho hb hg hat; rw [← Ny167.out] at ho; have n0_ := Aside0.mk (blk_grown (g := gb151) (o := .cells #[.slice Ao27 t154.length co27, .slice Ao29 t157.length co29, .int .i64 t160, .bool t161, .bool t162] 51 (0, 0)) (by (with_reducible repeat (first | refine blk_drewN ?_ _ | refine blk_drew ?_ | refine blk_alloc ?_ _)); exact BK151.out) hg (Kd.R_ne HO166.out BK151.out (by decide))); have n1_ := Aside0.mk (blk_grown (g := gb152) (o := .cells #[.slice none 0 0, .slice none 0 0, .int .i64 0, .bool false, .bool false] 51 (0, 0)) (by (with_reducible repeat (first | refine blk_drewN ?_ _ | refine blk_drew ?_ | refine blk_alloc ?_ _)); exact BK152.out) hg (Kd.R_ne HO166.out BK152.out (by decide))); have n2_ := Aside0.mk (Kd.R_over' (by (with_reducible repeat (first | apply Kd.R_alloc | apply Kd.R_drewN | apply Kd.R_drew)); exact HO156.out) (Kd.R_typed (by (with_reducible repeat (first | apply Kd.R_alloc | apply Kd.R_drewN | apply Kd.R_drew)); exact HO166.out)) (by decide) hg); have n3_ := Aside0.mk (Kd.R_after (ok := (fun k_ => ((P0_0_ k_ ∨ P0_1_ k_) ∨ w.heap.size ≤ k_))) (by (with_reducible repeat (first | apply Kd.R_alloc | apply Kd.R_drewN | apply Kd.R_drew)); exact HO159.out) hg hat); have n4_ := Aside0.mk (hb); have n5_ := Aside0.mk (Kept.of_grown (S := (fun k_ => P0_0_ k_ ∨ P0_1_ k_)) hg (by repeat (first | (with_reducible first | exact HK.out | apply Kept.alloc | apply Kept.drewN | apply Kept.drew | refine Kept.setCell ?_ (.inr GW151.out) _ | refine Kept.setCell ?_ (.inr GW152.out) _) | exact HK.out)) (fun k_ e_ => (HO166.out.1 k_ e_).1.1)); have n6_ := Aside0.mk (ho); clear BK151; clear BK152; clear HO156; clear HO159; clear HB; clear HK; clear HO166; have BK151 := n0_; have BK152 := n1_; have HO156 := n2_; have HO159 := n3_; have HB := n4_; have HK := n5_; have HO169 := n6_; clear n0_ n1_ n2_ n3_ n4_ n5_ n6_; clear ho hb hg hat))
            go_loopg [9, 10] kj3 (fun kq v9 v10 w' => ∃ (x9_2 : List (S111)) (x10_2 : Int), v10 = .int .i64 x10_2 ∧ Aside0 (marginaliaref14_Write.l0 kq a1 l2 x9_2 x10_2 t154 t157 t160 t161 t162 = some (r1, r2, r3, r4, r5, r6)) ∧ Aside0 (kq ≤ kj3) ∧ Aside0 (Kd.R k111 111 w' w0.heap.size (fun k_ => ((P0_0_ k_ ∨ P0_1_ k_) ∨ w.heap.size ≤ k_) ∧ some k_ ≠ ((.slice Ao29 t157.length co29) : Value).ownBlock) v9 x9_2) ∧ Aside0 (Kd.R Kd.string 9 w' w0.heap.size (fun k_ => ((P0_0_ k_ ∨ P0_1_ k_) ∨ w.heap.size ≤ k_)) (.slice Ao27 t154.length co27) t154) ∧ Aside0 (Kd.R k111 111 w' w0.heap.size (fun k_ => ((P0_0_ k_ ∨ P0_1_ k_) ∨ w.heap.size ≤ k_) ∧ some k_ ≠ (v9 : Value).ownBlock) (.slice Ao29 t157.length co29) t157) ∧ Aside0 (w'.heap[gb151]? = some (.cells #[(.slice Ao27 t154.length co27), (.slice Ao29 t157.length co29), .int .i64 t160, .bool t161, .bool t162] 51 (0, 0))) ∧ Aside0 (w'.heap[gb152]? = some (.cells #[(.slice none 0 0), (.slice none 0 0), .int .i64 0, .bool false, .bool false] 51 (0, 0))) ∧ Aside0 (Kept w w' (fun k_ => P0_0_ k_ ∨ P0_1_ k_)) ∧ Aside0 (Below w0.heap.size w0 w'))
            case atStart => exact ⟨(y167), (0), (by first | rfl | (simp; done) | (simp [*]; done)), H', ⟨Nat.le_refl _⟩, ⟨by (with_reducible repeat (first | apply Kd.R_alloc | apply Kd.R_drewN | apply Kd.R_drew)); exact HO169.out⟩, ⟨by (with_reducible repeat (first | apply Kd.R_alloc | apply Kd.R_drewN | apply Kd.R_drew)); exact HO156.out⟩, ⟨by (with_reducible repeat (first | apply Kd.R_alloc | apply Kd.R_drewN | apply Kd.R_drew)); exact HO159.out⟩, ⟨by (with_reducible repeat (first | refine blk_drewN ?_ _ | refine blk_drew ?_ | refine blk_alloc ?_ _)); exact BK151.out⟩, ⟨by (with_reducible repeat (first | refine blk_drewN ?_ _ | refine blk_drew ?_ | refine blk_alloc ?_ _)); exact BK152.out⟩, ⟨by repeat (first | (with_reducible first | exact HK.out | apply Kept.alloc | apply Kept.drewN | apply Kept.drew | refine Kept.setCell ?_ (.inr GW151.out) _ | refine Kept.setCell ?_ (.inr GW152.out) _) | exact HK.out)⟩, ⟨by repeat (first | (with_reducible first | exact HB.out | apply below_alloc | apply pw_below_drewN | apply below_drew1 | refine below_set ?_ GE151.out | refine below_set ?_ GE152.out) | exact HB.out)⟩⟩
            case round =>
              clear H'
              try clear c1
              try clear c2
              try clear p2
              try clear c3
              try clear c6
              try clear c10
              try clear c11
              try clear c14
              try clear c17
              try clear c18
              try clear c22
              try clear c23
              try clear c24
              try clear hcz12_0
              try clear hcz12_1
              try clear hcz12_2
              try clear hcz12_3
              try clear hcz12_4
              try clear hcz15_0
              try clear hcz15_1
              try clear hcz15_2
              try clear hcz15_3
              try clear hcz15_4
              try clear hcz19_0
              try clear hcz19_1
              try clear hcz19_2
              try clear hcz19_3
              try clear hcz19_4
              try clear hcz20_0
              try clear hcz20_1
              try clear hcz20_2
              try clear hcz20_3
              try clear hcz20_4
              try clear hcz25_0
              try clear hcz25_1
              try clear hcz25_2
              try clear hcz25_3
              try clear hcz25_4
              try clear hcz28_0
              try clear hcz28_1
              try clear hcz28_2
              try clear hcz28_3
              try clear hcz28_4
              try clear hcz32_0
              try clear hcz32_1
              try clear hcz32_2
              try clear hcz32_3
              try clear hcz32_4
              try clear hfz12_0
              try clear hfz12_1
              try clear hfz12_2
              try clear hfz12_3
              try clear hfz12_4
              try clear hfz15_0
              try clear hfz15_1
              try clear hfz15_2
              try clear hfz15_3
              try clear hfz15_4
              try clear hfz19_0
              try clear hfz19_1
              try clear hfz19_2
              try clear hfz19_3
              try clear hfz19_4
              try clear hfz20_0
              try clear hfz20_1
              try clear hfz20_2
              try clear hfz20_3
              try clear hfz20_4
              try clear hfz25_0
              try clear hfz25_1
              try clear hfz25_2
              try clear hfz25_3
              try clear hfz25_4
              try clear hfz28_0
              try clear hfz28_1
              try clear hfz28_2
              try clear hfz28_3
              try clear hfz28_4
              try clear hfz32_0
              try clear hfz32_1
              try clear hfz32_2
              try clear hfz32_3
              try clear hfz32_4
              try clear p2
              obtain ⟨x9_2, x10_2, rfl, HA, HK2, HO_9, HO_152000, HO_152001, BK151, BK152, HK, HB⟩ := hrel
              cases gk with
              | zero => exact absurd HA.out (by simp [marginaliaref14_Write.l0])
              | succ k2 =>
                have H := HA.out
                clear HA
                simp only [marginaliaref14_Write.l0] at H
                by_cases c34 : x10_2 < 4
                · rw [if_pos c34] at H
                  have c34b0 : decide (x10_2 < 4) = true := decide_eq_true c34
                  clear c34
                  obtain ⟨ji35, hji35⟩ : ∃ j_ : Int, (wrap64 (x10_2 * 64)) = j_ := ⟨_, rfl⟩
                  replace H : (if 0 ≤ (ji35) then (if (ji35) ≤ (wrap64 ((wrap64 (x10_2 + 1)) * 64)) then (if (wrap64 ((wrap64 (x10_2 + 1)) * 64)) ≤ (l2.length : Int) then (if x9_2.length < 5864062014805 then (marginaliaref14_Write.l0 k2 a1 l2 (x9_2 ++ [(⟨wrap64 ((wrap64 (a1 * 4)) + x10_2), strOfNums ((l2.take ((wrap64 ((wrap64 (x10_2 + 1)) * 64)) : Int).toNat).drop ((ji35) : Int).toNat)⟩ : S111)]) (wrap64 (x10_2 + 1)) t154 t157 t160 t161 t162) else (none)) else (none)) else (none)) else (none)) = some (r1, r2, r3, r4, r5, r6) := by first | (rw [hji35] at H; exact H) | (simp only [hji35] at H ⊢; exact H)
                  have hji35w : (IntKind.i64.wrap (x10_2 * 64)) = ji35 := (i64_w _).trans hji35
                  by_cases c36 : 0 ≤ (ji35)
                  · rw [if_pos c36] at H
                    have c36b0 := eq_true c36
                    have c36b1 : decide (0 ≤ (ji35)) = true := decide_eq_true c36
                    clear c36
                    by_cases c37 : (ji35) ≤ (wrap64 ((wrap64 (x10_2 + 1)) * 64))
                    · rw [if_pos c37] at H
                      have c37b0 := eq_true c37
                      have c37b1 : decide ((ji35) ≤ (wrap64 ((wrap64 (x10_2 + 1)) * 64))) = true := decide_eq_true c37
                      by_cases c38 : (wrap64 ((wrap64 (x10_2 + 1)) * 64)) ≤ (l2.length : Int)
                      · rw [if_pos c38] at H
                        have c38b0 := eq_true c38
                        have c38b1 : decide ((wrap64 ((wrap64 (x10_2 + 1)) * 64)) ≤ (l2.length : Int)) = true := decide_eq_true c38
                        obtain ⟨y170, hy170⟩ : ∃ y_ : List Int, y_ = ((l2.take ((wrap64 ((wrap64 (x10_2 + 1)) * 64)) : Int).toNat).drop ((ji35) : Int).toNat) := ⟨_, rfl⟩
                        replace H : (if x9_2.length < 5864062014805 then (marginaliaref14_Write.l0 k2 a1 l2 (x9_2 ++ [(⟨wrap64 ((wrap64 (a1 * 4)) + x10_2), strOfNums y170⟩ : S111)]) (wrap64 (x10_2 + 1)) t154 t157 t160 t161 t162) else (none)) = some (r1, r2, r3, r4, r5, r6) := by first | (rw [hy170]; with_reducible exact H) | (have H2_ := (Option.bind_some _ _).symm.trans H; rw [hy170]; with_reducible exact H2_) | (have H2_ := (Option.bind_some _ _).symm.trans H; with_reducible exact H2_) | with_reducible exact H | (rw [hy170]; exact H) | exact H
                        have Ny170 := Aside0.mk hy170
                        clear hy170
                        by_cases c39 : x9_2.length < 5864062014805
                        · rw [if_pos c39] at H
                          have LMc39 := Aside0.mk c39
                          clear c39
                          obtain ⟨y174, hy174⟩ : ∃ y_ : List (S111), y_ = (x9_2 ++ [(⟨wrap64 ((wrap64 (a1 * 4)) + x10_2), strOfNums y170⟩ : S111)]) := ⟨_, rfl⟩
                          replace H : (marginaliaref14_Write.l0 k2 a1 l2 y174 (wrap64 (x10_2 + 1)) t154 t157 t160 t161 t162) = some (r1, r2, r3, r4, r5, r6) := by first | (rw [hy174]; with_reducible exact H) | (have H2_ := (Option.bind_some _ _).symm.trans H; rw [hy174]; with_reducible exact H2_) | (have H2_ := (Option.bind_some _ _).symm.trans H; with_reducible exact H2_) | with_reducible exact H | (rw [hy174]; exact H) | exact H
                          have Ny174 := Aside0.mk hy174
                          clear hy174
                          have H' := Aside0.mk H
                          clear H
                          have q40 : ((wrap64 ((wrap64 (x10_2 + 1)) * 64)) : Int) ≤ ((l2.length : Int) : Int) := of_decide_eq_true (by first | (with_reducible assumption) | assumption)
                          obtain ⟨i040, hi040, _, hsz40, _⟩ := info_parts info5
                          have hroom40 : l2.length ≤ c2 := HC2.out
                          have hC40 : Kd.C (Kd.int .u8) _ A2 l2.length l2 := (Kd.C_kept_now HR2.out HK.out)
                          have ql40 : ((ji35) : Int) ≤ ((wrap64 ((wrap64 (x10_2 + 1)) * 64)) : Int) := of_decide_eq_true (by first | (with_reducible assumption) | assumption)
                          have q040 : (0 : Int) ≤ ((ji35) : Int) := of_decide_eq_true (by first | (with_reducible assumption) | assumption)
                          have hcut40 := cut_mid (P := Try.prog) 27 5 .i64 .i64 Try.underlying27 hi040 1 hsz40 A2 l2.length c2 (ji35) (wrap64 ((wrap64 (x10_2 + 1)) * 64)) q040 ql40 q40 hroom40
                          have hr40 := Kd.C_mid (lo := ((ji35) : Int).toNat) (hi := ((wrap64 ((wrap64 (x10_2 + 1)) * 64)) : Int).toNat) (c := c2) hC40 (by omega) (by omega) hroom40
                          obtain ⟨A40, hA40⟩ : ∃ A1, A1 = (if c2 = ((ji35) : Int).toNat then A2 else (A2 : Option Addr).map (·.add (((ji35) : Int).toNat * 1))) := ⟨_, rfl⟩
                          obtain ⟨c40, hc40⟩ : ∃ c1, c1 = c2 - ((ji35) : Int).toNat := ⟨_, rfl⟩
                          have hy40 : y170.length = ((wrap64 ((wrap64 (x10_2 + 1)) * 64)) : Int).toNat - ((ji35) : Int).toNat := (by rw [Ny170.out, List.length_drop, List.length_take] <;> omega)
                          rw [show ((l2).take ((wrap64 ((wrap64 (x10_2 + 1)) * 64)) : Int).toNat).drop ((ji35) : Int).toNat = y170 from Ny170.out.symm] at hr40
                          replace hr40 : Kd.C (Kd.int .u8) _ A40 y170.length y170 := (by rw [hA40]; exact hr40)
                          rw [← hy40, ← hA40, ← hc40] at hcut40
                          have HR173 := Aside0.mk hr40
                          have HC173 := Aside0.mk (show y170.length ≤ c40 from by rw [hy40, hc40]; exact Nat.sub_le_sub_right (Nat.le_trans (by omega) hroom40) _)
                          clear hr40 hC40 hroom40 hi040 hsz40 hc40
                          have KY40 := Aside0.mk hy40
                          have KA40 := Aside0.mk hA40
                          clear hy40 hA40
                          have KL40 := Aside0.mk (show ((wrap64 ((wrap64 (x10_2 + 1)) * 64)) : Int).toNat ≤ l2.length from by omega)
                          have KM40 := Aside0.mk (show ((ji35) : Int).toNat ≤ ((wrap64 ((wrap64 (x10_2 + 1)) * 64)) : Int).toNat from by omega)
                          replace q40 := eq_true q40
                          have hcv41 := Kd.C_string (P := Try.prog) (A := A40) (c := c40) Try.underlying27 Try.underlying5 Try.underlying9 (by repeat (first | (with_reducible exact HR173.out) | (with_reducible refine Kd.C_alloc ?_ _) | (with_reducible refine Kd.C_drewN ?_ _) | (with_reducible refine Kd.C_drew ?_) | exact HR173.out))
                          have hcd41 := fun (nq_ : Nat) => Kd.C_string (P := Try.prog) (A := A40) (c := c40) Try.underlying27 Try.underlying5 Try.underlying9 (Kd.C_drewN (by repeat (first | (with_reducible exact HR173.out) | (with_reducible refine Kd.C_alloc ?_ _) | (with_reducible refine Kd.C_drewN ?_ _) | (with_reducible refine Kd.C_drew ?_) | exact HR173.out)) nq_)
                          go_wp2_with (first | ((with_reducible refine gate_builtin (b := .append) (xs := #[.tmp 37, .tmp 51]) rfl ?_); (try (refine gate_guard (by rfl) ?_; dsimp only)); at_builtin; refine Kd.R_append k111 (w0 := w0) w0.heap.size rfl (.tmp 37) (.tmp 51) 49 111 (.agg #[(.int .i64 0), (.string ⟨#[]⟩)]) 24 rfl Try.underlying49 info111 rfl (by decide) (by omega) u9 x9_2 (⟨wrap64 ((wrap64 (a1 * 4)) + x10_2), strOfNums y170⟩ : S111) [.int .i64 (wrap64 ((wrap64 (a1 * 4)) + x10_2)), .string (strOfNums y170)] (fun k_ => ((P0_0_ k_ ∨ P0_1_ k_) ∨ w.heap.size ≤ k_) ∧ some k_ ≠ (.slice Ao29 t157.length co29 : Value).ownBlock) (fun _ => False) rfl rfl ?aP (fun _ hk => hk.elim) ?aF ?aO ?aB ?aS ?aL ?_; (case aP => exact k111_mkM _ _ _ (⟨wrap64 ((wrap64 (a1 * 4)) + x10_2), strOfNums y170⟩ : S111)); (case aB => exact (by repeat (first | (with_reducible first | exact HB.out | apply below_alloc | apply pw_below_drewN | apply below_drew1 | refine below_set ?_ GE151.out | refine below_set ?_ GE152.out) | exact HB.out))); (case aF => exact (fun k_ hk => ⟨(.inr (Nat.le_trans (by first | exact HK.out.1 | exact (show Kept w _ (fun k_ => P0_0_ k_ ∨ P0_1_ k_) from by repeat (first | (with_reducible first | exact HK.out | apply Kept.alloc | apply Kept.drewN | apply Kept.drew | refine Kept.setCell ?_ (.inr GW151.out) _ | refine Kept.setCell ?_ (.inr GW152.out) _) | exact HK.out)).1) hk)), Kd.fresh' (Kd.R_lt (by (with_reducible repeat (first | apply Kd.R_alloc | apply Kd.R_drewN | apply Kd.R_drew)); exact HO_152001.out)) k_ hk⟩)); (case aO => exact (by (with_reducible repeat (first | apply Kd.R_alloc | apply Kd.R_drewN | apply Kd.R_drew)); exact HO_9.out)); (case aS => exact (below_size (by repeat (first | (with_reducible first | exact HB.out | apply below_alloc | apply pw_below_drewN | apply below_drew1 | refine below_set ?_ GE151.out | refine below_set ?_ GE152.out) | exact HB.out)))); (case aL => have := LMc39.out; omega); intro v175 w42 ho hb hg hat; rw [← Ny174.out] at ho; have n0_ := Aside0.mk (Kd.R_over' (by (with_reducible repeat (first | apply Kd.R_alloc | apply Kd.R_drewN | apply Kd.R_drew)); exact HO_152000.out) (Kd.R_typed (by (with_reducible repeat (first | apply Kd.R_alloc | apply Kd.R_drewN | apply Kd.R_drew)); exact HO_9.out)) (by decide) hg); have n1_ := Aside0.mk (Kd.R_after (ok := (fun k_ => ((P0_0_ k_ ∨ P0_1_ k_) ∨ w.heap.size ≤ k_))) (by (with_reducible repeat (first | apply Kd.R_alloc | apply Kd.R_drewN | apply Kd.R_drew)); exact HO_152001.out) hg hat); have n2_ := Aside0.mk (blk_grown (g := gb151) (o := .cells #[.slice Ao27 t154.length co27, .slice Ao29 t157.length co29, .int .i64 t160, .bool t161, .bool t162] 51 (0, 0)) (by (with_reducible repeat (first | refine blk_drewN ?_ _ | refine blk_drew ?_ | refine blk_alloc ?_ _)); exact BK151.out) hg (Kd.R_ne HO_9.out BK151.out (by decide))); have n3_ := Aside0.mk (blk_grown (g := gb152) (o := .cells #[.slice none 0 0, .slice none 0 0, .int .i64 0, .bool false, .bool false] 51 (0, 0)) (by (with_reducible repeat (first | refine blk_drewN ?_ _ | refine blk_drew ?_ | refine blk_alloc ?_ _)); exact BK152.out) hg (Kd.R_ne HO_9.out BK152.out (by decide))); have n4_ := Aside0.mk (hb); have n5_ := Aside0.mk (Kept.of_grown (S := (fun k_ => P0_0_ k_ ∨ P0_1_ k_)) hg (by repeat (first | (with_reducible first | exact HK.out | apply Kept.alloc | apply Kept.drewN | apply Kept.drew | refine Kept.setCell ?_ (.inr GW151.out) _ | refine Kept.setCell ?_ (.inr GW152.out) _) | exact HK.out)) (fun k_ e_ => (HO_9.out.1 k_ e_).1)); have n6_ := Aside0.mk ((show Kd.C (Kd.int .u8) w42 A40 y170.length y170 from by rw [Ny170.out, KA40.out]; exact Kd.C_mid (lo := ((ji35) : Int).toNat) (hi := ((wrap64 ((wrap64 (x10_2 + 1)) * 64)) : Int).toNat) (c := c2) (Kd.C_kept_now HR2.out (show Kept w w42 (fun k_ => P0_0_ k_ ∨ P0_1_ k_) from (Kept.of_grown (S := (fun k_ => P0_0_ k_ ∨ P0_1_ k_)) hg (by repeat (first | (with_reducible first | exact HK.out | apply Kept.alloc | apply Kept.drewN | apply Kept.drew | refine Kept.setCell ?_ (.inr GW151.out) _ | refine Kept.setCell ?_ (.inr GW152.out) _) | exact HK.out)) (fun k_ e_ => (HO_9.out.1 k_ e_).1)))) KM40.out KL40.out HC2.out)); have n7_ := Aside0.mk (ho); clear HO_152000; clear HO_152001; clear BK151; clear BK152; clear HB; clear HK; clear HR173; clear HO_9; have HO_152000 := n0_; have HO_152001 := n1_; have BK151 := n2_; have BK152 := n3_; have HB := n4_; have HK := n5_; have HR173 := n6_; have HO176 := n7_; clear n0_ n1_ n2_ n3_ n4_ n5_ n6_ n7_; clear ho hb hg hat))
                          go_roundg k2
                          case measure => have := HJ3.out; have := HK2.out; omega
                          case rel => exact ⟨(y174), (wrap64 (x10_2 + 1)), (by first | rfl | (simp; done) | (simp [*]; done)), H', ⟨by have := HJ3.out; have := HK2.out; omega⟩, ⟨by (with_reducible repeat (first | apply Kd.R_alloc | apply Kd.R_drewN | apply Kd.R_drew)); exact HO176.out⟩, ⟨by (with_reducible repeat (first | apply Kd.R_alloc | apply Kd.R_drewN | apply Kd.R_drew)); exact HO_152000.out⟩, ⟨by (with_reducible repeat (first | apply Kd.R_alloc | apply Kd.R_drewN | apply Kd.R_drew)); exact HO_152001.out⟩, ⟨by (with_reducible repeat (first | refine blk_drewN ?_ _ | refine blk_drew ?_ | refine blk_alloc ?_ _)); exact BK151.out⟩, ⟨by (with_reducible repeat (first | refine blk_drewN ?_ _ | refine blk_drew ?_ | refine blk_alloc ?_ _)); exact BK152.out⟩, ⟨by repeat (first | (with_reducible first | exact HK.out | apply Kept.alloc | apply Kept.drewN | apply Kept.drew | refine Kept.setCell ?_ (.inr GW151.out) _ | refine Kept.setCell ?_ (.inr GW152.out) _) | exact HK.out)⟩, ⟨by repeat (first | (with_reducible first | exact HB.out | apply below_alloc | apply pw_below_drewN | apply below_drew1 | refine below_set ?_ GE151.out | refine below_set ?_ GE152.out) | exact HB.out)⟩⟩
                        · rw [if_neg c39] at H
                          exact absurd H (by simp)
                      · rw [if_neg c38] at H
                        exact absurd H (by simp)
                    · rw [if_neg c37] at H
                      exact absurd H (by simp)
                  · rw [if_neg c36] at H
                    exact absurd H (by simp)
                · rw [if_neg c34] at H
                  have c34b0 : decide (x10_2 < 4) = false := decide_eq_false c34
                  clear c34
                  simp only [Option.some.injEq, Prod.mk.injEq] at H
                  obtain ⟨rfl, rfl, rfl, rfl, rfl, rfl⟩ := H
                  obtain ⟨Ao43, co43, eo43⟩ := Kd.R_slice HO_9.out
                  subst eo43
                  have hnb44 := NB151_152.out
                  have hnc44 := NB152_151.out
                  have hcz45_0 : wr.cell? ⟨gb151, 0, none⟩ = some (.slice Ao27 t154.length co27) := (blk_cell BK151.out 0).trans rfl
                  have hcz45_1 : wr.cell? ⟨gb151, 1, none⟩ = some (.slice Ao29 t157.length co29) := (blk_cell BK151.out 1).trans rfl
                  have hcz45_2 : wr.cell? ⟨gb151, 2, none⟩ = some (.int .i64 t160) := (blk_cell BK151.out 2).trans rfl
                  have hcz45_3 : wr.cell? ⟨gb151, 3, none⟩ = some (.bool t161) := (blk_cell BK151.out 3).trans rfl
                  have hcz45_4 : wr.cell? ⟨gb151, 4, none⟩ = some (.bool t162) := (blk_cell BK151.out 4).trans rfl
                  have hfz45_0 := blk_frozen BK151.out 0
                  have hfz45_1 := blk_frozen BK151.out 1
                  have hfz45_2 := blk_frozen BK151.out 2
                  have hfz45_3 := blk_frozen BK151.out 3
                  have hfz45_4 := blk_frozen BK151.out 4
                  have hcz46_0 : wr.cell? ⟨gb152, 0, none⟩ = some (.slice none 0 0) := (blk_cell BK152.out 0).trans rfl
                  have hcz46_1 : wr.cell? ⟨gb152, 1, none⟩ = some (.slice none 0 0) := (blk_cell BK152.out 1).trans rfl
                  have hcz46_2 : wr.cell? ⟨gb152, 2, none⟩ = some (.int .i64 0) := (blk_cell BK152.out 2).trans rfl
                  have hcz46_3 : wr.cell? ⟨gb152, 3, none⟩ = some (.bool false) := (blk_cell BK152.out 3).trans rfl
                  have hcz46_4 : wr.cell? ⟨gb152, 4, none⟩ = some (.bool false) := (blk_cell BK152.out 4).trans rfl
                  have hfz46_0 := blk_frozen BK152.out 0
                  have hfz46_1 := blk_frozen BK152.out 1
                  have hfz46_2 := blk_frozen BK152.out 2
                  have hfz46_3 := blk_frozen BK152.out 3
                  have hfz46_4 := blk_frozen BK152.out 4
                  go_wp2
                  refine bodyPost_ret (results_ct rfl _ _ gb152 51 #[.slice Ao27 t154.length co27, .slice Ao43 x9_2.length co43, .int .i64 t160, .bool t161, .bool t162] (0, 0) _ rfl (by (with_reducible repeat (first | refine blk_drewN ?_ _ | refine blk_drew ?_ | refine blk_alloc ?_ _)); refine blk_put (cs := #[.slice Ao27 t154.length co27, .slice Ao43 x9_2.length co43, .int .i64 t160, .bool t161, .bool false]) ?_ 4 _ rfl; (with_reducible repeat (first | refine blk_drewN ?_ _ | refine blk_drew ?_ | refine blk_alloc ?_ _)); refine blk_put (cs := #[.slice Ao27 t154.length co27, .slice Ao43 x9_2.length co43, .int .i64 t160, .bool false, .bool false]) ?_ 3 _ rfl; (with_reducible repeat (first | refine blk_drewN ?_ _ | refine blk_drew ?_ | refine blk_alloc ?_ _)); refine blk_put (cs := #[.slice Ao27 t154.length co27, .slice Ao43 x9_2.length co43, .int .i64 0, .bool false, .bool false]) ?_ 2 _ rfl; (with_reducible repeat (first | refine blk_drewN ?_ _ | refine blk_drew ?_ | refine blk_alloc ?_ _)); refine blk_put (cs := #[.slice Ao27 t154.length co27, .slice none 0 0, .int .i64 0, .bool false, .bool false]) ?_ 1 _ rfl; (with_reducible repeat (first | refine blk_drewN ?_ _ | refine blk_drew ?_ | refine blk_alloc ?_ _)); refine blk_put (cs := #[.slice none 0 0, .slice none 0 0, .int .i64 0, .bool false, .bool false]) ?_ 0 _ rfl; (with_reducible repeat (first | refine blk_drewN ?_ _ | refine blk_drew ?_ | refine blk_alloc ?_ _)); refine blk_far ?_ NB152_151.out _; (with_reducible repeat (first | refine blk_drewN ?_ _ | refine blk_drew ?_ | refine blk_alloc ?_ _)); exact BK152.out) Try.underlying51 rfl (by kernel_rfl)) rfl ?_
                  exact ⟨_, _, by first | rfl | (simp [errW_none, errW_some] <;> rfl) | (simp [*, errW_none, errW_some] <;> rfl), by (with_reducible repeat (first | apply Kd.R_alloc | apply Kd.R_drewN | apply Kd.R_drew)); exact Kd.R_mono (Kd.R_far (p := ⟨gb152, 4, none⟩) (Kd.R_far (p := ⟨gb152, 3, none⟩) (Kd.R_far (p := ⟨gb152, 2, none⟩) (Kd.R_far (p := ⟨gb152, 1, none⟩) (Kd.R_far (p := ⟨gb152, 0, none⟩) (Kd.R_far (p := ⟨gb151, 1, none⟩) (Kd.R_types (Kd.R_types HO_152000.out BK151.out (by decide)) BK152.out (by decide)) (fun _ hk => hk.1.2) (.slice Ao43 x9_2.length co43)) (fun _ hk => hk.2) (.slice Ao27 t154.length co27)) (fun _ hk => hk.2) (.slice Ao43 x9_2.length co43)) (fun _ hk => hk.2) (.int .i64 t160)) (fun _ hk => hk.2) (.bool t161)) (fun _ hk => hk.2) (.bool t162)) (fun _ hk => hk.1.1), by (with_reducible repeat (first | apply Kd.R_alloc | apply Kd.R_drewN | apply Kd.R_drew)); exact Kd.R_mono (Kd.R_far (p := ⟨gb152, 4, none⟩) (Kd.R_far (p := ⟨gb152, 3, none⟩) (Kd.R_far (p := ⟨gb152, 2, none⟩) (Kd.R_far (p := ⟨gb152, 1, none⟩) (Kd.R_far (p := ⟨gb152, 0, none⟩) (Kd.R_far (p := ⟨gb151, 1, none⟩) (Kd.R_types (Kd.R_types HO_9.out BK151.out (by decide)) BK152.out (by decide)) (fun _ hk => hk.1.2) (.slice Ao43 x9_2.length co43)) (fun _ hk => hk.2) (.slice Ao27 t154.length co27)) (fun _ hk => hk.2) (.slice Ao43 x9_2.length co43)) (fun _ hk => hk.2) (.int .i64 t160)) (fun _ hk => hk.2) (.bool t161)) (fun _ hk => hk.2) (.bool t162)) (fun _ hk => hk.1.1.1), by repeat (first | (with_reducible first | exact HB.out | apply below_alloc | apply pw_below_drewN | apply below_drew1 | refine below_set ?_ GE151.out | refine below_set ?_ GE152.out) | exact HB.out), by repeat (first | (with_reducible first | exact HK.out | apply Kept.alloc | apply Kept.drewN | apply Kept.drew | refine Kept.setCell ?_ (.inr GW151.out) _ | refine Kept.setCell ?_ (.inr GW152.out) _) | exact HK.out)⟩
          · rw [if_neg c23] at H
            exact absurd H (by simp)
        · replace c22 := Bool.eq_false_iff.mpr c22
          subst c22
          have H1 : (some (t154, t157, t160, t161, t162, 9)) = some (r1, r2, r3, r4, r5, r6) := by rw [if_neg (show ¬ (false = true) by decide)] at H; exact H
          clear H
          have H := H1
          clear H1
          simp only [Option.some.injEq, Prod.mk.injEq] at H
          obtain ⟨rfl, rfl, rfl, rfl, rfl, rfl⟩ := H
          have hnb47 := NB151_152.out
          have hnc47 := NB152_151.out
          have hcz48_0 : wc.cell? ⟨gb151, 0, none⟩ = some (.slice Ao5 l0_0.length co5) := (blk_cell BK151.out 0).trans rfl
          have hcz48_1 : wc.cell? ⟨gb151, 1, none⟩ = some (.slice Ao6 l0_1.length co6) := (blk_cell BK151.out 1).trans rfl
          have hcz48_2 : wc.cell? ⟨gb151, 2, none⟩ = some (.int .i64 a0_2) := (blk_cell BK151.out 2).trans rfl
          have hcz48_3 : wc.cell? ⟨gb151, 3, none⟩ = some (.bool a0_3) := (blk_cell BK151.out 3).trans rfl
          have hcz48_4 : wc.cell? ⟨gb151, 4, none⟩ = some (.bool a0_4) := (blk_cell BK151.out 4).trans rfl
          have hfz48_0 := blk_frozen BK151.out 0
          have hfz48_1 := blk_frozen BK151.out 1
          have hfz48_2 := blk_frozen BK151.out 2
          have hfz48_3 := blk_frozen BK151.out 3
          have hfz48_4 := blk_frozen BK151.out 4
          go_wp2_with (first | ((with_reducible refine gate_callee (f := 65) rfl ?_); refine goesL_ (some 23) rfl rfl Try.func65 (by kernel_rfl) rfl #[.agg #[.slice Ao5 l0_0.length co5, .slice Ao6 l0_1.length co6, .int .i64 a0_2, .bool a0_3, .bool a0_4]] rfl (by (try simp only [List.map_toArray, List.map_cons, List.map_nil]); first | done | rfl | (simp only [List.length_drop, List.length_take]; rfl)) ?_; (with_reducible refine (marginaliaref14_spend.calls kj3 (fun k_ => some k_ = (.slice Ao5 l0_0.length co5 : Value).ownBlock) (.slice Ao5 l0_0.length co5) l0_0 (fun k_ => some k_ = (.slice Ao6 l0_1.length co6 : Value).ownBlock) (.slice Ao6 l0_1.length co6) l0_1 a0_2 a0_3 a0_4 t154 t157 t160 t161 t162 false w0 _ ?side1 ?side2 ?side3 A21.out).mono ?_); (case side1 => repeat (first | (with_reducible first | exact HB.out | apply below_alloc | apply pw_below_drewN | apply below_drew1 | refine below_set ?_ GE151.out | refine below_set ?_ GE152.out) | exact HB.out)); (case side2 => exact Kd.R_tight rfl HO_152000.out); (case side3 => exact Kd.R_tight rfl HO_152001.out); rintro e w49 ⟨v155, v158, rfl, ho0, ho1, hb, hkp⟩; refine ⟨_, rfl, ?_⟩; have n0_ := Aside0.mk (blk_kept (by (with_reducible repeat (first | refine blk_drewN ?_ _ | refine blk_drew ?_ | refine blk_alloc ?_ _)); exact BK151.out) hkp (fun hs_ => Or.elim hs_ (fun e_ => (fun e_ => (Kd.R_ne HO_152000.out BK151.out (by decide)) e_) e_) (fun e_ => (fun e_ => (Kd.R_ne HO_152001.out BK151.out (by decide)) e_) e_))); have n1_ := Aside0.mk (blk_kept (by (with_reducible repeat (first | refine blk_drewN ?_ _ | refine blk_drew ?_ | refine blk_alloc ?_ _)); exact BK152.out) hkp (fun hs_ => Or.elim hs_ (fun e_ => (fun e_ => (Kd.R_ne HO_152000.out BK152.out (by decide)) e_) e_) (fun e_ => (fun e_ => (Kd.R_ne HO_152001.out BK152.out (by decide)) e_) e_))); have n2_ := Aside0.mk (Kd.R_mono (ok' := fun k_ => ((P0_0_ k_ ∨ P0_1_ k_) ∨ w.heap.size ≤ k_)) ho0 (fun k_ hk_ => Or.elim hk_ (fun hs_ => Or.elim hs_ (fun hs_ => (HO_152000.out.1 k_ (hs_).symm)) (fun hs_ => (HO_152001.out.1 k_ (hs_).symm))) (fun hn_ => (.inr (Nat.le_trans (by first | exact HK.out.1 | exact (show Kept w _ (fun k_ => P0_0_ k_ ∨ P0_1_ k_) from by repeat (first | (with_reducible first | exact HK.out | apply Kept.alloc | apply Kept.drewN | apply Kept.drew | refine Kept.setCell ?_ (.inr GW151.out) _ | refine Kept.setCell ?_ (.inr GW152.out) _) | exact HK.out)).1) hn_))))); have n3_ := Aside0.mk (Kd.R_mono (ok' := fun k_ => ((P0_0_ k_ ∨ P0_1_ k_) ∨ w.heap.size ≤ k_)) ho1 (fun k_ hk_ => Or.elim hk_ (fun hs_ => Or.elim hs_ (fun hs_ => (HO_152000.out.1 k_ (hs_).symm)) (fun hs_ => (HO_152001.out.1 k_ (hs_).symm))) (fun hn_ => (.inr (Nat.le_trans (by first | exact HK.out.1 | exact (show Kept w _ (fun k_ => P0_0_ k_ ∨ P0_1_ k_) from by repeat (first | (with_reducible first | exact HK.out | apply Kept.alloc | apply Kept.drewN | apply Kept.drew | refine Kept.setCell ?_ (.inr GW151.out) _ | refine Kept.setCell ?_ (.inr GW152.out) _) | exact HK.out)).1) hn_))))); have n4_ := Aside0.mk (Kept.then_ (S := (fun k_ => P0_0_ k_ ∨ P0_1_ k_)) (by repeat (first | (with_reducible first | exact HK.out | apply Kept.alloc | apply Kept.drewN | apply Kept.drew | refine Kept.setCell ?_ (.inr GW151.out) _ | refine Kept.setCell ?_ (.inr GW152.out) _) | exact HK.out)) hkp (fun k_ hs_ => Or.elim hs_ (fun e_ => (fun e_ => (HO_152000.out.1 k_ e_.symm)) e_) (fun e_ => (fun e_ => (HO_152001.out.1 k_ e_.symm)) e_))); have n5_ := Aside0.mk (hb); clear BK151; clear BK152; clear HK; clear HB; clear HO_152000; clear HO_152001; have BK151 := n0_; have BK152 := n1_; have HO156 := n2_; have HO159 := n3_; have HK := n4_; have HB := n5_; clear n0_ n1_ n2_ n3_ n4_ n5_; (try clear hb); (try clear hkp); (try clear ho0); (try clear ho1); obtain ⟨Ao50, co50, eo50⟩ := Kd.R_slice HO156.out; subst eo50; have hcz51_0 : w49.cell? ⟨gb151, 0, none⟩ = some (.slice Ao5 l0_0.length co5) := (blk_cell BK151.out 0).trans rfl; have hcz51_1 : w49.cell? ⟨gb151, 1, none⟩ = some (.slice Ao6 l0_1.length co6) := (blk_cell BK151.out 1).trans rfl; have hcz51_2 : w49.cell? ⟨gb151, 2, none⟩ = some (.int .i64 a0_2) := (blk_cell BK151.out 2).trans rfl; have hcz51_3 : w49.cell? ⟨gb151, 3, none⟩ = some (.bool a0_3) := (blk_cell BK151.out 3).trans rfl; have hcz51_4 : w49.cell? ⟨gb151, 4, none⟩ = some (.bool a0_4) := (blk_cell BK151.out 4).trans rfl; have hfz51_0 := blk_frozen BK151.out 0; have hfz51_1 := blk_frozen BK151.out 1; have hfz51_2 := blk_frozen BK151.out 2; have hfz51_3 := blk_frozen BK151.out 3; have hfz51_4 := blk_frozen BK151.out 4; obtain ⟨Ao52, co52, eo52⟩ := Kd.R_slice HO159.out; subst eo52; have hcz53_0 : w49.cell? ⟨gb152, 0, none⟩ = some (.slice none 0 0) := (blk_cell BK152.out 0).trans rfl; have hcz53_1 : w49.cell? ⟨gb152, 1, none⟩ = some (.slice none 0 0) := (blk_cell BK152.out 1).trans rfl; have hcz53_2 : w49.cell? ⟨gb152, 2, none⟩ = some (.int .i64 0) := (blk_cell BK152.out 2).trans rfl; have hcz53_3 : w49.cell? ⟨gb152, 3, none⟩ = some (.bool false) := (blk_cell BK152.out 3).trans rfl; have hcz53_4 : w49.cell? ⟨gb152, 4, none⟩ = some (.bool false) := (blk_cell BK152.out 4).trans rfl; have hfz53_0 := blk_frozen BK152.out 0; have hfz53_1 := blk_frozen BK152.out 1; have hfz53_2 := blk_frozen BK152.out 2; have hfz53_3 := blk_frozen BK152.out 3; have hfz53_4 := blk_frozen BK152.out 4))
          refine bodyPost_ret (results_ct rfl _ _ gb152 51 #[.slice Ao50 t154.length co50, .slice Ao52 t157.length co52, .int .i64 t160, .bool t161, .bool t162] (0, 0) _ rfl (by (with_reducible repeat (first | refine blk_drewN ?_ _ | refine blk_drew ?_ | refine blk_alloc ?_ _)); refine blk_put (cs := #[.slice Ao50 t154.length co50, .slice Ao52 t157.length co52, .int .i64 t160, .bool t161, .bool false]) ?_ 4 _ rfl; (with_reducible repeat (first | refine blk_drewN ?_ _ | refine blk_drew ?_ | refine blk_alloc ?_ _)); refine blk_put (cs := #[.slice Ao50 t154.length co50, .slice Ao52 t157.length co52, .int .i64 t160, .bool false, .bool false]) ?_ 3 _ rfl; (with_reducible repeat (first | refine blk_drewN ?_ _ | refine blk_drew ?_ | refine blk_alloc ?_ _)); refine blk_put (cs := #[.slice Ao50 t154.length co50, .slice Ao52 t157.length co52, .int .i64 0, .bool false, .bool false]) ?_ 2 _ rfl; (with_reducible repeat (first | refine blk_drewN ?_ _ | refine blk_drew ?_ | refine blk_alloc ?_ _)); refine blk_put (cs := #[.slice Ao50 t154.length co50, .slice none 0 0, .int .i64 0, .bool false, .bool false]) ?_ 1 _ rfl; (with_reducible repeat (first | refine blk_drewN ?_ _ | refine blk_drew ?_ | refine blk_alloc ?_ _)); refine blk_put (cs := #[.slice none 0 0, .slice none 0 0, .int .i64 0, .bool false, .bool false]) ?_ 0 _ rfl; (with_reducible repeat (first | refine blk_drewN ?_ _ | refine blk_drew ?_ | refine blk_alloc ?_ _)); refine blk_far ?_ NB152_151.out _; (with_reducible repeat (first | refine blk_drewN ?_ _ | refine blk_drew ?_ | refine blk_alloc ?_ _)); refine blk_far ?_ NB152_151.out _; (with_reducible repeat (first | refine blk_drewN ?_ _ | refine blk_drew ?_ | refine blk_alloc ?_ _)); refine blk_far ?_ NB152_151.out _; (with_reducible repeat (first | refine blk_drewN ?_ _ | refine blk_drew ?_ | refine blk_alloc ?_ _)); refine blk_far ?_ NB152_151.out _; (with_reducible repeat (first | refine blk_drewN ?_ _ | refine blk_drew ?_ | refine blk_alloc ?_ _)); refine blk_far ?_ NB152_151.out _; (with_reducible repeat (first | refine blk_drewN ?_ _ | refine blk_drew ?_ | refine blk_alloc ?_ _)); exact BK152.out) Try.underlying51 rfl (by kernel_rfl)) rfl ?_
          exact ⟨_, _, by first | rfl | (simp [errW_none, errW_some] <;> rfl) | (simp [*, errW_none, errW_some] <;> rfl), by (with_reducible repeat (first | apply Kd.R_alloc | apply Kd.R_drewN | apply Kd.R_drew)); exact Kd.R_mono (Kd.R_far (p := ⟨gb152, 4, none⟩) (Kd.R_far (p := ⟨gb152, 3, none⟩) (Kd.R_far (p := ⟨gb152, 2, none⟩) (Kd.R_far (p := ⟨gb152, 1, none⟩) (Kd.R_far (p := ⟨gb152, 0, none⟩) (Kd.R_far (p := ⟨gb151, 4, none⟩) (Kd.R_far (p := ⟨gb151, 3, none⟩) (Kd.R_far (p := ⟨gb151, 2, none⟩) (Kd.R_far (p := ⟨gb151, 1, none⟩) (Kd.R_far (p := ⟨gb151, 0, none⟩) (Kd.R_types (Kd.R_types HO156.out BK151.out (by decide)) BK152.out (by decide)) (fun _ hk => hk.1.2) (.slice Ao50 t154.length co50)) (fun _ hk => hk.1.2) (.slice Ao52 t157.length co52)) (fun _ hk => hk.1.2) (.int .i64 t160)) (fun _ hk => hk.1.2) (.bool t161)) (fun _ hk => hk.1.2) (.bool t162)) (fun _ hk => hk.2) (.slice Ao50 t154.length co50)) (fun _ hk => hk.2) (.slice Ao52 t157.length co52)) (fun _ hk => hk.2) (.int .i64 t160)) (fun _ hk => hk.2) (.bool t161)) (fun _ hk => hk.2) (.bool t162)) (fun _ hk => hk.1.1), by (with_reducible repeat (first | apply Kd.R_alloc | apply Kd.R_drewN | apply Kd.R_drew)); exact Kd.R_mono (Kd.R_far (p := ⟨gb152, 4, none⟩) (Kd.R_far (p := ⟨gb152, 3, none⟩) (Kd.R_far (p := ⟨gb152, 2, none⟩) (Kd.R_far (p := ⟨gb152, 1, none⟩) (Kd.R_far (p := ⟨gb152, 0, none⟩) (Kd.R_far (p := ⟨gb151, 4, none⟩) (Kd.R_far (p := ⟨gb151, 3, none⟩) (Kd.R_far (p := ⟨gb151, 2, none⟩) (Kd.R_far (p := ⟨gb151, 1, none⟩) (Kd.R_far (p := ⟨gb151, 0, none⟩) (Kd.R_types (Kd.R_types HO159.out BK151.out (by decide)) BK152.out (by decide)) (fun _ hk => hk.1.2) (.slice Ao50 t154.length co50)) (fun _ hk => hk.1.2) (.slice Ao52 t157.length co52)) (fun _ hk => hk.1.2) (.int .i64 t160)) (fun _ hk => hk.1.2) (.bool t161)) (fun _ hk => hk.1.2) (.bool t162)) (fun _ hk => hk.2) (.slice Ao50 t154.length co50)) (fun _ hk => hk.2) (.slice Ao52 t157.length co52)) (fun _ hk => hk.2) (.int .i64 t160)) (fun _ hk => hk.2) (.bool t161)) (fun _ hk => hk.2) (.bool t162)) (fun _ hk => hk.1.1), by repeat (first | (with_reducible first | exact HB.out | apply below_alloc | apply pw_below_drewN | apply below_drew1 | refine below_set ?_ GE151.out | refine below_set ?_ GE152.out) | exact HB.out), by repeat (first | (with_reducible first | exact HK.out | apply Kept.alloc | apply Kept.drewN | apply Kept.drew | refine Kept.setCell ?_ (.inr GW151.out) _ | refine Kept.setCell ?_ (.inr GW152.out) _) | exact HK.out)⟩

end Go.Proofs.Ytepipgneefcoiaa.D
