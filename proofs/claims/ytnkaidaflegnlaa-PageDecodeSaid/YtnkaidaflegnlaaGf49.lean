/- The functions of the program that these laws reach, each as a plain Lean function, and the proof that the machine's call comes to it; no condition beyond those that each theorem names. Made by wip/xprint.py. -/
-- squeezed
import Derived.Test.YtnkaidaflegnlaaGx0
import Derived.Test.YtnkaidaflegnlaaGf82
import Derived.Test.YtnkaidaflegnlaaGf83
import Derived.Test.YtnkaidaflegnlaaGh
namespace Go.Proofs.Ytnkaidaflegnlaa.G
open Go.RowKit Go.Proofs.YtnkaidaflegnlaaW.PrintWords Go.Proofs.YtnkaidaflegnlaaW.PrintLast Go.Proofs.YtnkaidaflegnlaaW.PrintMore
attribute [local go_sem] max2_int min2_int max_two min_two max_three min_three max_four min_four   -- for this text's walks alone
set_option linter.unusedVariables false
set_option linter.unusedSimpArgs false

/-! ### page_may: function 49 -/
mutual
def page_may.j0 : Nat → Bool → Int → List (S39) → Int → List Int → Option (Bool)
 | 0, _, _, _, _, _ => none
 | k + 1, x35, x109000, x109001, x109002, x109003 => if x35 = true then (if (x109001.length : Int) = 0 then (page_may.j1 k true x109000 x109001 x109002 x109003) else (if (x109003.length : Int) > 0 then (page_may.j1 k true x109000 x109001 x109002 x109003) else (page_may.j1 k (x109002 != 0) x109000 x109001 x109002 x109003))) else (some false)
def page_may.j1 : Nat → Bool → Int → List (S39) → Int → List Int → Option (Bool)
 | 0, _, _, _, _, _ => none
 | k + 1, x52, x109000, x109001, x109002, x109003 => if x52 = true then (some false) else (page_may.l0 k x109001 (x109001.length : Int) 0 x109000 x109001 x109002 x109003)
def page_may.l0 : Nat → List (S39) → Int → Int → Int → List (S39) → Int → List Int → Option (Bool)
 | 0, _, _, _, _, _, _, _ => none
 | k + 1, x54, x55, x56, x109000, x109001, x109002, x109003 => if x56 < x55 then (if 0 ≤ x56 then (if x56 < (x54.length : Int) then ((page_isItem.f k ((rd_T39 x54 x56).f0) ((rd_T39 x54 x56).f1) ((rd_T39 x54 x56).f2) ((rd_T39 x54 x56).f3) x109000).bind fun t112 => (if t112 = true then (if x56 > 0 then (if 0 ≤ (wrap64 (x56 - 1)) then (if (wrap64 (x56 - 1)) < (x109001.length : Int) then (page_may.j3 k x54 x55 x56 (decide (((rd_T39 x109001 (wrap64 (x56 - 1))).f0) ≥ ((rd_T39 x54 x56).f0))) x109000 x109001 x109002 x109003) else (none)) else (none)) else (page_may.j3 k x54 x55 x56 false x109000 x109001 x109002 x109003)) else (page_may.j3 k x54 x55 x56 true x109000 x109001 x109002 x109003))) else (none)) else (none)) else (some true)
def page_may.j3 : Nat → List (S39) → Int → Int → Bool → Int → List (S39) → Int → List Int → Option (Bool)
 | 0, _, _, _, _, _, _, _, _ => none
 | k + 1, x54, x55, x56, x81, x109000, x109001, x109002, x109003 => if x81 = true then (some false) else (page_may.l0 k x54 x55 (wrap64 (x56 + 1)) x109000 x109001 x109002 x109003)
end
def page_may.f (k : Nat) (a0_0 : Int) (l0_1 : List (S39)) (a0_2 : Int) (l0_3 : List Int) : Option (Bool) := if a0_0 = 3 then (if (l0_1.length : Int) = 0 then (if a0_2 = (-1) then (if (l0_3.length : Int) > 0 then (some (decide ((l0_3.length : Int) ≤ 249))) else (some false)) else ((page_isLink.f a0_2).bind fun t109 => (if t109 = true then (if (l0_3.length : Int) > 0 then (some (decide ((l0_3.length : Int) ≤ 249))) else (some false)) else (some false)))) else (some false)) else (if a0_0 = 1 then (page_may.j0 k (a0_0 == 1) a0_0 l0_1 a0_2 l0_3) else (page_may.j0 k (a0_0 == 2) a0_0 l0_1 a0_2 l0_3))
theorem page_may.mono_l : ∀ k, (∀ y0 y1 y2 y3 y4, LeO (page_may.j0 k y0 y1 y2 y3 y4) (page_may.j0 (k + 1) y0 y1 y2 y3 y4)) ∧ (∀ y0 y1 y2 y3 y4, LeO (page_may.j1 k y0 y1 y2 y3 y4) (page_may.j1 (k + 1) y0 y1 y2 y3 y4)) ∧ (∀ y0 y1 y2 y3 y4 y5 y6, LeO (page_may.l0 k y0 y1 y2 y3 y4 y5 y6) (page_may.l0 (k + 1) y0 y1 y2 y3 y4 y5 y6)) ∧ (∀ y0 y1 y2 y3 y4 y5 y6 y7, LeO (page_may.j3 k y0 y1 y2 y3 y4 y5 y6 y7) (page_may.j3 (k + 1) y0 y1 y2 y3 y4 y5 y6 y7))
 | 0 => ⟨fun _ _ _ _ _ r h => by simp [page_may.j0] at h, fun _ _ _ _ _ r h => by simp [page_may.j1] at h, fun _ _ _ _ _ _ _ r h => by simp [page_may.l0] at h, fun _ _ _ _ _ _ _ _ r h => by simp [page_may.j3] at h⟩
 | k + 1 => by
  obtain ⟨ih0, ih1, ih2, ih3⟩ := page_may.mono_l k
  refine ⟨?_, ?_, ?_, ?_⟩
  ·intro y0 y1 y2 y3 y4
   unfold page_may.j0
   repeat' first
   | (with_reducible exact ih0 _ _ _ _ _)
   | (with_reducible exact ih1 _ _ _ _ _)
   | (with_reducible exact ih2 _ _ _ _ _ _ _)
   | (with_reducible exact ih3 _ _ _ _ _ _ _ _)
   | (with_reducible exact page_isItem.mono _ _ _ _ _ _)
   | (with_reducible exact LeO.refl _)
   | (with_reducible exact LeO.none _)
   | (with_reducible refine LeO.ite ?_ ?_)
   | (with_reducible refine LeO.bind ?_ (fun _ => ?_))
   | exact ih0 _ _ _ _ _
   | exact ih1 _ _ _ _ _
   | exact ih2 _ _ _ _ _ _ _
   | exact ih3 _ _ _ _ _ _ _ _
   | exact page_isItem.mono _ _ _ _ _ _
   | exact LeO.none _
   | refine LeO.ite ?_ ?_
   | refine LeO.bind ?_ (fun _ => ?_)
  ·intro y0 y1 y2 y3 y4
   unfold page_may.j1
   repeat' first
   | (with_reducible exact ih0 _ _ _ _ _)
   | (with_reducible exact ih1 _ _ _ _ _)
   | (with_reducible exact ih2 _ _ _ _ _ _ _)
   | (with_reducible exact ih3 _ _ _ _ _ _ _ _)
   | (with_reducible exact page_isItem.mono _ _ _ _ _ _)
   | (with_reducible exact LeO.refl _)
   | (with_reducible exact LeO.none _)
   | (with_reducible refine LeO.ite ?_ ?_)
   | (with_reducible refine LeO.bind ?_ (fun _ => ?_))
   | exact ih0 _ _ _ _ _
   | exact ih1 _ _ _ _ _
   | exact ih2 _ _ _ _ _ _ _
   | exact ih3 _ _ _ _ _ _ _ _
   | exact page_isItem.mono _ _ _ _ _ _
   | exact LeO.none _
   | refine LeO.ite ?_ ?_
   | refine LeO.bind ?_ (fun _ => ?_)
  ·intro y0 y1 y2 y3 y4 y5 y6
   unfold page_may.l0
   repeat' first
   | (with_reducible exact ih0 _ _ _ _ _)
   | (with_reducible exact ih1 _ _ _ _ _)
   | (with_reducible exact ih2 _ _ _ _ _ _ _)
   | (with_reducible exact ih3 _ _ _ _ _ _ _ _)
   | (with_reducible exact page_isItem.mono _ _ _ _ _ _)
   | (with_reducible exact LeO.refl _)
   | (with_reducible exact LeO.none _)
   | (with_reducible refine LeO.ite ?_ ?_)
   | (with_reducible refine LeO.bind ?_ (fun _ => ?_))
   | exact ih0 _ _ _ _ _
   | exact ih1 _ _ _ _ _
   | exact ih2 _ _ _ _ _ _ _
   | exact ih3 _ _ _ _ _ _ _ _
   | exact page_isItem.mono _ _ _ _ _ _
   | exact LeO.none _
   | refine LeO.ite ?_ ?_
   | refine LeO.bind ?_ (fun _ => ?_)
  ·intro y0 y1 y2 y3 y4 y5 y6 y7
   unfold page_may.j3
   repeat' first
   | (with_reducible exact ih0 _ _ _ _ _)
   | (with_reducible exact ih1 _ _ _ _ _)
   | (with_reducible exact ih2 _ _ _ _ _ _ _)
   | (with_reducible exact ih3 _ _ _ _ _ _ _ _)
   | (with_reducible exact page_isItem.mono _ _ _ _ _ _)
   | (with_reducible exact LeO.refl _)
   | (with_reducible exact LeO.none _)
   | (with_reducible refine LeO.ite ?_ ?_)
   | (with_reducible refine LeO.bind ?_ (fun _ => ?_))
   | exact ih0 _ _ _ _ _
   | exact ih1 _ _ _ _ _
   | exact ih2 _ _ _ _ _ _ _
   | exact ih3 _ _ _ _ _ _ _ _
   | exact page_isItem.mono _ _ _ _ _ _
   | exact LeO.none _
   | refine LeO.ite ?_ ?_
   | refine LeO.bind ?_ (fun _ => ?_)
theorem page_may.mono : ∀ a0 a1 a2 a3 k, LeO (page_may.f k a0 a1 a2 a3) (page_may.f (k + 1) a0 a1 a2 a3) := by
 intro a0 a1 a2 a3 k
 obtain ⟨ih0, ih1, ih2, ih3⟩ := page_may.mono_l k
 unfold page_may.f
 repeat' first
   | (with_reducible exact ih0 _ _ _ _ _)
   | (with_reducible exact ih1 _ _ _ _ _)
   | (with_reducible exact ih2 _ _ _ _ _ _ _)
   | (with_reducible exact ih3 _ _ _ _ _ _ _ _)
   | (with_reducible exact page_isItem.mono _ _ _ _ _ _)
   | (with_reducible exact LeO.refl _)
   | (with_reducible exact LeO.none _)
   | (with_reducible refine LeO.ite ?_ ?_)
   | (with_reducible refine LeO.bind ?_ (fun _ => ?_))
   | exact ih0 _ _ _ _ _
   | exact ih1 _ _ _ _ _
   | exact ih2 _ _ _ _ _ _ _
   | exact ih3 _ _ _ _ _ _ _ _
   | exact page_isItem.mono _ _ _ _ _ _
   | exact LeO.none _
   | refine LeO.ite ?_ ?_
   | refine LeO.bind ?_ (fun _ => ?_)
def page_may.T12 : Bool × List (List Nat × List Nat) := (true, [([], []), ([], []), ([1], [1]), ([0, 2], [0, 2]), ([3], [3]), ([4, 3], [4]), ([5], [5]), ([6, 5], [5, 6]), ([7, 5, 5], [5, 7]), ([8], [8]), ([9, 8], [8, 9]), ([8], [8]), ([11, 8], [8, 11]), ([10, 12, 8], [8, 10, 12]), ([13, 8], [8, 13]), ([14, 8], [8, 14]), ([8], [8]), ([16, 8], [8, 16]), ([15, 17, 8], [8, 15, 17]), ([8, 18, 5], [5, 8, 18]), ([5, 19], [5, 19])])
def page_may.B12 : List Nat := [0, 0, 2, 7, 15, 31, 63, 127, 255, 511, 1023, 511, 2559, 8191, 16383, 32767, 511, 66047, 262143, 524287, 1048575]
theorem page_may.tab12 : rtab .any (opsOf Try.f49 12) = page_may.T12 := by kernel_rfl
theorem page_may.bits12 : waitsOk page_may.T12.2 page_may.B12 = true := by kernel_rfl
set_option maxHeartbeats 8000000 in
set_option maxRecDepth 100000 in
theorem page_may.calls (k : Nat) (a0_0 : Int) (A0_1 : Option Addr) (c0_1 : Nat) (l0_1 : List (S39)) (a0_2 : Int) (A0_3 : Option Addr) (c0_3 : Nat) (l0_3 : List Int) (r : Bool) (w : World) (hr0_1 : Kd.C k39 w A0_1 l0_1.length l0_1) (hc0_1 : l0_1.length ≤ c0_1) (hr0_3 : Kd.C (Kd.int .u8) w A0_3 l0_3.length l0_3) (hc0_3 : l0_3.length ≤ c0_3) (h : page_may.f k a0_0 l0_1 a0_2 l0_3 = some r) :
  Calls Try.prog 49 #[.agg #[.int .i64 a0_0, .slice A0_1 l0_1.length c0_1, .int .i64 a0_2, .slice A0_3 l0_3.length c0_3]] w fun e w' => e = .returned (.bool r) ∧ Below w.heap.size w w' := by
 have hu26 := Try.underlying26
 have hu39 := Try.underlying39
 have HR0_1 := Aside0.mk hr0_1
 have HC0_1 := Aside0.mk hc0_1
 clear hr0_1 hc0_1
 have HR0_3 := Aside0.mk hr0_3
 have HC0_3 := Aside0.mk hc0_3
 clear hr0_3 hc0_3
 have HB := Aside0.mk (Below.refl w.heap.size w)
 have H : (if a0_0 = 3 then (if (l0_1.length : Int) = 0 then (if a0_2 = (-1) then (if (l0_3.length : Int) > 0 then (some (decide ((l0_3.length : Int) ≤ 249))) else (some false)) else ((page_isLink.f a0_2).bind fun t109 => (if t109 = true then (if (l0_3.length : Int) > 0 then (some (decide ((l0_3.length : Int) ≤ 249))) else (some false)) else (some false)))) else (some false)) else (if a0_0 = 1 then (page_may.j0 k (a0_0 == 1) a0_0 l0_1 a0_2 l0_3) else (page_may.j0 k (a0_0 == 2) a0_0 l0_1 a0_2 l0_3))) = some r := h
 clear h
 by_cases c2 : a0_0 = 3
 ·rw [if_pos c2] at H
  have c2b0 : (a0_0 == 3) = true := beq_iff_eq.mpr c2
  have c2b1 : (a0_0 != 3) = false := bne_eq_false_iff_eq.mpr c2
  clear c2
  by_cases c3 : (l0_1.length : Int) = 0
  ·rw [if_pos c3] at H
   have c3b0 : ((l0_1.length : Int) == 0) = true := beq_iff_eq.mpr c3
   have c3b1 : ((l0_1.length : Int) != 0) = false := bne_eq_false_iff_eq.mpr c3
   clear c3
   by_cases c4 : a0_2 = (-1)
   ·rw [if_pos c4] at H
    have c4b0 : (a0_2 == (-1)) = true := beq_iff_eq.mpr c4
    have c4b1 : (a0_2 != (-1)) = false := bne_eq_false_iff_eq.mpr c4
    clear c4
    by_cases c5 : (l0_3.length : Int) > 0
    ·rw [if_pos c5] at H
     have c5b0 : decide (0 < (l0_3.length : Int)) = true := decide_eq_true c5
     have c5b1 : decide (0 < l0_3.length) = true := decide_eq_true (by omega)
     clear c5
     obtain rfl := Option.some.inj H
     go_enter Try.func49, Try.ntmps49
     go_wp2_with (first | ((with_reducible refine gate_dst (N := 1) rfl ?_); (try (refine gate_guard (by rfl) ?_; dsimp only)); refine box_event ?hg (N := 1) ?hd (cs := #[.int .i64 a0_0, .slice A0_1 l0_1.length c0_1, .int .i64 a0_2, .slice A0_3 l0_3.length c0_3]) (t := 26) ?hr ?_; (case hd => rfl); (case hg => rfl); (case hr => first | (go_simp; done) | (go_simp; rfl)); intro gb108 hg w6 hbox hb; have n0_ := Aside0.mk (below_step (by repeat (first | (with_reducible first | exact HB.out | apply below_alloc | apply pw_below_drewN | apply below_drew1) | exact HB.out)) hb); have n1_ := Aside0.mk (hbox); have n2_ := Aside0.mk ((by rw [hg]; exact (below_size (by repeat (first | (with_reducible first | exact HB.out | apply below_alloc | apply pw_below_drewN | apply below_drew1) | exact HB.out))) : w.heap.size ≤ gb108)); have n3_ := Aside0.mk ((by rw [hg]; exact (below_size (by repeat (first | (with_reducible first | exact HB.out | apply below_alloc | apply pw_below_drewN | apply below_drew1) | exact HB.out))) : w.heap.size ≤ gb108)); clear HB; have HB := n0_; have BK108 := n1_; have GW108 := n2_; have GE108 := n3_; clear n0_ n1_ n2_ n3_; clear hb hbox hg; have hcz7_0 : w6.cell? ⟨gb108, 0, none⟩ = some (.int .i64 a0_0) := (blk_cell BK108.out 0).trans rfl; have hcz7_1 : w6.cell? ⟨gb108, 1, none⟩ = some (.slice A0_1 l0_1.length c0_1) := (blk_cell BK108.out 1).trans rfl; have hcz7_2 : w6.cell? ⟨gb108, 2, none⟩ = some (.int .i64 a0_2) := (blk_cell BK108.out 2).trans rfl; have hcz7_3 : w6.cell? ⟨gb108, 3, none⟩ = some (.slice A0_3 l0_3.length c0_3) := (blk_cell BK108.out 3).trans rfl; have hfz7_0 := blk_frozen BK108.out 0; have hfz7_1 := blk_frozen BK108.out 1; have hfz7_2 := blk_frozen BK108.out 2; have hfz7_3 := blk_frozen BK108.out 3))
     go_ret
     exact ⟨by first | rfl | (simp [errW_none, errW_some] <;> rfl) | (simp [*, errW_none, errW_some] <;> rfl), by repeat (first | (with_reducible first | exact HB.out | apply below_alloc | apply pw_below_drewN | apply below_drew1 | refine below_set ?_ GE108.out) | exact HB.out)⟩
    ·rw [if_neg c5] at H
     have c5b0 : decide (0 < (l0_3.length : Int)) = false := decide_eq_false c5
     have c5b1 : decide (0 < l0_3.length) = false := decide_eq_false (by omega)
     clear c5
     obtain rfl := Option.some.inj H
     go_enter Try.func49, Try.ntmps49
     go_wp2_with (first | ((with_reducible refine gate_dst (N := 1) rfl ?_); (try (refine gate_guard (by rfl) ?_; dsimp only)); refine box_event ?hg (N := 1) ?hd (cs := #[.int .i64 a0_0, .slice A0_1 l0_1.length c0_1, .int .i64 a0_2, .slice A0_3 l0_3.length c0_3]) (t := 26) ?hr ?_; (case hd => rfl); (case hg => rfl); (case hr => first | (go_simp; done) | (go_simp; rfl)); intro gb108 hg w8 hbox hb; have n0_ := Aside0.mk (below_step (by repeat (first | (with_reducible first | exact HB.out | apply below_alloc | apply pw_below_drewN | apply below_drew1) | exact HB.out)) hb); have n1_ := Aside0.mk (hbox); have n2_ := Aside0.mk ((by rw [hg]; exact (below_size (by repeat (first | (with_reducible first | exact HB.out | apply below_alloc | apply pw_below_drewN | apply below_drew1) | exact HB.out))) : w.heap.size ≤ gb108)); have n3_ := Aside0.mk ((by rw [hg]; exact (below_size (by repeat (first | (with_reducible first | exact HB.out | apply below_alloc | apply pw_below_drewN | apply below_drew1) | exact HB.out))) : w.heap.size ≤ gb108)); clear HB; have HB := n0_; have BK108 := n1_; have GW108 := n2_; have GE108 := n3_; clear n0_ n1_ n2_ n3_; clear hb hbox hg; have hcz9_0 : w8.cell? ⟨gb108, 0, none⟩ = some (.int .i64 a0_0) := (blk_cell BK108.out 0).trans rfl; have hcz9_1 : w8.cell? ⟨gb108, 1, none⟩ = some (.slice A0_1 l0_1.length c0_1) := (blk_cell BK108.out 1).trans rfl; have hcz9_2 : w8.cell? ⟨gb108, 2, none⟩ = some (.int .i64 a0_2) := (blk_cell BK108.out 2).trans rfl; have hcz9_3 : w8.cell? ⟨gb108, 3, none⟩ = some (.slice A0_3 l0_3.length c0_3) := (blk_cell BK108.out 3).trans rfl; have hfz9_0 := blk_frozen BK108.out 0; have hfz9_1 := blk_frozen BK108.out 1; have hfz9_2 := blk_frozen BK108.out 2; have hfz9_3 := blk_frozen BK108.out 3))
     go_ret
     exact ⟨by first | rfl | (simp [errW_none, errW_some] <;> rfl) | (simp [*, errW_none, errW_some] <;> rfl), by repeat (first | (with_reducible first | exact HB.out | apply below_alloc | apply pw_below_drewN | apply below_drew1 | refine below_set ?_ GE108.out) | exact HB.out)⟩
   ·rw [if_neg c4] at H
    have c4b0 : (a0_2 == (-1)) = false := beq_eq_false_iff_ne.mpr c4
    have c4b1 : (a0_2 != (-1)) = true := bne_iff_ne.mpr c4
    replace H := Option.bind_eq_some_iff.mp H
    obtain ⟨t109, A100, H⟩ := H
    replace H : (if t109 = true then (if (l0_3.length : Int) > 0 then (some (decide ((l0_3.length : Int) ≤ 249))) else (some false)) else (some false)) = some r := H
    have A10 := Aside0.mk A100
    clear A100
    by_cases c11 : t109 = true
    ·subst c11
     have H1 : (if (l0_3.length : Int) > 0 then (some (decide ((l0_3.length : Int) ≤ 249))) else (some false)) = some r := by rw [if_pos rfl] at H; exact H
     clear H
     have H := H1
     clear H1
     by_cases c12 : (l0_3.length : Int) > 0
     ·rw [if_pos c12] at H
      have c12b0 : decide (0 < (l0_3.length : Int)) = true := decide_eq_true c12
      have c12b1 : decide (0 < l0_3.length) = true := decide_eq_true (by omega)
      clear c12
      obtain rfl := Option.some.inj H
      go_enter Try.func49, Try.ntmps49
      go_wp2_with (first | ((with_reducible refine gate_dst (N := 1) rfl ?_); (try (refine gate_guard (by rfl) ?_; dsimp only)); refine box_event ?hg (N := 1) ?hd (cs := #[.int .i64 a0_0, .slice A0_1 l0_1.length c0_1, .int .i64 a0_2, .slice A0_3 l0_3.length c0_3]) (t := 26) ?hr ?_; (case hd => rfl); (case hg => rfl); (case hr => first | (go_simp; done) | (go_simp; rfl)); intro gb108 hg w13 hbox hb; have n0_ := Aside0.mk (below_step (by repeat (first | (with_reducible first | exact HB.out | apply below_alloc | apply pw_below_drewN | apply below_drew1) | exact HB.out)) hb); have n1_ := Aside0.mk (hbox); have n2_ := Aside0.mk ((by rw [hg]; exact (below_size (by repeat (first | (with_reducible first | exact HB.out | apply below_alloc | apply pw_below_drewN | apply below_drew1) | exact HB.out))) : w.heap.size ≤ gb108)); have n3_ := Aside0.mk ((by rw [hg]; exact (below_size (by repeat (first | (with_reducible first | exact HB.out | apply below_alloc | apply pw_below_drewN | apply below_drew1) | exact HB.out))) : w.heap.size ≤ gb108)); clear HB; have HB := n0_; have BK108 := n1_; have GW108 := n2_; have GE108 := n3_; clear n0_ n1_ n2_ n3_; clear hb hbox hg; have hcz14_0 : w13.cell? ⟨gb108, 0, none⟩ = some (.int .i64 a0_0) := (blk_cell BK108.out 0).trans rfl; have hcz14_1 : w13.cell? ⟨gb108, 1, none⟩ = some (.slice A0_1 l0_1.length c0_1) := (blk_cell BK108.out 1).trans rfl; have hcz14_2 : w13.cell? ⟨gb108, 2, none⟩ = some (.int .i64 a0_2) := (blk_cell BK108.out 2).trans rfl; have hcz14_3 : w13.cell? ⟨gb108, 3, none⟩ = some (.slice A0_3 l0_3.length c0_3) := (blk_cell BK108.out 3).trans rfl; have hfz14_0 := blk_frozen BK108.out 0; have hfz14_1 := blk_frozen BK108.out 1; have hfz14_2 := blk_frozen BK108.out 2; have hfz14_3 := blk_frozen BK108.out 3) | (go_at_call 82; (with_reducible refine (page_isLink.calls a0_2 true _ A10.out).mono ?_); rintro e w' ⟨rfl, ⟨nd, rfl⟩⟩))
      go_ret
      exact ⟨by first | rfl | (simp [errW_none, errW_some] <;> rfl) | (simp [*, errW_none, errW_some] <;> rfl), by repeat (first | (with_reducible first | exact HB.out | apply below_alloc | apply pw_below_drewN | apply below_drew1 | refine below_set ?_ GE108.out) | exact HB.out)⟩
     ·rw [if_neg c12] at H
      have c12b0 : decide (0 < (l0_3.length : Int)) = false := decide_eq_false c12
      have c12b1 : decide (0 < l0_3.length) = false := decide_eq_false (by omega)
      clear c12
      obtain rfl := Option.some.inj H
      go_enter Try.func49, Try.ntmps49
      go_wp2_with (first | ((with_reducible refine gate_dst (N := 1) rfl ?_); (try (refine gate_guard (by rfl) ?_; dsimp only)); refine box_event ?hg (N := 1) ?hd (cs := #[.int .i64 a0_0, .slice A0_1 l0_1.length c0_1, .int .i64 a0_2, .slice A0_3 l0_3.length c0_3]) (t := 26) ?hr ?_; (case hd => rfl); (case hg => rfl); (case hr => first | (go_simp; done) | (go_simp; rfl)); intro gb108 hg w15 hbox hb; have n0_ := Aside0.mk (below_step (by repeat (first | (with_reducible first | exact HB.out | apply below_alloc | apply pw_below_drewN | apply below_drew1) | exact HB.out)) hb); have n1_ := Aside0.mk (hbox); have n2_ := Aside0.mk ((by rw [hg]; exact (below_size (by repeat (first | (with_reducible first | exact HB.out | apply below_alloc | apply pw_below_drewN | apply below_drew1) | exact HB.out))) : w.heap.size ≤ gb108)); have n3_ := Aside0.mk ((by rw [hg]; exact (below_size (by repeat (first | (with_reducible first | exact HB.out | apply below_alloc | apply pw_below_drewN | apply below_drew1) | exact HB.out))) : w.heap.size ≤ gb108)); clear HB; have HB := n0_; have BK108 := n1_; have GW108 := n2_; have GE108 := n3_; clear n0_ n1_ n2_ n3_; clear hb hbox hg; have hcz16_0 : w15.cell? ⟨gb108, 0, none⟩ = some (.int .i64 a0_0) := (blk_cell BK108.out 0).trans rfl; have hcz16_1 : w15.cell? ⟨gb108, 1, none⟩ = some (.slice A0_1 l0_1.length c0_1) := (blk_cell BK108.out 1).trans rfl; have hcz16_2 : w15.cell? ⟨gb108, 2, none⟩ = some (.int .i64 a0_2) := (blk_cell BK108.out 2).trans rfl; have hcz16_3 : w15.cell? ⟨gb108, 3, none⟩ = some (.slice A0_3 l0_3.length c0_3) := (blk_cell BK108.out 3).trans rfl; have hfz16_0 := blk_frozen BK108.out 0; have hfz16_1 := blk_frozen BK108.out 1; have hfz16_2 := blk_frozen BK108.out 2; have hfz16_3 := blk_frozen BK108.out 3) | (go_at_call 82; (with_reducible refine (page_isLink.calls a0_2 true _ A10.out).mono ?_); rintro e w' ⟨rfl, ⟨nd, rfl⟩⟩))
      go_ret
      exact ⟨by first | rfl | (simp [errW_none, errW_some] <;> rfl) | (simp [*, errW_none, errW_some] <;> rfl), by repeat (first | (with_reducible first | exact HB.out | apply below_alloc | apply pw_below_drewN | apply below_drew1 | refine below_set ?_ GE108.out) | exact HB.out)⟩
    ·replace c11 := Bool.eq_false_iff.mpr c11
     subst c11
     have H1 : (some false) = some r := by rw [if_neg (show ¬ (false = true) by decide)] at H; exact H
     clear H
     have H := H1
     clear H1
     obtain rfl := Option.some.inj H
     go_enter Try.func49, Try.ntmps49
     go_wp2_with (first | ((with_reducible refine gate_dst (N := 1) rfl ?_); (try (refine gate_guard (by rfl) ?_; dsimp only)); refine box_event ?hg (N := 1) ?hd (cs := #[.int .i64 a0_0, .slice A0_1 l0_1.length c0_1, .int .i64 a0_2, .slice A0_3 l0_3.length c0_3]) (t := 26) ?hr ?_; (case hd => rfl); (case hg => rfl); (case hr => first | (go_simp; done) | (go_simp; rfl)); intro gb108 hg w17 hbox hb; have n0_ := Aside0.mk (below_step (by repeat (first | (with_reducible first | exact HB.out | apply below_alloc | apply pw_below_drewN | apply below_drew1) | exact HB.out)) hb); have n1_ := Aside0.mk (hbox); have n2_ := Aside0.mk ((by rw [hg]; exact (below_size (by repeat (first | (with_reducible first | exact HB.out | apply below_alloc | apply pw_below_drewN | apply below_drew1) | exact HB.out))) : w.heap.size ≤ gb108)); have n3_ := Aside0.mk ((by rw [hg]; exact (below_size (by repeat (first | (with_reducible first | exact HB.out | apply below_alloc | apply pw_below_drewN | apply below_drew1) | exact HB.out))) : w.heap.size ≤ gb108)); clear HB; have HB := n0_; have BK108 := n1_; have GW108 := n2_; have GE108 := n3_; clear n0_ n1_ n2_ n3_; clear hb hbox hg; have hcz18_0 : w17.cell? ⟨gb108, 0, none⟩ = some (.int .i64 a0_0) := (blk_cell BK108.out 0).trans rfl; have hcz18_1 : w17.cell? ⟨gb108, 1, none⟩ = some (.slice A0_1 l0_1.length c0_1) := (blk_cell BK108.out 1).trans rfl; have hcz18_2 : w17.cell? ⟨gb108, 2, none⟩ = some (.int .i64 a0_2) := (blk_cell BK108.out 2).trans rfl; have hcz18_3 : w17.cell? ⟨gb108, 3, none⟩ = some (.slice A0_3 l0_3.length c0_3) := (blk_cell BK108.out 3).trans rfl; have hfz18_0 := blk_frozen BK108.out 0; have hfz18_1 := blk_frozen BK108.out 1; have hfz18_2 := blk_frozen BK108.out 2; have hfz18_3 := blk_frozen BK108.out 3) | (go_at_call 82; (with_reducible refine (page_isLink.calls a0_2 false _ A10.out).mono ?_); rintro e w' ⟨rfl, ⟨nd, rfl⟩⟩))
     go_ret
     exact ⟨by first | rfl | (simp [errW_none, errW_some] <;> rfl) | (simp [*, errW_none, errW_some] <;> rfl), by repeat (first | (with_reducible first | exact HB.out | apply below_alloc | apply pw_below_drewN | apply below_drew1 | refine below_set ?_ GE108.out) | exact HB.out)⟩
  ·rw [if_neg c3] at H
   have c3b0 : ((l0_1.length : Int) == 0) = false := beq_eq_false_iff_ne.mpr c3
   have c3b1 : ((l0_1.length : Int) != 0) = true := bne_iff_ne.mpr c3
   have c3b2 : ¬ (l0_1 = []) := fun h_ => c3 (by rw [h_]; rfl)
   obtain rfl := Option.some.inj H
   go_enter Try.func49, Try.ntmps49
   go_wp2_with (first | ((with_reducible refine gate_dst (N := 1) rfl ?_); (try (refine gate_guard (by rfl) ?_; dsimp only)); refine box_event ?hg (N := 1) ?hd (cs := #[.int .i64 a0_0, .slice A0_1 l0_1.length c0_1, .int .i64 a0_2, .slice A0_3 l0_3.length c0_3]) (t := 26) ?hr ?_; (case hd => rfl); (case hg => rfl); (case hr => first | (go_simp; done) | (go_simp; rfl)); intro gb108 hg w19 hbox hb; have n0_ := Aside0.mk (below_step (by repeat (first | (with_reducible first | exact HB.out | apply below_alloc | apply pw_below_drewN | apply below_drew1) | exact HB.out)) hb); have n1_ := Aside0.mk (hbox); have n2_ := Aside0.mk ((by rw [hg]; exact (below_size (by repeat (first | (with_reducible first | exact HB.out | apply below_alloc | apply pw_below_drewN | apply below_drew1) | exact HB.out))) : w.heap.size ≤ gb108)); have n3_ := Aside0.mk ((by rw [hg]; exact (below_size (by repeat (first | (with_reducible first | exact HB.out | apply below_alloc | apply pw_below_drewN | apply below_drew1) | exact HB.out))) : w.heap.size ≤ gb108)); clear HB; have HB := n0_; have BK108 := n1_; have GW108 := n2_; have GE108 := n3_; clear n0_ n1_ n2_ n3_; clear hb hbox hg; have hcz20_0 : w19.cell? ⟨gb108, 0, none⟩ = some (.int .i64 a0_0) := (blk_cell BK108.out 0).trans rfl; have hcz20_1 : w19.cell? ⟨gb108, 1, none⟩ = some (.slice A0_1 l0_1.length c0_1) := (blk_cell BK108.out 1).trans rfl; have hcz20_2 : w19.cell? ⟨gb108, 2, none⟩ = some (.int .i64 a0_2) := (blk_cell BK108.out 2).trans rfl; have hcz20_3 : w19.cell? ⟨gb108, 3, none⟩ = some (.slice A0_3 l0_3.length c0_3) := (blk_cell BK108.out 3).trans rfl; have hfz20_0 := blk_frozen BK108.out 0; have hfz20_1 := blk_frozen BK108.out 1; have hfz20_2 := blk_frozen BK108.out 2; have hfz20_3 := blk_frozen BK108.out 3))
   go_ret
   exact ⟨by first | rfl | (simp [errW_none, errW_some] <;> rfl) | (simp [*, errW_none, errW_some] <;> rfl), by repeat (first | (with_reducible first | exact HB.out | apply below_alloc | apply pw_below_drewN | apply below_drew1 | refine below_set ?_ GE108.out) | exact HB.out)⟩
 ·rw [if_neg c2] at H
  have c2b0 : (a0_0 == 3) = false := beq_eq_false_iff_ne.mpr c2
  have c2b1 : (a0_0 != 3) = true := bne_iff_ne.mpr c2
  have HC21 := Aside0.mk H
  clear H
  go_enter Try.func49, Try.ntmps49
  go_upto_if 35 with (first | ((with_reducible refine gate_dst (N := 1) rfl ?_); (try (refine gate_guard (by rfl) ?_; dsimp only)); refine box_event ?hg (N := 1) ?hd (cs := #[.int .i64 a0_0, .slice A0_1 l0_1.length c0_1, .int .i64 a0_2, .slice A0_3 l0_3.length c0_3]) (t := 26) ?hr ?_; (case hd => rfl); (case hg => rfl); (case hr => first | (go_simp; done) | (go_simp; rfl)); intro gb108 hg w22 hbox hb; have n0_ := Aside0.mk (below_step (by repeat (first | (with_reducible first | exact HB.out | apply below_alloc | apply pw_below_drewN | apply below_drew1) | exact HB.out)) hb); have n1_ := Aside0.mk (hbox); have n2_ := Aside0.mk ((by rw [hg]; exact (below_size (by repeat (first | (with_reducible first | exact HB.out | apply below_alloc | apply pw_below_drewN | apply below_drew1) | exact HB.out))) : w.heap.size ≤ gb108)); have n3_ := Aside0.mk ((by rw [hg]; exact (below_size (by repeat (first | (with_reducible first | exact HB.out | apply below_alloc | apply pw_below_drewN | apply below_drew1) | exact HB.out))) : w.heap.size ≤ gb108)); clear HB; have HB := n0_; have BK108 := n1_; have GW108 := n2_; have GE108 := n3_; clear n0_ n1_ n2_ n3_; clear hb hbox hg; have hcz23_0 : w22.cell? ⟨gb108, 0, none⟩ = some (.int .i64 a0_0) := (blk_cell BK108.out 0).trans rfl; have hcz23_1 : w22.cell? ⟨gb108, 1, none⟩ = some (.slice A0_1 l0_1.length c0_1) := (blk_cell BK108.out 1).trans rfl; have hcz23_2 : w22.cell? ⟨gb108, 2, none⟩ = some (.int .i64 a0_2) := (blk_cell BK108.out 2).trans rfl; have hcz23_3 : w22.cell? ⟨gb108, 3, none⟩ = some (.slice A0_3 l0_3.length c0_3) := (blk_cell BK108.out 3).trans rfl; have hfz23_0 := blk_frozen BK108.out 0; have hfz23_1 := blk_frozen BK108.out 1; have hfz23_2 := blk_frozen BK108.out 2; have hfz23_3 := blk_frozen BK108.out 3))
  (try simp only [Act.put, List.setIfInBounds_toArray, List.set_cons_zero, List.set_cons_succ])
  go_cut [35] (fun v35 wc => ∃ (kq : Nat) (x35_20 : Bool), v35 = .bool x35_20 ∧ Aside0 (page_may.j0 kq x35_20 a0_0 l0_1 a0_2 l0_3 = some r) ∧ Aside0 (kq ≤ k) ∧ Aside0 (wc.heap[gb108]? = some (.cells #[.int .i64 a0_0, (.slice A0_1 l0_1.length c0_1), .int .i64 a0_2, (.slice A0_3 l0_3.length c0_3)] 26 (0, 0))) ∧ Aside0 (Below w.heap.size w wc))
  case first =>
   have H := HC21.out
   clear HC21
   by_cases c24 : a0_0 = 1
   ·rw [if_pos c24] at H
    have c24b0 : (a0_0 == 1) = true := beq_iff_eq.mpr c24
    have c24b1 : (a0_0 != 1) = false := bne_eq_false_iff_eq.mpr c24
    clear c24
    (first | rw [c24b0] | (simp only [i64_w, i32_w]; rw [c24b0]) | skip)
    have H' := Aside0.mk H
    clear H
    go_wp2
    go_meet
    case rel => exact ⟨_, ((a0_0 == 1)), (by first | rfl | (simp; done) | (simp [*]; done)), H', ⟨by first | omega | exact Nat.le_refl _⟩, ⟨by (with_reducible repeat (first | refine blk_drewN ?_ _ | refine blk_drew ?_ | refine blk_alloc ?_ _)); exact BK108.out⟩, ⟨by repeat (first | (with_reducible first | exact HB.out | apply below_alloc | apply pw_below_drewN | apply below_drew1 | refine below_set ?_ GE108.out) | exact HB.out)⟩⟩
   ·rw [if_neg c24] at H
    have c24b0 : (a0_0 == 1) = false := beq_eq_false_iff_ne.mpr c24
    have c24b1 : (a0_0 != 1) = true := bne_iff_ne.mpr c24
    (first | rw [c24b0] | (simp only [i64_w, i32_w]; rw [c24b0]) | skip)
    have H' := Aside0.mk H
    clear H
    go_wp2
    go_meet
    case rel => exact ⟨_, ((a0_0 == 2)), (by first | rfl | (simp; done) | (simp [*]; done)), H', ⟨by first | omega | exact Nat.le_refl _⟩, ⟨by (with_reducible repeat (first | refine blk_drewN ?_ _ | refine blk_drew ?_ | refine blk_alloc ?_ _)); exact BK108.out⟩, ⟨by repeat (first | (with_reducible first | exact HB.out | apply below_alloc | apply pw_below_drewN | apply below_drew1 | refine below_set ?_ GE108.out) | exact HB.out)⟩⟩
  case rest =>
   clear HC21
   (try clear c1); (try clear c2); (try clear c2b0); (try clear c2b1); (try clear p2); (try clear c3); (try clear c3b0); (try clear c3b1); (try clear c3b2); (try clear c4); (try clear c4b0); (try clear c4b1); (try clear c5); (try clear c5b0); (try clear c5b1); (try clear c11); (try clear c12); (try clear c12b0); (try clear c12b1); (try clear c24); (try clear c24b0); (try clear c24b1); (try clear hcz14_0); (try clear hcz14_1); (try clear hcz14_2); (try clear hcz14_3); (try clear hcz16_0); (try clear hcz16_1); (try clear hcz16_2); (try clear hcz16_3); (try clear hcz18_0); (try clear hcz18_1); (try clear hcz18_2); (try clear hcz18_3); (try clear hcz20_0); (try clear hcz20_1); (try clear hcz20_2); (try clear hcz20_3); (try clear hcz23_0); (try clear hcz23_1); (try clear hcz23_2); (try clear hcz23_3); (try clear hcz7_0); (try clear hcz7_1); (try clear hcz7_2); (try clear hcz7_3); (try clear hcz9_0); (try clear hcz9_1); (try clear hcz9_2); (try clear hcz9_3); (try clear hfz14_0); (try clear hfz14_1); (try clear hfz14_2); (try clear hfz14_3); (try clear hfz16_0); (try clear hfz16_1); (try clear hfz16_2); (try clear hfz16_3); (try clear hfz18_0); (try clear hfz18_1); (try clear hfz18_2); (try clear hfz18_3); (try clear hfz20_0); (try clear hfz20_1); (try clear hfz20_2); (try clear hfz20_3); (try clear hfz23_0); (try clear hfz23_1); (try clear hfz23_2); (try clear hfz23_3); (try clear hfz7_0); (try clear hfz7_1); (try clear hfz7_2); (try clear hfz7_3); (try clear hfz9_0); (try clear hfz9_1); (try clear hfz9_2); (try clear hfz9_3)
   obtain ⟨kq, x35_20, rfl, HA, HJ20, BK108, HB⟩ := hcut
   cases kq with
   | zero => exact absurd HA.out (by simp [page_may.j0])
   | succ kj20 =>
    have H := HA.out
    clear HA
    simp only [page_may.j0] at H
    by_cases c25 : x35_20 = true
    ·subst c25
     have H1 : (if (l0_1.length : Int) = 0 then (page_may.j1 kj20 true a0_0 l0_1 a0_2 l0_3) else (if (l0_3.length : Int) > 0 then (page_may.j1 kj20 true a0_0 l0_1 a0_2 l0_3) else (page_may.j1 kj20 (a0_2 != 0) a0_0 l0_1 a0_2 l0_3))) = some r := by rw [if_pos rfl] at H; exact H
     clear H
     have H := H1
     clear H1
     have HC26 := Aside0.mk H
     clear H
     go_upto_region 7 with (fail)
     go_cut [52] (fun v52 wc => ∃ (kq : Nat) (x52_25 : Bool), v52 = .bool x52_25 ∧ Aside0 (page_may.j1 kq x52_25 a0_0 l0_1 a0_2 l0_3 = some r) ∧ Aside0 (kq ≤ kj20) ∧ Aside0 (wc.heap[gb108]? = some (.cells #[.int .i64 a0_0, (.slice A0_1 l0_1.length c0_1), .int .i64 a0_2, (.slice A0_3 l0_3.length c0_3)] 26 (0, 0))) ∧ Aside0 (Below w.heap.size w wc))
     case first =>
      have H := HC26.out
      clear HC26
      by_cases c27 : (l0_1.length : Int) = 0
      ·rw [if_pos c27] at H
       have c27b0 : ((l0_1.length : Int) == 0) = true := beq_iff_eq.mpr c27
       have c27b1 : ((l0_1.length : Int) != 0) = false := bne_eq_false_iff_eq.mpr c27
       clear c27
       (first | rw [c27b0] | (simp only [i64_w, i32_w]; rw [c27b0]) | skip)
       have H' := Aside0.mk H
       clear H
       have hcz28_0 : wc.cell? ⟨gb108, 0, none⟩ = some (.int .i64 a0_0) := (blk_cell BK108.out 0).trans rfl
       have hcz28_1 : wc.cell? ⟨gb108, 1, none⟩ = some (.slice A0_1 l0_1.length c0_1) := (blk_cell BK108.out 1).trans rfl
       have hcz28_2 : wc.cell? ⟨gb108, 2, none⟩ = some (.int .i64 a0_2) := (blk_cell BK108.out 2).trans rfl
       have hcz28_3 : wc.cell? ⟨gb108, 3, none⟩ = some (.slice A0_3 l0_3.length c0_3) := (blk_cell BK108.out 3).trans rfl
       have hfz28_0 := blk_frozen BK108.out 0
       have hfz28_1 := blk_frozen BK108.out 1
       have hfz28_2 := blk_frozen BK108.out 2
       have hfz28_3 := blk_frozen BK108.out 3
       go_wp2
       go_meet
       case rel => exact ⟨_, (true), (by first | rfl | (simp; done) | (simp [*]; done)), H', ⟨by have := HJ20.out; first | omega | exact Nat.le_refl _⟩, ⟨by (with_reducible repeat (first | refine blk_drewN ?_ _ | refine blk_drew ?_ | refine blk_alloc ?_ _)); exact BK108.out⟩, ⟨by repeat (first | (with_reducible first | exact HB.out | apply below_alloc | apply pw_below_drewN | apply below_drew1 | refine below_set ?_ GE108.out) | exact HB.out)⟩⟩
      ·rw [if_neg c27] at H
       have c27b0 : ((l0_1.length : Int) == 0) = false := beq_eq_false_iff_ne.mpr c27
       have c27b1 : ((l0_1.length : Int) != 0) = true := bne_iff_ne.mpr c27
       have c27b2 : ¬ (l0_1 = []) := fun h_ => c27 (by rw [h_]; rfl)
       (first | rw [c27b0] | (simp only [i64_w, i32_w]; rw [c27b0]) | skip)
       by_cases c29 : (l0_3.length : Int) > 0
       ·rw [if_pos c29] at H
        have c29b0 : decide (0 < (l0_3.length : Int)) = true := decide_eq_true c29
        have c29b1 : decide (0 < l0_3.length) = true := decide_eq_true (by omega)
        clear c29
        have H' := Aside0.mk H
        clear H
        have hcz30_0 : wc.cell? ⟨gb108, 0, none⟩ = some (.int .i64 a0_0) := (blk_cell BK108.out 0).trans rfl
        have hcz30_1 : wc.cell? ⟨gb108, 1, none⟩ = some (.slice A0_1 l0_1.length c0_1) := (blk_cell BK108.out 1).trans rfl
        have hcz30_2 : wc.cell? ⟨gb108, 2, none⟩ = some (.int .i64 a0_2) := (blk_cell BK108.out 2).trans rfl
        have hcz30_3 : wc.cell? ⟨gb108, 3, none⟩ = some (.slice A0_3 l0_3.length c0_3) := (blk_cell BK108.out 3).trans rfl
        have hfz30_0 := blk_frozen BK108.out 0
        have hfz30_1 := blk_frozen BK108.out 1
        have hfz30_2 := blk_frozen BK108.out 2
        have hfz30_3 := blk_frozen BK108.out 3
        go_wp2
        any_goals (try (exfalso; rename ¬ (0 < _) => hq_; exact hq_ (of_decide_eq_true c29b1)))
        go_meet
        case rel => exact ⟨_, (true), (by first | rfl | (simp; done) | (simp [*]; done)), H', ⟨by have := HJ20.out; first | omega | exact Nat.le_refl _⟩, ⟨by (with_reducible repeat (first | refine blk_drewN ?_ _ | refine blk_drew ?_ | refine blk_alloc ?_ _)); exact BK108.out⟩, ⟨by repeat (first | (with_reducible first | exact HB.out | apply below_alloc | apply pw_below_drewN | apply below_drew1 | refine below_set ?_ GE108.out) | exact HB.out)⟩⟩
       ·rw [if_neg c29] at H
        have c29b0 : decide (0 < (l0_3.length : Int)) = false := decide_eq_false c29
        have c29b1 : decide (0 < l0_3.length) = false := decide_eq_false (by omega)
        clear c29
        have H' := Aside0.mk H
        clear H
        have hcz31_0 : wc.cell? ⟨gb108, 0, none⟩ = some (.int .i64 a0_0) := (blk_cell BK108.out 0).trans rfl
        have hcz31_1 : wc.cell? ⟨gb108, 1, none⟩ = some (.slice A0_1 l0_1.length c0_1) := (blk_cell BK108.out 1).trans rfl
        have hcz31_2 : wc.cell? ⟨gb108, 2, none⟩ = some (.int .i64 a0_2) := (blk_cell BK108.out 2).trans rfl
        have hcz31_3 : wc.cell? ⟨gb108, 3, none⟩ = some (.slice A0_3 l0_3.length c0_3) := (blk_cell BK108.out 3).trans rfl
        have hfz31_0 := blk_frozen BK108.out 0
        have hfz31_1 := blk_frozen BK108.out 1
        have hfz31_2 := blk_frozen BK108.out 2
        have hfz31_3 := blk_frozen BK108.out 3
        go_wp2
        any_goals (try (exfalso; rename 0 < _ => hq_; exact of_decide_eq_false c29b1 hq_))
        go_meet
        case rel => exact ⟨_, ((a0_2 != 0)), (by first | rfl | (simp; done) | (simp [*]; done)), H', ⟨by have := HJ20.out; first | omega | exact Nat.le_refl _⟩, ⟨by (with_reducible repeat (first | refine blk_drewN ?_ _ | refine blk_drew ?_ | refine blk_alloc ?_ _)); exact BK108.out⟩, ⟨by repeat (first | (with_reducible first | exact HB.out | apply below_alloc | apply pw_below_drewN | apply below_drew1 | refine below_set ?_ GE108.out) | exact HB.out)⟩⟩
     case rest =>
      clear HC26
      (try clear c1); (try clear c2); (try clear c2b0); (try clear c2b1); (try clear p2); (try clear c3); (try clear c3b0); (try clear c3b1); (try clear c3b2); (try clear c4); (try clear c4b0); (try clear c4b1); (try clear c5); (try clear c5b0); (try clear c5b1); (try clear c11); (try clear c12); (try clear c12b0); (try clear c12b1); (try clear c24); (try clear c24b0); (try clear c24b1); (try clear c25); (try clear c27); (try clear c27b0); (try clear c27b1); (try clear c27b2); (try clear c29); (try clear c29b0); (try clear c29b1); (try clear hcz14_0); (try clear hcz14_1); (try clear hcz14_2); (try clear hcz14_3); (try clear hcz16_0); (try clear hcz16_1); (try clear hcz16_2); (try clear hcz16_3); (try clear hcz18_0); (try clear hcz18_1); (try clear hcz18_2); (try clear hcz18_3); (try clear hcz20_0); (try clear hcz20_1); (try clear hcz20_2); (try clear hcz20_3); (try clear hcz23_0); (try clear hcz23_1); (try clear hcz23_2); (try clear hcz23_3); (try clear hcz28_0); (try clear hcz28_1); (try clear hcz28_2); (try clear hcz28_3); (try clear hcz30_0); (try clear hcz30_1); (try clear hcz30_2); (try clear hcz30_3); (try clear hcz31_0); (try clear hcz31_1); (try clear hcz31_2); (try clear hcz31_3); (try clear hcz7_0); (try clear hcz7_1); (try clear hcz7_2); (try clear hcz7_3); (try clear hcz9_0); (try clear hcz9_1); (try clear hcz9_2); (try clear hcz9_3); (try clear hfz14_0); (try clear hfz14_1); (try clear hfz14_2); (try clear hfz14_3); (try clear hfz16_0); (try clear hfz16_1); (try clear hfz16_2); (try clear hfz16_3); (try clear hfz18_0); (try clear hfz18_1); (try clear hfz18_2); (try clear hfz18_3); (try clear hfz20_0); (try clear hfz20_1); (try clear hfz20_2); (try clear hfz20_3); (try clear hfz23_0); (try clear hfz23_1); (try clear hfz23_2); (try clear hfz23_3); (try clear hfz28_0); (try clear hfz28_1); (try clear hfz28_2); (try clear hfz28_3); (try clear hfz30_0); (try clear hfz30_1); (try clear hfz30_2); (try clear hfz30_3); (try clear hfz31_0); (try clear hfz31_1); (try clear hfz31_2); (try clear hfz31_3); (try clear hfz7_0); (try clear hfz7_1); (try clear hfz7_2); (try clear hfz7_3); (try clear hfz9_0); (try clear hfz9_1); (try clear hfz9_2); (try clear hfz9_3); (try clear p2)
      obtain ⟨kq, x52_25, rfl, HA, HJ25, BK108, HB⟩ := hcut
      cases kq with
      | zero => exact absurd HA.out (by simp [page_may.j1])
      | succ kj25 =>
       have H := HA.out
       clear HA
       simp only [page_may.j1] at H
       by_cases c32 : x52_25 = true
       ·subst c32
        have H1 : (some false) = some r := by rw [if_pos rfl] at H; exact H
        clear H
        have H := H1
        clear H1
        obtain rfl := Option.some.inj H
        go_wp2
        go_ret
        exact ⟨by first | rfl | (simp [errW_none, errW_some] <;> rfl) | (simp [*, errW_none, errW_some] <;> rfl), by repeat (first | (with_reducible first | exact HB.out | apply below_alloc | apply pw_below_drewN | apply below_drew1 | refine below_set ?_ GE108.out) | exact HB.out)⟩
       ·replace c32 := Bool.eq_false_iff.mpr c32
        subst c32
        have H1 : (page_may.l0 kj25 l0_1 (l0_1.length : Int) 0 a0_0 l0_1 a0_2 l0_3) = some r := by rw [if_neg (show ¬ (false = true) by decide)] at H; exact H
        clear H
        have H := H1
        clear H1
        have H' := Aside0.mk H
        clear H
        have hcz33_0 : wc.cell? ⟨gb108, 0, none⟩ = some (.int .i64 a0_0) := (blk_cell BK108.out 0).trans rfl
        have hcz33_1 : wc.cell? ⟨gb108, 1, none⟩ = some (.slice A0_1 l0_1.length c0_1) := (blk_cell BK108.out 1).trans rfl
        have hcz33_2 : wc.cell? ⟨gb108, 2, none⟩ = some (.int .i64 a0_2) := (blk_cell BK108.out 2).trans rfl
        have hcz33_3 : wc.cell? ⟨gb108, 3, none⟩ = some (.slice A0_3 l0_3.length c0_3) := (blk_cell BK108.out 3).trans rfl
        have hfz33_0 := blk_frozen BK108.out 0
        have hfz33_1 := blk_frozen BK108.out 1
        have hfz33_2 := blk_frozen BK108.out 2
        have hfz33_3 := blk_frozen BK108.out 3
        go_wp2
        go_loopg [56] kj25 (fun kq v56 w' => ∃ (x56_3 : Int), v56 = .int .i64 x56_3 ∧ Aside0 (page_may.l0 kq l0_1 (l0_1.length : Int) x56_3 a0_0 l0_1 a0_2 l0_3 = some r) ∧ Aside0 (kq ≤ kj25) ∧ Aside0 (w'.heap[gb108]? = some (.cells #[.int .i64 a0_0, (.slice A0_1 l0_1.length c0_1), .int .i64 a0_2, (.slice A0_3 l0_3.length c0_3)] 26 (0, 0))) ∧ Aside0 (Below w.heap.size w w'))
        case atStart => exact ⟨(0), (by first | rfl | (simp; done) | (simp [*]; done)), H', ⟨Nat.le_refl _⟩, ⟨by (with_reducible repeat (first | refine blk_drewN ?_ _ | refine blk_drew ?_ | refine blk_alloc ?_ _)); exact BK108.out⟩, ⟨by repeat (first | (with_reducible first | exact HB.out | apply below_alloc | apply pw_below_drewN | apply below_drew1 | refine below_set ?_ GE108.out) | exact HB.out)⟩⟩
        case round =>
         clear H'
         (try clear c1); (try clear c2); (try clear c2b0); (try clear c2b1); (try clear p2); (try clear c3); (try clear c3b0); (try clear c3b1); (try clear c3b2); (try clear c4); (try clear c4b0); (try clear c4b1); (try clear c5); (try clear c5b0); (try clear c5b1); (try clear c11); (try clear c12); (try clear c12b0); (try clear c12b1); (try clear c24); (try clear c24b0); (try clear c24b1); (try clear c25); (try clear c27); (try clear c27b0); (try clear c27b1); (try clear c27b2); (try clear c29); (try clear c29b0); (try clear c29b1); (try clear c32); (try clear hcz14_0); (try clear hcz14_1); (try clear hcz14_2); (try clear hcz14_3); (try clear hcz16_0); (try clear hcz16_1); (try clear hcz16_2); (try clear hcz16_3); (try clear hcz18_0); (try clear hcz18_1); (try clear hcz18_2); (try clear hcz18_3); (try clear hcz20_0); (try clear hcz20_1); (try clear hcz20_2); (try clear hcz20_3); (try clear hcz23_0); (try clear hcz23_1); (try clear hcz23_2); (try clear hcz23_3); (try clear hcz28_0); (try clear hcz28_1); (try clear hcz28_2); (try clear hcz28_3); (try clear hcz30_0); (try clear hcz30_1); (try clear hcz30_2); (try clear hcz30_3); (try clear hcz31_0); (try clear hcz31_1); (try clear hcz31_2); (try clear hcz31_3); (try clear hcz33_0); (try clear hcz33_1); (try clear hcz33_2); (try clear hcz33_3); (try clear hcz7_0); (try clear hcz7_1); (try clear hcz7_2); (try clear hcz7_3); (try clear hcz9_0); (try clear hcz9_1); (try clear hcz9_2); (try clear hcz9_3); (try clear hfz14_0); (try clear hfz14_1); (try clear hfz14_2); (try clear hfz14_3); (try clear hfz16_0); (try clear hfz16_1); (try clear hfz16_2); (try clear hfz16_3); (try clear hfz18_0); (try clear hfz18_1); (try clear hfz18_2); (try clear hfz18_3); (try clear hfz20_0); (try clear hfz20_1); (try clear hfz20_2); (try clear hfz20_3); (try clear hfz23_0); (try clear hfz23_1); (try clear hfz23_2); (try clear hfz23_3); (try clear hfz28_0); (try clear hfz28_1); (try clear hfz28_2); (try clear hfz28_3); (try clear hfz30_0); (try clear hfz30_1); (try clear hfz30_2); (try clear hfz30_3); (try clear hfz31_0); (try clear hfz31_1); (try clear hfz31_2); (try clear hfz31_3); (try clear hfz33_0); (try clear hfz33_1); (try clear hfz33_2); (try clear hfz33_3); (try clear hfz7_0); (try clear hfz7_1); (try clear hfz7_2); (try clear hfz7_3); (try clear hfz9_0); (try clear hfz9_1); (try clear hfz9_2); (try clear hfz9_3); (try clear p2)
         obtain ⟨x56_3, rfl, HA, HK3, BK108, HB⟩ := hrel
         cases gk with
         | zero => exact absurd HA.out (by simp [page_may.l0])
         | succ k3 =>
          have H := HA.out
          clear HA
          simp only [page_may.l0] at H
          by_cases c34 : x56_3 < (l0_1.length : Int)
          ·rw [if_pos c34] at H
           have c34b0 : decide (x56_3 < (l0_1.length : Int)) = true := decide_eq_true c34
           clear c34
           by_cases c35 : 0 ≤ x56_3
           ·rw [if_pos c35] at H
            have c35b0 : decide (0 ≤ x56_3) = true := decide_eq_true c35
            clear c35
            by_cases c36 : x56_3 < (l0_1.length : Int)
            ·rw [if_pos c36] at H
             have c36b0 : decide (x56_3 < (l0_1.length : Int)) = true := decide_eq_true c36
             clear c36
             have HC37 := Aside0.mk H
             clear H
             have p110 : 0 ≤ (x56_3 : Int) := of_decide_eq_true (by first | (with_reducible assumption) | assumption)
             have q110 : x56_3 < (l0_1.length : Int) := of_decide_eq_true (by first | (with_reducible assumption) | assumption)
             obtain ⟨ad110, A110_2, c110_2, e110, hx110_0, hx110_1, hx110_2, hx110_3, hl110_2, hi110_2⟩ := at_T39 HR0_1.out x56_3 p110 q110
             cases e110
             replace hx110_0 := (HB.out.cell (World.block_lt_of_cell? w _ hx110_0)).trans hx110_0
             replace hx110_1 := (HB.out.cell (World.block_lt_of_cell? w _ hx110_1)).trans hx110_1
             replace hx110_2 := (HB.out.cell (World.block_lt_of_cell? w _ hx110_2)).trans hx110_2
             replace hx110_3 := (HB.out.cell (World.block_lt_of_cell? w _ hx110_3)).trans hx110_3
             have HR110_2 := Aside0.mk hi110_2
             have HC110_2 := Aside0.mk hl110_2
             clear hi110_2 hl110_2
             replace p110 := eq_true p110
             replace q110 := eq_true q110
             go_upto_region 12 with (first | ((with_reducible refine gate_dst (N := 4) rfl ?_); (try (refine gate_guard (by rfl) ?_; dsimp only)); refine box_event ?hg (N := 4) ?hd (cs := #[.int .u64 0, .int .i64 0, .slice none 0 0, .int .i64 0]) (t := 39) ?hr ?_; (case hd => rfl); (case hg => rfl); (case hr => first | (go_simp; done) | (go_simp; rfl)); intro gb111 hg w38 hbox hb; have n0_ := Aside0.mk (blk_below (g := gb108) (o := .cells #[.int .i64 a0_0, .slice (some ad110) l0_1.length c0_1, .int .i64 a0_2, .slice A0_3 l0_3.length c0_3] 26 (0, 0)) (by (with_reducible repeat (first | refine blk_drewN ?_ _ | refine blk_drew ?_ | refine blk_alloc ?_ _)); exact BK108.out) hb); have n1_ := Aside0.mk (below_step (by repeat (first | (with_reducible first | exact HB.out | apply below_alloc | apply pw_below_drewN | apply below_drew1 | refine below_set ?_ GE108.out) | exact HB.out)) hb); have n2_ := Aside0.mk (hbox); have n3_ := Aside0.mk ((by rw [hg]; exact (below_size (by repeat (first | (with_reducible first | exact HB.out | apply below_alloc | apply pw_below_drewN | apply below_drew1 | refine below_set ?_ GE108.out) | exact HB.out))) : w.heap.size ≤ gb111)); have n4_ := Aside0.mk ((by rw [hg]; exact (below_size (by repeat (first | (with_reducible first | exact HB.out | apply below_alloc | apply pw_below_drewN | apply below_drew1 | refine below_set ?_ GE108.out) | exact HB.out))) : w.heap.size ≤ gb111)); have n5_ := Aside0.mk ((by rw [hg]; exact Nat.ne_of_lt (blk_lt (g := gb108) (o := .cells #[.int .i64 a0_0, .slice (some ad110) l0_1.length c0_1, .int .i64 a0_2, .slice A0_3 l0_3.length c0_3] 26 (0, 0)) (by (with_reducible repeat (first | refine blk_drewN ?_ _ | refine blk_drew ?_ | refine blk_alloc ?_ _)); exact BK108.out)) : gb108 ≠ gb111)); have n6_ := Aside0.mk ((by rw [hg]; exact Nat.ne_of_gt (blk_lt (g := gb108) (o := .cells #[.int .i64 a0_0, .slice (some ad110) l0_1.length c0_1, .int .i64 a0_2, .slice A0_3 l0_3.length c0_3] 26 (0, 0)) (by (with_reducible repeat (first | refine blk_drewN ?_ _ | refine blk_drew ?_ | refine blk_alloc ?_ _)); exact BK108.out)) : gb111 ≠ gb108)); clear BK108; clear HB; have BK108 := n0_; have HB := n1_; have BK111 := n2_; have GW111 := n3_; have GE111 := n4_; have NB108_111 := n5_; have NB111_108 := n6_; clear n0_ n1_ n2_ n3_ n4_ n5_ n6_; clear hb hbox hg; have hnb39 := NB111_108.out; have hnc39 := NB108_111.out; have hcz40_0 : w38.cell? ⟨gb111, 0, none⟩ = some (.int .u64 0) := (blk_cell BK111.out 0).trans rfl; have hcz40_1 : w38.cell? ⟨gb111, 1, none⟩ = some (.int .i64 0) := (blk_cell BK111.out 1).trans rfl; have hcz40_2 : w38.cell? ⟨gb111, 2, none⟩ = some (.slice none 0 0) := (blk_cell BK111.out 2).trans rfl; have hcz40_3 : w38.cell? ⟨gb111, 3, none⟩ = some (.int .i64 0) := (blk_cell BK111.out 3).trans rfl; have hfz40_0 := blk_frozen BK111.out 0; have hfz40_1 := blk_frozen BK111.out 1; have hfz40_2 := blk_frozen BK111.out 2; have hfz40_3 := blk_frozen BK111.out 3))
             (try simp only [Act.put, List.setIfInBounds_toArray, List.set_cons_zero, List.set_cons_succ])
             go_cut [81] (fun v81 wc => ∃ (kq : Nat) (x81_36 : Bool), v81 = .bool x81_36 ∧ Aside0 (page_may.j3 kq l0_1 (l0_1.length : Int) x56_3 x81_36 a0_0 l0_1 a0_2 l0_3 = some r) ∧ Aside0 (kq ≤ k3) ∧ Aside0 (wc.heap[gb108]? = some (.cells #[.int .i64 a0_0, (.slice (some ad110) l0_1.length c0_1), .int .i64 a0_2, (.slice A0_3 l0_3.length c0_3)] 26 (0, 0))) ∧ Aside0 (wc.heap[gb111]? = some (.cells #[.int .u64 ((rd_T39 l0_1 x56_3).f0), .int .i64 ((rd_T39 l0_1 x56_3).f1), (.slice A110_2 ((rd_T39 l0_1 x56_3).f2).length c110_2), .int .i64 ((rd_T39 l0_1 x56_3).f3)] 39 (0, 0))) ∧ Aside0 (Below w.heap.size w wc))
             case first =>
              have H := HC37.out
              clear HC37
              replace H := Option.bind_eq_some_iff.mp H
              obtain ⟨t112, A410, H⟩ := H
              replace H : (if t112 = true then (if x56_3 > 0 then (if 0 ≤ (wrap64 (x56_3 - 1)) then (if (wrap64 (x56_3 - 1)) < (l0_1.length : Int) then (page_may.j3 k3 l0_1 (l0_1.length : Int) x56_3 (decide (((rd_T39 l0_1 (wrap64 (x56_3 - 1))).f0) ≥ ((rd_T39 l0_1 x56_3).f0))) a0_0 l0_1 a0_2 l0_3) else (none)) else (none)) else (page_may.j3 k3 l0_1 (l0_1.length : Int) x56_3 false a0_0 l0_1 a0_2 l0_3)) else (page_may.j3 k3 l0_1 (l0_1.length : Int) x56_3 true a0_0 l0_1 a0_2 l0_3)) = some r := H
              have A41 := Aside0.mk A410
              clear A410
              by_cases c42 : t112 = true
              ·subst c42
               have H1 : (if x56_3 > 0 then (if 0 ≤ (wrap64 (x56_3 - 1)) then (if (wrap64 (x56_3 - 1)) < (l0_1.length : Int) then (page_may.j3 k3 l0_1 (l0_1.length : Int) x56_3 (decide (((rd_T39 l0_1 (wrap64 (x56_3 - 1))).f0) ≥ ((rd_T39 l0_1 x56_3).f0))) a0_0 l0_1 a0_2 l0_3) else (none)) else (none)) else (page_may.j3 k3 l0_1 (l0_1.length : Int) x56_3 false a0_0 l0_1 a0_2 l0_3)) = some r := by rw [if_pos rfl] at H; exact H
               clear H
               have H := H1
               clear H1
               by_cases c43 : x56_3 > 0
               ·rw [if_pos c43] at H
                have c43b0 : decide (0 < x56_3) = true := decide_eq_true c43
                clear c43
                (first | rw [c43b0] | (simp only [i64_w, i32_w]; rw [c43b0]) | skip)
                obtain ⟨ji44, hji44⟩ : ∃ j_ : Int, (wrap64 (x56_3 - 1)) = j_ := ⟨_, rfl⟩
                replace H : (if 0 ≤ (ji44) then (if (ji44) < (l0_1.length : Int) then (page_may.j3 k3 l0_1 (l0_1.length : Int) x56_3 (decide (((rd_T39 l0_1 (ji44)).f0) ≥ ((rd_T39 l0_1 x56_3).f0))) a0_0 l0_1 a0_2 l0_3) else (none)) else (none)) = some r := by first | (rw [hji44] at H; exact H) | (simp only [hji44] at H ⊢; exact H)
                (try rw [hji44] at A41)
                have hji44w : (IntKind.i64.wrap (x56_3 - 1)) = ji44 := (i64_w _).trans hji44
                by_cases c45 : 0 ≤ (ji44)
                ·rw [if_pos c45] at H
                 have c45b0 : decide (0 ≤ (ji44)) = true := decide_eq_true c45
                 clear c45
                 by_cases c46 : (ji44) < (l0_1.length : Int)
                 ·rw [if_pos c46] at H
                  have c46b0 : decide ((ji44) < (l0_1.length : Int)) = true := decide_eq_true c46
                  clear c46
                  have H' := Aside0.mk H
                  clear H
                  try go_wp2
                  have n0_ : Aside0 (((((w38.setCell ⟨gb111, 0, none⟩ (.int .u64 ((rd_T39 l0_1 x56_3).f0))).setCell ⟨gb111, 1, none⟩ (.int .i64 ((rd_T39 l0_1 x56_3).f1))).setCell ⟨gb111, 2, none⟩ (.slice A110_2 ((rd_T39 l0_1 x56_3).f2).length c110_2)).setCell ⟨gb111, 3, none⟩ (.int .i64 ((rd_T39 l0_1 x56_3).f3))).heap[gb108]? = some (.cells #[.int .i64 a0_0, .slice (some ad110) l0_1.length c0_1, .int .i64 a0_2, .slice A0_3 l0_3.length c0_3] 26 (0, 0))) := ⟨by (with_reducible repeat (first | refine blk_drewN ?_ _ | refine blk_drew ?_ | refine blk_alloc ?_ _)); refine bfar4 NB108_111.out ?_; (with_reducible repeat (first | refine blk_drewN ?_ _ | refine blk_drew ?_ | refine blk_alloc ?_ _)); exact BK108.out⟩
                  have n1_ : Aside0 (((((w38.setCell ⟨gb111, 0, none⟩ (.int .u64 ((rd_T39 l0_1 x56_3).f0))).setCell ⟨gb111, 1, none⟩ (.int .i64 ((rd_T39 l0_1 x56_3).f1))).setCell ⟨gb111, 2, none⟩ (.slice A110_2 ((rd_T39 l0_1 x56_3).f2).length c110_2)).setCell ⟨gb111, 3, none⟩ (.int .i64 ((rd_T39 l0_1 x56_3).f3))).heap[gb111]? = some (.cells #[.int .u64 ((rd_T39 l0_1 x56_3).f0), .int .i64 ((rd_T39 l0_1 x56_3).f1), .slice A110_2 ((rd_T39 l0_1 x56_3).f2).length c110_2, .int .i64 ((rd_T39 l0_1 x56_3).f3)] 39 (0, 0))) := ⟨by (with_reducible repeat (first | refine blk_drewN ?_ _ | refine blk_drew ?_ | refine blk_alloc ?_ _)); refine blk_put (cs := #[.int .u64 ((rd_T39 l0_1 x56_3).f0), .int .i64 ((rd_T39 l0_1 x56_3).f1), .slice A110_2 ((rd_T39 l0_1 x56_3).f2).length c110_2, .int .i64 0]) ?_ 3 _ rfl; (with_reducible repeat (first | refine blk_drewN ?_ _ | refine blk_drew ?_ | refine blk_alloc ?_ _)); refine blk_put (cs := #[.int .u64 ((rd_T39 l0_1 x56_3).f0), .int .i64 ((rd_T39 l0_1 x56_3).f1), .slice none 0 0, .int .i64 0]) ?_ 2 _ rfl; (with_reducible repeat (first | refine blk_drewN ?_ _ | refine blk_drew ?_ | refine blk_alloc ?_ _)); refine blk_put (cs := #[.int .u64 ((rd_T39 l0_1 x56_3).f0), .int .i64 0, .slice none 0 0, .int .i64 0]) ?_ 1 _ rfl; (with_reducible repeat (first | refine blk_drewN ?_ _ | refine blk_drew ?_ | refine blk_alloc ?_ _)); refine blk_put (cs := #[.int .u64 0, .int .i64 0, .slice none 0 0, .int .i64 0]) ?_ 0 _ rfl; (with_reducible repeat (first | refine blk_drewN ?_ _ | refine blk_drew ?_ | refine blk_alloc ?_ _)); exact BK111.out⟩
                  have n2_ : Aside0 (Below w.heap.size w ((((w38.setCell ⟨gb111, 0, none⟩ (.int .u64 ((rd_T39 l0_1 x56_3).f0))).setCell ⟨gb111, 1, none⟩ (.int .i64 ((rd_T39 l0_1 x56_3).f1))).setCell ⟨gb111, 2, none⟩ (.slice A110_2 ((rd_T39 l0_1 x56_3).f2).length c110_2)).setCell ⟨gb111, 3, none⟩ (.int .i64 ((rd_T39 l0_1 x56_3).f3)))) := ⟨by repeat (first | (with_reducible first | exact HB.out | apply below_alloc | apply pw_below_drewN | apply below_drew1 | refine below_set ?_ GE108.out | refine below_set ?_ GE111.out) | exact HB.out)⟩
                  (try clear BK108)
                  (try clear BK111)
                  (try clear HB)
                  generalize ((((w38.setCell ⟨gb111, 0, none⟩ (.int .u64 ((rd_T39 l0_1 x56_3).f0))).setCell ⟨gb111, 1, none⟩ (.int .i64 ((rd_T39 l0_1 x56_3).f1))).setCell ⟨gb111, 2, none⟩ (.slice A110_2 ((rd_T39 l0_1 x56_3).f2).length c110_2)).setCell ⟨gb111, 3, none⟩ (.int .i64 ((rd_T39 l0_1 x56_3).f3))) = w47 at n0_ n1_ n2_ ⊢
                  have BK108 := n0_
                  have BK111 := n1_
                  have HB := n2_
                  clear n0_ n1_ n2_
                  have n0_ := Aside0.mk (blk_drew BK108.out)
                  have n1_ := Aside0.mk (blk_drew BK111.out)
                  have n2_ := Aside0.mk (below_drew1 HB.out)
                  clear BK108
                  clear BK111
                  clear HB
                  have BK108 := n0_
                  have BK111 := n1_
                  have HB := n2_
                  clear n0_ n1_ n2_
                  have p113 : 0 ≤ ((ji44) : Int) := of_decide_eq_true (by first | (with_reducible assumption) | assumption)
                  have q113 : (ji44) < (l0_1.length : Int) := of_decide_eq_true (by first | (with_reducible assumption) | assumption)
                  obtain ⟨ad113, A113_2, c113_2, e113, hx113_0, hx113_1, hx113_2, hx113_3, hl113_2, hi113_2⟩ := at_T39 HR0_1.out (ji44) p113 q113
                  have hw113_3 := hx113_3
                  have hw113_2 := hx113_2
                  have hw113_1 := hx113_1
                  have hw113_0 := hx113_0
                  obtain rfl : ad110 = ad113 := (by injection e113)
                  replace hx113_0 := (HB.out.cell (World.block_lt_of_cell? w _ hx113_0)).trans hx113_0
                  replace hx113_1 := (HB.out.cell (World.block_lt_of_cell? w _ hx113_1)).trans hx113_1
                  replace hx113_2 := (HB.out.cell (World.block_lt_of_cell? w _ hx113_2)).trans hx113_2
                  replace hx113_3 := (HB.out.cell (World.block_lt_of_cell? w _ hx113_3)).trans hx113_3
                  have HR113_2 := Aside0.mk hi113_2
                  have HC113_2 := Aside0.mk hl113_2
                  clear hi113_2 hl113_2
                  replace p113 := eq_true p113
                  replace q113 := eq_true q113
                  refine start_ (n := 21) (S := fun w' => w'.cell? ⟨gb111, 0, none⟩ = some (.int .u64 ((rd_T39 l0_1 x56_3).f0)) ∧ w'.cell? ⟨gb111, 1, none⟩ = some (.int .i64 ((rd_T39 l0_1 x56_3).f1)) ∧ w'.cell? ⟨gb111, 2, none⟩ = some (.slice A110_2 ((rd_T39 l0_1 x56_3).f2).length c110_2) ∧ w'.cell? ⟨gb111, 3, none⟩ = some (.int .i64 ((rd_T39 l0_1 x56_3).f3)) ∧ w'.cell? ⟨gb108, 0, none⟩ = some (.int .i64 a0_0) ∧ w'.cell? ⟨gb108, 1, none⟩ = some (.slice (some ad110) l0_1.length c0_1) ∧ w'.cell? ⟨gb108, 2, none⟩ = some (.int .i64 a0_2) ∧ w'.cell? ⟨gb108, 3, none⟩ = some (.slice A0_3 l0_3.length c0_3) ∧ w'.cell? (ad110.add (((ji44)).toNat * 4)) = some (.int .u64 ((rd_T39 l0_1 (ji44)).f0)) ∧ w'.cell? ⟨(ad110.add (((ji44)).toNat * 4)).block, (ad110.add (((ji44)).toNat * 4)).off + 1, none⟩ = some (.int .i64 ((rd_T39 l0_1 (ji44)).f1)) ∧ w'.cell? ⟨(ad110.add (((ji44)).toNat * 4)).block, (ad110.add (((ji44)).toNat * 4)).off + 2, none⟩ = some (.slice A113_2 ((rd_T39 l0_1 (ji44)).f2).length c113_2) ∧ w'.cell? ⟨(ad110.add (((ji44)).toNat * 4)).block, (ad110.add (((ji44)).toNat * 4)).off + 3, none⟩ = some (.int .i64 ((rd_T39 l0_1 (ji44)).f3))) (ds := []) (bm 21 0) (by kernel_rfl) rfl rfl ⟨(blk_cell BK111.out 0).trans rfl, (blk_cell BK111.out 1).trans rfl, (blk_cell BK111.out 2).trans rfl, (blk_cell BK111.out 3).trans rfl, (blk_cell BK108.out 0).trans rfl, (blk_cell BK108.out 1).trans rfl, (blk_cell BK108.out 2).trans rfl, (blk_cell BK108.out 3).trans rfl, ((HB.out.cell (World.block_lt_of_cell? w _ hw113_0)).trans hw113_0), ((HB.out.cell (World.block_lt_of_cell? w _ hw113_1)).trans hw113_1), ((HB.out.cell (World.block_lt_of_cell? w _ hw113_2)).trans hw113_2), ((HB.out.cell (World.block_lt_of_cell? w _ hw113_3)).trans hw113_3)⟩ (fun hHeld => ?_); refine with_tabW page_may.tab12 page_may.bits12 (fun HT_ HW_ => ?_)
                  generalize w47.drew = w48 at BK108 BK111 HB HR113_2 hx113_0 hx113_1 hx113_2 hx113_3 hHeld ⊢
                  refine pure_ (i := 1) (N := some 62) (v := ?_) (a' := ?_) (bm 21 2) rfl rfl (any_of HT_.out (by kernel_rfl)) (fun _ _ _ h => h) (Or.inl ⟨by rfl, ?_⟩) ?_ ?_
                  rotate_left
                  ·intro w'
                   go_simp
                   with_reducible rfl
                  rotate_left
                  ·simp only [Act.put, List.setIfInBounds_toArray, List.set_cons_zero, List.set_cons_succ, i64_w, i32_w]
                   rfl
                  refine take_ (i := 0) (N := some 61) (v := ?_) (a' := ?_) (bm 21 3) rfl rfl (take_ofW HT_.out HW_.out (by kernel_rfl)) (fun _ _ _ h => h) (Or.inl ⟨by rfl, ?_⟩) hHeld ?_ ?_
                  rotate_left
                  ·rintro w' ⟨s0, s1, s2, s3, s4, s5, s6, s7, s8, s9, s10, s11⟩
                   go_simp
                   with_reducible rfl
                  rotate_left
                  ·simp only [Act.put, List.setIfInBounds_toArray, List.set_cons_zero, List.set_cons_succ, i64_w, i32_w]
                   rfl
                  refine take_ (i := 2) (N := some 63) (v := ?_) (a' := ?_) (bm 21 7) rfl rfl (take_ofW HT_.out HW_.out (by kernel_rfl)) (fun _ _ _ h => h) (Or.inl ⟨by rfl, ?_⟩) hHeld ?_ ?_
                  rotate_left
                  ·rintro w' ⟨s0, s1, s2, s3, s4, s5, s6, s7, s8, s9, s10, s11⟩
                   go_simp
                   with_reducible rfl
                  rotate_left
                  ·simp only [Act.put, List.setIfInBounds_toArray, List.set_cons_zero, List.set_cons_succ, i64_w, i32_w]
                   rfl
                  refine one_ (i := 3) (N := some 64) (bm 21 15) rfl rfl (one_of HT_.out (by kernel_rfl)) (by decide) (fun K hK => ?_)
                  refine goes_ Try.func83 (by kernel_rfl) rfl #[.agg #[.int .u64 ((rd_T39 l0_1 x56_3).f0), .int .i64 ((rd_T39 l0_1 x56_3).f1), .slice A110_2 ((rd_T39 l0_1 x56_3).f2).length c110_2, .int .i64 ((rd_T39 l0_1 x56_3).f3)], .int .i64 a0_0] (by rfl) rfl rfl (by (try simp only [List.map_toArray, List.map_cons, List.map_nil]); first | done | rfl | (simp only [List.length_drop, List.length_take]; rfl)) ?_
                  with_reducible refine (page_isItem.calls k3 ((rd_T39 l0_1 x56_3).f0) ((rd_T39 l0_1 x56_3).f1) _ _ ((rd_T39 l0_1 x56_3).f2) ((rd_T39 l0_1 x56_3).f3) a0_0 true _ ?side1 ?side2 A41.out).mono ?_
                  (case side1 => repeat (first | exact (Kd.C_below HR110_2.out HB.out) | (with_reducible refine Kd.C_alloc ?_ _) | (with_reducible refine Kd.C_drewN ?_ _) | (with_reducible refine Kd.C_drew ?_)))
                  (case side2 => exact HC110_2.out)
                  rintro e w49 ⟨rfl, hb⟩
                  refine ⟨_, rfl, ?_⟩
                  have n0_ := Aside0.mk (blk_below (g := gb108) (o := .cells #[.int .i64 a0_0, .slice (some ad110) l0_1.length c0_1, .int .i64 a0_2, .slice A0_3 l0_3.length c0_3] 26 (0, 0)) (by (with_reducible repeat (first | refine blk_drewN ?_ _ | refine blk_drew ?_ | refine blk_alloc ?_ _)); exact BK108.out) hb)
                  have n1_ := Aside0.mk (blk_below (g := gb111) (o := .cells #[.int .u64 ((rd_T39 l0_1 x56_3).f0), .int .i64 ((rd_T39 l0_1 x56_3).f1), .slice A110_2 ((rd_T39 l0_1 x56_3).f2).length c110_2, .int .i64 ((rd_T39 l0_1 x56_3).f3)] 39 (0, 0)) (by (with_reducible repeat (first | refine blk_drewN ?_ _ | refine blk_drew ?_ | refine blk_alloc ?_ _)); exact BK111.out) hb)
                  have n2_ := Aside0.mk (below_step (by repeat (first | (with_reducible first | exact HB.out | apply below_alloc | apply pw_below_drewN | apply below_drew1 | refine below_set ?_ GE108.out | refine below_set ?_ GE111.out) | exact HB.out)) hb)
                  clear BK108
                  clear BK111
                  clear HB
                  have BK108 := n0_
                  have BK111 := n1_
                  have HB := n2_
                  clear n0_ n1_ n2_
                  (try clear hb)
                  (try clear hb2)
                  (try clear hk)
                  (try clear hi)
                  refine hK.out _ _ ⟨(blk_cell BK111.out 0).trans rfl, (blk_cell BK111.out 1).trans rfl, (blk_cell BK111.out 2).trans rfl, (blk_cell BK111.out 3).trans rfl, (blk_cell BK108.out 0).trans rfl, (blk_cell BK108.out 1).trans rfl, (blk_cell BK108.out 2).trans rfl, (blk_cell BK108.out 3).trans rfl, ((HB.out.cell (World.block_lt_of_cell? w _ hw113_0)).trans hw113_0), ((HB.out.cell (World.block_lt_of_cell? w _ hw113_1)).trans hw113_1), ((HB.out.cell (World.block_lt_of_cell? w _ hw113_2)).trans hw113_2), ((HB.out.cell (World.block_lt_of_cell? w _ hw113_3)).trans hw113_3)⟩ (fun hHeld => ?_)
                  clear hK K
                  refine norm_ (a' := ?_) ?_ ?_
                  rotate_left
                  ·show Act.put _ (some 64) _ = _
                   simp only [Act.put, List.setIfInBounds_toArray, List.set_cons_zero, List.set_cons_succ, i64_w, i32_w]
                   rfl
                  refine pure_ (i := 4) (N := some 65) (v := ?_) (a' := ?_) (bm 21 31) rfl rfl (any_of HT_.out (by kernel_rfl)) (fun _ _ _ h => h) (Or.inl ⟨by rfl, ?_⟩) ?_ ?_
                  rotate_left
                  ·intro w'
                   go_simp
                   with_reducible rfl
                  rotate_left
                  ·simp only [Act.put, List.setIfInBounds_toArray, List.set_cons_zero, List.set_cons_succ, i64_w, i32_w]
                   rfl
                  refine pure_ (i := 5) (N := some 66) (v := ?_) (a' := ?_) (bm 21 63) rfl rfl (any_of HT_.out (by kernel_rfl)) (fun _ _ _ h => h) (Or.inl ⟨by rfl, ?_⟩) ?_ ?_
                  rotate_left
                  ·intro w'
                   go_simp
                   with_reducible rfl
                  rotate_left
                  ·simp only [Act.put, List.setIfInBounds_toArray, List.set_cons_zero, List.set_cons_succ, i64_w, i32_w]
                   rfl
                  refine pure_ (i := 6) (N := some 67) (v := ?_) (a' := ?_) (bm 21 127) rfl rfl (any_of HT_.out (by kernel_rfl)) (fun _ _ _ h => h) (Or.inl ⟨by rfl, ?_⟩) ?_ ?_
                  rotate_left
                  ·intro w'
                   go_simp
                   with_reducible rfl
                  rotate_left
                  ·simp only [Act.put, List.setIfInBounds_toArray, List.set_cons_zero, List.set_cons_succ, i64_w, i32_w]
                   rfl
                  refine pure_ (i := 7) (N := some 68) (v := ?_) (a' := ?_) (bm 21 255) rfl rfl (any_of HT_.out (by kernel_rfl)) (fun _ _ _ h => h) (Or.inl ⟨by rfl, ?_⟩) ?_ ?_
                  rotate_left
                  ·intro w'
                   go_simp
                   with_reducible rfl
                  rotate_left
                  ·simp only [Act.put, List.setIfInBounds_toArray, List.set_cons_zero, List.set_cons_succ, i64_w, i32_w]
                   rfl
                  refine pure_ (i := 8) (N := some 69) (v := ?_) (a' := ?_) (bm 21 511) rfl rfl (any_of HT_.out (by kernel_rfl)) (fun _ _ _ h => h) (Or.inl ⟨by rfl, ?_⟩) ?_ ?_
                  rotate_left
                  ·intro w'
                   go_simp
                   with_reducible rfl
                  rotate_left
                  ·simp only [Act.put, List.setIfInBounds_toArray, List.set_cons_zero, List.set_cons_succ, i64_w, i32_w]
                   rfl
                  refine pure_ (i := 9) (N := some 70) (v := ?_) (a' := ?_) (bm 21 1023) rfl rfl (any_of HT_.out (by kernel_rfl)) (fun _ _ _ h => h) (Or.inl ⟨by rfl, ?_⟩) ?_ ?_
                  rotate_left
                  ·intro w'
                   go_simp
                   with_reducible rfl
                  rotate_left
                  ·simp only [Act.put, List.setIfInBounds_toArray, List.set_cons_zero, List.set_cons_succ, i64_w, i32_w]
                   rfl
                  refine pure_ (i := 11) (N := some 72) (v := ?_) (a' := ?_) (bm 21 3071) rfl rfl (any_of HT_.out (by kernel_rfl)) (fun _ _ _ h => h) (Or.inl ⟨by rfl, ?_⟩) ?_ ?_
                  rotate_left
                  ·intro w'
                   go_simp
                   with_reducible rfl
                  rotate_left
                  ·simp only [Act.put, List.setIfInBounds_toArray, List.set_cons_zero, List.set_cons_succ, i64_w, i32_w]
                   rfl
                  refine pure_ (i := 12) (N := some 73) (v := ?_) (a' := ?_) (bm 21 7167) rfl rfl (any_of HT_.out (by kernel_rfl)) (fun _ _ _ h => h) (Or.inl ⟨by rfl, ?_⟩) ?_ ?_
                  rotate_left
                  ·intro w'
                   go_simp
                   with_reducible rfl
                  rotate_left
                  ·simp only [Act.put, List.setIfInBounds_toArray, List.set_cons_zero, List.set_cons_succ, i64_w, i32_w]
                   rfl
                  refine pure_ (i := 16) (N := some 77) (v := ?_) (a' := ?_) (bm 21 72703) rfl rfl (any_of HT_.out (by kernel_rfl)) (fun _ _ _ h => h) (Or.inl ⟨by rfl, ?_⟩) ?_ ?_
                  rotate_left
                  ·intro w'
                   go_simp
                   with_reducible rfl
                  rotate_left
                  ·simp only [Act.put, List.setIfInBounds_toArray, List.set_cons_zero, List.set_cons_succ, i64_w, i32_w]
                   rfl
                  refine take_ (i := 10) (N := some 71) (v := ?_) (a' := ?_) (bm 21 73727) rfl rfl (take_ofW HT_.out HW_.out (by kernel_rfl)) (fun _ _ _ h => h) (Or.inl ⟨by rfl, ?_⟩) hHeld ?_ ?_
                  rotate_left
                  ·rintro w' ⟨s0, s1, s2, s3, s4, s5, s6, s7, s8, s9, s10, s11⟩
                   go_simp
                   with_reducible rfl
                  rotate_left
                  ·simp only [Act.put, List.setIfInBounds_toArray, List.set_cons_zero, List.set_cons_succ, i64_w, i32_w]
                   rfl
                  refine pure_ (i := 13) (N := some 74) (v := ?_) (a' := ?_) (bm 21 81919) rfl rfl (any_of HT_.out (by kernel_rfl)) (fun _ _ _ h => h) (Or.inl ⟨by rfl, ?_⟩) ?_ ?_
                  rotate_left
                  ·intro w'
                   go_simp
                   with_reducible rfl
                  rotate_left
                  ·simp only [Act.put, List.setIfInBounds_toArray, List.set_cons_zero, List.set_cons_succ, i64_w, i32_w]
                   rfl
                  refine pure_ (i := 14) (N := some 75) (v := ?_) (a' := ?_) (bm 21 98303) rfl rfl (any_of HT_.out (by kernel_rfl)) (fun _ _ _ h => h) (Or.inl ⟨by rfl, ?_⟩) ?_ ?_
                  rotate_left
                  ·intro w'
                   go_simp
                   with_reducible rfl
                  rotate_left
                  ·simp only [Act.put, List.setIfInBounds_toArray, List.set_cons_zero, List.set_cons_succ, i64_w, i32_w]
                   rfl
                  refine take_ (i := 15) (N := some 76) (v := ?_) (a' := ?_) (bm 21 131071) rfl rfl (take_ofW HT_.out HW_.out (by kernel_rfl)) (fun _ _ _ h => h) (Or.inl ⟨by rfl, ?_⟩) hHeld ?_ ?_
                  rotate_left
                  ·rintro w' ⟨s0, s1, s2, s3, s4, s5, s6, s7, s8, s9, s10, s11⟩
                   go_simp
                   with_reducible rfl
                  rotate_left
                  ·simp only [Act.put, List.setIfInBounds_toArray, List.set_cons_zero, List.set_cons_succ, i64_w, i32_w]
                   rfl
                  refine take_ (i := 17) (N := some 78) (v := ?_) (a' := ?_) (bm 21 262143) rfl rfl (take_ofW HT_.out HW_.out (by kernel_rfl)) (fun _ _ _ h => h) (Or.inl ⟨by rfl, ?_⟩) hHeld ?_ ?_
                  rotate_left
                  ·rintro w' ⟨s0, s1, s2, s3, s4, s5, s6, s7, s8, s9, s10, s11⟩
                   go_simp
                   with_reducible rfl
                  rotate_left
                  ·simp only [Act.put, List.setIfInBounds_toArray, List.set_cons_zero, List.set_cons_succ, i64_w, i32_w]
                   rfl
                  refine pure_ (i := 18) (N := some 79) (v := ?_) (a' := ?_) (bm 21 524287) rfl rfl (any_of HT_.out (by kernel_rfl)) (fun _ _ _ h => h) (Or.inl ⟨by rfl, ?_⟩) ?_ ?_
                  rotate_left
                  ·intro w'
                   go_simp
                   with_reducible rfl
                  rotate_left
                  ·simp only [Act.put, List.setIfInBounds_toArray, List.set_cons_zero, List.set_cons_succ, i64_w, i32_w]
                   rfl
                  refine pure_ (i := 19) (N := some 80) (v := ?_) (a' := ?_) (bm 21 1048575) rfl rfl (any_of HT_.out (by kernel_rfl)) (fun _ _ _ h => h) (Or.inl ⟨by rfl, ?_⟩) ?_ ?_
                  rotate_left
                  ·intro w'
                   go_simp
                   with_reducible rfl
                  rotate_left
                  ·simp only [Act.put, List.setIfInBounds_toArray, List.set_cons_zero, List.set_cons_succ, i64_w, i32_w]
                   rfl
                  refine pure_ (i := 20) (N := some 81) (v := ?_) (a' := ?_) (bm 21 2097151) rfl rfl (any_of HT_.out (by kernel_rfl)) (fun _ _ _ h => h) (Or.inl ⟨by rfl, ?_⟩) ?_ ?_
                  rotate_left
                  ·intro w'
                   go_simp
                   with_reducible rfl
                  rotate_left
                  ·simp only [Act.put, List.setIfInBounds_toArray, List.set_cons_zero, List.set_cons_succ, i64_w, i32_w]
                   rfl
                  refine done_ (done_of HT_.out (by kernel_rfl)) ?_
                  try go_wp2
                  go_meet
                  case rel => exact ⟨_, (decide (((rd_T39 l0_1 (ji44)).f0) ≥ ((rd_T39 l0_1 x56_3).f0))), (by first | rfl | (simp; done) | (simp only [← hji44] <;> (first | rfl | simp)) | (simp [*]; done)), H', ⟨by have := HJ20.out; have := HJ25.out; have := HK3.out; first | omega | exact Nat.le_refl _⟩, ⟨by (with_reducible repeat (first | refine blk_drewN ?_ _ | refine blk_drew ?_ | refine blk_alloc ?_ _)); exact BK108.out⟩, ⟨by (with_reducible repeat (first | refine blk_drewN ?_ _ | refine blk_drew ?_ | refine blk_alloc ?_ _)); exact BK111.out⟩, ⟨by repeat (first | (with_reducible first | exact HB.out | apply below_alloc | apply pw_below_drewN | apply below_drew1 | refine below_set ?_ GE108.out | refine below_set ?_ GE111.out) | exact HB.out)⟩⟩
                 ·rw [if_neg c46] at H
                  exact absurd H (by simp)
                ·rw [if_neg c45] at H
                 exact absurd H (by simp)
               ·rw [if_neg c43] at H
                have c43b0 : decide (0 < x56_3) = false := decide_eq_false c43
                clear c43
                (first | rw [c43b0] | (simp only [i64_w, i32_w]; rw [c43b0]) | skip)
                have H' := Aside0.mk H
                clear H
                try go_wp2
                have n0_ : Aside0 (((((w38.setCell ⟨gb111, 0, none⟩ (.int .u64 ((rd_T39 l0_1 x56_3).f0))).setCell ⟨gb111, 1, none⟩ (.int .i64 ((rd_T39 l0_1 x56_3).f1))).setCell ⟨gb111, 2, none⟩ (.slice A110_2 ((rd_T39 l0_1 x56_3).f2).length c110_2)).setCell ⟨gb111, 3, none⟩ (.int .i64 ((rd_T39 l0_1 x56_3).f3))).heap[gb108]? = some (.cells #[.int .i64 a0_0, .slice (some ad110) l0_1.length c0_1, .int .i64 a0_2, .slice A0_3 l0_3.length c0_3] 26 (0, 0))) := ⟨by (with_reducible repeat (first | refine blk_drewN ?_ _ | refine blk_drew ?_ | refine blk_alloc ?_ _)); refine bfar4 NB108_111.out ?_; (with_reducible repeat (first | refine blk_drewN ?_ _ | refine blk_drew ?_ | refine blk_alloc ?_ _)); exact BK108.out⟩
                have n1_ : Aside0 (((((w38.setCell ⟨gb111, 0, none⟩ (.int .u64 ((rd_T39 l0_1 x56_3).f0))).setCell ⟨gb111, 1, none⟩ (.int .i64 ((rd_T39 l0_1 x56_3).f1))).setCell ⟨gb111, 2, none⟩ (.slice A110_2 ((rd_T39 l0_1 x56_3).f2).length c110_2)).setCell ⟨gb111, 3, none⟩ (.int .i64 ((rd_T39 l0_1 x56_3).f3))).heap[gb111]? = some (.cells #[.int .u64 ((rd_T39 l0_1 x56_3).f0), .int .i64 ((rd_T39 l0_1 x56_3).f1), .slice A110_2 ((rd_T39 l0_1 x56_3).f2).length c110_2, .int .i64 ((rd_T39 l0_1 x56_3).f3)] 39 (0, 0))) := ⟨by (with_reducible repeat (first | refine blk_drewN ?_ _ | refine blk_drew ?_ | refine blk_alloc ?_ _)); refine blk_put (cs := #[.int .u64 ((rd_T39 l0_1 x56_3).f0), .int .i64 ((rd_T39 l0_1 x56_3).f1), .slice A110_2 ((rd_T39 l0_1 x56_3).f2).length c110_2, .int .i64 0]) ?_ 3 _ rfl; (with_reducible repeat (first | refine blk_drewN ?_ _ | refine blk_drew ?_ | refine blk_alloc ?_ _)); refine blk_put (cs := #[.int .u64 ((rd_T39 l0_1 x56_3).f0), .int .i64 ((rd_T39 l0_1 x56_3).f1), .slice none 0 0, .int .i64 0]) ?_ 2 _ rfl; (with_reducible repeat (first | refine blk_drewN ?_ _ | refine blk_drew ?_ | refine blk_alloc ?_ _)); refine blk_put (cs := #[.int .u64 ((rd_T39 l0_1 x56_3).f0), .int .i64 0, .slice none 0 0, .int .i64 0]) ?_ 1 _ rfl; (with_reducible repeat (first | refine blk_drewN ?_ _ | refine blk_drew ?_ | refine blk_alloc ?_ _)); refine blk_put (cs := #[.int .u64 0, .int .i64 0, .slice none 0 0, .int .i64 0]) ?_ 0 _ rfl; (with_reducible repeat (first | refine blk_drewN ?_ _ | refine blk_drew ?_ | refine blk_alloc ?_ _)); exact BK111.out⟩
                have n2_ : Aside0 (Below w.heap.size w ((((w38.setCell ⟨gb111, 0, none⟩ (.int .u64 ((rd_T39 l0_1 x56_3).f0))).setCell ⟨gb111, 1, none⟩ (.int .i64 ((rd_T39 l0_1 x56_3).f1))).setCell ⟨gb111, 2, none⟩ (.slice A110_2 ((rd_T39 l0_1 x56_3).f2).length c110_2)).setCell ⟨gb111, 3, none⟩ (.int .i64 ((rd_T39 l0_1 x56_3).f3)))) := ⟨by repeat (first | (with_reducible first | exact HB.out | apply below_alloc | apply pw_below_drewN | apply below_drew1 | refine below_set ?_ GE108.out | refine below_set ?_ GE111.out) | exact HB.out)⟩
                (try clear BK108)
                (try clear BK111)
                (try clear HB)
                generalize ((((w38.setCell ⟨gb111, 0, none⟩ (.int .u64 ((rd_T39 l0_1 x56_3).f0))).setCell ⟨gb111, 1, none⟩ (.int .i64 ((rd_T39 l0_1 x56_3).f1))).setCell ⟨gb111, 2, none⟩ (.slice A110_2 ((rd_T39 l0_1 x56_3).f2).length c110_2)).setCell ⟨gb111, 3, none⟩ (.int .i64 ((rd_T39 l0_1 x56_3).f3))) = w50 at n0_ n1_ n2_ ⊢
                have BK108 := n0_
                have BK111 := n1_
                have HB := n2_
                clear n0_ n1_ n2_
                have n0_ := Aside0.mk (blk_drew BK108.out)
                have n1_ := Aside0.mk (blk_drew BK111.out)
                have n2_ := Aside0.mk (below_drew1 HB.out)
                clear BK108
                clear BK111
                clear HB
                have BK108 := n0_
                have BK111 := n1_
                have HB := n2_
                clear n0_ n1_ n2_
                refine start_ (n := 21) (S := fun w' => w'.cell? ⟨gb111, 0, none⟩ = some (.int .u64 ((rd_T39 l0_1 x56_3).f0)) ∧ w'.cell? ⟨gb111, 1, none⟩ = some (.int .i64 ((rd_T39 l0_1 x56_3).f1)) ∧ w'.cell? ⟨gb111, 2, none⟩ = some (.slice A110_2 ((rd_T39 l0_1 x56_3).f2).length c110_2) ∧ w'.cell? ⟨gb111, 3, none⟩ = some (.int .i64 ((rd_T39 l0_1 x56_3).f3)) ∧ w'.cell? ⟨gb108, 0, none⟩ = some (.int .i64 a0_0) ∧ w'.cell? ⟨gb108, 1, none⟩ = some (.slice (some ad110) l0_1.length c0_1) ∧ w'.cell? ⟨gb108, 2, none⟩ = some (.int .i64 a0_2) ∧ w'.cell? ⟨gb108, 3, none⟩ = some (.slice A0_3 l0_3.length c0_3)) (ds := []) (bm 21 0) (by kernel_rfl) rfl rfl ⟨(blk_cell BK111.out 0).trans rfl, (blk_cell BK111.out 1).trans rfl, (blk_cell BK111.out 2).trans rfl, (blk_cell BK111.out 3).trans rfl, (blk_cell BK108.out 0).trans rfl, (blk_cell BK108.out 1).trans rfl, (blk_cell BK108.out 2).trans rfl, (blk_cell BK108.out 3).trans rfl⟩ (fun hHeld => ?_); refine with_tabW page_may.tab12 page_may.bits12 (fun HT_ HW_ => ?_)
                generalize w50.drew = w51 at BK108 BK111 HB hHeld ⊢
                refine pure_ (i := 1) (N := some 62) (v := ?_) (a' := ?_) (bm 21 2) rfl rfl (any_of HT_.out (by kernel_rfl)) (fun _ _ _ h => h) (Or.inl ⟨by rfl, ?_⟩) ?_ ?_
                rotate_left
                ·intro w'
                 go_simp
                 with_reducible rfl
                rotate_left
                ·simp only [Act.put, List.setIfInBounds_toArray, List.set_cons_zero, List.set_cons_succ, i64_w, i32_w]
                 rfl
                refine take_ (i := 0) (N := some 61) (v := ?_) (a' := ?_) (bm 21 3) rfl rfl (take_ofW HT_.out HW_.out (by kernel_rfl)) (fun _ _ _ h => h) (Or.inl ⟨by rfl, ?_⟩) hHeld ?_ ?_
                rotate_left
                ·rintro w' ⟨s0, s1, s2, s3, s4, s5, s6, s7⟩
                 go_simp
                 with_reducible rfl
                rotate_left
                ·simp only [Act.put, List.setIfInBounds_toArray, List.set_cons_zero, List.set_cons_succ, i64_w, i32_w]
                 rfl
                refine take_ (i := 2) (N := some 63) (v := ?_) (a' := ?_) (bm 21 7) rfl rfl (take_ofW HT_.out HW_.out (by kernel_rfl)) (fun _ _ _ h => h) (Or.inl ⟨by rfl, ?_⟩) hHeld ?_ ?_
                rotate_left
                ·rintro w' ⟨s0, s1, s2, s3, s4, s5, s6, s7⟩
                 go_simp
                 with_reducible rfl
                rotate_left
                ·simp only [Act.put, List.setIfInBounds_toArray, List.set_cons_zero, List.set_cons_succ, i64_w, i32_w]
                 rfl
                refine one_ (i := 3) (N := some 64) (bm 21 15) rfl rfl (one_of HT_.out (by kernel_rfl)) (by decide) (fun K hK => ?_)
                refine goes_ Try.func83 (by kernel_rfl) rfl #[.agg #[.int .u64 ((rd_T39 l0_1 x56_3).f0), .int .i64 ((rd_T39 l0_1 x56_3).f1), .slice A110_2 ((rd_T39 l0_1 x56_3).f2).length c110_2, .int .i64 ((rd_T39 l0_1 x56_3).f3)], .int .i64 a0_0] (by rfl) rfl rfl (by (try simp only [List.map_toArray, List.map_cons, List.map_nil]); first | done | rfl | (simp only [List.length_drop, List.length_take]; rfl)) ?_
                with_reducible refine (page_isItem.calls k3 ((rd_T39 l0_1 x56_3).f0) ((rd_T39 l0_1 x56_3).f1) _ _ ((rd_T39 l0_1 x56_3).f2) ((rd_T39 l0_1 x56_3).f3) a0_0 true _ ?side1 ?side2 A41.out).mono ?_
                (case side1 => repeat (first | exact (Kd.C_below HR110_2.out HB.out) | (with_reducible refine Kd.C_alloc ?_ _) | (with_reducible refine Kd.C_drewN ?_ _) | (with_reducible refine Kd.C_drew ?_)))
                (case side2 => exact HC110_2.out)
                rintro e w52 ⟨rfl, hb⟩
                refine ⟨_, rfl, ?_⟩
                have n0_ := Aside0.mk (blk_below (g := gb108) (o := .cells #[.int .i64 a0_0, .slice (some ad110) l0_1.length c0_1, .int .i64 a0_2, .slice A0_3 l0_3.length c0_3] 26 (0, 0)) (by (with_reducible repeat (first | refine blk_drewN ?_ _ | refine blk_drew ?_ | refine blk_alloc ?_ _)); exact BK108.out) hb)
                have n1_ := Aside0.mk (blk_below (g := gb111) (o := .cells #[.int .u64 ((rd_T39 l0_1 x56_3).f0), .int .i64 ((rd_T39 l0_1 x56_3).f1), .slice A110_2 ((rd_T39 l0_1 x56_3).f2).length c110_2, .int .i64 ((rd_T39 l0_1 x56_3).f3)] 39 (0, 0)) (by (with_reducible repeat (first | refine blk_drewN ?_ _ | refine blk_drew ?_ | refine blk_alloc ?_ _)); exact BK111.out) hb)
                have n2_ := Aside0.mk (below_step (by repeat (first | (with_reducible first | exact HB.out | apply below_alloc | apply pw_below_drewN | apply below_drew1 | refine below_set ?_ GE108.out | refine below_set ?_ GE111.out) | exact HB.out)) hb)
                clear BK108
                clear BK111
                clear HB
                have BK108 := n0_
                have BK111 := n1_
                have HB := n2_
                clear n0_ n1_ n2_
                (try clear hb)
                (try clear hb2)
                (try clear hk)
                (try clear hi)
                refine hK.out _ _ ⟨(blk_cell BK111.out 0).trans rfl, (blk_cell BK111.out 1).trans rfl, (blk_cell BK111.out 2).trans rfl, (blk_cell BK111.out 3).trans rfl, (blk_cell BK108.out 0).trans rfl, (blk_cell BK108.out 1).trans rfl, (blk_cell BK108.out 2).trans rfl, (blk_cell BK108.out 3).trans rfl⟩ (fun hHeld => ?_)
                clear hK K
                refine norm_ (a' := ?_) ?_ ?_
                rotate_left
                ·show Act.put _ (some 64) _ = _
                 simp only [Act.put, List.setIfInBounds_toArray, List.set_cons_zero, List.set_cons_succ, i64_w, i32_w]
                 rfl
                refine pure_ (i := 4) (N := some 65) (v := ?_) (a' := ?_) (bm 21 31) rfl rfl (any_of HT_.out (by kernel_rfl)) (fun _ _ _ h => h) (Or.inl ⟨by rfl, ?_⟩) ?_ ?_
                rotate_left
                ·intro w'
                 go_simp
                 with_reducible rfl
                rotate_left
                ·simp only [Act.put, List.setIfInBounds_toArray, List.set_cons_zero, List.set_cons_succ, i64_w, i32_w]
                 rfl
                refine pure_ (i := 5) (N := some 66) (v := ?_) (a' := ?_) (bm 21 63) rfl rfl (any_of HT_.out (by kernel_rfl)) (fun _ _ _ h => h) (Or.inl ⟨by rfl, ?_⟩) ?_ ?_
                rotate_left
                ·intro w'
                 go_simp
                 with_reducible rfl
                rotate_left
                ·simp only [Act.put, List.setIfInBounds_toArray, List.set_cons_zero, List.set_cons_succ, i64_w, i32_w]
                 rfl
                refine pure_ (i := 6) (N := some 67) (v := ?_) (a' := ?_) (bm 21 127) rfl rfl (any_of HT_.out (by kernel_rfl)) (fun _ _ _ h => h) (Or.inl ⟨by rfl, ?_⟩) ?_ ?_
                rotate_left
                ·intro w'
                 go_simp
                 with_reducible rfl
                rotate_left
                ·simp only [Act.put, List.setIfInBounds_toArray, List.set_cons_zero, List.set_cons_succ, i64_w, i32_w]
                 rfl
                refine pure_ (i := 7) (N := some 68) (v := ?_) (a' := ?_) (bm 21 255) rfl rfl (any_of HT_.out (by kernel_rfl)) (fun _ _ _ h => h) (Or.inl ⟨by rfl, ?_⟩) ?_ ?_
                rotate_left
                ·intro w'
                 go_simp
                 with_reducible rfl
                rotate_left
                ·simp only [Act.put, List.setIfInBounds_toArray, List.set_cons_zero, List.set_cons_succ, i64_w, i32_w]
                 rfl
                refine pure_ (i := 8) (N := some 69) (v := ?_) (a' := ?_) (bm 21 511) rfl rfl (any_of HT_.out (by kernel_rfl)) (fun _ _ _ h => h) (Or.inl ⟨by rfl, ?_⟩) ?_ ?_
                rotate_left
                ·intro w'
                 go_simp
                 with_reducible rfl
                rotate_left
                ·simp only [Act.put, List.setIfInBounds_toArray, List.set_cons_zero, List.set_cons_succ, i64_w, i32_w]
                 rfl
                refine pure_ (i := 9) (N := some 70) (v := undef) (a' := ?_) (bm 21 1023) rfl rfl (any_of HT_.out (by kernel_rfl)) (fun _ _ _ h => h) (Or.inr ⟨by rfl, rfl⟩) ?_ ?_
                rotate_left
                ·simp only [Act.put, List.setIfInBounds_toArray, List.set_cons_zero, List.set_cons_succ, i64_w, i32_w]
                 rfl
                refine pure_ (i := 10) (N := some 71) (v := undef) (a' := ?_) (bm 21 2047) rfl rfl (any_of HT_.out (by kernel_rfl)) (fun _ _ _ h => h) (Or.inr ⟨by rfl, rfl⟩) ?_ ?_
                rotate_left
                ·simp only [Act.put, List.setIfInBounds_toArray, List.set_cons_zero, List.set_cons_succ, i64_w, i32_w]
                 rfl
                refine pure_ (i := 11) (N := some 72) (v := undef) (a' := ?_) (bm 21 4095) rfl rfl (any_of HT_.out (by kernel_rfl)) (fun _ _ _ h => h) (Or.inr ⟨by rfl, rfl⟩) ?_ ?_
                rotate_left
                ·simp only [Act.put, List.setIfInBounds_toArray, List.set_cons_zero, List.set_cons_succ, i64_w, i32_w]
                 rfl
                refine pure_ (i := 12) (N := some 73) (v := undef) (a' := ?_) (bm 21 8191) rfl rfl (any_of HT_.out (by kernel_rfl)) (fun _ _ _ h => h) (Or.inr ⟨by rfl, rfl⟩) ?_ ?_
                rotate_left
                ·simp only [Act.put, List.setIfInBounds_toArray, List.set_cons_zero, List.set_cons_succ, i64_w, i32_w]
                 rfl
                refine pure_ (i := 13) (N := some 74) (v := undef) (a' := ?_) (bm 21 16383) rfl rfl (any_of HT_.out (by kernel_rfl)) (fun _ _ _ h => h) (Or.inr ⟨by rfl, rfl⟩) ?_ ?_
                rotate_left
                ·simp only [Act.put, List.setIfInBounds_toArray, List.set_cons_zero, List.set_cons_succ, i64_w, i32_w]
                 rfl
                refine pure_ (i := 14) (N := some 75) (v := undef) (a' := ?_) (bm 21 32767) rfl rfl (any_of HT_.out (by kernel_rfl)) (fun _ _ _ h => h) (Or.inr ⟨by rfl, rfl⟩) ?_ ?_
                rotate_left
                ·simp only [Act.put, List.setIfInBounds_toArray, List.set_cons_zero, List.set_cons_succ, i64_w, i32_w]
                 rfl
                refine pure_ (i := 15) (N := some 76) (v := undef) (a' := ?_) (bm 21 65535) rfl rfl (any_of HT_.out (by kernel_rfl)) (fun _ _ _ h => h) (Or.inr ⟨by rfl, rfl⟩) ?_ ?_
                rotate_left
                ·simp only [Act.put, List.setIfInBounds_toArray, List.set_cons_zero, List.set_cons_succ, i64_w, i32_w]
                 rfl
                refine pure_ (i := 16) (N := some 77) (v := undef) (a' := ?_) (bm 21 131071) rfl rfl (any_of HT_.out (by kernel_rfl)) (fun _ _ _ h => h) (Or.inr ⟨by rfl, rfl⟩) ?_ ?_
                rotate_left
                ·simp only [Act.put, List.setIfInBounds_toArray, List.set_cons_zero, List.set_cons_succ, i64_w, i32_w]
                 rfl
                refine pure_ (i := 17) (N := some 78) (v := undef) (a' := ?_) (bm 21 262143) rfl rfl (any_of HT_.out (by kernel_rfl)) (fun _ _ _ h => h) (Or.inr ⟨by rfl, rfl⟩) ?_ ?_
                rotate_left
                ·simp only [Act.put, List.setIfInBounds_toArray, List.set_cons_zero, List.set_cons_succ, i64_w, i32_w]
                 rfl
                refine pure_ (i := 18) (N := some 79) (v := undef) (a' := ?_) (bm 21 524287) rfl rfl (any_of HT_.out (by kernel_rfl)) (fun _ _ _ h => h) (Or.inr ⟨by rfl, rfl⟩) ?_ ?_
                rotate_left
                ·simp only [Act.put, List.setIfInBounds_toArray, List.set_cons_zero, List.set_cons_succ, i64_w, i32_w]
                 rfl
                refine pure_ (i := 19) (N := some 80) (v := ?_) (a' := ?_) (bm 21 1048575) rfl rfl (any_of HT_.out (by kernel_rfl)) (fun _ _ _ h => h) (Or.inl ⟨by rfl, ?_⟩) ?_ ?_
                rotate_left
                ·intro w'
                 go_simp
                 with_reducible rfl
                rotate_left
                ·simp only [Act.put, List.setIfInBounds_toArray, List.set_cons_zero, List.set_cons_succ, i64_w, i32_w]
                 rfl
                refine pure_ (i := 20) (N := some 81) (v := ?_) (a' := ?_) (bm 21 2097151) rfl rfl (any_of HT_.out (by kernel_rfl)) (fun _ _ _ h => h) (Or.inl ⟨by rfl, ?_⟩) ?_ ?_
                rotate_left
                ·intro w'
                 go_simp
                 with_reducible rfl
                rotate_left
                ·simp only [Act.put, List.setIfInBounds_toArray, List.set_cons_zero, List.set_cons_succ, i64_w, i32_w]
                 rfl
                refine done_ (done_of HT_.out (by kernel_rfl)) ?_
                try go_wp2
                go_meet
                case rel => exact ⟨_, (false), (by first | rfl | (simp; done) | (simp [*]; done)), H', ⟨by have := HJ20.out; have := HJ25.out; have := HK3.out; first | omega | exact Nat.le_refl _⟩, ⟨by (with_reducible repeat (first | refine blk_drewN ?_ _ | refine blk_drew ?_ | refine blk_alloc ?_ _)); exact BK108.out⟩, ⟨by (with_reducible repeat (first | refine blk_drewN ?_ _ | refine blk_drew ?_ | refine blk_alloc ?_ _)); exact BK111.out⟩, ⟨by repeat (first | (with_reducible first | exact HB.out | apply below_alloc | apply pw_below_drewN | apply below_drew1 | refine below_set ?_ GE108.out | refine below_set ?_ GE111.out) | exact HB.out)⟩⟩
              ·replace c42 := Bool.eq_false_iff.mpr c42
               subst c42
               have H1 : (page_may.j3 k3 l0_1 (l0_1.length : Int) x56_3 true a0_0 l0_1 a0_2 l0_3) = some r := by rw [if_neg (show ¬ (false = true) by decide)] at H; exact H
               clear H
               have H := H1
               clear H1
               have H' := Aside0.mk H
               clear H
               try go_wp2
               have n0_ : Aside0 (((((w38.setCell ⟨gb111, 0, none⟩ (.int .u64 ((rd_T39 l0_1 x56_3).f0))).setCell ⟨gb111, 1, none⟩ (.int .i64 ((rd_T39 l0_1 x56_3).f1))).setCell ⟨gb111, 2, none⟩ (.slice A110_2 ((rd_T39 l0_1 x56_3).f2).length c110_2)).setCell ⟨gb111, 3, none⟩ (.int .i64 ((rd_T39 l0_1 x56_3).f3))).heap[gb108]? = some (.cells #[.int .i64 a0_0, .slice (some ad110) l0_1.length c0_1, .int .i64 a0_2, .slice A0_3 l0_3.length c0_3] 26 (0, 0))) := ⟨by (with_reducible repeat (first | refine blk_drewN ?_ _ | refine blk_drew ?_ | refine blk_alloc ?_ _)); refine bfar4 NB108_111.out ?_; (with_reducible repeat (first | refine blk_drewN ?_ _ | refine blk_drew ?_ | refine blk_alloc ?_ _)); exact BK108.out⟩
               have n1_ : Aside0 (((((w38.setCell ⟨gb111, 0, none⟩ (.int .u64 ((rd_T39 l0_1 x56_3).f0))).setCell ⟨gb111, 1, none⟩ (.int .i64 ((rd_T39 l0_1 x56_3).f1))).setCell ⟨gb111, 2, none⟩ (.slice A110_2 ((rd_T39 l0_1 x56_3).f2).length c110_2)).setCell ⟨gb111, 3, none⟩ (.int .i64 ((rd_T39 l0_1 x56_3).f3))).heap[gb111]? = some (.cells #[.int .u64 ((rd_T39 l0_1 x56_3).f0), .int .i64 ((rd_T39 l0_1 x56_3).f1), .slice A110_2 ((rd_T39 l0_1 x56_3).f2).length c110_2, .int .i64 ((rd_T39 l0_1 x56_3).f3)] 39 (0, 0))) := ⟨by (with_reducible repeat (first | refine blk_drewN ?_ _ | refine blk_drew ?_ | refine blk_alloc ?_ _)); refine blk_put (cs := #[.int .u64 ((rd_T39 l0_1 x56_3).f0), .int .i64 ((rd_T39 l0_1 x56_3).f1), .slice A110_2 ((rd_T39 l0_1 x56_3).f2).length c110_2, .int .i64 0]) ?_ 3 _ rfl; (with_reducible repeat (first | refine blk_drewN ?_ _ | refine blk_drew ?_ | refine blk_alloc ?_ _)); refine blk_put (cs := #[.int .u64 ((rd_T39 l0_1 x56_3).f0), .int .i64 ((rd_T39 l0_1 x56_3).f1), .slice none 0 0, .int .i64 0]) ?_ 2 _ rfl; (with_reducible repeat (first | refine blk_drewN ?_ _ | refine blk_drew ?_ | refine blk_alloc ?_ _)); refine blk_put (cs := #[.int .u64 ((rd_T39 l0_1 x56_3).f0), .int .i64 0, .slice none 0 0, .int .i64 0]) ?_ 1 _ rfl; (with_reducible repeat (first | refine blk_drewN ?_ _ | refine blk_drew ?_ | refine blk_alloc ?_ _)); refine blk_put (cs := #[.int .u64 0, .int .i64 0, .slice none 0 0, .int .i64 0]) ?_ 0 _ rfl; (with_reducible repeat (first | refine blk_drewN ?_ _ | refine blk_drew ?_ | refine blk_alloc ?_ _)); exact BK111.out⟩
               have n2_ : Aside0 (Below w.heap.size w ((((w38.setCell ⟨gb111, 0, none⟩ (.int .u64 ((rd_T39 l0_1 x56_3).f0))).setCell ⟨gb111, 1, none⟩ (.int .i64 ((rd_T39 l0_1 x56_3).f1))).setCell ⟨gb111, 2, none⟩ (.slice A110_2 ((rd_T39 l0_1 x56_3).f2).length c110_2)).setCell ⟨gb111, 3, none⟩ (.int .i64 ((rd_T39 l0_1 x56_3).f3)))) := ⟨by repeat (first | (with_reducible first | exact HB.out | apply below_alloc | apply pw_below_drewN | apply below_drew1 | refine below_set ?_ GE108.out | refine below_set ?_ GE111.out) | exact HB.out)⟩
               (try clear BK108)
               (try clear BK111)
               (try clear HB)
               generalize ((((w38.setCell ⟨gb111, 0, none⟩ (.int .u64 ((rd_T39 l0_1 x56_3).f0))).setCell ⟨gb111, 1, none⟩ (.int .i64 ((rd_T39 l0_1 x56_3).f1))).setCell ⟨gb111, 2, none⟩ (.slice A110_2 ((rd_T39 l0_1 x56_3).f2).length c110_2)).setCell ⟨gb111, 3, none⟩ (.int .i64 ((rd_T39 l0_1 x56_3).f3))) = w53 at n0_ n1_ n2_ ⊢
               have BK108 := n0_
               have BK111 := n1_
               have HB := n2_
               clear n0_ n1_ n2_
               have n0_ := Aside0.mk (blk_drew BK108.out)
               have n1_ := Aside0.mk (blk_drew BK111.out)
               have n2_ := Aside0.mk (below_drew1 HB.out)
               clear BK108
               clear BK111
               clear HB
               have BK108 := n0_
               have BK111 := n1_
               have HB := n2_
               clear n0_ n1_ n2_
               refine start_ (n := 21) (S := fun w' => w'.cell? ⟨gb111, 0, none⟩ = some (.int .u64 ((rd_T39 l0_1 x56_3).f0)) ∧ w'.cell? ⟨gb111, 1, none⟩ = some (.int .i64 ((rd_T39 l0_1 x56_3).f1)) ∧ w'.cell? ⟨gb111, 2, none⟩ = some (.slice A110_2 ((rd_T39 l0_1 x56_3).f2).length c110_2) ∧ w'.cell? ⟨gb111, 3, none⟩ = some (.int .i64 ((rd_T39 l0_1 x56_3).f3)) ∧ w'.cell? ⟨gb108, 0, none⟩ = some (.int .i64 a0_0) ∧ w'.cell? ⟨gb108, 1, none⟩ = some (.slice (some ad110) l0_1.length c0_1) ∧ w'.cell? ⟨gb108, 2, none⟩ = some (.int .i64 a0_2) ∧ w'.cell? ⟨gb108, 3, none⟩ = some (.slice A0_3 l0_3.length c0_3)) (ds := []) (bm 21 0) (by kernel_rfl) rfl rfl ⟨(blk_cell BK111.out 0).trans rfl, (blk_cell BK111.out 1).trans rfl, (blk_cell BK111.out 2).trans rfl, (blk_cell BK111.out 3).trans rfl, (blk_cell BK108.out 0).trans rfl, (blk_cell BK108.out 1).trans rfl, (blk_cell BK108.out 2).trans rfl, (blk_cell BK108.out 3).trans rfl⟩ (fun hHeld => ?_); refine with_tabW page_may.tab12 page_may.bits12 (fun HT_ HW_ => ?_)
               generalize w53.drew = w54 at BK108 BK111 HB hHeld ⊢
               refine pure_ (i := 1) (N := some 62) (v := ?_) (a' := ?_) (bm 21 2) rfl rfl (any_of HT_.out (by kernel_rfl)) (fun _ _ _ h => h) (Or.inl ⟨by rfl, ?_⟩) ?_ ?_
               rotate_left
               ·intro w'
                go_simp
                with_reducible rfl
               rotate_left
               ·simp only [Act.put, List.setIfInBounds_toArray, List.set_cons_zero, List.set_cons_succ, i64_w, i32_w]
                rfl
               refine take_ (i := 0) (N := some 61) (v := ?_) (a' := ?_) (bm 21 3) rfl rfl (take_ofW HT_.out HW_.out (by kernel_rfl)) (fun _ _ _ h => h) (Or.inl ⟨by rfl, ?_⟩) hHeld ?_ ?_
               rotate_left
               ·rintro w' ⟨s0, s1, s2, s3, s4, s5, s6, s7⟩
                go_simp
                with_reducible rfl
               rotate_left
               ·simp only [Act.put, List.setIfInBounds_toArray, List.set_cons_zero, List.set_cons_succ, i64_w, i32_w]
                rfl
               refine take_ (i := 2) (N := some 63) (v := ?_) (a' := ?_) (bm 21 7) rfl rfl (take_ofW HT_.out HW_.out (by kernel_rfl)) (fun _ _ _ h => h) (Or.inl ⟨by rfl, ?_⟩) hHeld ?_ ?_
               rotate_left
               ·rintro w' ⟨s0, s1, s2, s3, s4, s5, s6, s7⟩
                go_simp
                with_reducible rfl
               rotate_left
               ·simp only [Act.put, List.setIfInBounds_toArray, List.set_cons_zero, List.set_cons_succ, i64_w, i32_w]
                rfl
               refine one_ (i := 3) (N := some 64) (bm 21 15) rfl rfl (one_of HT_.out (by kernel_rfl)) (by decide) (fun K hK => ?_)
               refine goes_ Try.func83 (by kernel_rfl) rfl #[.agg #[.int .u64 ((rd_T39 l0_1 x56_3).f0), .int .i64 ((rd_T39 l0_1 x56_3).f1), .slice A110_2 ((rd_T39 l0_1 x56_3).f2).length c110_2, .int .i64 ((rd_T39 l0_1 x56_3).f3)], .int .i64 a0_0] (by rfl) rfl rfl (by (try simp only [List.map_toArray, List.map_cons, List.map_nil]); first | done | rfl | (simp only [List.length_drop, List.length_take]; rfl)) ?_
               with_reducible refine (page_isItem.calls k3 ((rd_T39 l0_1 x56_3).f0) ((rd_T39 l0_1 x56_3).f1) _ _ ((rd_T39 l0_1 x56_3).f2) ((rd_T39 l0_1 x56_3).f3) a0_0 false _ ?side1 ?side2 A41.out).mono ?_
               (case side1 => repeat (first | exact (Kd.C_below HR110_2.out HB.out) | (with_reducible refine Kd.C_alloc ?_ _) | (with_reducible refine Kd.C_drewN ?_ _) | (with_reducible refine Kd.C_drew ?_)))
               (case side2 => exact HC110_2.out)
               rintro e w55 ⟨rfl, hb⟩
               refine ⟨_, rfl, ?_⟩
               have n0_ := Aside0.mk (blk_below (g := gb108) (o := .cells #[.int .i64 a0_0, .slice (some ad110) l0_1.length c0_1, .int .i64 a0_2, .slice A0_3 l0_3.length c0_3] 26 (0, 0)) (by (with_reducible repeat (first | refine blk_drewN ?_ _ | refine blk_drew ?_ | refine blk_alloc ?_ _)); exact BK108.out) hb)
               have n1_ := Aside0.mk (blk_below (g := gb111) (o := .cells #[.int .u64 ((rd_T39 l0_1 x56_3).f0), .int .i64 ((rd_T39 l0_1 x56_3).f1), .slice A110_2 ((rd_T39 l0_1 x56_3).f2).length c110_2, .int .i64 ((rd_T39 l0_1 x56_3).f3)] 39 (0, 0)) (by (with_reducible repeat (first | refine blk_drewN ?_ _ | refine blk_drew ?_ | refine blk_alloc ?_ _)); exact BK111.out) hb)
               have n2_ := Aside0.mk (below_step (by repeat (first | (with_reducible first | exact HB.out | apply below_alloc | apply pw_below_drewN | apply below_drew1 | refine below_set ?_ GE108.out | refine below_set ?_ GE111.out) | exact HB.out)) hb)
               clear BK108
               clear BK111
               clear HB
               have BK108 := n0_
               have BK111 := n1_
               have HB := n2_
               clear n0_ n1_ n2_
               (try clear hb)
               (try clear hb2)
               (try clear hk)
               (try clear hi)
               refine hK.out _ _ ⟨(blk_cell BK111.out 0).trans rfl, (blk_cell BK111.out 1).trans rfl, (blk_cell BK111.out 2).trans rfl, (blk_cell BK111.out 3).trans rfl, (blk_cell BK108.out 0).trans rfl, (blk_cell BK108.out 1).trans rfl, (blk_cell BK108.out 2).trans rfl, (blk_cell BK108.out 3).trans rfl⟩ (fun hHeld => ?_)
               clear hK K
               refine norm_ (a' := ?_) ?_ ?_
               rotate_left
               ·show Act.put _ (some 64) _ = _
                simp only [Act.put, List.setIfInBounds_toArray, List.set_cons_zero, List.set_cons_succ, i64_w, i32_w]
                rfl
               refine pure_ (i := 4) (N := some 65) (v := ?_) (a' := ?_) (bm 21 31) rfl rfl (any_of HT_.out (by kernel_rfl)) (fun _ _ _ h => h) (Or.inl ⟨by rfl, ?_⟩) ?_ ?_
               rotate_left
               ·intro w'
                go_simp
                with_reducible rfl
               rotate_left
               ·simp only [Act.put, List.setIfInBounds_toArray, List.set_cons_zero, List.set_cons_succ, i64_w, i32_w]
                rfl
               refine pure_ (i := 5) (N := some 66) (v := ?_) (a' := ?_) (bm 21 63) rfl rfl (any_of HT_.out (by kernel_rfl)) (fun _ _ _ h => h) (Or.inl ⟨by rfl, ?_⟩) ?_ ?_
               rotate_left
               ·intro w'
                go_simp
                with_reducible rfl
               rotate_left
               ·simp only [Act.put, List.setIfInBounds_toArray, List.set_cons_zero, List.set_cons_succ, i64_w, i32_w]
                rfl
               refine pure_ (i := 6) (N := some 67) (v := undef) (a' := ?_) (bm 21 127) rfl rfl (any_of HT_.out (by kernel_rfl)) (fun _ _ _ h => h) (Or.inr ⟨by rfl, rfl⟩) ?_ ?_
               rotate_left
               ·simp only [Act.put, List.setIfInBounds_toArray, List.set_cons_zero, List.set_cons_succ, i64_w, i32_w]
                rfl
               refine pure_ (i := 7) (N := some 68) (v := undef) (a' := ?_) (bm 21 255) rfl rfl (any_of HT_.out (by kernel_rfl)) (fun _ _ _ h => h) (Or.inr ⟨by rfl, rfl⟩) ?_ ?_
               rotate_left
               ·simp only [Act.put, List.setIfInBounds_toArray, List.set_cons_zero, List.set_cons_succ, i64_w, i32_w]
                rfl
               refine pure_ (i := 8) (N := some 69) (v := undef) (a' := ?_) (bm 21 511) rfl rfl (any_of HT_.out (by kernel_rfl)) (fun _ _ _ h => h) (Or.inr ⟨by rfl, rfl⟩) ?_ ?_
               rotate_left
               ·simp only [Act.put, List.setIfInBounds_toArray, List.set_cons_zero, List.set_cons_succ, i64_w, i32_w]
                rfl
               refine pure_ (i := 9) (N := some 70) (v := undef) (a' := ?_) (bm 21 1023) rfl rfl (any_of HT_.out (by kernel_rfl)) (fun _ _ _ h => h) (Or.inr ⟨by rfl, rfl⟩) ?_ ?_
               rotate_left
               ·simp only [Act.put, List.setIfInBounds_toArray, List.set_cons_zero, List.set_cons_succ, i64_w, i32_w]
                rfl
               refine pure_ (i := 10) (N := some 71) (v := undef) (a' := ?_) (bm 21 2047) rfl rfl (any_of HT_.out (by kernel_rfl)) (fun _ _ _ h => h) (Or.inr ⟨by rfl, rfl⟩) ?_ ?_
               rotate_left
               ·simp only [Act.put, List.setIfInBounds_toArray, List.set_cons_zero, List.set_cons_succ, i64_w, i32_w]
                rfl
               refine pure_ (i := 11) (N := some 72) (v := undef) (a' := ?_) (bm 21 4095) rfl rfl (any_of HT_.out (by kernel_rfl)) (fun _ _ _ h => h) (Or.inr ⟨by rfl, rfl⟩) ?_ ?_
               rotate_left
               ·simp only [Act.put, List.setIfInBounds_toArray, List.set_cons_zero, List.set_cons_succ, i64_w, i32_w]
                rfl
               refine pure_ (i := 12) (N := some 73) (v := undef) (a' := ?_) (bm 21 8191) rfl rfl (any_of HT_.out (by kernel_rfl)) (fun _ _ _ h => h) (Or.inr ⟨by rfl, rfl⟩) ?_ ?_
               rotate_left
               ·simp only [Act.put, List.setIfInBounds_toArray, List.set_cons_zero, List.set_cons_succ, i64_w, i32_w]
                rfl
               refine pure_ (i := 13) (N := some 74) (v := undef) (a' := ?_) (bm 21 16383) rfl rfl (any_of HT_.out (by kernel_rfl)) (fun _ _ _ h => h) (Or.inr ⟨by rfl, rfl⟩) ?_ ?_
               rotate_left
               ·simp only [Act.put, List.setIfInBounds_toArray, List.set_cons_zero, List.set_cons_succ, i64_w, i32_w]
                rfl
               refine pure_ (i := 14) (N := some 75) (v := undef) (a' := ?_) (bm 21 32767) rfl rfl (any_of HT_.out (by kernel_rfl)) (fun _ _ _ h => h) (Or.inr ⟨by rfl, rfl⟩) ?_ ?_
               rotate_left
               ·simp only [Act.put, List.setIfInBounds_toArray, List.set_cons_zero, List.set_cons_succ, i64_w, i32_w]
                rfl
               refine pure_ (i := 15) (N := some 76) (v := undef) (a' := ?_) (bm 21 65535) rfl rfl (any_of HT_.out (by kernel_rfl)) (fun _ _ _ h => h) (Or.inr ⟨by rfl, rfl⟩) ?_ ?_
               rotate_left
               ·simp only [Act.put, List.setIfInBounds_toArray, List.set_cons_zero, List.set_cons_succ, i64_w, i32_w]
                rfl
               refine pure_ (i := 16) (N := some 77) (v := undef) (a' := ?_) (bm 21 131071) rfl rfl (any_of HT_.out (by kernel_rfl)) (fun _ _ _ h => h) (Or.inr ⟨by rfl, rfl⟩) ?_ ?_
               rotate_left
               ·simp only [Act.put, List.setIfInBounds_toArray, List.set_cons_zero, List.set_cons_succ, i64_w, i32_w]
                rfl
               refine pure_ (i := 17) (N := some 78) (v := undef) (a' := ?_) (bm 21 262143) rfl rfl (any_of HT_.out (by kernel_rfl)) (fun _ _ _ h => h) (Or.inr ⟨by rfl, rfl⟩) ?_ ?_
               rotate_left
               ·simp only [Act.put, List.setIfInBounds_toArray, List.set_cons_zero, List.set_cons_succ, i64_w, i32_w]
                rfl
               refine pure_ (i := 18) (N := some 79) (v := undef) (a' := ?_) (bm 21 524287) rfl rfl (any_of HT_.out (by kernel_rfl)) (fun _ _ _ h => h) (Or.inr ⟨by rfl, rfl⟩) ?_ ?_
               rotate_left
               ·simp only [Act.put, List.setIfInBounds_toArray, List.set_cons_zero, List.set_cons_succ, i64_w, i32_w]
                rfl
               refine pure_ (i := 19) (N := some 80) (v := undef) (a' := ?_) (bm 21 1048575) rfl rfl (any_of HT_.out (by kernel_rfl)) (fun _ _ _ h => h) (Or.inr ⟨by rfl, rfl⟩) ?_ ?_
               rotate_left
               ·simp only [Act.put, List.setIfInBounds_toArray, List.set_cons_zero, List.set_cons_succ, i64_w, i32_w]
                rfl
               refine pure_ (i := 20) (N := some 81) (v := ?_) (a' := ?_) (bm 21 2097151) rfl rfl (any_of HT_.out (by kernel_rfl)) (fun _ _ _ h => h) (Or.inl ⟨by rfl, ?_⟩) ?_ ?_
               rotate_left
               ·intro w'
                go_simp
                with_reducible rfl
               rotate_left
               ·simp only [Act.put, List.setIfInBounds_toArray, List.set_cons_zero, List.set_cons_succ, i64_w, i32_w]
                rfl
               refine done_ (done_of HT_.out (by kernel_rfl)) ?_
               try go_wp2
               go_meet
               case rel => exact ⟨_, (true), (by first | rfl | (simp; done) | (simp [*]; done)), H', ⟨by have := HJ20.out; have := HJ25.out; have := HK3.out; first | omega | exact Nat.le_refl _⟩, ⟨by (with_reducible repeat (first | refine blk_drewN ?_ _ | refine blk_drew ?_ | refine blk_alloc ?_ _)); exact BK108.out⟩, ⟨by (with_reducible repeat (first | refine blk_drewN ?_ _ | refine blk_drew ?_ | refine blk_alloc ?_ _)); exact BK111.out⟩, ⟨by repeat (first | (with_reducible first | exact HB.out | apply below_alloc | apply pw_below_drewN | apply below_drew1 | refine below_set ?_ GE108.out | refine below_set ?_ GE111.out) | exact HB.out)⟩⟩
             case rest =>
              clear HC37
              (try clear c1); (try clear p1); (try clear q1); (try clear hx1); (try clear p2); (try clear c4); (try clear c8); (try clear c11); (try clear p11); (try clear q11); (try clear hx11); (try clear c42); (try clear c43); (try clear c43b0); (try clear c45); (try clear c45b0); (try clear c46); (try clear c46b0); (try clear hx113_0); (try clear hx113_1); (try clear hx113_2); (try clear hx113_3); (try clear p113); (try clear q113)
              obtain ⟨kq, x81_36, rfl, HA, HJ36, BK108, BK111, HB⟩ := hcut
              cases kq with
              | zero => exact absurd HA.out (by simp [page_may.j3])
              | succ kj36 =>
               have H := HA.out
               clear HA
               simp only [page_may.j3] at H
               by_cases c56 : x81_36 = true
               ·subst c56
                have H1 : (some false) = some r := by rw [if_pos rfl] at H; exact H
                clear H
                have H := H1
                clear H1
                obtain rfl := Option.some.inj H
                go_wp2
                go_ret
                exact ⟨by first | rfl | (simp [errW_none, errW_some] <;> rfl) | (simp [*, errW_none, errW_some] <;> rfl), by repeat (first | (with_reducible first | exact HB.out | apply below_alloc | apply pw_below_drewN | apply below_drew1 | refine below_set ?_ GE108.out | refine below_set ?_ GE111.out) | exact HB.out)⟩
               ·replace c56 := Bool.eq_false_iff.mpr c56
                subst c56
                have H1 : (page_may.l0 kj36 l0_1 (l0_1.length : Int) (wrap64 (x56_3 + 1)) a0_0 l0_1 a0_2 l0_3) = some r := by rw [if_neg (show ¬ (false = true) by decide)] at H; exact H
                clear H
                have H := H1
                clear H1
                have H' := Aside0.mk H
                clear H
                go_wp2
                go_roundg kj36
                case measure => have := HJ20.out; have := HJ25.out; have := HK3.out; have := HJ36.out; omega
                case rel => exact ⟨(wrap64 (x56_3 + 1)), (by first | rfl | (simp; done) | (simp [*]; done)), H', ⟨by have := HJ20.out; have := HJ25.out; have := HK3.out; have := HJ36.out; omega⟩, ⟨by (with_reducible repeat (first | refine blk_drewN ?_ _ | refine blk_drew ?_ | refine blk_alloc ?_ _)); exact BK108.out⟩, ⟨by repeat (first | (with_reducible first | exact HB.out | apply below_alloc | apply pw_below_drewN | apply below_drew1 | refine below_set ?_ GE108.out | refine below_set ?_ GE111.out) | exact HB.out)⟩⟩
            ·rw [if_neg c36] at H
             exact absurd H (by simp)
           ·rw [if_neg c35] at H
            exact absurd H (by simp)
          ·rw [if_neg c34] at H
           have c34b0 : decide (x56_3 < (l0_1.length : Int)) = false := decide_eq_false c34
           clear c34
           obtain rfl := Option.some.inj H
           go_wp2
           go_ret
           exact ⟨by first | rfl | (simp [errW_none, errW_some] <;> rfl) | (simp [*, errW_none, errW_some] <;> rfl), by repeat (first | (with_reducible first | exact HB.out | apply below_alloc | apply pw_below_drewN | apply below_drew1 | refine below_set ?_ GE108.out) | exact HB.out)⟩
    ·replace c25 := Bool.eq_false_iff.mpr c25
     subst c25
     have H1 : (some false) = some r := by rw [if_neg (show ¬ (false = true) by decide)] at H; exact H
     clear H
     have H := H1
     clear H1
     obtain rfl := Option.some.inj H
     go_wp2
     go_ret
     exact ⟨by first | rfl | (simp [errW_none, errW_some] <;> rfl) | (simp [*, errW_none, errW_some] <;> rfl), by repeat (first | (with_reducible first | exact HB.out | apply below_alloc | apply pw_below_drewN | apply below_drew1 | refine below_set ?_ GE108.out) | exact HB.out)⟩

end Go.Proofs.Ytnkaidaflegnlaa.G
