/- The functions of the program that these laws reach, each as a plain Lean function, and the proof that the machine's call comes to it; no condition beyond those that each theorem names. Made by wip/xprint.py. -/
import Derived.Test.YtmdmoohkdkooaaaMx0
import Derived.Test.YtmdmoohkdkooaaaMf13
import Derived.Test.YtmdmoohkdkooaaaMf16
import Derived.Test.YtmdmoohkdkooaaaMf17
import Derived.Test.YtmdmoohkdkooaaaMf18
import Derived.Test.YtmdmoohkdkooaaaMf19
import Derived.Test.YtmdmoohkdkooaaaMf20
import Derived.Test.YtmdmoohkdkooaaaMh
namespace Go.Proofs.Ytmdmoohkdkooaaa.M
open Go.RowKit Go.Proofs.YtmdmoohkdkooaaaW.PrintWords Go.Proofs.YtmdmoohkdkooaaaW.PrintLast Go.Proofs.YtmdmoohkdkooaaaW.PrintMore
attribute [local go_sem] max2_int min2_int max_two min_two max_three min_three max_four min_four   -- for this text's walks alone
set_option linter.unusedVariables false
set_option linter.unusedSimpArgs false

/-! ### marginalialaw07_MarksPush: function 4 -/
mutual
def marginalialaw07_MarksPush.j0 : Nat → List (S27) → Bool → Int → ByteArray → List (S70) → Option (Bool)
  | 0, _, _, _, _, _ => none
  | k + 1, x0, x17, x268000, x268001, x268002 => if x17 = true then ((marginalialaw07_alive.f k).bind fun t269 => (some t269)) else ((marginalialaw07_copied.f x0).bind fun t270 => ((marks_Push.f k t270 x268000 x268001 x268002).bind fun t273 => ((marginaliaref07_Push.f k x0 x268000 x268001 x268002).bind fun t276 => ((marginaliaref07_Same.f k t273 t276).bind fun t279 => (marginalialaw07_MarksPush.l0 k x0 t270 t273 t279 0)))))
def marginalialaw07_MarksPush.l0 : Nat → List (S27) → List (S27) → List (S27) → Bool → Int → Option (Bool)
  | 0, _, _, _, _, _ => none
  | k + 1, x0, x5, x6, x7, x8 => if x8 < (x6.length : Int) then (if 0 ≤ x8 then (marginalialaw07_MarksPush.l0 k x0 x5 (x6.set (x8 : Int).toNat (⟨(rd_T27 x6 x8).f0, (⟨#[115, 112, 111, 105, 108, 116]⟩ : ByteArray), (rd_T27 x6 x8).f2⟩ : S27)) x7 (wrap64 (x8 + 1))) else (none)) else ((marginalialaw07_alive.f k).bind fun t281 => (if t281 = true then (if x7 = true then ((marginaliaref07_Same.f k x5 x0).bind fun t282 => (some t282)) else (some false)) else (some false)))
end
def marginalialaw07_MarksPush.f (k : Nat) (l0 : List (S27)) (a1_0 : Int) (a1_1 : ByteArray) (l1_2 : List (S70)) : Option (Bool) := (marginalialaw07_small.f k l0).bind fun t268 => (if t268 = true then (marginalialaw07_MarksPush.j0 k l0 (decide ((l1_2.length : Int) > 6)) a1_0 a1_1 l1_2) else (marginalialaw07_MarksPush.j0 k l0 true a1_0 a1_1 l1_2))
theorem marginalialaw07_MarksPush.mono_l : ∀ k, (∀ y0 y1 y2 y3 y4, LeO (marginalialaw07_MarksPush.j0 k y0 y1 y2 y3 y4) (marginalialaw07_MarksPush.j0 (k + 1) y0 y1 y2 y3 y4)) ∧ (∀ y0 y1 y2 y3 y4, LeO (marginalialaw07_MarksPush.l0 k y0 y1 y2 y3 y4) (marginalialaw07_MarksPush.l0 (k + 1) y0 y1 y2 y3 y4))
  | 0 => ⟨fun _ _ _ _ _ r h => by simp [marginalialaw07_MarksPush.j0] at h, fun _ _ _ _ _ r h => by simp [marginalialaw07_MarksPush.l0] at h⟩
  | k + 1 => by
    obtain ⟨ih0, ih1⟩ := marginalialaw07_MarksPush.mono_l k
    refine ⟨?_, ?_⟩
    · intro y0 y1 y2 y3 y4
      unfold marginalialaw07_MarksPush.j0
      repeat' first
      | (with_reducible exact ih0 _ _ _ _ _)
      | (with_reducible exact ih1 _ _ _ _ _)
      | (with_reducible exact marginalialaw07_alive.mono _)
      | (with_reducible exact marginalialaw07_small.mono _ _)
      | (with_reducible exact marginaliaref07_Push.mono _ _ _ _ _)
      | (with_reducible exact marginaliaref07_Same.mono _ _ _)
      | (with_reducible exact marks_Push.mono _ _ _ _ _)
      | (with_reducible exact LeO.refl _)
      | (with_reducible exact LeO.none _)
      | (with_reducible refine LeO.ite ?_ ?_)
      | (with_reducible refine LeO.bind ?_ (fun _ => ?_))
      | exact ih0 _ _ _ _ _
      | exact ih1 _ _ _ _ _
      | exact marginalialaw07_alive.mono _
      | exact marginalialaw07_small.mono _ _
      | exact marginaliaref07_Push.mono _ _ _ _ _
      | exact marginaliaref07_Same.mono _ _ _
      | exact marks_Push.mono _ _ _ _ _
      | exact LeO.none _
      | refine LeO.ite ?_ ?_
      | refine LeO.bind ?_ (fun _ => ?_)
    · intro y0 y1 y2 y3 y4
      unfold marginalialaw07_MarksPush.l0
      repeat' first
      | (with_reducible exact ih0 _ _ _ _ _)
      | (with_reducible exact ih1 _ _ _ _ _)
      | (with_reducible exact marginalialaw07_alive.mono _)
      | (with_reducible exact marginalialaw07_small.mono _ _)
      | (with_reducible exact marginaliaref07_Push.mono _ _ _ _ _)
      | (with_reducible exact marginaliaref07_Same.mono _ _ _)
      | (with_reducible exact marks_Push.mono _ _ _ _ _)
      | (with_reducible exact LeO.refl _)
      | (with_reducible exact LeO.none _)
      | (with_reducible refine LeO.ite ?_ ?_)
      | (with_reducible refine LeO.bind ?_ (fun _ => ?_))
      | exact ih0 _ _ _ _ _
      | exact ih1 _ _ _ _ _
      | exact marginalialaw07_alive.mono _
      | exact marginalialaw07_small.mono _ _
      | exact marginaliaref07_Push.mono _ _ _ _ _
      | exact marginaliaref07_Same.mono _ _ _
      | exact marks_Push.mono _ _ _ _ _
      | exact LeO.none _
      | refine LeO.ite ?_ ?_
      | refine LeO.bind ?_ (fun _ => ?_)
theorem marginalialaw07_MarksPush.mono : ∀ a0 a1 a2 a3 k, LeO (marginalialaw07_MarksPush.f k a0 a1 a2 a3) (marginalialaw07_MarksPush.f (k + 1) a0 a1 a2 a3) := by
  intro a0 a1 a2 a3 k
  obtain ⟨ih0, ih1⟩ := marginalialaw07_MarksPush.mono_l k
  unfold marginalialaw07_MarksPush.f
  repeat' first
      | (with_reducible exact ih0 _ _ _ _ _)
      | (with_reducible exact ih1 _ _ _ _ _)
      | (with_reducible exact marginalialaw07_alive.mono _)
      | (with_reducible exact marginalialaw07_small.mono _ _)
      | (with_reducible exact marginaliaref07_Push.mono _ _ _ _ _)
      | (with_reducible exact marginaliaref07_Same.mono _ _ _)
      | (with_reducible exact marks_Push.mono _ _ _ _ _)
      | (with_reducible exact LeO.refl _)
      | (with_reducible exact LeO.none _)
      | (with_reducible refine LeO.ite ?_ ?_)
      | (with_reducible refine LeO.bind ?_ (fun _ => ?_))
      | exact ih0 _ _ _ _ _
      | exact ih1 _ _ _ _ _
      | exact marginalialaw07_alive.mono _
      | exact marginalialaw07_small.mono _ _
      | exact marginaliaref07_Push.mono _ _ _ _ _
      | exact marginaliaref07_Same.mono _ _ _
      | exact marks_Push.mono _ _ _ _ _
      | exact LeO.none _
      | refine LeO.ite ?_ ?_
      | refine LeO.bind ?_ (fun _ => ?_)
set_option maxHeartbeats 8000000 in
set_option maxRecDepth 100000 in
theorem marginalialaw07_MarksPush.calls (k : Nat) (A0 : Option Addr) (c0 : Nat) (l0 : List (S27)) (a1_0 : Int) (a1_1 : ByteArray) (A1_2 : Option Addr) (c1_2 : Nat) (l1_2 : List (S70)) (r : Bool) (w : World) (hr0 : Kd.C k27 w A0 l0.length l0) (hc0 : l0.length ≤ c0) (hr1_2 : Kd.C k70 w A1_2 l1_2.length l1_2) (hc1_2 : l1_2.length ≤ c1_2) (h : marginalialaw07_MarksPush.f k l0 a1_0 a1_1 l1_2 = some r) :
    Calls Try.prog 4 #[.slice A0 l0.length c0, .agg #[.int .i64 a1_0, .string a1_1, .slice A1_2 l1_2.length c1_2]] w fun e w' => e = .returned (.bool r) ∧ Below w.heap.size w w' := by
  have hu27 := Try.underlying27
  have HR0 := Aside0.mk hr0
  have HC0 := Aside0.mk hc0
  clear hr0 hc0
  have HR1_2 := Aside0.mk hr1_2
  have HC1_2 := Aside0.mk hc1_2
  clear hr1_2 hc1_2
  have HB := Aside0.mk (Below.refl w.heap.size w)
  have H : ((marginalialaw07_small.f k l0).bind fun t268 => (if t268 = true then (marginalialaw07_MarksPush.j0 k l0 (decide ((l1_2.length : Int) > 6)) a1_0 a1_1 l1_2) else (marginalialaw07_MarksPush.j0 k l0 true a1_0 a1_1 l1_2))) = some r := h
  clear h
  have HC3 := Aside0.mk H
  clear H
  go_enter Try.func4, Try.ntmps4
  go_upto_region 1 with (first | ((with_reducible refine gate_dst (N := 3) rfl ?_); (try (refine gate_guard (by rfl) ?_; dsimp only)); refine box_event ?hg (N := 3) ?hd (cs := #[.int .i64 a1_0, .string a1_1, .slice A1_2 l1_2.length c1_2]) (t := 27) ?hr ?_; (case hd => rfl); (case hg => rfl); (case hr => first | (go_simp; done) | (go_simp; rfl)); intro gb267 hg w4 hbox hb; have n0_ := Aside0.mk (below_step (by repeat (first | (with_reducible first | exact HB.out | apply below_alloc | apply pw_below_drewN | apply below_drew1) | exact HB.out)) hb); have n1_ := Aside0.mk (hbox); have n2_ := Aside0.mk ((by rw [hg]; exact (below_size (by repeat (first | (with_reducible first | exact HB.out | apply below_alloc | apply pw_below_drewN | apply below_drew1) | exact HB.out))) : w.heap.size ≤ gb267)); have n3_ := Aside0.mk ((by rw [hg]; exact (below_size (by repeat (first | (with_reducible first | exact HB.out | apply below_alloc | apply pw_below_drewN | apply below_drew1) | exact HB.out))) : w.heap.size ≤ gb267)); clear HB; have HB := n0_; have BK267 := n1_; have GW267 := n2_; have GE267 := n3_; clear n0_ n1_ n2_ n3_; clear hb hbox hg))
  (try simp only [Act.put, List.setIfInBounds_toArray, List.set_cons_zero, List.set_cons_succ])
  go_cut [17] (fun v17 wc => ∃ (kq : Nat) (x17_2 : Bool), v17 = .bool x17_2 ∧ Aside0 (marginalialaw07_MarksPush.j0 kq l0 x17_2 a1_0 a1_1 l1_2 = some r) ∧ Aside0 (kq ≤ k) ∧ Aside0 (wc.heap[gb267]? = some (.cells #[.int .i64 a1_0, .string a1_1, (.slice A1_2 l1_2.length c1_2)] 27 (0, 0))) ∧ Aside0 (Below w.heap.size w wc))
  case first =>
    have H := HC3.out
    clear HC3
    replace H := Option.bind_eq_some_iff.mp H
    obtain ⟨t268, A50, H⟩ := H
    replace H : (if t268 = true then (marginalialaw07_MarksPush.j0 k l0 (decide ((l1_2.length : Int) > 6)) a1_0 a1_1 l1_2) else (marginalialaw07_MarksPush.j0 k l0 true a1_0 a1_1 l1_2)) = some r := H
    have A5 := Aside0.mk A50
    clear A50
    by_cases c6 : t268 = true
    · subst c6
      have H1 : (marginalialaw07_MarksPush.j0 k l0 (decide ((l1_2.length : Int) > 6)) a1_0 a1_1 l1_2) = some r := by rw [if_pos rfl] at H; exact H
      clear H
      have H := H1
      clear H1
      have H' := Aside0.mk H
      clear H
      go_wp2_with (first | ((with_reducible refine gate_callee (f := 16) rfl ?_); refine goesL_ (some 10) rfl rfl Try.func16 (by kernel_rfl) rfl #[.slice A0 l0.length c0] rfl (by (try simp only [List.map_toArray, List.map_cons, List.map_nil]); first | done | rfl | (simp only [List.length_drop, List.length_take]; rfl)) ?_; (with_reducible refine (marginalialaw07_small.calls k _ _ l0 true _ ?side1 ?side2 A5.out).mono ?_); (case side1 => repeat (first | exact (Kd.C_below HR0.out HB.out) | (with_reducible refine Kd.C_alloc ?_ _) | (with_reducible refine Kd.C_drewN ?_ _) | (with_reducible refine Kd.C_drew ?_))); (case side2 => exact HC0.out); rintro e w' ⟨rfl, ⟨nd, rfl⟩⟩; refine ⟨_, rfl, ?_⟩; have hcz7_0 : w4.cell? ⟨gb267, 0, none⟩ = some (.int .i64 a1_0) := (blk_cell BK267.out 0).trans rfl; have hcz7_1 : w4.cell? ⟨gb267, 1, none⟩ = some (.string a1_1) := (blk_cell BK267.out 1).trans rfl; have hcz7_2 : w4.cell? ⟨gb267, 2, none⟩ = some (.slice A1_2 l1_2.length c1_2) := (blk_cell BK267.out 2).trans rfl; have hfz7_0 := blk_frozen BK267.out 0; have hfz7_1 := blk_frozen BK267.out 1; have hfz7_2 := blk_frozen BK267.out 2))
      go_meet
      case rel => exact ⟨_, (decide ((l1_2.length : Int) > 6)), (by first | rfl | (simp; done) | (simp [*]; done)), H', ⟨by first | omega | exact Nat.le_refl _⟩, ⟨by (with_reducible repeat (first | refine blk_drewN ?_ _ | refine blk_drew ?_ | refine blk_alloc ?_ _)); exact BK267.out⟩, ⟨by repeat (first | (with_reducible first | exact HB.out | apply below_alloc | apply pw_below_drewN | apply below_drew1 | refine below_set ?_ GE267.out) | exact HB.out)⟩⟩
    · replace c6 := Bool.eq_false_iff.mpr c6
      subst c6
      have H1 : (marginalialaw07_MarksPush.j0 k l0 true a1_0 a1_1 l1_2) = some r := by rw [if_neg (show ¬ (false = true) by decide)] at H; exact H
      clear H
      have H := H1
      clear H1
      have H' := Aside0.mk H
      clear H
      go_wp2_with (first | ((with_reducible refine gate_callee (f := 16) rfl ?_); refine goesL_ (some 10) rfl rfl Try.func16 (by kernel_rfl) rfl #[.slice A0 l0.length c0] rfl (by (try simp only [List.map_toArray, List.map_cons, List.map_nil]); first | done | rfl | (simp only [List.length_drop, List.length_take]; rfl)) ?_; (with_reducible refine (marginalialaw07_small.calls k _ _ l0 false _ ?side1 ?side2 A5.out).mono ?_); (case side1 => repeat (first | exact (Kd.C_below HR0.out HB.out) | (with_reducible refine Kd.C_alloc ?_ _) | (with_reducible refine Kd.C_drewN ?_ _) | (with_reducible refine Kd.C_drew ?_))); (case side2 => exact HC0.out); rintro e w' ⟨rfl, ⟨nd, rfl⟩⟩; refine ⟨_, rfl, ?_⟩))
      go_meet
      case rel => exact ⟨_, (true), (by first | rfl | (simp; done) | (simp [*]; done)), H', ⟨by first | omega | exact Nat.le_refl _⟩, ⟨by (with_reducible repeat (first | refine blk_drewN ?_ _ | refine blk_drew ?_ | refine blk_alloc ?_ _)); exact BK267.out⟩, ⟨by repeat (first | (with_reducible first | exact HB.out | apply below_alloc | apply pw_below_drewN | apply below_drew1 | refine below_set ?_ GE267.out) | exact HB.out)⟩⟩
  case rest =>
    clear HC3
    try clear c1
    try clear p2
    try clear c4
    try clear c6
    try clear hcz7_0
    try clear hcz7_1
    try clear hcz7_2
    try clear hfz7_0
    try clear hfz7_1
    try clear hfz7_2
    obtain ⟨kq, x17_2, rfl, HA, HJ2, BK267, HB⟩ := hcut
    cases kq with
    | zero => exact absurd HA.out (by simp [marginalialaw07_MarksPush.j0])
    | succ kj2 =>
      have H := HA.out
      clear HA
      simp only [marginalialaw07_MarksPush.j0] at H
      by_cases c8 : x17_2 = true
      · subst c8
        have H1 : ((marginalialaw07_alive.f kj2).bind fun t269 => (some t269)) = some r := by rw [if_pos rfl] at H; exact H
        clear H
        have H := H1
        clear H1
        replace H := Option.bind_eq_some_iff.mp H
        obtain ⟨t269, A90, H⟩ := H
        replace H : (some t269) = some r := H
        have A9 := Aside0.mk A90
        clear A90
        obtain rfl := Option.some.inj H
        go_wp2_with (first | ((with_reducible refine gate_callee (f := 13) rfl ?_); refine goesL_ (some 18) rfl rfl Try.func13 (by kernel_rfl) rfl #[] rfl (by (try simp only [List.map_toArray, List.map_cons, List.map_nil]); first | done | rfl | (simp only [List.length_drop, List.length_take]; rfl)) ?_; (with_reducible refine (marginalialaw07_alive.calls kj2  t269 _ A9.out).mono ?_); rintro e w10 ⟨rfl, hb⟩; refine ⟨_, rfl, ?_⟩; have n0_ := Aside0.mk (blk_below (g := gb267) (o := .cells #[.int .i64 a1_0, .string a1_1, .slice A1_2 l1_2.length c1_2] 27 (0, 0)) (by (with_reducible repeat (first | refine blk_drewN ?_ _ | refine blk_drew ?_ | refine blk_alloc ?_ _)); exact BK267.out) hb); have n1_ := Aside0.mk (below_step (by repeat (first | (with_reducible first | exact HB.out | apply below_alloc | apply pw_below_drewN | apply below_drew1 | refine below_set ?_ GE267.out) | exact HB.out)) hb); clear BK267; clear HB; have BK267 := n0_; have HB := n1_; clear n0_ n1_; (try clear hb); (try clear hb2); (try clear hk); (try clear hi)))
        go_ret
        exact ⟨by first | rfl | (simp [errW_none, errW_some] <;> rfl) | (simp [*, errW_none, errW_some] <;> rfl), by repeat (first | (with_reducible first | exact HB.out | apply below_alloc | apply pw_below_drewN | apply below_drew1 | refine below_set ?_ GE267.out) | exact HB.out)⟩
      · replace c8 := Bool.eq_false_iff.mpr c8
        subst c8
        have H1 : ((marginalialaw07_copied.f l0).bind fun t270 => ((marks_Push.f kj2 t270 a1_0 a1_1 l1_2).bind fun t273 => ((marginaliaref07_Push.f kj2 l0 a1_0 a1_1 l1_2).bind fun t276 => ((marginaliaref07_Same.f kj2 t273 t276).bind fun t279 => (marginalialaw07_MarksPush.l0 kj2 l0 t270 t273 t279 0))))) = some r := by rw [if_neg (show ¬ (false = true) by decide)] at H; exact H
        clear H
        have H := H1
        clear H1
        replace H := Option.bind_eq_some_iff.mp H
        obtain ⟨t270, A110, H⟩ := H
        replace H : ((marks_Push.f kj2 t270 a1_0 a1_1 l1_2).bind fun t273 => ((marginaliaref07_Push.f kj2 l0 a1_0 a1_1 l1_2).bind fun t276 => ((marginaliaref07_Same.f kj2 t273 t276).bind fun t279 => (marginalialaw07_MarksPush.l0 kj2 l0 t270 t273 t279 0)))) = some r := H
        have A11 := Aside0.mk A110
        clear A110
        replace H := Option.bind_eq_some_iff.mp H
        obtain ⟨t273, A120, H⟩ := H
        replace H : ((marginaliaref07_Push.f kj2 l0 a1_0 a1_1 l1_2).bind fun t276 => ((marginaliaref07_Same.f kj2 t273 t276).bind fun t279 => (marginalialaw07_MarksPush.l0 kj2 l0 t270 t273 t279 0))) = some r := H
        have A12 := Aside0.mk A120
        clear A120
        replace H := Option.bind_eq_some_iff.mp H
        obtain ⟨t276, A130, H⟩ := H
        replace H : ((marginaliaref07_Same.f kj2 t273 t276).bind fun t279 => (marginalialaw07_MarksPush.l0 kj2 l0 t270 t273 t279 0)) = some r := H
        have A13 := Aside0.mk A130
        clear A130
        replace H := Option.bind_eq_some_iff.mp H
        obtain ⟨t279, A140, H⟩ := H
        replace H : (marginalialaw07_MarksPush.l0 kj2 l0 t270 t273 t279 0) = some r := H
        have A14 := Aside0.mk A140
        clear A140
        have H' := Aside0.mk H
        clear H
        go_wp2_with (first | ((with_reducible refine gate_callee (f := 17) rfl ?_); refine goesL_ (some 20) rfl rfl Try.func17 (by kernel_rfl) rfl #[.slice A0 l0.length c0] rfl (by (try simp only [List.map_toArray, List.map_cons, List.map_nil]); first | done | rfl | (simp only [List.length_drop, List.length_take]; rfl)) ?_; (with_reducible refine (marginalialaw07_copied.calls (fun k_ => k_ < w.heap.size) _ _ l0 t270 _ ?side1 A11.out).mono ?_); (case side1 => exact Kd.V_mk HC0.out (Kd.F_below (Kd.C_F k27_heap HR0.out) (by repeat (first | (with_reducible first | exact HB.out | apply below_alloc | apply pw_below_drewN | apply below_drew1 | refine below_set ?_ GE267.out) | exact HB.out)))); rintro e w15 ⟨v271, rfl, ho0, hb⟩; refine ⟨_, rfl, ?_⟩; have n0_ := Aside0.mk (Kd.N_lower (Kd.N_mono (ok' := fun k_ => k_ ≠ gb267) ho0 (fun k_ hk_ => Or.elim hk_ (fun hs_ => fun e_ => Nat.not_le.2 hs_ (by rw [e_]; exact GW267.out)) (fun hn_ => (Kd.freshB (g := gb267) (o := .cells #[.int .i64 a1_0, .string a1_1, .slice A1_2 l1_2.length c1_2] 27 (0, 0)) (by (with_reducible repeat (first | refine blk_drewN ?_ _ | refine blk_drew ?_ | refine blk_alloc ?_ _)); exact BK267.out) k_ hn_)))) (below_size (by repeat (first | (with_reducible first | exact HB.out | apply below_alloc | apply pw_below_drewN | apply below_drew1 | refine below_set ?_ GE267.out) | exact HB.out)))); have n1_ := Aside0.mk (blk_below (g := gb267) (o := .cells #[.int .i64 a1_0, .string a1_1, .slice A1_2 l1_2.length c1_2] 27 (0, 0)) (by (with_reducible repeat (first | refine blk_drewN ?_ _ | refine blk_drew ?_ | refine blk_alloc ?_ _)); exact BK267.out) hb); have n2_ := Aside0.mk (below_step (by repeat (first | (with_reducible first | exact HB.out | apply below_alloc | apply pw_below_drewN | apply below_drew1 | refine below_set ?_ GE267.out) | exact HB.out)) hb); clear BK267; clear HB; have HO272 := n0_; have BK267 := n1_; have HB := n2_; clear n0_ n1_ n2_; (try clear hb); (try clear hb2); (try clear hk); (try clear hi); (try clear ho0); have hcz16_0 : w15.cell? ⟨gb267, 0, none⟩ = some (.int .i64 a1_0) := (blk_cell BK267.out 0).trans rfl; have hcz16_1 : w15.cell? ⟨gb267, 1, none⟩ = some (.string a1_1) := (blk_cell BK267.out 1).trans rfl; have hcz16_2 : w15.cell? ⟨gb267, 2, none⟩ = some (.slice A1_2 l1_2.length c1_2) := (blk_cell BK267.out 2).trans rfl; have hfz16_0 := blk_frozen BK267.out 0; have hfz16_1 := blk_frozen BK267.out 1; have hfz16_2 := blk_frozen BK267.out 2; obtain ⟨Ao17, co17, eo17⟩ := Kd.N_slice HO272.out; subst eo17) | ((with_reducible refine gate_callee (f := 18) rfl ?_); refine goesL_ (some 23) rfl rfl Try.func18 (by kernel_rfl) rfl #[.slice Ao17 t270.length co17, .agg #[.int .i64 a1_0, .string a1_1, .slice A1_2 l1_2.length c1_2]] rfl (by (try simp only [List.map_toArray, List.map_cons, List.map_nil]); first | done | rfl | (simp only [List.length_drop, List.length_take]; rfl)) ?_; (with_reducible refine (marks_Push.calls kj2 (fun k_ => k_ ≠ gb267) _ _ t270 a1_0 a1_1 (fun k_ => k_ < w.heap.size) _ _ l1_2 t273 _ ?side1 ?side2 A12.out).mono ?_); (case side1 => exact Kd.N_V (HO272.out)); (case side2 => exact Kd.V_mk HC1_2.out (Kd.F_below (Kd.C_F k70_heap HR1_2.out) (by repeat (first | (with_reducible first | exact HB.out | apply below_alloc | apply pw_below_drewN | apply below_drew1 | refine below_set ?_ GE267.out) | exact HB.out)))); rintro e w18 ⟨v274, rfl, ho0, hb⟩; refine ⟨_, rfl, ?_⟩; have n0_ := Aside0.mk (Kd.N_elder' (by (with_reducible repeat (first | apply Kd.N_alloc | apply Kd.N_drewN | apply Kd.N_drew)); exact HO272.out) (Kd.N_base ho0) hb); have n1_ := Aside0.mk (Kd.N_lower (Kd.N_mono (ok' := fun k_ => k_ ≠ gb267) ho0 (fun k_ hk_ => Or.elim hk_ (fun hs_ => Or.elim hs_ (fun hs_ => hs_) (fun hs_ => fun e_ => Nat.not_le.2 hs_ (by rw [e_]; exact GW267.out))) (fun hn_ => (Kd.freshB (g := gb267) (o := .cells #[.int .i64 a1_0, .string a1_1, .slice A1_2 l1_2.length c1_2] 27 (0, 0)) (by (with_reducible repeat (first | refine blk_drewN ?_ _ | refine blk_drew ?_ | refine blk_alloc ?_ _)); exact BK267.out) k_ hn_)))) (below_size (by repeat (first | (with_reducible first | exact HB.out | apply below_alloc | apply pw_below_drewN | apply below_drew1 | refine below_set ?_ GE267.out) | exact HB.out)))); have n2_ := Aside0.mk (blk_below (g := gb267) (o := .cells #[.int .i64 a1_0, .string a1_1, .slice A1_2 l1_2.length c1_2] 27 (0, 0)) (by (with_reducible repeat (first | refine blk_drewN ?_ _ | refine blk_drew ?_ | refine blk_alloc ?_ _)); exact BK267.out) hb); have n3_ := Aside0.mk (below_step (by repeat (first | (with_reducible first | exact HB.out | apply below_alloc | apply pw_below_drewN | apply below_drew1 | refine below_set ?_ GE267.out) | exact HB.out)) hb); clear HO272; clear BK267; clear HB; have HO272 := n0_; have HO275 := n1_; have BK267 := n2_; have HB := n3_; clear n0_ n1_ n2_ n3_; (try clear hb); (try clear hb2); (try clear hk); (try clear hi); (try clear ho0); have hcz19_0 : w18.cell? ⟨gb267, 0, none⟩ = some (.int .i64 a1_0) := (blk_cell BK267.out 0).trans rfl; have hcz19_1 : w18.cell? ⟨gb267, 1, none⟩ = some (.string a1_1) := (blk_cell BK267.out 1).trans rfl; have hcz19_2 : w18.cell? ⟨gb267, 2, none⟩ = some (.slice A1_2 l1_2.length c1_2) := (blk_cell BK267.out 2).trans rfl; have hfz19_0 := blk_frozen BK267.out 0; have hfz19_1 := blk_frozen BK267.out 1; have hfz19_2 := blk_frozen BK267.out 2) | ((with_reducible refine gate_callee (f := 20) rfl ?_); refine goesL_ (some 27) rfl rfl Try.func20 (by kernel_rfl) rfl #[.slice A0 l0.length c0, .agg #[.int .i64 a1_0, .string a1_1, .slice A1_2 l1_2.length c1_2]] rfl (by (try simp only [List.map_toArray, List.map_cons, List.map_nil]); first | done | rfl | (simp only [List.length_drop, List.length_take]; rfl)) ?_; (with_reducible refine (marginaliaref07_Push.calls kj2 (fun k_ => k_ < w.heap.size) _ _ l0 a1_0 a1_1 (fun k_ => k_ < w.heap.size) _ _ l1_2 t276 _ ?side1 ?side2 A13.out).mono ?_); (case side1 => exact Kd.V_mk HC0.out (Kd.F_below (Kd.C_F k27_heap HR0.out) (by repeat (first | (with_reducible first | exact HB.out | apply below_alloc | apply pw_below_drewN | apply below_drew1 | refine below_set ?_ GE267.out) | exact HB.out)))); (case side2 => exact Kd.V_mk HC1_2.out (Kd.F_below (Kd.C_F k70_heap HR1_2.out) (by repeat (first | (with_reducible first | exact HB.out | apply below_alloc | apply pw_below_drewN | apply below_drew1 | refine below_set ?_ GE267.out) | exact HB.out)))); rintro e w20 ⟨v277, rfl, ho0, hb⟩; refine ⟨_, rfl, ?_⟩; have n0_ := Aside0.mk (Kd.N_elder' (by (with_reducible repeat (first | apply Kd.N_alloc | apply Kd.N_drewN | apply Kd.N_drew)); exact HO272.out) (Kd.N_base ho0) hb); have n1_ := Aside0.mk (Kd.N_elder' (by (with_reducible repeat (first | apply Kd.N_alloc | apply Kd.N_drewN | apply Kd.N_drew)); exact HO275.out) (Kd.N_base ho0) hb); have n2_ := Aside0.mk (Kd.N_lower (Kd.N_mono (ok' := fun k_ => some k_ ≠ (.slice Ao17 t270.length co17 : Value).ownBlock ∧ some k_ ≠ (v274 : Value).ownBlock ∧ k_ ≠ gb267) ho0 (fun k_ hk_ => ⟨Or.elim hk_ (fun hs_ => Or.elim hs_ (fun hs_ => fun e_ => Nat.not_le.2 hs_ (Kd.N_base HO272.out k_ e_.symm)) (fun hs_ => fun e_ => Nat.not_le.2 hs_ (Kd.N_base HO272.out k_ e_.symm))) (fun hn_ => (Kd.fresh' (Kd.N_lt (by (with_reducible repeat (first | apply Kd.N_alloc | apply Kd.N_drewN | apply Kd.N_drew)); exact HO272.out)) k_ hn_)), Or.elim hk_ (fun hs_ => Or.elim hs_ (fun hs_ => fun e_ => Nat.not_le.2 hs_ (Kd.N_base HO275.out k_ e_.symm)) (fun hs_ => fun e_ => Nat.not_le.2 hs_ (Kd.N_base HO275.out k_ e_.symm))) (fun hn_ => (Kd.fresh' (Kd.N_lt (by (with_reducible repeat (first | apply Kd.N_alloc | apply Kd.N_drewN | apply Kd.N_drew)); exact HO275.out)) k_ hn_)), Or.elim hk_ (fun hs_ => Or.elim hs_ (fun hs_ => fun e_ => Nat.not_le.2 hs_ (by rw [e_]; exact GW267.out)) (fun hs_ => fun e_ => Nat.not_le.2 hs_ (by rw [e_]; exact GW267.out))) (fun hn_ => (Kd.freshB (g := gb267) (o := .cells #[.int .i64 a1_0, .string a1_1, .slice A1_2 l1_2.length c1_2] 27 (0, 0)) (by (with_reducible repeat (first | refine blk_drewN ?_ _ | refine blk_drew ?_ | refine blk_alloc ?_ _)); exact BK267.out) k_ hn_))⟩)) (below_size (by repeat (first | (with_reducible first | exact HB.out | apply below_alloc | apply pw_below_drewN | apply below_drew1 | refine below_set ?_ GE267.out) | exact HB.out)))); have n3_ := Aside0.mk (blk_below (g := gb267) (o := .cells #[.int .i64 a1_0, .string a1_1, .slice A1_2 l1_2.length c1_2] 27 (0, 0)) (by (with_reducible repeat (first | refine blk_drewN ?_ _ | refine blk_drew ?_ | refine blk_alloc ?_ _)); exact BK267.out) hb); have n4_ := Aside0.mk (below_step (by repeat (first | (with_reducible first | exact HB.out | apply below_alloc | apply pw_below_drewN | apply below_drew1 | refine below_set ?_ GE267.out) | exact HB.out)) hb); clear HO272; clear HO275; clear BK267; clear HB; have HO272 := n0_; have HO275 := n1_; have HO278 := n2_; have BK267 := n3_; have HB := n4_; clear n0_ n1_ n2_ n3_ n4_; (try clear hb); (try clear hb2); (try clear hk); (try clear hi); (try clear ho0); obtain ⟨Ao21, co21, eo21⟩ := Kd.N_slice HO275.out; subst eo21; obtain ⟨Ao22, co22, eo22⟩ := Kd.N_slice HO278.out; subst eo22) | ((with_reducible refine gate_callee (f := 19) rfl ?_); refine goesL_ (some 28) rfl rfl Try.func19 (by kernel_rfl) rfl #[.slice Ao21 t273.length co21, .slice Ao22 t276.length co22] rfl (by (try simp only [List.map_toArray, List.map_cons, List.map_nil]); first | done | rfl | (simp only [List.length_drop, List.length_take]; rfl)) ?_; (with_reducible refine (marginaliaref07_Same.calls kj2 _ _ t273 _ _ t276 t279 _ ?side1 ?side2 ?side3 ?side4 A14.out).mono ?_); (case side1 => repeat (first | exact (Kd.N_reads' HO275.out).2.2 | (with_reducible refine Kd.C_alloc ?_ _) | (with_reducible refine Kd.C_drewN ?_ _) | (with_reducible refine Kd.C_drew ?_))); (case side2 => exact (Kd.N_reads' HO275.out).2.1); (case side3 => repeat (first | exact (Kd.N_reads' HO278.out).2.2 | (with_reducible refine Kd.C_alloc ?_ _) | (with_reducible refine Kd.C_drewN ?_ _) | (with_reducible refine Kd.C_drew ?_))); (case side4 => exact (Kd.N_reads' HO278.out).2.1); rintro e w23 ⟨rfl, hb⟩; refine ⟨_, rfl, ?_⟩; have n0_ := Aside0.mk (Kd.N_below (by (with_reducible repeat (first | apply Kd.N_alloc | apply Kd.N_drewN | apply Kd.N_drew)); exact HO272.out) hb); have n1_ := Aside0.mk (Kd.N_below (by (with_reducible repeat (first | apply Kd.N_alloc | apply Kd.N_drewN | apply Kd.N_drew)); exact HO275.out) hb); have n2_ := Aside0.mk (Kd.N_below (by (with_reducible repeat (first | apply Kd.N_alloc | apply Kd.N_drewN | apply Kd.N_drew)); exact HO278.out) hb); have n3_ := Aside0.mk (blk_below (g := gb267) (o := .cells #[.int .i64 a1_0, .string a1_1, .slice A1_2 l1_2.length c1_2] 27 (0, 0)) (by (with_reducible repeat (first | refine blk_drewN ?_ _ | refine blk_drew ?_ | refine blk_alloc ?_ _)); exact BK267.out) hb); have n4_ := Aside0.mk (below_step (by repeat (first | (with_reducible first | exact HB.out | apply below_alloc | apply pw_below_drewN | apply below_drew1 | refine below_set ?_ GE267.out) | exact HB.out)) hb); clear HO272; clear HO275; clear HO278; clear BK267; clear HB; have HO272 := n0_; have HO275 := n1_; have HO278 := n2_; have BK267 := n3_; have HB := n4_; clear n0_ n1_ n2_ n3_ n4_; (try clear hb); (try clear hb2); (try clear hk); (try clear hi)))
        go_loopg [8] kj2 (fun kq v8 w' => ∃ (x6_2 : List (S27)) (x8_2 : Int) (x268001_2 : ByteArray), v8 = .int .i64 x8_2 ∧ Aside0 (marginalialaw07_MarksPush.l0 kq l0 t270 x6_2 t279 x8_2 = some r) ∧ Aside0 (kq ≤ kj2) ∧ Aside0 (Kd.N k27 27 w' w.heap.size (fun k_ => some k_ ≠ ((.slice Ao21 t273.length co21) : Value).ownBlock ∧ k_ ≠ gb267) (.slice Ao17 t270.length co17) t270) ∧ Aside0 (Kd.N k27 27 w' w.heap.size (fun k_ => k_ ≠ gb267) (.slice Ao21 t273.length co21) x6_2) ∧ Aside0 (w'.heap[gb267]? = some (.cells #[.int .i64 a1_0, .string x268001_2, (.slice A1_2 l1_2.length c1_2)] 27 (0, 0))) ∧ Aside0 (Below w.heap.size w w'))
        case atStart => exact ⟨(t273), (0), (a1_1), (by first | rfl | (simp; done) | (simp [*]; done)), H', ⟨Nat.le_refl _⟩, ⟨by (with_reducible repeat (first | apply Kd.N_alloc | apply Kd.N_drewN | apply Kd.N_drew)); exact Kd.N_mono HO272.out (fun _ hk => ⟨hk.1.2, hk.1.1⟩)⟩, ⟨by (with_reducible repeat (first | apply Kd.N_alloc | apply Kd.N_drewN | apply Kd.N_drew)); exact Kd.N_mono HO275.out (fun _ hk => hk.1)⟩, ⟨by (with_reducible repeat (first | refine blk_drewN ?_ _ | refine blk_drew ?_ | refine blk_alloc ?_ _)); exact BK267.out⟩, ⟨by repeat (first | (with_reducible first | exact HB.out | apply below_alloc | apply pw_below_drewN | apply below_drew1 | refine below_set ?_ GE267.out) | exact HB.out)⟩⟩
        case round =>
          clear H'
          try clear c1
          try clear c2
          try clear p2
          try clear c4
          try clear c6
          try clear c8
          try clear c13
          try clear c16
          try clear c17
          try clear c18
          try clear c19
          try clear c20
          try clear hcz16_0
          try clear hcz16_1
          try clear hcz16_2
          try clear hcz19_0
          try clear hcz19_1
          try clear hcz19_2
          try clear hcz7_0
          try clear hcz7_1
          try clear hcz7_2
          try clear hfz16_0
          try clear hfz16_1
          try clear hfz16_2
          try clear hfz19_0
          try clear hfz19_1
          try clear hfz19_2
          try clear hfz7_0
          try clear hfz7_1
          try clear hfz7_2
          try clear p2
          obtain ⟨x6_2, x8_2, x268001_2, rfl, HA, HK2, HO_5, HO_6, BK267, HB⟩ := hrel
          have hl6_2 := (Kd.N_reads' HO_6.out).1
          rw [hl6_2] at HO_6
          (try simp only [hl6_2])
          (try simp only [hl6_2] at BK267)
          (try simp only [hl6_2] at HO_5)
          cases gk with
          | zero => exact absurd HA.out (by simp [marginalialaw07_MarksPush.l0])
          | succ k2 =>
            have H := HA.out
            clear HA
            simp only [marginalialaw07_MarksPush.l0] at H
            by_cases c24 : x8_2 < (x6_2.length : Int)
            · rw [if_pos c24] at H
              have c24b0 : decide (x8_2 < (x6_2.length : Int)) = true := decide_eq_true c24
              clear c24
              by_cases c25 : 0 ≤ x8_2
              · rw [if_pos c25] at H
                have c25b0 : decide (0 ≤ x8_2) = true := decide_eq_true c25
                clear c25
                obtain ⟨y280, hy280⟩ : ∃ y_ : List (S27), y_ = (x6_2.set (x8_2 : Int).toNat (⟨(rd_T27 x6_2 x8_2).f0, (⟨#[115, 112, 111, 105, 108, 116]⟩ : ByteArray), (rd_T27 x6_2 x8_2).f2⟩ : S27)) := ⟨_, rfl⟩
                replace H : (marginalialaw07_MarksPush.l0 k2 l0 t270 y280 t279 (wrap64 (x8_2 + 1))) = some r := by first | (rw [hy280]; with_reducible exact H) | (have H2_ := (Option.bind_some _ _).symm.trans H; rw [hy280]; with_reducible exact H2_) | (have H2_ := (Option.bind_some _ _).symm.trans H; with_reducible exact H2_) | with_reducible exact H | (rw [hy280]; exact H) | exact H
                have Ny280 := Aside0.mk hy280
                clear hy280
                have H' := Aside0.mk H
                clear H
                have p26 : 0 ≤ (x8_2 : Int) := of_decide_eq_true (by first | (with_reducible assumption) | assumption)
                have q26 : (x8_2 : Int) < ((x6_2.length : Int) : Int) := of_decide_eq_true (by first | (with_reducible assumption) | assumption)
                obtain ⟨go26, co26, eo26, gb26, gl26, cl26, HG26⟩ := Kd.N_form HO_6.out (by omega)
                (first | cases eo26 | (injection eo26 with ea_ en_ ec_; (first | subst ea_ | (injection ea_ with ea_; subst ea_)); subst ec_; clear en_))
                have GB26 := Aside0.mk gb26
                have GG26 := Aside0.mk HG26
                clear gb26 gl26 HG26
                obtain ⟨ce26, hcl26, hM26, hcc26, hfr26⟩ := Kd.N_elem HO_6.out z27 (x8_2 : Int) p26 q26
                obtain ⟨ua26_2, uc26_2, rfl, ul26_2, ge26_2⟩ := k27_openF hM26
                have hx26_0 : wr.cell? ⟨go26, (x8_2 : Int).toNat * 3, none⟩ = some (.int .i64 ((rd_T27 x6_2 x8_2).f0)) := hcc26 0 _ rfl
                have hx26_1 : wr.cell? ⟨go26, (x8_2 : Int).toNat * 3 + 1, none⟩ = some (.string ((rd_T27 x6_2 x8_2).f1)) := hcc26 1 _ rfl
                have hx26_2 : wr.cell? ⟨go26, (x8_2 : Int).toNat * 3 + 2, none⟩ = some (.slice ua26_2 ((rd_T27 x6_2 x8_2).f2).length uc26_2) := hcc26 2 _ rfl
                have hf26_0 : wr.frozen? ⟨go26, (x8_2 : Int).toNat * 3, none⟩ = false := hfr26 0
                have hf26_1 : wr.frozen? ⟨go26, (x8_2 : Int).toNat * 3 + 1, none⟩ = false := hfr26 1
                have hf26_2 : wr.frozen? ⟨go26, (x8_2 : Int).toNat * 3 + 2, none⟩ = false := hfr26 2
                clear hcl26 hcc26 hfr26 hM26
                replace p26 := eq_true p26
                replace q26 := eq_true q26
                have HX27 := Aside0.mk (show Kd.N k27 27 wr w.heap.size (fun k_ => k_ ≠ gb267) (.slice (some ⟨go26, 0, none⟩) x6_2.length co21) x6_2 from (by (with_reducible repeat (first | apply Kd.N_alloc | apply Kd.N_drewN | apply Kd.N_drew)); exact HO_6.out))
                obtain ⟨ce27, hcl27, hM27, hcc27, hfr27⟩ := Kd.N_elem HX27.out z27 (x8_2 : Int) (of_decide_eq_true (by first | (with_reducible assumption) | assumption)) (by have h_ : (x8_2 : Int) < ((x6_2.length : Int) : Int) := of_decide_eq_true (by first | (with_reducible assumption) | assumption); first | exact h_ | (have e_ := (Kd.N_reads' HO_6.out).1; omega) | simpa using h_)
                obtain ⟨ua27_2, uc27_2, rfl, ul27_2, ge27_2⟩ := k27_openF hM27
                have HP27 := Kd.N_seg HX27.out (x8_2 : Int) (of_decide_eq_true (by first | (with_reducible assumption) | assumption)) (by have h_ : (x8_2 : Int) < ((x6_2.length : Int) : Int) := of_decide_eq_true (by first | (with_reducible assumption) | assumption); first | exact h_ | (have e_ := (Kd.N_reads' HO_6.out).1; omega) | simpa using h_) (seg := [.string (⟨#[115, 112, 111, 105, 108, 116]⟩ : ByteArray)]) (j := 1) hcl27 hcc27 (show 2 ≤ 3 from by decide) (x' := (⟨(rd_T27 x6_2 x8_2).f0, (⟨#[115, 112, 111, 105, 108, 116]⟩ : ByteArray), (rd_T27 x6_2 x8_2).f2⟩ : S27)) (k27_mkF _ _ (⟨(rd_T27 x6_2 x8_2).f0, (⟨#[115, 112, 111, 105, 108, 116]⟩ : ByteArray), (rd_T27 x6_2 x8_2).f2⟩ : S27) ul27_2 ge27_2) (fun _ hk => hk)
                have hx27_1 := hcc27 1 _ rfl
                (try simp only [show (k27).sz = 3 from rfl, Nat.mul_one, Nat.add_zero] at hx27_1)
                have hf27_1 := hfr27 1
                (try simp only [show (k27).sz = 3 from rfl, Nat.mul_one, Nat.add_zero] at hf27_1)
                clear hcl27 hcc27 hfr27 hM27
                go_wp2_with (first | ((with_reducible refine gate_store (t := 9) (p := 38) rfl ?_); refine store_event (t := 9) (p := 38) (v := ?vo_w28) (w1 := (wr.setCell ⟨go26, (x8_2 : Int).toNat * 3 + 1, none⟩ (.string (⟨#[115, 112, 111, 105, 108, 116]⟩ : ByteArray)))) ?hg ?ho ?hn ?hr ?_; (case ho => rfl); (case hg => rfl); (case hn => rfl); (case hr => first | (go_simp; done) | (go_simp; rfl)); intro w28 hw; have hg : wr.grownBy w28 (some go26) := (by rw [hw]; exact HP27.2); have hp_ : Kd.N k27 27 w28 w.heap.size (fun k_ => k_ ≠ gb267) (.slice (some ⟨go26, 0, none⟩) x6_2.length co21) y280 := (by rw [hw, Ny280.out]; exact HP27.1); clear HP27; have n0_ := Aside0.mk (Kd.N_afterv (v := (.slice (some ⟨go26, 0, none⟩) x6_2.length co21)) (v1 := (.slice (some ⟨go26, 0, none⟩) x6_2.length co21)) (ok := (fun k_ => k_ ≠ gb267)) (by (with_reducible repeat (first | apply Kd.N_alloc | apply Kd.N_drewN | apply Kd.N_drew)); exact Kd.N_mono HO_5.out (fun _ hk => ⟨hk.2, hk.1⟩)) hg (.inl rfl)); have n1_ := Aside0.mk (hp_); have n2_ := Aside0.mk (blk_grown (g := gb267) (o := .cells #[.int .i64 a1_0, .string x268001_2, .slice A1_2 l1_2.length c1_2] 27 (0, 0)) (by (with_reducible repeat (first | refine blk_drewN ?_ _ | refine blk_drew ?_ | refine blk_alloc ?_ _)); exact BK267.out) hg (Kd.N_away HO_6.out (fun _ hk => hk))); have n3_ := Aside0.mk ((by rw [hw]; exact below_set (HB.out) GB26.out : Below w.heap.size w w28)); clear HO_5; clear HO_6; clear BK267; clear HB; have HO_5 := n0_; have HO_6 := n1_; have BK267 := n2_; have HB := n3_; clear n0_ n1_ n2_ n3_; clear hg hw hp_))
                (try simp only [← hl6_2])
                go_roundg k2
                case measure => have := HJ2.out; have := HK2.out; omega
                case rel => exact ⟨(y280), (wrap64 (x8_2 + 1)), (x268001_2), (by first | rfl | (simp; done) | (simp [*]; done)), H', ⟨by have := HJ2.out; have := HK2.out; omega⟩, ⟨by (try simp only [hl6_2]); (with_reducible repeat (first | apply Kd.N_alloc | apply Kd.N_drewN | apply Kd.N_drew)); exact Kd.N_mono HO_5.out (fun _ hk => ⟨hk.2, hk.1⟩)⟩, ⟨by (try simp only [hl6_2]); (with_reducible repeat (first | apply Kd.N_alloc | apply Kd.N_drewN | apply Kd.N_drew)); exact HO_6.out⟩, ⟨by (try simp only [hl6_2]); (with_reducible repeat (first | refine blk_drewN ?_ _ | refine blk_drew ?_ | refine blk_alloc ?_ _)); exact BK267.out⟩, ⟨by repeat (first | (with_reducible first | exact HB.out | apply below_alloc | apply pw_below_drewN | apply below_drew1 | refine below_set ?_ GE267.out) | exact HB.out)⟩⟩
              · rw [if_neg c25] at H
                exact absurd H (by simp)
            · rw [if_neg c24] at H
              have c24b0 : decide (x8_2 < (x6_2.length : Int)) = false := decide_eq_false c24
              clear c24
              replace H := Option.bind_eq_some_iff.mp H
              obtain ⟨t281, A290, H⟩ := H
              replace H : (if t281 = true then (if t279 = true then ((marginaliaref07_Same.f k2 t270 l0).bind fun t282 => (some t282)) else (some false)) else (some false)) = some r := H
              have A29 := Aside0.mk A290
              clear A290
              by_cases c30 : t281 = true
              · subst c30
                have H1 : (if t279 = true then ((marginaliaref07_Same.f k2 t270 l0).bind fun t282 => (some t282)) else (some false)) = some r := by rw [if_pos rfl] at H; exact H
                clear H
                have H := H1
                clear H1
                by_cases c31 : t279 = true
                · subst c31
                  have H1 : ((marginaliaref07_Same.f k2 t270 l0).bind fun t282 => (some t282)) = some r := by rw [if_pos rfl] at H; exact H
                  clear H
                  have H := H1
                  clear H1
                  replace H := Option.bind_eq_some_iff.mp H
                  obtain ⟨t282, A320, H⟩ := H
                  replace H : (some t282) = some r := H
                  have A32 := Aside0.mk A320
                  clear A320
                  obtain rfl := Option.some.inj H
                  go_wp2_with (first | ((with_reducible refine gate_callee (f := 13) rfl ?_); refine goesL_ (some 39) rfl rfl Try.func13 (by kernel_rfl) rfl #[] rfl (by (try simp only [List.map_toArray, List.map_cons, List.map_nil]); first | done | rfl | (simp only [List.length_drop, List.length_take]; rfl)) ?_; (with_reducible refine (marginalialaw07_alive.calls k2  true _ A29.out).mono ?_); rintro e w33 ⟨rfl, hb⟩; refine ⟨_, rfl, ?_⟩; have n0_ := Aside0.mk (Kd.N_below (by (with_reducible repeat (first | apply Kd.N_alloc | apply Kd.N_drewN | apply Kd.N_drew)); exact HO_5.out) hb); have n1_ := Aside0.mk (Kd.N_below (by (with_reducible repeat (first | apply Kd.N_alloc | apply Kd.N_drewN | apply Kd.N_drew)); exact HO_6.out) hb); have n2_ := Aside0.mk (blk_below (g := gb267) (o := .cells #[.int .i64 a1_0, .string x268001_2, .slice A1_2 l1_2.length c1_2] 27 (0, 0)) (by (with_reducible repeat (first | refine blk_drewN ?_ _ | refine blk_drew ?_ | refine blk_alloc ?_ _)); exact BK267.out) hb); have n3_ := Aside0.mk (below_step (by repeat (first | (with_reducible first | exact HB.out | apply below_alloc | apply pw_below_drewN | apply below_drew1 | refine below_set ?_ GE267.out) | exact HB.out)) hb); clear HO_5; clear HO_6; clear BK267; clear HB; have HO_5 := n0_; have HO_6 := n1_; have BK267 := n2_; have HB := n3_; clear n0_ n1_ n2_ n3_; (try clear hb); (try clear hb2); (try clear hk); (try clear hi)) | (go_at_call 19; (with_reducible refine (marginaliaref07_Same.calls k2 _ _ t270 _ _ l0 t282 _ ?side1 ?side2 ?side3 ?side4 A32.out).mono ?_); (case side1 => repeat (first | exact (Kd.N_reads' HO_5.out).2.2 | (with_reducible refine Kd.C_alloc ?_ _) | (with_reducible refine Kd.C_drewN ?_ _) | (with_reducible refine Kd.C_drew ?_))); (case side2 => exact (Kd.N_reads' HO_5.out).2.1); (case side3 => repeat (first | exact (Kd.C_below HR0.out HB.out) | (with_reducible refine Kd.C_alloc ?_ _) | (with_reducible refine Kd.C_drewN ?_ _) | (with_reducible refine Kd.C_drew ?_))); (case side4 => exact HC0.out); rintro e w34 ⟨rfl, hb⟩; have n0_ := Aside0.mk (Kd.N_below (by (with_reducible repeat (first | apply Kd.N_alloc | apply Kd.N_drewN | apply Kd.N_drew)); exact HO_5.out) hb); have n1_ := Aside0.mk (Kd.N_below (by (with_reducible repeat (first | apply Kd.N_alloc | apply Kd.N_drewN | apply Kd.N_drew)); exact HO_6.out) hb); have n2_ := Aside0.mk (blk_below (g := gb267) (o := .cells #[.int .i64 a1_0, .string x268001_2, .slice A1_2 l1_2.length c1_2] 27 (0, 0)) (by (with_reducible repeat (first | refine blk_drewN ?_ _ | refine blk_drew ?_ | refine blk_alloc ?_ _)); exact BK267.out) hb); have n3_ := Aside0.mk (below_step (by repeat (first | (with_reducible first | exact HB.out | apply below_alloc | apply pw_below_drewN | apply below_drew1 | refine below_set ?_ GE267.out) | exact HB.out)) hb); clear HO_5; clear HO_6; clear BK267; clear HB; have HO_5 := n0_; have HO_6 := n1_; have BK267 := n2_; have HB := n3_; clear n0_ n1_ n2_ n3_; (try clear hb); (try clear hb2); (try clear hk); (try clear hi)))
                  go_ret
                  exact ⟨by first | rfl | (simp [errW_none, errW_some] <;> rfl) | (simp [*, errW_none, errW_some] <;> rfl), by repeat (first | (with_reducible first | exact HB.out | apply below_alloc | apply pw_below_drewN | apply below_drew1 | refine below_set ?_ GE267.out) | exact HB.out)⟩
                · replace c31 := Bool.eq_false_iff.mpr c31
                  subst c31
                  have H1 : (some false) = some r := by rw [if_neg (show ¬ (false = true) by decide)] at H; exact H
                  clear H
                  have H := H1
                  clear H1
                  obtain rfl := Option.some.inj H
                  go_wp2_with (first | ((with_reducible refine gate_callee (f := 13) rfl ?_); refine goesL_ (some 39) rfl rfl Try.func13 (by kernel_rfl) rfl #[] rfl (by (try simp only [List.map_toArray, List.map_cons, List.map_nil]); first | done | rfl | (simp only [List.length_drop, List.length_take]; rfl)) ?_; (with_reducible refine (marginalialaw07_alive.calls k2  true _ A29.out).mono ?_); rintro e w35 ⟨rfl, hb⟩; refine ⟨_, rfl, ?_⟩; have n0_ := Aside0.mk (Kd.N_below (by (with_reducible repeat (first | apply Kd.N_alloc | apply Kd.N_drewN | apply Kd.N_drew)); exact HO_5.out) hb); have n1_ := Aside0.mk (Kd.N_below (by (with_reducible repeat (first | apply Kd.N_alloc | apply Kd.N_drewN | apply Kd.N_drew)); exact HO_6.out) hb); have n2_ := Aside0.mk (blk_below (g := gb267) (o := .cells #[.int .i64 a1_0, .string x268001_2, .slice A1_2 l1_2.length c1_2] 27 (0, 0)) (by (with_reducible repeat (first | refine blk_drewN ?_ _ | refine blk_drew ?_ | refine blk_alloc ?_ _)); exact BK267.out) hb); have n3_ := Aside0.mk (below_step (by repeat (first | (with_reducible first | exact HB.out | apply below_alloc | apply pw_below_drewN | apply below_drew1 | refine below_set ?_ GE267.out) | exact HB.out)) hb); clear HO_5; clear HO_6; clear BK267; clear HB; have HO_5 := n0_; have HO_6 := n1_; have BK267 := n2_; have HB := n3_; clear n0_ n1_ n2_ n3_; (try clear hb); (try clear hb2); (try clear hk); (try clear hi)))
                  go_ret
                  exact ⟨by first | rfl | (simp [errW_none, errW_some] <;> rfl) | (simp [*, errW_none, errW_some] <;> rfl), by repeat (first | (with_reducible first | exact HB.out | apply below_alloc | apply pw_below_drewN | apply below_drew1 | refine below_set ?_ GE267.out) | exact HB.out)⟩
              · replace c30 := Bool.eq_false_iff.mpr c30
                subst c30
                have H1 : (some false) = some r := by rw [if_neg (show ¬ (false = true) by decide)] at H; exact H
                clear H
                have H := H1
                clear H1
                obtain rfl := Option.some.inj H
                go_wp2_with (first | ((with_reducible refine gate_callee (f := 13) rfl ?_); refine goesL_ (some 39) rfl rfl Try.func13 (by kernel_rfl) rfl #[] rfl (by (try simp only [List.map_toArray, List.map_cons, List.map_nil]); first | done | rfl | (simp only [List.length_drop, List.length_take]; rfl)) ?_; (with_reducible refine (marginalialaw07_alive.calls k2  false _ A29.out).mono ?_); rintro e w36 ⟨rfl, hb⟩; refine ⟨_, rfl, ?_⟩; have n0_ := Aside0.mk (Kd.N_below (by (with_reducible repeat (first | apply Kd.N_alloc | apply Kd.N_drewN | apply Kd.N_drew)); exact HO_5.out) hb); have n1_ := Aside0.mk (Kd.N_below (by (with_reducible repeat (first | apply Kd.N_alloc | apply Kd.N_drewN | apply Kd.N_drew)); exact HO_6.out) hb); have n2_ := Aside0.mk (blk_below (g := gb267) (o := .cells #[.int .i64 a1_0, .string x268001_2, .slice A1_2 l1_2.length c1_2] 27 (0, 0)) (by (with_reducible repeat (first | refine blk_drewN ?_ _ | refine blk_drew ?_ | refine blk_alloc ?_ _)); exact BK267.out) hb); have n3_ := Aside0.mk (below_step (by repeat (first | (with_reducible first | exact HB.out | apply below_alloc | apply pw_below_drewN | apply below_drew1 | refine below_set ?_ GE267.out) | exact HB.out)) hb); clear HO_5; clear HO_6; clear BK267; clear HB; have HO_5 := n0_; have HO_6 := n1_; have BK267 := n2_; have HB := n3_; clear n0_ n1_ n2_ n3_; (try clear hb); (try clear hb2); (try clear hk); (try clear hi)))
                go_ret
                exact ⟨by first | rfl | (simp [errW_none, errW_some] <;> rfl) | (simp [*, errW_none, errW_some] <;> rfl), by repeat (first | (with_reducible first | exact HB.out | apply below_alloc | apply pw_below_drewN | apply below_drew1 | refine below_set ?_ GE267.out) | exact HB.out)⟩

end Go.Proofs.Ytmdmoohkdkooaaa.M
