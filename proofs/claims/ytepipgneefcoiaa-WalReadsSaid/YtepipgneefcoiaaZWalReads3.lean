/- What the law WalReads rests on, part 3: words on memory, the functions that it reaches as plain Lean functions with the proofs that the machine's calls come to them, and the mathematics; no condition beyond those that each theorem names. -/
import Derived.Test.YtepipgneefcoiaaZWalReads2
set_option linter.unusedVariables false
set_option linter.unusedSimpArgs false
namespace Go.Proofs.Ytepipgneefcoiaa.D
open Go.RowKit Go.Proofs.YtepipgneefcoiaaW.PrintWords Go.Proofs.YtepipgneefcoiaaW.PrintLast Go.Proofs.YtepipgneefcoiaaW.PrintMore
mutual
def cell_Join.l0 : Nat → List (S106) → List Int → List (S106) → Int → Int → Option (List Int × Bool)
  | 0, _, _, _, _, _ => none
  | k + 1, x0, x4, x7, x8, x9 => if x9 < x8 then (if 0 ≤ x9 then (if x9 < (x7.length : Int) then (if 0 < (x0.length : Int) then ((cell_goesOn.f ((rd_T106 x7 x9).f0) ((rd_T106 x7 x9).f1) ((rd_T106 x7 x9).f2) ((rd_T106 x7 x9).f3) ((rd_T106 x7 x9).f4) ((rd_T106 x0 0).f0) ((rd_T106 x0 0).f1) ((rd_T106 x0 0).f2) ((rd_T106 x0 0).f3) ((rd_T106 x0 0).f4) x9 (x0.length : Int)).bind fun t154 => (if t154 = true then (if (((rd_T106 x7 x9).f4).length : Int) = 0 then (cell_Join.j1 k x0 x4 x7 x8 x9 true ((rd_T106 x7 x9).f0) ((rd_T106 x7 x9).f1) ((rd_T106 x7 x9).f2) ((rd_T106 x7 x9).f3) ((rd_T106 x7 x9).f4)) else (cell_Join.j1 k x0 x4 x7 x8 x9 (decide ((((rd_T106 x7 x9).f4).length : Int) > 39)) ((rd_T106 x7 x9).f0) ((rd_T106 x7 x9).f1) ((rd_T106 x7 x9).f2) ((rd_T106 x7 x9).f3) ((rd_T106 x7 x9).f4))) else (cell_Join.j1 k x0 x4 x7 x8 x9 true ((rd_T106 x7 x9).f0) ((rd_T106 x7 x9).f1) ((rd_T106 x7 x9).f2) ((rd_T106 x7 x9).f3) ((rd_T106 x7 x9).f4)))) else (none)) else (none)) else (none)) else (if (x0.length : Int) > 65535 then (some (([] : List Int), false)) else (some (x4, decide ((x0.length : Int) > 0))))
def cell_Join.j1 : Nat → List (S106) → List Int → List (S106) → Int → Int → Bool → Int → Int → Int → Int → List Int → Option (List Int × Bool)
  | 0, _, _, _, _, _, _, _, _, _, _, _ => none
  | k + 1, x0, x4, x7, x8, x9, x34, x153000, x153001, x153002, x153003, x153004 => if x34 = true then (some (([] : List Int), false)) else (if x4.length + x153004.length < 140737488355328 then (cell_Join.l0 k x0 (x4 ++ x153004) x7 x8 (wrap64 (x9 + 1))) else (none))
end
def cell_Join.f (k : Nat) (l0 : List (S106)) : Option (List Int × Bool) := cell_Join.l0 k l0 ([] : List Int) l0 (l0.length : Int) 0
def cell_Join.T5 : Bool × List (List Nat × List Nat) := (true, [([], []), ([], []), ([1], [1]), ([2], [2]), ([], []), ([], []), ([5], [5]), ([0, 3, 4, 6], [0, 3, 4, 6]), ([7], [7]), ([8, 7], [8]), ([9], [9]), ([10, 9], [9, 10]), ([11, 9], [9, 11]), ([12, 9], [9, 12]), ([9, 13], [9, 13]), ([14, 9], [14]), ([15], [15]), ([16, 15], [15, 16]), ([17, 15], [15, 17]), ([18, 15], [15, 18]), ([15, 19], [15, 19])])
def cell_Join.B5 : List Nat := [0, 0, 2, 6, 0, 0, 32, 127, 255, 511, 1023, 2047, 4095, 8191, 16383, 32767, 65535, 131071, 262143, 524287, 1048575]
theorem cell_Join.tab5 : rtab .any (opsOf Try.f80 5) = cell_Join.T5 := by kernel_rfl
theorem cell_Join.bits5 : waitsOk cell_Join.T5.2 cell_Join.B5 = true := by kernel_rfl
set_option maxHeartbeats 8000000 in
set_option maxRecDepth 100000 in
theorem cell_Join.calls (k : Nat) (A0 : Option Addr) (c0 : Nat) (l0 : List (S106)) (r1 : List Int) (r2 : Bool) (w : World) (hr0 : Kd.C k106 w A0 l0.length l0) (hc0 : l0.length ≤ c0) (h : cell_Join.f k l0 = some (r1, r2)) :
    Calls Try.prog 80 #[.slice A0 l0.length c0] w fun e w' => ∃ v0_ : Value, e = .returned (.tuple #[v0_, .bool r2]) ∧ Kd.R (Kd.int .u8) 5 w' w.heap.size (fun _ => True) v0_ r1 ∧ Below w.heap.size w w' := by
 have hu106 := Try.underlying106
 have HR0 := Aside0.mk hr0
 have HC0 := Aside0.mk hc0
 clear hr0 hc0
 have HB := Aside0.mk (Below.refl w.heap.size w)
 have H : (cell_Join.l0 k l0 ([] : List Int) l0 (l0.length : Int) 0) = some (r1, r2) := h
 clear h
 have H' := Aside0.mk H
 clear H
 go_enter Try.func80, Try.ntmps80
 go_wp2
 go_loopg [4, 9] k (fun kq v4 v9 w' => ∃ (x4_1 : List Int) (x9_1 : Int), v9 = .int .i64 x9_1 ∧ Aside0 (cell_Join.l0 kq l0 x4_1 l0 (l0.length : Int) x9_1 = some (r1, r2)) ∧ Aside0 (kq ≤ k) ∧ Aside0 (Kd.R (Kd.int .u8) 5 w' w.heap.size (fun _ => True) v4 x4_1) ∧ Aside0 (Below w.heap.size w w'))
 case atStart => exact ⟨(([] : List Int)), (0), sm, H', ⟨Nat.le_refl _⟩, ⟨rn⟩, ⟨b_w HB⟩⟩
 clear H'
 obtain ⟨x4_1, x9_1, rfl, HA, HK1, HO_4, HB⟩ := hrel
 cases gk with
 | zero => exact absurd HA.out (by simp [cell_Join.l0])
 | succ k1 => ?_
 have H := HA.out
 clear HA
 simp only [cell_Join.l0] at H
 by_cases c2 : x9_1 < (l0.length : Int)
 rotate_left
 · rw [if_neg c2] at H
   have c2b0 := decide_eq_false c2
   clear c2
   by_cases c25 : (l0.length : Int) > 65535
   · rw [if_pos c25] at H
     have c25b0 := decide_eq_true c25
     have c25b1 : decide (65535 < l0.length) = true := decide_eq_true (by omega)
     clear c25
     simp only [Option.some.injEq, Prod.mk.injEq] at H
     obtain ⟨rfl, rfl⟩ := H
     go_wp2
     go_ret2
     exact ⟨_, er, rn, b_w HB⟩
   rw [if_neg c25] at H
   have c25b0 := decide_eq_false c25
   have c25b1 : decide (65535 < l0.length) = false := decide_eq_false (by omega)
   clear c25
   simp only [Option.some.injEq, Prod.mk.injEq] at H
   obtain ⟨rfl, rfl⟩ := H
   go_wp2
   go_ret2
   exact ⟨_, er, kR' HO_4, b_w HB⟩
 rw [if_pos c2] at H
 have c2b0 := decide_eq_true c2
 clear c2
 obtain ⟨c3, H⟩ := ifN H
 have c3b0 := decide_eq_true c3
 clear c3
 obtain ⟨c4, H⟩ := ifN H
 have c4b0 := decide_eq_true c4
 clear c4
 have HC5 := Aside0.mk H
 clear H
 have p151 : 0 ≤ (x9_1 : Int) := od
 have q151 : x9_1 < (l0.length : Int) := od
 obtain ⟨ad151, A151_4, c151_4, e151, hx151_0, hx151_1, hx151_2, hx151_3, hx151_4, hl151_4, hi151_4⟩ := at_T106 HR0.out x9_1 p151 q151
 cases e151
 replace hx151_0 := xb HB hx151_0
 replace hx151_1 := xb HB hx151_1
 replace hx151_2 := xb HB hx151_2
 replace hx151_3 := xb HB hx151_3
 replace hx151_4 := xb HB hx151_4
 have HR151_4 := Aside0.mk hi151_4
 have HC151_4 := Aside0.mk hl151_4
 clear hi151_4 hl151_4
 replace p151 := eq_true p151
 replace q151 := eq_true q151
 go_upto_region 5 with (first | ((with_reducible refine gate_dst (N := 6) rfl ?_); (try (refine gate_guard (by rfl) ?_; dsimp only)); refine bx 6 #[.int .u64 0, .int .u64 0, .int .i64 0, .int .i64 0, .slice none 0 0] 106 ?_; intro gb152 hg w6 hbox hb; replace HO_4 := Aside0.mk (Kd.R_below (kR' HO_4) hb); have BK152 := Aside0.mk (hbox); have GW152 := gs HB hg; have GE152 := gs HB hg; replace HB := bs HB hb; clear hb hbox hg; obtain ⟨_,_,_,_,_,_,_,_,_,_⟩ := cz5 BK152.out))
 (try simp only [Act.put, List.setIfInBounds_toArray, List.set_cons_zero, List.set_cons_succ])
 go_cut [34] (fun v34 wc => ∃ (kq : Nat) (x34_4 : Bool), v34 = .bool x34_4 ∧ Aside0 (cell_Join.j1 kq l0 x4_1 l0 (l0.length : Int) x9_1 x34_4 ((rd_T106 l0 x9_1).f0) ((rd_T106 l0 x9_1).f1) ((rd_T106 l0 x9_1).f2) ((rd_T106 l0 x9_1).f3) ((rd_T106 l0 x9_1).f4) = some (r1, r2)) ∧ Aside0 (kq ≤ k1) ∧ Aside0 (Kd.R (Kd.int .u8) 5 wc w.heap.size (fun _ => True) u4 x4_1) ∧ Aside0 (wc.heap[gb152]? = some (.cells #[.int .u64 ((rd_T106 l0 x9_1).f0), .int .u64 ((rd_T106 l0 x9_1).f1), .int .i64 ((rd_T106 l0 x9_1).f2), .int .i64 ((rd_T106 l0 x9_1).f3), (.slice A151_4 ((rd_T106 l0 x9_1).f4).length c151_4)] 106 (0, 0))) ∧ Aside0 (Below w.heap.size w wc))
 case first =>
  have H := HC5.out
  clear HC5
  obtain ⟨c8, H⟩ := ifN H
  have c8b0 := decide_eq_true c8
  have c8b1 : decide (0 < l0.length) = true := decide_eq_true (by omega)
  clear c8
  (first | rw [c8b0] | (simp only [i64_w, i32_w]; rw [c8b0]) | skip)
  obtain ⟨t154, A9, H⟩ := bnd H
  by_cases c10 : t154 = true
  rotate_left
  · replace c10 := Bool.eq_false_iff.mpr c10
    subst c10
    replace H := fi H
    have H' := Aside0.mk H
    clear H
    try go_wp2
    have n0_ : Aside0 (Kd.R (Kd.int .u8) 5 (((((w6.setCell ⟨gb152, 0, none⟩ (.int .u64 ((rd_T106 l0 x9_1).f0))).setCell ⟨gb152, 1, none⟩ (.int .u64 ((rd_T106 l0 x9_1).f1))).setCell ⟨gb152, 2, none⟩ (.int .i64 ((rd_T106 l0 x9_1).f2))).setCell ⟨gb152, 3, none⟩ (.int .i64 ((rd_T106 l0 x9_1).f3))).setCell ⟨gb152, 4, none⟩ (.slice A151_4 ((rd_T106 l0 x9_1).f4).length c151_4)) w.heap.size (fun _ => True) u4 x4_1) := ⟨rR (Kd.R_mono (fR5 (tR HO_4 BK152) (fun _ hk => hk.2)) (fun _ hk => trivial))⟩
    have n1_ : Aside0 ((((((w6.setCell ⟨gb152, 0, none⟩ (.int .u64 ((rd_T106 l0 x9_1).f0))).setCell ⟨gb152, 1, none⟩ (.int .u64 ((rd_T106 l0 x9_1).f1))).setCell ⟨gb152, 2, none⟩ (.int .i64 ((rd_T106 l0 x9_1).f2))).setCell ⟨gb152, 3, none⟩ (.int .i64 ((rd_T106 l0 x9_1).f3))).setCell ⟨gb152, 4, none⟩ (.slice A151_4 ((rd_T106 l0 x9_1).f4).length c151_4)).heap[gb152]? = some (.cells #[.int .u64 ((rd_T106 l0 x9_1).f0), .int .u64 ((rd_T106 l0 x9_1).f1), .int .i64 ((rd_T106 l0 x9_1).f2), .int .i64 ((rd_T106 l0 x9_1).f3), .slice A151_4 ((rd_T106 l0 x9_1).f4).length c151_4] 106 (0, 0))) := ⟨bp BK152⟩
    have n2_ : Aside0 (Below w.heap.size w (((((w6.setCell ⟨gb152, 0, none⟩ (.int .u64 ((rd_T106 l0 x9_1).f0))).setCell ⟨gb152, 1, none⟩ (.int .u64 ((rd_T106 l0 x9_1).f1))).setCell ⟨gb152, 2, none⟩ (.int .i64 ((rd_T106 l0 x9_1).f2))).setCell ⟨gb152, 3, none⟩ (.int .i64 ((rd_T106 l0 x9_1).f3))).setCell ⟨gb152, 4, none⟩ (.slice A151_4 ((rd_T106 l0 x9_1).f4).length c151_4))) := ⟨b_w HB⟩
    (try clear HO_4)
    (try clear BK152)
    (try clear HB)
    generalize (((((w6.setCell ⟨gb152, 0, none⟩ (.int .u64 ((rd_T106 l0 x9_1).f0))).setCell ⟨gb152, 1, none⟩ (.int .u64 ((rd_T106 l0 x9_1).f1))).setCell ⟨gb152, 2, none⟩ (.int .i64 ((rd_T106 l0 x9_1).f2))).setCell ⟨gb152, 3, none⟩ (.int .i64 ((rd_T106 l0 x9_1).f3))).setCell ⟨gb152, 4, none⟩ (.slice A151_4 ((rd_T106 l0 x9_1).f4).length c151_4)) = w18 at n0_ n1_ n2_ ⊢
    have HO_4 := n0_
    have BK152 := n1_
    have HB := n2_
    clear n0_ n1_ n2_
    replace HO_4 := Aside0.mk (Kd.R_drew HO_4.out)
    replace BK152 := Aside0.mk (blk_drew BK152.out)
    replace HB := Aside0.mk (below_drew1 HB.out)
    have p153 : 0 ≤ (0 : Int) := (by omega)
    have q153 : 0 < (l0.length : Int) := od
    obtain ⟨ad153, A153_4, c153_4, e153, hx153_0, hx153_1, hx153_2, hx153_3, hx153_4, hl153_4, hi153_4⟩ := at_T106 HR0.out 0 p153 q153
    have hw153_4 := hx153_4
    (try rw [show ((0 : Int)).toNat = 0 from rfl] at hw153_4)
    (try rw [show 0 * 5 = 0 from rfl] at hw153_4)
    (try rw [Addr.add_zero'] at hw153_4)
    have hw153_3 := hx153_3
    (try rw [show ((0 : Int)).toNat = 0 from rfl] at hw153_3)
    (try rw [show 0 * 5 = 0 from rfl] at hw153_3)
    (try rw [Addr.add_zero'] at hw153_3)
    have hw153_2 := hx153_2
    (try rw [show ((0 : Int)).toNat = 0 from rfl] at hw153_2)
    (try rw [show 0 * 5 = 0 from rfl] at hw153_2)
    (try rw [Addr.add_zero'] at hw153_2)
    have hw153_1 := hx153_1
    (try rw [show ((0 : Int)).toNat = 0 from rfl] at hw153_1)
    (try rw [show 0 * 5 = 0 from rfl] at hw153_1)
    (try rw [Addr.add_zero'] at hw153_1)
    have hw153_0 := hx153_0
    (try rw [show ((0 : Int)).toNat = 0 from rfl] at hw153_0)
    (try rw [show 0 * 5 = 0 from rfl] at hw153_0)
    (try rw [Addr.add_zero'] at hw153_0)
    obtain rfl : ad151 = ad153 := (by injection e153)
    have qi153 : (0 < l0.length) = True := eq_true (by omega)
    (try rw [show ((0 : Int)).toNat = 0 from rfl] at hx153_0)
    (try rw [show 0 * 5 = 0 from rfl] at hx153_0)
    (try rw [Addr.add_zero'] at hx153_0)
    (try rw [show ((0 : Int)).toNat = 0 from rfl] at hx153_1)
    (try rw [show 0 * 5 = 0 from rfl] at hx153_1)
    (try rw [Addr.add_zero'] at hx153_1)
    (try rw [show ((0 : Int)).toNat = 0 from rfl] at hx153_2)
    (try rw [show 0 * 5 = 0 from rfl] at hx153_2)
    (try rw [Addr.add_zero'] at hx153_2)
    (try rw [show ((0 : Int)).toNat = 0 from rfl] at hx153_3)
    (try rw [show 0 * 5 = 0 from rfl] at hx153_3)
    (try rw [Addr.add_zero'] at hx153_3)
    (try rw [show ((0 : Int)).toNat = 0 from rfl] at hx153_4)
    (try rw [show 0 * 5 = 0 from rfl] at hx153_4)
    (try rw [Addr.add_zero'] at hx153_4)
    replace hx153_0 := xb HB hx153_0
    replace hx153_1 := xb HB hx153_1
    replace hx153_2 := xb HB hx153_2
    replace hx153_3 := xb HB hx153_3
    replace hx153_4 := xb HB hx153_4
    have HR153_4 := Aside0.mk hi153_4
    have HC153_4 := Aside0.mk hl153_4
    clear hi153_4 hl153_4
    replace p153 := eq_true p153
    replace q153 := eq_true q153
    refine start_ (n := 21) (S := fun w' => w'.cell? ⟨gb152, 0, none⟩ = some (.int .u64 ((rd_T106 l0 x9_1).f0)) ∧ w'.cell? ⟨gb152, 1, none⟩ = some (.int .u64 ((rd_T106 l0 x9_1).f1)) ∧ w'.cell? ⟨gb152, 2, none⟩ = some (.int .i64 ((rd_T106 l0 x9_1).f2)) ∧ w'.cell? ⟨gb152, 3, none⟩ = some (.int .i64 ((rd_T106 l0 x9_1).f3)) ∧ w'.cell? ⟨gb152, 4, none⟩ = some (.slice A151_4 ((rd_T106 l0 x9_1).f4).length c151_4) ∧ w'.cell? ad151 = some (.int .u64 ((rd_T106 l0 0).f0)) ∧ w'.cell? ⟨ad151.block, ad151.off + 1, none⟩ = some (.int .u64 ((rd_T106 l0 0).f1)) ∧ w'.cell? ⟨ad151.block, ad151.off + 2, none⟩ = some (.int .i64 ((rd_T106 l0 0).f2)) ∧ w'.cell? ⟨ad151.block, ad151.off + 3, none⟩ = some (.int .i64 ((rd_T106 l0 0).f3)) ∧ w'.cell? ⟨ad151.block, ad151.off + 4, none⟩ = some (.slice A153_4 ((rd_T106 l0 0).f4).length c153_4)) (ds := []) #[false, false, false, false, false, false, false, false, false, false, false, false, false, false, false, false, false, false, false, false, false] (by kernel_rfl) rfl rfl ⟨(blk_cell BK152.out 0).trans rfl, (blk_cell BK152.out 1).trans rfl, (blk_cell BK152.out 2).trans rfl, (blk_cell BK152.out 3).trans rfl, (blk_cell BK152.out 4).trans rfl, (xb HB hw153_0), (xb HB hw153_1), (xb HB hw153_2), (xb HB hw153_3), (xb HB hw153_4)⟩ (fun hHeld => ?_); refine with_tabW cell_Join.tab5 cell_Join.bits5 (fun HT_ HW_ => ?_)
    generalize w18.drew = w19 at HO_4 BK152 HB HR153_4 hx153_0 hx153_1 hx153_2 hx153_3 hx153_4 hHeld ⊢
    refine pu 1 (some 15) (bm 21 2) ?_
    refine pu 2 (some 16) (bm 21 6) ?_
    refine pu 4 (some 18) (bm 21 22) ?_
    refine pu 5 (some 19) (bm 21 54) ?_
    refine pu 6 (some 20) (bm 21 118) ?_
    refine p_t 0 (some 14) (bm 21 119) ?_
    refine p_t 3 (some 17) (bm 21 127) ?_
    refine pn 7 (some 21) (bm 21 255) (fun K hK => ?_)
    refine go_ Try.func90 #[.agg #[.int .u64 ((rd_T106 l0 x9_1).f0), .int .u64 ((rd_T106 l0 x9_1).f1), .int .i64 ((rd_T106 l0 x9_1).f2), .int .i64 ((rd_T106 l0 x9_1).f3), .slice A151_4 ((rd_T106 l0 x9_1).f4).length c151_4], .agg #[.int .u64 ((rd_T106 l0 0).f0), .int .u64 ((rd_T106 l0 0).f1), .int .i64 ((rd_T106 l0 0).f2), .int .i64 ((rd_T106 l0 0).f3), .slice A153_4 ((rd_T106 l0 0).f4).length c153_4], .int .i64 x9_1, .int .i64 (l0.length : Int)] ?_
    with_reducible refine (cell_goesOn.calls ((rd_T106 l0 x9_1).f0) ((rd_T106 l0 x9_1).f1) ((rd_T106 l0 x9_1).f2) ((rd_T106 l0 x9_1).f3) _ _ ((rd_T106 l0 x9_1).f4) ((rd_T106 l0 0).f0) ((rd_T106 l0 0).f1) ((rd_T106 l0 0).f2) ((rd_T106 l0 0).f3) _ _ ((rd_T106 l0 0).f4) x9_1 (l0.length : Int) false _ ?side1 ?side2 ?side3 ?side4 A9.out).mono ?_
    (case side1 => exact kc HR151_4 HB)
    (case side2 => exact HC151_4.out)
    (case side3 => exact kc HR153_4 HB)
    (case side4 => exact HC153_4.out)
    rintro e w20 ⟨rfl, hb⟩
    refine ⟨_, rfl, ?_⟩
    replace HO_4 := Aside0.mk (Kd.R_below (kR' HO_4) hb)
    replace BK152 := bb BK152 hb
    replace HB := bs HB hb
    (try clear hb)
    (try clear hb2)
    (try clear hk)
    (try clear hi)
    refine hK.out _ _ ⟨(blk_cell BK152.out 0).trans rfl, (blk_cell BK152.out 1).trans rfl, (blk_cell BK152.out 2).trans rfl, (blk_cell BK152.out 3).trans rfl, (blk_cell BK152.out 4).trans rfl, (xb HB hw153_0), (xb HB hw153_1), (xb HB hw153_2), (xb HB hw153_3), (xb HB hw153_4)⟩ (fun hHeld => ?_)
    clear hK K
    refine no (some 21) ?_
    refine pu 8 (some 22) (bm 21 511) ?_
    refine pu 9 (some 23) (bm 21 1023) ?_
    refine pud 10 (some 24) (bm 21 2047) ?_
    refine pud 11 (some 25) (bm 21 4095) ?_
    refine pud 12 (some 26) (bm 21 8191) ?_
    refine pud 13 (some 27) (bm 21 16383) ?_
    refine pu 14 (some 28) (bm 21 32767) ?_
    refine pu 15 (some 29) (bm 21 65535) ?_
    refine pud 16 (some 30) (bm 21 131071) ?_
    refine pud 17 (some 31) (bm 21 262143) ?_
    refine pud 18 (some 32) (bm 21 524287) ?_
    refine pud 19 (some 33) (bm 21 1048575) ?_
    refine pu 20 (some 34) (bm 21 2097151) ?_
    refine done_ (done_of HT_.out (by kernel_rfl)) ?_
    try go_wp2
    go_meet
    case rel => exact ⟨_, (true), sm, H', ⟨by have := HK1.out; first | omega | exact Nat.le_refl _⟩, ⟨kR' HO_4⟩, ⟨bk BK152⟩, ⟨b_w HB⟩⟩
  subst c10
  replace H := it H
  by_cases c11 : (((rd_T106 l0 x9_1).f4).length : Int) = 0
  · rw [if_pos c11] at H
    have c11b0 := beq_iff_eq.mpr c11
    have c11b1 := bne_eq_false_iff_eq.mpr c11
    clear c11
    have H' := Aside0.mk H
    clear H
    try go_wp2
    have n0_ : Aside0 (Kd.R (Kd.int .u8) 5 (((((w6.setCell ⟨gb152, 0, none⟩ (.int .u64 ((rd_T106 l0 x9_1).f0))).setCell ⟨gb152, 1, none⟩ (.int .u64 ((rd_T106 l0 x9_1).f1))).setCell ⟨gb152, 2, none⟩ (.int .i64 ((rd_T106 l0 x9_1).f2))).setCell ⟨gb152, 3, none⟩ (.int .i64 ((rd_T106 l0 x9_1).f3))).setCell ⟨gb152, 4, none⟩ (.slice A151_4 ((rd_T106 l0 x9_1).f4).length c151_4)) w.heap.size (fun _ => True) u4 x4_1) := ⟨rR (Kd.R_mono (fR5 (tR HO_4 BK152) (fun _ hk => hk.2)) (fun _ hk => trivial))⟩
    have n1_ : Aside0 ((((((w6.setCell ⟨gb152, 0, none⟩ (.int .u64 ((rd_T106 l0 x9_1).f0))).setCell ⟨gb152, 1, none⟩ (.int .u64 ((rd_T106 l0 x9_1).f1))).setCell ⟨gb152, 2, none⟩ (.int .i64 ((rd_T106 l0 x9_1).f2))).setCell ⟨gb152, 3, none⟩ (.int .i64 ((rd_T106 l0 x9_1).f3))).setCell ⟨gb152, 4, none⟩ (.slice A151_4 ((rd_T106 l0 x9_1).f4).length c151_4)).heap[gb152]? = some (.cells #[.int .u64 ((rd_T106 l0 x9_1).f0), .int .u64 ((rd_T106 l0 x9_1).f1), .int .i64 ((rd_T106 l0 x9_1).f2), .int .i64 ((rd_T106 l0 x9_1).f3), .slice A151_4 ((rd_T106 l0 x9_1).f4).length c151_4] 106 (0, 0))) := ⟨bp BK152⟩
    have n2_ : Aside0 (Below w.heap.size w (((((w6.setCell ⟨gb152, 0, none⟩ (.int .u64 ((rd_T106 l0 x9_1).f0))).setCell ⟨gb152, 1, none⟩ (.int .u64 ((rd_T106 l0 x9_1).f1))).setCell ⟨gb152, 2, none⟩ (.int .i64 ((rd_T106 l0 x9_1).f2))).setCell ⟨gb152, 3, none⟩ (.int .i64 ((rd_T106 l0 x9_1).f3))).setCell ⟨gb152, 4, none⟩ (.slice A151_4 ((rd_T106 l0 x9_1).f4).length c151_4))) := ⟨b_w HB⟩
    (try clear HO_4)
    (try clear BK152)
    (try clear HB)
    generalize (((((w6.setCell ⟨gb152, 0, none⟩ (.int .u64 ((rd_T106 l0 x9_1).f0))).setCell ⟨gb152, 1, none⟩ (.int .u64 ((rd_T106 l0 x9_1).f1))).setCell ⟨gb152, 2, none⟩ (.int .i64 ((rd_T106 l0 x9_1).f2))).setCell ⟨gb152, 3, none⟩ (.int .i64 ((rd_T106 l0 x9_1).f3))).setCell ⟨gb152, 4, none⟩ (.slice A151_4 ((rd_T106 l0 x9_1).f4).length c151_4)) = w12 at n0_ n1_ n2_ ⊢
    have HO_4 := n0_
    have BK152 := n1_
    have HB := n2_
    clear n0_ n1_ n2_
    replace HO_4 := Aside0.mk (Kd.R_drew HO_4.out)
    replace BK152 := Aside0.mk (blk_drew BK152.out)
    replace HB := Aside0.mk (below_drew1 HB.out)
    have p153 : 0 ≤ (0 : Int) := (by omega)
    have q153 : 0 < (l0.length : Int) := od
    obtain ⟨ad153, A153_4, c153_4, e153, hx153_0, hx153_1, hx153_2, hx153_3, hx153_4, hl153_4, hi153_4⟩ := at_T106 HR0.out 0 p153 q153
    have hw153_4 := hx153_4
    (try rw [show ((0 : Int)).toNat = 0 from rfl] at hw153_4)
    (try rw [show 0 * 5 = 0 from rfl] at hw153_4)
    (try rw [Addr.add_zero'] at hw153_4)
    have hw153_3 := hx153_3
    (try rw [show ((0 : Int)).toNat = 0 from rfl] at hw153_3)
    (try rw [show 0 * 5 = 0 from rfl] at hw153_3)
    (try rw [Addr.add_zero'] at hw153_3)
    have hw153_2 := hx153_2
    (try rw [show ((0 : Int)).toNat = 0 from rfl] at hw153_2)
    (try rw [show 0 * 5 = 0 from rfl] at hw153_2)
    (try rw [Addr.add_zero'] at hw153_2)
    have hw153_1 := hx153_1
    (try rw [show ((0 : Int)).toNat = 0 from rfl] at hw153_1)
    (try rw [show 0 * 5 = 0 from rfl] at hw153_1)
    (try rw [Addr.add_zero'] at hw153_1)
    have hw153_0 := hx153_0
    (try rw [show ((0 : Int)).toNat = 0 from rfl] at hw153_0)
    (try rw [show 0 * 5 = 0 from rfl] at hw153_0)
    (try rw [Addr.add_zero'] at hw153_0)
    obtain rfl : ad151 = ad153 := (by injection e153)
    have qi153 : (0 < l0.length) = True := eq_true (by omega)
    (try rw [show ((0 : Int)).toNat = 0 from rfl] at hx153_0)
    (try rw [show 0 * 5 = 0 from rfl] at hx153_0)
    (try rw [Addr.add_zero'] at hx153_0)
    (try rw [show ((0 : Int)).toNat = 0 from rfl] at hx153_1)
    (try rw [show 0 * 5 = 0 from rfl] at hx153_1)
    (try rw [Addr.add_zero'] at hx153_1)
    (try rw [show ((0 : Int)).toNat = 0 from rfl] at hx153_2)
    (try rw [show 0 * 5 = 0 from rfl] at hx153_2)
    (try rw [Addr.add_zero'] at hx153_2)
    (try rw [show ((0 : Int)).toNat = 0 from rfl] at hx153_3)
    (try rw [show 0 * 5 = 0 from rfl] at hx153_3)
    (try rw [Addr.add_zero'] at hx153_3)
    (try rw [show ((0 : Int)).toNat = 0 from rfl] at hx153_4)
    (try rw [show 0 * 5 = 0 from rfl] at hx153_4)
    (try rw [Addr.add_zero'] at hx153_4)
    replace hx153_0 := xb HB hx153_0
    replace hx153_1 := xb HB hx153_1
    replace hx153_2 := xb HB hx153_2
    replace hx153_3 := xb HB hx153_3
    replace hx153_4 := xb HB hx153_4
    have HR153_4 := Aside0.mk hi153_4
    have HC153_4 := Aside0.mk hl153_4
    clear hi153_4 hl153_4
    replace p153 := eq_true p153
    replace q153 := eq_true q153
    refine start_ (n := 21) (S := fun w' => w'.cell? ⟨gb152, 0, none⟩ = some (.int .u64 ((rd_T106 l0 x9_1).f0)) ∧ w'.cell? ⟨gb152, 1, none⟩ = some (.int .u64 ((rd_T106 l0 x9_1).f1)) ∧ w'.cell? ⟨gb152, 2, none⟩ = some (.int .i64 ((rd_T106 l0 x9_1).f2)) ∧ w'.cell? ⟨gb152, 3, none⟩ = some (.int .i64 ((rd_T106 l0 x9_1).f3)) ∧ w'.cell? ⟨gb152, 4, none⟩ = some (.slice A151_4 ((rd_T106 l0 x9_1).f4).length c151_4) ∧ w'.cell? ad151 = some (.int .u64 ((rd_T106 l0 0).f0)) ∧ w'.cell? ⟨ad151.block, ad151.off + 1, none⟩ = some (.int .u64 ((rd_T106 l0 0).f1)) ∧ w'.cell? ⟨ad151.block, ad151.off + 2, none⟩ = some (.int .i64 ((rd_T106 l0 0).f2)) ∧ w'.cell? ⟨ad151.block, ad151.off + 3, none⟩ = some (.int .i64 ((rd_T106 l0 0).f3)) ∧ w'.cell? ⟨ad151.block, ad151.off + 4, none⟩ = some (.slice A153_4 ((rd_T106 l0 0).f4).length c153_4)) (ds := []) #[false, false, false, false, false, false, false, false, false, false, false, false, false, false, false, false, false, false, false, false, false] (by kernel_rfl) rfl rfl ⟨(blk_cell BK152.out 0).trans rfl, (blk_cell BK152.out 1).trans rfl, (blk_cell BK152.out 2).trans rfl, (blk_cell BK152.out 3).trans rfl, (blk_cell BK152.out 4).trans rfl, (xb HB hw153_0), (xb HB hw153_1), (xb HB hw153_2), (xb HB hw153_3), (xb HB hw153_4)⟩ (fun hHeld => ?_); refine with_tabW cell_Join.tab5 cell_Join.bits5 (fun HT_ HW_ => ?_)
    generalize w12.drew = w13 at HO_4 BK152 HB HR153_4 hx153_0 hx153_1 hx153_2 hx153_3 hx153_4 hHeld ⊢
    refine pu 1 (some 15) (bm 21 2) ?_
    refine pu 2 (some 16) (bm 21 6) ?_
    refine pu 4 (some 18) (bm 21 22) ?_
    refine pu 5 (some 19) (bm 21 54) ?_
    refine pu 6 (some 20) (bm 21 118) ?_
    refine p_t 0 (some 14) (bm 21 119) ?_
    refine p_t 3 (some 17) (bm 21 127) ?_
    refine pn 7 (some 21) (bm 21 255) (fun K hK => ?_)
    refine go_ Try.func90 #[.agg #[.int .u64 ((rd_T106 l0 x9_1).f0), .int .u64 ((rd_T106 l0 x9_1).f1), .int .i64 ((rd_T106 l0 x9_1).f2), .int .i64 ((rd_T106 l0 x9_1).f3), .slice A151_4 ((rd_T106 l0 x9_1).f4).length c151_4], .agg #[.int .u64 ((rd_T106 l0 0).f0), .int .u64 ((rd_T106 l0 0).f1), .int .i64 ((rd_T106 l0 0).f2), .int .i64 ((rd_T106 l0 0).f3), .slice A153_4 ((rd_T106 l0 0).f4).length c153_4], .int .i64 x9_1, .int .i64 (l0.length : Int)] ?_
    with_reducible refine (cell_goesOn.calls ((rd_T106 l0 x9_1).f0) ((rd_T106 l0 x9_1).f1) ((rd_T106 l0 x9_1).f2) ((rd_T106 l0 x9_1).f3) _ _ ((rd_T106 l0 x9_1).f4) ((rd_T106 l0 0).f0) ((rd_T106 l0 0).f1) ((rd_T106 l0 0).f2) ((rd_T106 l0 0).f3) _ _ ((rd_T106 l0 0).f4) x9_1 (l0.length : Int) true _ ?side1 ?side2 ?side3 ?side4 A9.out).mono ?_
    (case side1 => exact kc HR151_4 HB)
    (case side2 => exact HC151_4.out)
    (case side3 => exact kc HR153_4 HB)
    (case side4 => exact HC153_4.out)
    rintro e w14 ⟨rfl, hb⟩
    refine ⟨_, rfl, ?_⟩
    replace HO_4 := Aside0.mk (Kd.R_below (kR' HO_4) hb)
    replace BK152 := bb BK152 hb
    replace HB := bs HB hb
    (try clear hb)
    (try clear hb2)
    (try clear hk)
    (try clear hi)
    refine hK.out _ _ ⟨(blk_cell BK152.out 0).trans rfl, (blk_cell BK152.out 1).trans rfl, (blk_cell BK152.out 2).trans rfl, (blk_cell BK152.out 3).trans rfl, (blk_cell BK152.out 4).trans rfl, (xb HB hw153_0), (xb HB hw153_1), (xb HB hw153_2), (xb HB hw153_3), (xb HB hw153_4)⟩ (fun hHeld => ?_)
    clear hK K
    refine no (some 21) ?_
    refine pu 8 (some 22) (bm 21 511) ?_
    refine pu 9 (some 23) (bm 21 1023) ?_
    refine pu 10 (some 24) (bm 21 2047) ?_
    refine p_t 11 (some 25) (bm 21 4095) ?_
    refine pu 12 (some 26) (bm 21 8191) ?_
    refine pu 13 (some 27) (bm 21 16383) ?_
    refine pu 14 (some 28) (bm 21 32767) ?_
    refine pu 15 (some 29) (bm 21 65535) ?_
    refine pud 16 (some 30) (bm 21 131071) ?_
    refine pud 17 (some 31) (bm 21 262143) ?_
    refine pud 18 (some 32) (bm 21 524287) ?_
    refine pud 19 (some 33) (bm 21 1048575) ?_
    refine pu 20 (some 34) (bm 21 2097151) ?_
    refine done_ (done_of HT_.out (by kernel_rfl)) ?_
    try go_wp2
    go_meet
    case rel => exact ⟨_, (true), sm, H', ⟨by have := HK1.out; first | omega | exact Nat.le_refl _⟩, ⟨kR' HO_4⟩, ⟨bk BK152⟩, ⟨b_w HB⟩⟩
  rw [if_neg c11] at H
  have c11b0 := beq_eq_false_iff_ne.mpr c11
  have c11b1 := bne_iff_ne.mpr c11
  have c11b2 : ¬ (((rd_T106 l0 x9_1).f4) = []) := fun h_ => c11 (by rw [h_]; rfl)
  have H' := Aside0.mk H
  clear H
  try go_wp2
  have n0_ : Aside0 (Kd.R (Kd.int .u8) 5 (((((w6.setCell ⟨gb152, 0, none⟩ (.int .u64 ((rd_T106 l0 x9_1).f0))).setCell ⟨gb152, 1, none⟩ (.int .u64 ((rd_T106 l0 x9_1).f1))).setCell ⟨gb152, 2, none⟩ (.int .i64 ((rd_T106 l0 x9_1).f2))).setCell ⟨gb152, 3, none⟩ (.int .i64 ((rd_T106 l0 x9_1).f3))).setCell ⟨gb152, 4, none⟩ (.slice A151_4 ((rd_T106 l0 x9_1).f4).length c151_4)) w.heap.size (fun _ => True) u4 x4_1) := ⟨rR (Kd.R_mono (fR5 (tR HO_4 BK152) (fun _ hk => hk.2)) (fun _ hk => trivial))⟩
  have n1_ : Aside0 ((((((w6.setCell ⟨gb152, 0, none⟩ (.int .u64 ((rd_T106 l0 x9_1).f0))).setCell ⟨gb152, 1, none⟩ (.int .u64 ((rd_T106 l0 x9_1).f1))).setCell ⟨gb152, 2, none⟩ (.int .i64 ((rd_T106 l0 x9_1).f2))).setCell ⟨gb152, 3, none⟩ (.int .i64 ((rd_T106 l0 x9_1).f3))).setCell ⟨gb152, 4, none⟩ (.slice A151_4 ((rd_T106 l0 x9_1).f4).length c151_4)).heap[gb152]? = some (.cells #[.int .u64 ((rd_T106 l0 x9_1).f0), .int .u64 ((rd_T106 l0 x9_1).f1), .int .i64 ((rd_T106 l0 x9_1).f2), .int .i64 ((rd_T106 l0 x9_1).f3), .slice A151_4 ((rd_T106 l0 x9_1).f4).length c151_4] 106 (0, 0))) := ⟨bp BK152⟩
  have n2_ : Aside0 (Below w.heap.size w (((((w6.setCell ⟨gb152, 0, none⟩ (.int .u64 ((rd_T106 l0 x9_1).f0))).setCell ⟨gb152, 1, none⟩ (.int .u64 ((rd_T106 l0 x9_1).f1))).setCell ⟨gb152, 2, none⟩ (.int .i64 ((rd_T106 l0 x9_1).f2))).setCell ⟨gb152, 3, none⟩ (.int .i64 ((rd_T106 l0 x9_1).f3))).setCell ⟨gb152, 4, none⟩ (.slice A151_4 ((rd_T106 l0 x9_1).f4).length c151_4))) := ⟨b_w HB⟩
  (try clear HO_4)
  (try clear BK152)
  (try clear HB)
  generalize (((((w6.setCell ⟨gb152, 0, none⟩ (.int .u64 ((rd_T106 l0 x9_1).f0))).setCell ⟨gb152, 1, none⟩ (.int .u64 ((rd_T106 l0 x9_1).f1))).setCell ⟨gb152, 2, none⟩ (.int .i64 ((rd_T106 l0 x9_1).f2))).setCell ⟨gb152, 3, none⟩ (.int .i64 ((rd_T106 l0 x9_1).f3))).setCell ⟨gb152, 4, none⟩ (.slice A151_4 ((rd_T106 l0 x9_1).f4).length c151_4)) = w15 at n0_ n1_ n2_ ⊢
  have HO_4 := n0_
  have BK152 := n1_
  have HB := n2_
  clear n0_ n1_ n2_
  replace HO_4 := Aside0.mk (Kd.R_drew HO_4.out)
  replace BK152 := Aside0.mk (blk_drew BK152.out)
  replace HB := Aside0.mk (below_drew1 HB.out)
  have p153 : 0 ≤ (0 : Int) := (by omega)
  have q153 : 0 < (l0.length : Int) := od
  obtain ⟨ad153, A153_4, c153_4, e153, hx153_0, hx153_1, hx153_2, hx153_3, hx153_4, hl153_4, hi153_4⟩ := at_T106 HR0.out 0 p153 q153
  have hw153_4 := hx153_4
  (try rw [show ((0 : Int)).toNat = 0 from rfl] at hw153_4)
  (try rw [show 0 * 5 = 0 from rfl] at hw153_4)
  (try rw [Addr.add_zero'] at hw153_4)
  have hw153_3 := hx153_3
  (try rw [show ((0 : Int)).toNat = 0 from rfl] at hw153_3)
  (try rw [show 0 * 5 = 0 from rfl] at hw153_3)
  (try rw [Addr.add_zero'] at hw153_3)
  have hw153_2 := hx153_2
  (try rw [show ((0 : Int)).toNat = 0 from rfl] at hw153_2)
  (try rw [show 0 * 5 = 0 from rfl] at hw153_2)
  (try rw [Addr.add_zero'] at hw153_2)
  have hw153_1 := hx153_1
  (try rw [show ((0 : Int)).toNat = 0 from rfl] at hw153_1)
  (try rw [show 0 * 5 = 0 from rfl] at hw153_1)
  (try rw [Addr.add_zero'] at hw153_1)
  have hw153_0 := hx153_0
  (try rw [show ((0 : Int)).toNat = 0 from rfl] at hw153_0)
  (try rw [show 0 * 5 = 0 from rfl] at hw153_0)
  (try rw [Addr.add_zero'] at hw153_0)
  obtain rfl : ad151 = ad153 := (by injection e153)
  have qi153 : (0 < l0.length) = True := eq_true (by omega)
  (try rw [show ((0 : Int)).toNat = 0 from rfl] at hx153_0)
  (try rw [show 0 * 5 = 0 from rfl] at hx153_0)
  (try rw [Addr.add_zero'] at hx153_0)
  (try rw [show ((0 : Int)).toNat = 0 from rfl] at hx153_1)
  (try rw [show 0 * 5 = 0 from rfl] at hx153_1)
  (try rw [Addr.add_zero'] at hx153_1)
  (try rw [show ((0 : Int)).toNat = 0 from rfl] at hx153_2)
  (try rw [show 0 * 5 = 0 from rfl] at hx153_2)
  (try rw [Addr.add_zero'] at hx153_2)
  (try rw [show ((0 : Int)).toNat = 0 from rfl] at hx153_3)
  (try rw [show 0 * 5 = 0 from rfl] at hx153_3)
  (try rw [Addr.add_zero'] at hx153_3)
  (try rw [show ((0 : Int)).toNat = 0 from rfl] at hx153_4)
  (try rw [show 0 * 5 = 0 from rfl] at hx153_4)
  (try rw [Addr.add_zero'] at hx153_4)
  replace hx153_0 := xb HB hx153_0
  replace hx153_1 := xb HB hx153_1
  replace hx153_2 := xb HB hx153_2
  replace hx153_3 := xb HB hx153_3
  replace hx153_4 := xb HB hx153_4
  have HR153_4 := Aside0.mk hi153_4
  have HC153_4 := Aside0.mk hl153_4
  clear hi153_4 hl153_4
  replace p153 := eq_true p153
  replace q153 := eq_true q153
  refine start_ (n := 21) (S := fun w' => w'.cell? ⟨gb152, 0, none⟩ = some (.int .u64 ((rd_T106 l0 x9_1).f0)) ∧ w'.cell? ⟨gb152, 1, none⟩ = some (.int .u64 ((rd_T106 l0 x9_1).f1)) ∧ w'.cell? ⟨gb152, 2, none⟩ = some (.int .i64 ((rd_T106 l0 x9_1).f2)) ∧ w'.cell? ⟨gb152, 3, none⟩ = some (.int .i64 ((rd_T106 l0 x9_1).f3)) ∧ w'.cell? ⟨gb152, 4, none⟩ = some (.slice A151_4 ((rd_T106 l0 x9_1).f4).length c151_4) ∧ w'.cell? ad151 = some (.int .u64 ((rd_T106 l0 0).f0)) ∧ w'.cell? ⟨ad151.block, ad151.off + 1, none⟩ = some (.int .u64 ((rd_T106 l0 0).f1)) ∧ w'.cell? ⟨ad151.block, ad151.off + 2, none⟩ = some (.int .i64 ((rd_T106 l0 0).f2)) ∧ w'.cell? ⟨ad151.block, ad151.off + 3, none⟩ = some (.int .i64 ((rd_T106 l0 0).f3)) ∧ w'.cell? ⟨ad151.block, ad151.off + 4, none⟩ = some (.slice A153_4 ((rd_T106 l0 0).f4).length c153_4)) (ds := []) #[false, false, false, false, false, false, false, false, false, false, false, false, false, false, false, false, false, false, false, false, false] (by kernel_rfl) rfl rfl ⟨(blk_cell BK152.out 0).trans rfl, (blk_cell BK152.out 1).trans rfl, (blk_cell BK152.out 2).trans rfl, (blk_cell BK152.out 3).trans rfl, (blk_cell BK152.out 4).trans rfl, (xb HB hw153_0), (xb HB hw153_1), (xb HB hw153_2), (xb HB hw153_3), (xb HB hw153_4)⟩ (fun hHeld => ?_); refine with_tabW cell_Join.tab5 cell_Join.bits5 (fun HT_ HW_ => ?_)
  generalize w15.drew = w16 at HO_4 BK152 HB HR153_4 hx153_0 hx153_1 hx153_2 hx153_3 hx153_4 hHeld ⊢
  refine pu 1 (some 15) (bm 21 2) ?_
  refine pu 2 (some 16) (bm 21 6) ?_
  refine pu 4 (some 18) (bm 21 22) ?_
  refine pu 5 (some 19) (bm 21 54) ?_
  refine pu 6 (some 20) (bm 21 118) ?_
  refine p_t 0 (some 14) (bm 21 119) ?_
  refine p_t 3 (some 17) (bm 21 127) ?_
  refine pn 7 (some 21) (bm 21 255) (fun K hK => ?_)
  refine go_ Try.func90 #[.agg #[.int .u64 ((rd_T106 l0 x9_1).f0), .int .u64 ((rd_T106 l0 x9_1).f1), .int .i64 ((rd_T106 l0 x9_1).f2), .int .i64 ((rd_T106 l0 x9_1).f3), .slice A151_4 ((rd_T106 l0 x9_1).f4).length c151_4], .agg #[.int .u64 ((rd_T106 l0 0).f0), .int .u64 ((rd_T106 l0 0).f1), .int .i64 ((rd_T106 l0 0).f2), .int .i64 ((rd_T106 l0 0).f3), .slice A153_4 ((rd_T106 l0 0).f4).length c153_4], .int .i64 x9_1, .int .i64 (l0.length : Int)] ?_
  with_reducible refine (cell_goesOn.calls ((rd_T106 l0 x9_1).f0) ((rd_T106 l0 x9_1).f1) ((rd_T106 l0 x9_1).f2) ((rd_T106 l0 x9_1).f3) _ _ ((rd_T106 l0 x9_1).f4) ((rd_T106 l0 0).f0) ((rd_T106 l0 0).f1) ((rd_T106 l0 0).f2) ((rd_T106 l0 0).f3) _ _ ((rd_T106 l0 0).f4) x9_1 (l0.length : Int) true _ ?side1 ?side2 ?side3 ?side4 A9.out).mono ?_
  (case side1 => exact kc HR151_4 HB)
  (case side2 => exact HC151_4.out)
  (case side3 => exact kc HR153_4 HB)
  (case side4 => exact HC153_4.out)
  rintro e w17 ⟨rfl, hb⟩
  refine ⟨_, rfl, ?_⟩
  replace HO_4 := Aside0.mk (Kd.R_below (kR' HO_4) hb)
  replace BK152 := bb BK152 hb
  replace HB := bs HB hb
  (try clear hb)
  (try clear hb2)
  (try clear hk)
  (try clear hi)
  refine hK.out _ _ ⟨(blk_cell BK152.out 0).trans rfl, (blk_cell BK152.out 1).trans rfl, (blk_cell BK152.out 2).trans rfl, (blk_cell BK152.out 3).trans rfl, (blk_cell BK152.out 4).trans rfl, (xb HB hw153_0), (xb HB hw153_1), (xb HB hw153_2), (xb HB hw153_3), (xb HB hw153_4)⟩ (fun hHeld => ?_)
  clear hK K
  refine no (some 21) ?_
  refine pu 8 (some 22) (bm 21 511) ?_
  refine pu 9 (some 23) (bm 21 1023) ?_
  refine pu 10 (some 24) (bm 21 2047) ?_
  refine p_t 11 (some 25) (bm 21 4095) ?_
  refine pu 12 (some 26) (bm 21 8191) ?_
  refine pu 13 (some 27) (bm 21 16383) ?_
  refine pu 14 (some 28) (bm 21 32767) ?_
  refine pu 15 (some 29) (bm 21 65535) ?_
  refine pu 16 (some 30) (bm 21 131071) ?_
  refine p_t 17 (some 31) (bm 21 262143) ?_
  refine pu 18 (some 32) (bm 21 524287) ?_
  refine pu 19 (some 33) (bm 21 1048575) ?_
  refine pu 20 (some 34) (bm 21 2097151) ?_
  refine done_ (done_of HT_.out (by kernel_rfl)) ?_
  try go_wp2
  go_meet
  case rel => exact ⟨_, (decide ((((rd_T106 l0 x9_1).f4).length : Int) > 39)), sm, H', ⟨by have := HK1.out; first | omega | exact Nat.le_refl _⟩, ⟨kR' HO_4⟩, ⟨bk BK152⟩, ⟨b_w HB⟩⟩
 clear HC5
 try clear c1
 try clear p1
 try clear q1
 try clear hx1
 try clear qi1
 try clear p2
 try clear c8
 try clear c9
 try clear c10
 try clear c11
 try clear c11b0
 try clear c11b1
 try clear c11b2
 try clear c15
 try clear p15
 try clear q15
 try clear hx15
 try clear qi15
 try clear hx153_0
 try clear hx153_1
 try clear hx153_2
 try clear hx153_3
 try clear hx153_4
 try clear p153
 try clear q153
 obtain ⟨kq, x34_4, rfl, HA, HJ4, HO_4, BK152, HB⟩ := hcut
 cases kq with
 | zero => exact absurd HA.out (by simp [cell_Join.j1])
 | succ kj4 => ?_
 have H := HA.out
 clear HA
 simp only [cell_Join.j1] at H
 by_cases c21 : x34_4 = true
 · subst c21
   replace H := it H
   simp only [Option.some.injEq, Prod.mk.injEq] at H
   obtain ⟨rfl, rfl⟩ := H
   go_wp2
   go_ret2
   exact ⟨_, er, rn, b_w HB⟩
 replace c21 := Bool.eq_false_iff.mpr c21
 subst c21
 replace H := fi H
 obtain ⟨c22, H⟩ := ifN H
 have LMc22 := Aside0.mk c22
 clear c22
 obtain ⟨y155, Ny155⟩ := yy ((x4_1 ++ ((rd_T106 l0 x9_1).f4)) : List Int)
 replace H : (cell_Join.l0 kj4 l0 y155 l0 (l0.length : Int) (wrap64 (x9_1 + 1))) = some (r1, r2) := yx Ny155 H
 have H' := Aside0.mk H
 clear H
 obtain ⟨_,_,_,_,_,_,_,_,_,_⟩ := cz5 BK152.out
 go_wp2_with (first | ((with_reducible refine gate_builtin (b := .append) (xs := #[.tmp 35, .tmp 37]) rfl ?_); (try (refine gate_guard (by rfl) ?_; dsimp only)); at_builtin; refine Kd.R_append_rows (Kd.int .u8) (w0 := w) w.heap.size rfl (.tmp 35) (.tmp 37) 27 5 (.int .u8 0) 1 rfl Try.underlying27 info5 rfl (by decide) (by omega) u4 x4_1 ((rd_T106 l0 x9_1).f4) _ _ _ (fun _ => True) (fun _ => False) rfl rfl ?aO ?aR (fun _ _ h => h) (fun _ h => h.elim) ?aF ?aB ?aS ?aL ?_; (case aR => exact kc HR151_4 HB); (case aB => exact (b_w HB)); (case aF => exact (fun _ _ => trivial)); (case aO => exact (kR' HO_4)); (case aS => exact (below_size (b_w HB))); (case aL => have := LMc22.out; omega); intro v156 w24 ho hb hg hat; rw [← Ny155.out] at ho; replace BK152 := Aside0.mk (blk_grown (g := gb152) (o := .cells #[.int .u64 ((rd_T106 l0 x9_1).f0), .int .u64 ((rd_T106 l0 x9_1).f1), .int .i64 ((rd_T106 l0 x9_1).f2), .int .i64 ((rd_T106 l0 x9_1).f3), .slice A151_4 ((rd_T106 l0 x9_1).f4).length c151_4] 106 (0, 0)) (bk BK152) hg (Kd.R_ne HO_4.out BK152.out (by decide))); replace HB := Aside0.mk (hb); have HO157 := Aside0.mk (ho); clear HO_4; clear ho hb hg hat))
 go_roundg kj4
 case measure => have := HK1.out; have := HJ4.out; omega
 case rel => exact ⟨(y155), (wrap64 (x9_1 + 1)), sm, H', ⟨by have := HK1.out; have := HJ4.out; omega⟩, ⟨kR' HO157⟩, ⟨b_w HB⟩⟩
end Go.Proofs.Ytepipgneefcoiaa.D
namespace Go.Proofs.Ytepipgneefcoiaa.D
open Go.RowKit Go.Proofs.YtepipgneefcoiaaW.PrintWords Go.Proofs.YtepipgneefcoiaaW.PrintLast Go.Proofs.YtepipgneefcoiaaW.PrintMore
def cell_Cut.l0 : Nat → List Int → Int → Int → Int → List (S106) → Int → Int → Option ((List (S106)))
  | 0, _, _, _, _, _, _, _ => none
  | k + 1, x0, x1, x2, x7, x8, x18, x19 => if x19 < x18 then (if 0 ≤ (wrap64 (x19 * 39)) then (if (wrap64 (x19 * 39)) ≤ (x0.length : Int) then (if 0 ≤ (mn ((x0.drop ((wrap64 (x19 * 39)) : Int).toNat).length : Int) 39) then (if (mn ((x0.drop ((wrap64 (x19 * 39)) : Int).toNat).length : Int) 39) ≤ ((x0.drop ((wrap64 (x19 * 39)) : Int).toNat).length : Int) then ((slices_Clone_byte_byte.f ((x0.drop ((wrap64 (x19 * 39)) : Int).toNat).take ((mn ((x0.drop ((wrap64 (x19 * 39)) : Int).toNat).length : Int) 39) : Int).toNat)).bind fun t175 => (if x8.length < 2513169434916 then (cell_Cut.l0 k x0 x1 x2 x7 (x8 ++ [(⟨x1, x2, x19, x7, t175⟩ : S106)]) x18 (wrap64 (x19 + 1))) else (none))) else (none)) else (none)) else (none)) else (none)) else (some x8)
def cell_Cut.f (k : Nat) (l0 : List Int) (a1 : Int) (a2 : Int) : Option ((List (S106))) := if (wrap64 (Int.tdiv (wrap64 ((wrap64 ((l0.length : Int) + 39)) - 1)) 39)) > 65535 then (some ([] : List (S106))) else (cell_Cut.l0 k l0 a1 a2 (wrap64 (Int.tdiv (wrap64 ((wrap64 ((l0.length : Int) + 39)) - 1)) 39)) ([] : List (S106)) (wrap64 (Int.tdiv (wrap64 ((wrap64 ((l0.length : Int) + 39)) - 1)) 39)) 0)
set_option maxHeartbeats 8000000 in
set_option maxRecDepth 100000 in
theorem cell_Cut.calls (k : Nat) (A0 : Option Addr) (c0 : Nat) (l0 : List Int) (a1 : Int) (a2 : Int) (r : List (S106)) (w : World) (hr0 : Kd.C (Kd.int .u8) w A0 l0.length l0) (hc0 : l0.length ≤ c0) (h : cell_Cut.f k l0 a1 a2 = some r) :
    Calls Try.prog 73 #[.slice A0 l0.length c0, .int .u64 a1, .int .u64 a2] w fun e w' => ∃ v0_ : Value, e = .returned (v0_) ∧ Kd.S k106 106 w' w.heap.size (fun _ => True) v0_ r ∧ Below w.heap.size w w' := by
 have hu106 := Try.underlying106
 have HR0 := Aside0.mk hr0
 have HC0 := Aside0.mk hc0
 clear hr0 hc0
 have HB := Aside0.mk (Below.refl w.heap.size w)
 have H : (if (wrap64 (Int.tdiv (wrap64 ((wrap64 ((l0.length : Int) + 39)) - 1)) 39)) > 65535 then (some ([] : List (S106))) else (cell_Cut.l0 k l0 a1 a2 (wrap64 (Int.tdiv (wrap64 ((wrap64 ((l0.length : Int) + 39)) - 1)) 39)) ([] : List (S106)) (wrap64 (Int.tdiv (wrap64 ((wrap64 ((l0.length : Int) + 39)) - 1)) 39)) 0)) = some r := h
 clear h
 by_cases c4 : (wrap64 (Int.tdiv (wrap64 ((wrap64 ((l0.length : Int) + 39)) - 1)) 39)) > 65535
 · rw [if_pos c4] at H
   have c4b0 := decide_eq_true c4
   clear c4
   obtain rfl := Option.some.inj H
   go_enter Try.func73, Try.ntmps73
   go_wp2
   go_ret
   exact ⟨_, er, rn, b_w HB⟩
 rw [if_neg c4] at H
 have c4b0 := decide_eq_false c4
 clear c4
 have H' := Aside0.mk H
 clear H
 go_enter Try.func73, Try.ntmps73
 go_wp2
 go_loopg [8, 19] k (fun kq v8 v19 w' => ∃ (x8_1 : List (S106)) (x19_1 : Int), v19 = .int .i64 x19_1 ∧ Aside0 (cell_Cut.l0 kq l0 a1 a2 (wrap64 (Int.tdiv (wrap64 ((wrap64 ((l0.length : Int) + 39)) - 1)) 39)) x8_1 (wrap64 (Int.tdiv (wrap64 ((wrap64 ((l0.length : Int) + 39)) - 1)) 39)) x19_1 = some r) ∧ Aside0 (kq ≤ k) ∧ Aside0 (Kd.S k106 106 w' w.heap.size (fun _ => True) v8 x8_1) ∧ Aside0 (Below w.heap.size w w'))
 case atStart => exact ⟨(([] : List (S106))), (0), sm, H', ⟨Nat.le_refl _⟩, ⟨rn⟩, ⟨b_w HB⟩⟩
 clear H'
 try clear p2
 try clear c4
 try clear c4b0
 obtain ⟨x8_1, x19_1, rfl, HA, HK1, HO_8, HB⟩ := hrel
 cases gk with
 | zero => exact absurd HA.out (by simp [cell_Cut.l0])
 | succ k1 => ?_
 have H := HA.out
 clear HA
 simp only [cell_Cut.l0] at H
 by_cases c5 : x19_1 < (wrap64 (Int.tdiv (wrap64 ((wrap64 ((l0.length : Int) + 39)) - 1)) 39))
 rotate_left
 · rw [if_neg c5] at H
   have c5b0 := decide_eq_false c5
   clear c5
   obtain rfl := Option.some.inj H
   go_wp2
   go_ret
   exact ⟨_, er, kS' HO_8, b_w HB⟩
 rw [if_pos c5] at H
 have c5b0 := decide_eq_true c5
 clear c5
 obtain ⟨ji6, hji6⟩ : ∃ j_ : Int, (wrap64 (x19_1 * 39)) = j_ := ⟨_, rfl⟩
 replace H : (if 0 ≤ (ji6) then (if (ji6) ≤ (l0.length : Int) then (if 0 ≤ (mn ((l0.drop ((ji6) : Int).toNat).length : Int) 39) then (if (mn ((l0.drop ((ji6) : Int).toNat).length : Int) 39) ≤ ((l0.drop ((ji6) : Int).toNat).length : Int) then ((slices_Clone_byte_byte.f ((l0.drop ((ji6) : Int).toNat).take ((mn ((l0.drop ((ji6) : Int).toNat).length : Int) 39) : Int).toNat)).bind fun t175 => (if x8_1.length < 2513169434916 then (cell_Cut.l0 k1 l0 a1 a2 (wrap64 (Int.tdiv (wrap64 ((wrap64 ((l0.length : Int) + 39)) - 1)) 39)) (x8_1 ++ [(⟨a1, a2, x19_1, (wrap64 (Int.tdiv (wrap64 ((wrap64 ((l0.length : Int) + 39)) - 1)) 39)), t175⟩ : S106)]) (wrap64 (Int.tdiv (wrap64 ((wrap64 ((l0.length : Int) + 39)) - 1)) 39)) (wrap64 (x19_1 + 1))) else (none))) else (none)) else (none)) else (none)) else (none)) = some r := by first | (rw [hji6] at H; exact H) | (simp only [hji6] at H ⊢; exact H)
 have hji6w : (IntKind.i64.wrap (x19_1 * 39)) = ji6 := (i64_w _).trans hji6
 obtain ⟨c7, H⟩ := ifN H
 have c7b0 := eq_true c7
 have c7b1 := decide_eq_true c7
 clear c7
 obtain ⟨c8, H⟩ := ifN H
 have c8b0 := eq_true c8
 have c8b1 := decide_eq_true c8
 clear c8
 obtain ⟨ji9, hji9⟩ : ∃ j_ : Int, (mn ((l0.drop ((ji6) : Int).toNat).length : Int) 39) = j_ := ⟨_, rfl⟩
 replace H : (if 0 ≤ (ji9) then (if (ji9) ≤ ((l0.drop ((ji6) : Int).toNat).length : Int) then ((slices_Clone_byte_byte.f ((l0.drop ((ji6) : Int).toNat).take ((ji9) : Int).toNat)).bind fun t175 => (if x8_1.length < 2513169434916 then (cell_Cut.l0 k1 l0 a1 a2 (wrap64 (Int.tdiv (wrap64 ((wrap64 ((l0.length : Int) + 39)) - 1)) 39)) (x8_1 ++ [(⟨a1, a2, x19_1, (wrap64 (Int.tdiv (wrap64 ((wrap64 ((l0.length : Int) + 39)) - 1)) 39)), t175⟩ : S106)]) (wrap64 (Int.tdiv (wrap64 ((wrap64 ((l0.length : Int) + 39)) - 1)) 39)) (wrap64 (x19_1 + 1))) else (none))) else (none)) else (none)) = some r := by first | (rw [hji9] at H; exact H) | (simp only [hji9] at H ⊢; exact H)
 have hji9_ : (if 39 < ((l0.drop ((ji6) : Int).toNat).length : Int) then 39 else ((l0.drop ((ji6) : Int).toNat).length : Int)) = ji9 := hji9
 (try (have hji9d := hji9_; simp only [List.length_drop, List.length_take] at hji9d))
 obtain ⟨c10, H⟩ := ifN H
 have c10b0 := eq_true c10
 have c10b1 := decide_eq_true c10
 clear c10
 obtain ⟨c11, H⟩ := ifN H
 have c11b0 := eq_true c11
 have c11b1 := decide_eq_true c11
 clear c11
 obtain ⟨t175, A12, H⟩ := bnd H
 obtain ⟨c13, H⟩ := ifN H
 have LMc13 := Aside0.mk c13
 clear c13
 obtain ⟨y178, Ny178⟩ := yy ((x8_1 ++ [(⟨a1, a2, x19_1, (wrap64 (Int.tdiv (wrap64 ((wrap64 ((l0.length : Int) + 39)) - 1)) 39)), t175⟩ : S106)]) : List (S106))
 replace H : (cell_Cut.l0 k1 l0 a1 a2 (wrap64 (Int.tdiv (wrap64 ((wrap64 ((l0.length : Int) + 39)) - 1)) 39)) y178 (wrap64 (Int.tdiv (wrap64 ((wrap64 ((l0.length : Int) + 39)) - 1)) 39)) (wrap64 (x19_1 + 1))) = some r := yx Ny178 H
 have H' := Aside0.mk H
 clear H
 obtain ⟨i014, hi014, _, hsz14, _⟩ := info_parts info5
 obtain ⟨A14, hcut14, hA14, hC14⟩ := print_drop_of (P := Try.prog) (Value.int .u8) 0 27 5 .i64 Try.underlying27 hi014 hsz14 A0 c0 l0 (ji6) (od) (od) HC0.out
 have HR173 := Aside0.mk (Kd.C_of_reads (h1 := fun _ => rfl) (hA14 _ (Kd.reads_of_C HR0.out)))
 have HC173 := Aside0.mk hC14
 clear hA14 hC14 hi014 hsz14
 obtain ⟨i015, hi015, _, hsz15, _⟩ := info_parts info5
 obtain ⟨hcut15, hA15, hC15⟩ := print_take_of (P := Try.prog) (Value.int .u8) 0 27 5 .i64 Try.underlying27 hi015 hsz15 A14 (c0 - (ji6).toNat) (l0.drop ((ji6) : Int).toNat) (ji9) (od) (od) HC173.out
 have HR174 := Aside0.mk (Kd.C_of_reads (h1 := fun _ => rfl) (hA15 _ (Kd.reads_of_C HR173.out)))
 have HC174 := Aside0.mk hC15
 (try (have hcue15 := hcut15; simp only [List.length_drop] at hcue15))
 clear hA15 hC15 hi015 hsz15
 go_wp2_with (first | ((with_reducible refine gate_callee (f := 72) rfl ?_); refine goesL_ (some 37) rfl rfl Try.func72 (by kernel_rfl) rfl #[.slice A14 ((l0.drop ((ji6) : Int).toNat).take ((ji9) : Int).toNat).length (c0 - (ji6).toNat)] rfl (by (try simp only [List.map_toArray, List.map_cons, List.map_nil]); first | done | (rw [show ((l0.drop ((ji6) : Int).toNat).take ((ji9) : Int).toNat).length = (ji9).toNat from (by rw [List.length_take]; have h_ : ((ji9) : Int) ≤ ((l0.drop ((ji6) : Int).toNat).length : Int) := od; omega)] <;> rfl) | (simp only [hji6, hji9]; rfl) | rfl | (simp only [List.length_drop, List.length_take]; rfl)) ?_; (with_reducible refine (slices_Clone_byte_byte.calls _ _ ((l0.drop ((ji6) : Int).toNat).take ((ji9) : Int).toNat) t175 _ ?side1 ?side2 A12.out).mono ?_); (case side1 => exact kc HR174 HB); (case side2 => exact HC174.out); rintro e w16 ⟨v176, rfl, ho0, hb⟩; refine ⟨_, rfl, ?_⟩; replace HO_8 := Aside0.mk (Kd.S_elder' (kS' HO_8) (Kd.R_base ho0) hb); have HO177 := Aside0.mk (Kd.R_lower ho0 (below_size (b_w HB))); replace HB := bs HB hb; clear hb; (try clear ho0); obtain ⟨Ao17, co17, eo17⟩ := Kd.R_slice HO177.out; subst eo17) | ((with_reducible refine gate_builtin (b := .append) (xs := #[.tmp 31, .tmp 39]) rfl ?_); at_builtin; refine Kd.S_append k106 (w0 := w) w.heap.size rfl (.tmp 31) (.tmp 39) 62 106 (.agg #[(.int .u64 0), (.int .u64 0), (.int .i64 0), (.int .i64 0), (.slice none 0 0)]) 56 rfl Try.underlying62 info106 rfl (by decide) (by omega) u8 x8_1 (⟨a1, a2, x19_1, (wrap64 (Int.tdiv (wrap64 ((wrap64 ((l0.length : Int) + 39)) - 1)) 39)), t175⟩ : S106) [.int .u64 a1, .int .u64 a2, .int .i64 x19_1, .int .i64 (wrap64 (Int.tdiv (wrap64 ((wrap64 ((l0.length : Int) + 39)) - 1)) 39)), .slice Ao17 t175.length co17] (fun _ => True) (fun k_ => some k_ = (.slice Ao17 t175.length co17 : Value).ownBlock) rfl rfl ?aP (fun k_ hk_ => ((Kd.R_mono (ok' := fun k_ => ((fun _ => True)) k_ ∧ some k_ ≠ (u8 : Value).ownBlock) (Kd.R_apart' (HO177.out) (Kd.S_typed HO_8.out) (by decide)) (fun k_ hk => ⟨trivial, hk.2⟩))).1 k_ hk_.symm) ?aF ?aO ?aB ?aS ?aL ?_; (case aP => exact k106_mkM _ _ _ (⟨a1, a2, x19_1, (wrap64 (Int.tdiv (wrap64 ((wrap64 ((l0.length : Int) + 39)) - 1)) 39)), t175⟩ : S106) (Kd.R_mono (Kd.R_tight rfl (Kd.R_mono (ok' := fun k_ => ((fun _ => True)) k_ ∧ some k_ ≠ (u8 : Value).ownBlock) (Kd.R_apart' (HO177.out) (Kd.S_typed HO_8.out) (by decide)) (fun k_ hk => ⟨trivial, hk.2⟩))) (fun _ h_ => h_))); (case aB => exact (b_w HB)); (case aF => exact (fun _ _ => trivial)); (case aO => exact (by (with_reducible repeat (first | apply Kd.S_alloc | apply Kd.S_drewN | apply Kd.S_drew)); exact Kd.S_mono HO_8.out (fun k_ hk => ⟨trivial, fun e_ => hk.2 e_⟩))); (case aS => exact (below_size (b_w HB))); (case aL => have := LMc13.out; omega); intro v179 w18 ho hb hg hat; rw [← Ny178.out] at ho; replace HB := Aside0.mk (hb); have HO180 := Aside0.mk (ho); clear HO_8 HO177; clear ho hb hg hat))
 go_roundg k1
 case measure => have := HK1.out; omega
 case rel => exact ⟨(y178), (wrap64 (x19_1 + 1)), sm, H', ⟨by have := HK1.out; omega⟩, ⟨kS' HO180⟩, ⟨b_w HB⟩⟩
end Go.Proofs.Ytepipgneefcoiaa.D
namespace Go.Proofs.Ytepipgneefcoiaa.D
open Go.RowKit Go.Proofs.YtepipgneefcoiaaW.PrintWords Go.Proofs.YtepipgneefcoiaaW.PrintLast Go.Proofs.YtepipgneefcoiaaW.PrintMore
def marginaliaref16_Same.f (a0_0 : Int) (a0_1 : Int) (a0_2 : Int) (a0_3 : Int) (l0_4 : List Int) (a1_0 : Int) (a1_1 : Int) (a1_2 : Int) (a1_3 : Int) (l1_4 : List Int) : Option (Bool) := if a0_0 = a1_0 then (if a0_1 = a1_1 then (if a0_2 = a1_2 then (if a0_3 = a1_3 then (some ((strOfNums l0_4).toList == (strOfNums l1_4).toList)) else (some false)) else (some false)) else (some false)) else (some false)
set_option maxHeartbeats 8000000 in
set_option maxRecDepth 100000 in
theorem marginaliaref16_Same.calls (a0_0 : Int) (a0_1 : Int) (a0_2 : Int) (a0_3 : Int) (A0_4 : Option Addr) (c0_4 : Nat) (l0_4 : List Int) (a1_0 : Int) (a1_1 : Int) (a1_2 : Int) (a1_3 : Int) (A1_4 : Option Addr) (c1_4 : Nat) (l1_4 : List Int) (r : Bool) (w : World) (hr0_4 : Kd.C (Kd.int .u8) w A0_4 l0_4.length l0_4) (hc0_4 : l0_4.length ≤ c0_4) (hr1_4 : Kd.C (Kd.int .u8) w A1_4 l1_4.length l1_4) (hc1_4 : l1_4.length ≤ c1_4) (h : marginaliaref16_Same.f a0_0 a0_1 a0_2 a0_3 l0_4 a1_0 a1_1 a1_2 a1_3 l1_4 = some r) :
    Calls Try.prog 96 #[.agg #[.int .u64 a0_0, .int .u64 a0_1, .int .i64 a0_2, .int .i64 a0_3, .slice A0_4 l0_4.length c0_4], .agg #[.int .u64 a1_0, .int .u64 a1_1, .int .i64 a1_2, .int .i64 a1_3, .slice A1_4 l1_4.length c1_4]] w fun e w' => e = .returned (.bool r) ∧ Below w.heap.size w w' := by
 have hu106 := Try.underlying106
 have HR0_4 := Aside0.mk hr0_4
 have HC0_4 := Aside0.mk hc0_4
 clear hr0_4 hc0_4
 have HR1_4 := Aside0.mk hr1_4
 have HC1_4 := Aside0.mk hc1_4
 clear hr1_4 hc1_4
 have HB := Aside0.mk (Below.refl w.heap.size w)
 have H : (if a0_0 = a1_0 then (if a0_1 = a1_1 then (if a0_2 = a1_2 then (if a0_3 = a1_3 then (some ((strOfNums l0_4).toList == (strOfNums l1_4).toList)) else (some false)) else (some false)) else (some false)) else (some false)) = some r := h
 clear h
 by_cases c3 : a0_0 = a1_0
 rotate_left
 · rw [if_neg c3] at H
   have c3b0 := beq_eq_false_iff_ne.mpr c3
   have c3b1 := bne_iff_ne.mpr c3
   obtain rfl := Option.some.inj H
   go_enter Try.func96, Try.ntmps96
   go_wp2_with (first | ((with_reducible refine gate_dst (N := 2) rfl ?_); refine bx 2 #[.int .u64 a0_0, .int .u64 a0_1, .int .i64 a0_2, .int .i64 a0_3, .slice A0_4 l0_4.length c0_4] 106 ?_; intro gb323 hg w29 hbox hb; have BK323 := Aside0.mk (hbox); have GW323 := gs HB hg; have GE323 := gs HB hg; replace HB := bs HB hb; clear hb hbox hg) | ((with_reducible refine gate_dst (N := 3) rfl ?_); refine bx 3 #[.int .u64 a1_0, .int .u64 a1_1, .int .i64 a1_2, .int .i64 a1_3, .slice A1_4 l1_4.length c1_4] 106 ?_; intro gb324 hg w30 hbox hb; have BK324 := Aside0.mk (hbox); have GW324 := gs HB hg; have GE324 := gs HB hg; replace HB := bs HB hb; have NB323_324 := nl BK323 hg; have NB324_323 := ng BK323 hg; replace BK323 := bb BK323 hb; clear hb hbox hg; have hnb31 := NB323_324.out; have hnc31 := NB324_323.out; obtain ⟨_,_,_,_,_,_,_,_,_,_⟩ := cz5 BK323.out; obtain ⟨_,_,_,_,_,_,_,_,_,_⟩ := cz5 BK324.out))
   go_ret
   exact ⟨er, b_w HB⟩
 rw [if_pos c3] at H
 have c3b0 := beq_iff_eq.mpr c3
 have c3b1 := bne_eq_false_iff_eq.mpr c3
 clear c3
 by_cases c4 : a0_1 = a1_1
 rotate_left
 · rw [if_neg c4] at H
   have c4b0 := beq_eq_false_iff_ne.mpr c4
   have c4b1 := bne_iff_ne.mpr c4
   obtain rfl := Option.some.inj H
   go_enter Try.func96, Try.ntmps96
   go_wp2_with (first | ((with_reducible refine gate_dst (N := 2) rfl ?_); refine bx 2 #[.int .u64 a0_0, .int .u64 a0_1, .int .i64 a0_2, .int .i64 a0_3, .slice A0_4 l0_4.length c0_4] 106 ?_; intro gb323 hg w24 hbox hb; have BK323 := Aside0.mk (hbox); have GW323 := gs HB hg; have GE323 := gs HB hg; replace HB := bs HB hb; clear hb hbox hg) | ((with_reducible refine gate_dst (N := 3) rfl ?_); refine bx 3 #[.int .u64 a1_0, .int .u64 a1_1, .int .i64 a1_2, .int .i64 a1_3, .slice A1_4 l1_4.length c1_4] 106 ?_; intro gb324 hg w25 hbox hb; have BK324 := Aside0.mk (hbox); have GW324 := gs HB hg; have GE324 := gs HB hg; replace HB := bs HB hb; have NB323_324 := nl BK323 hg; have NB324_323 := ng BK323 hg; replace BK323 := bb BK323 hb; clear hb hbox hg; have hnb26 := NB323_324.out; have hnc26 := NB324_323.out; obtain ⟨_,_,_,_,_,_,_,_,_,_⟩ := cz5 BK323.out; obtain ⟨_,_,_,_,_,_,_,_,_,_⟩ := cz5 BK324.out))
   go_ret
   exact ⟨er, b_w HB⟩
 rw [if_pos c4] at H
 have c4b0 := beq_iff_eq.mpr c4
 have c4b1 := bne_eq_false_iff_eq.mpr c4
 clear c4
 by_cases c5 : a0_2 = a1_2
 rotate_left
 · rw [if_neg c5] at H
   have c5b0 := beq_eq_false_iff_ne.mpr c5
   have c5b1 := bne_iff_ne.mpr c5
   obtain rfl := Option.some.inj H
   go_enter Try.func96, Try.ntmps96
   go_wp2_with (first | ((with_reducible refine gate_dst (N := 2) rfl ?_); refine bx 2 #[.int .u64 a0_0, .int .u64 a0_1, .int .i64 a0_2, .int .i64 a0_3, .slice A0_4 l0_4.length c0_4] 106 ?_; intro gb323 hg w19 hbox hb; have BK323 := Aside0.mk (hbox); have GW323 := gs HB hg; have GE323 := gs HB hg; replace HB := bs HB hb; clear hb hbox hg) | ((with_reducible refine gate_dst (N := 3) rfl ?_); refine bx 3 #[.int .u64 a1_0, .int .u64 a1_1, .int .i64 a1_2, .int .i64 a1_3, .slice A1_4 l1_4.length c1_4] 106 ?_; intro gb324 hg w20 hbox hb; have BK324 := Aside0.mk (hbox); have GW324 := gs HB hg; have GE324 := gs HB hg; replace HB := bs HB hb; have NB323_324 := nl BK323 hg; have NB324_323 := ng BK323 hg; replace BK323 := bb BK323 hb; clear hb hbox hg; have hnb21 := NB323_324.out; have hnc21 := NB324_323.out; obtain ⟨_,_,_,_,_,_,_,_,_,_⟩ := cz5 BK323.out; obtain ⟨_,_,_,_,_,_,_,_,_,_⟩ := cz5 BK324.out))
   go_ret
   exact ⟨er, b_w HB⟩
 rw [if_pos c5] at H
 have c5b0 := beq_iff_eq.mpr c5
 have c5b1 := bne_eq_false_iff_eq.mpr c5
 clear c5
 by_cases c6 : a0_3 = a1_3
 rotate_left
 · rw [if_neg c6] at H
   have c6b0 := beq_eq_false_iff_ne.mpr c6
   have c6b1 := bne_iff_ne.mpr c6
   obtain rfl := Option.some.inj H
   go_enter Try.func96, Try.ntmps96
   go_wp2_with (first | ((with_reducible refine gate_dst (N := 2) rfl ?_); refine bx 2 #[.int .u64 a0_0, .int .u64 a0_1, .int .i64 a0_2, .int .i64 a0_3, .slice A0_4 l0_4.length c0_4] 106 ?_; intro gb323 hg w14 hbox hb; have BK323 := Aside0.mk (hbox); have GW323 := gs HB hg; have GE323 := gs HB hg; replace HB := bs HB hb; clear hb hbox hg) | ((with_reducible refine gate_dst (N := 3) rfl ?_); refine bx 3 #[.int .u64 a1_0, .int .u64 a1_1, .int .i64 a1_2, .int .i64 a1_3, .slice A1_4 l1_4.length c1_4] 106 ?_; intro gb324 hg w15 hbox hb; have BK324 := Aside0.mk (hbox); have GW324 := gs HB hg; have GE324 := gs HB hg; replace HB := bs HB hb; have NB323_324 := nl BK323 hg; have NB324_323 := ng BK323 hg; replace BK323 := bb BK323 hb; clear hb hbox hg; have hnb16 := NB323_324.out; have hnc16 := NB324_323.out; obtain ⟨_,_,_,_,_,_,_,_,_,_⟩ := cz5 BK323.out; obtain ⟨_,_,_,_,_,_,_,_,_,_⟩ := cz5 BK324.out))
   go_ret
   exact ⟨er, b_w HB⟩
 rw [if_pos c6] at H
 have c6b0 := beq_iff_eq.mpr c6
 have c6b1 := bne_eq_false_iff_eq.mpr c6
 clear c6
 obtain rfl := Option.some.inj H
 go_enter Try.func96, Try.ntmps96
 go_wp2_with (first | ((with_reducible refine gate_dst (N := 2) rfl ?_); refine bx 2 #[.int .u64 a0_0, .int .u64 a0_1, .int .i64 a0_2, .int .i64 a0_3, .slice A0_4 l0_4.length c0_4] 106 ?_; intro gb323 hg w7 hbox hb; have BK323 := Aside0.mk (hbox); have GW323 := gs HB hg; have GE323 := gs HB hg; replace HB := bs HB hb; clear hb hbox hg) | ((with_reducible refine gate_dst (N := 3) rfl ?_); refine bx 3 #[.int .u64 a1_0, .int .u64 a1_1, .int .i64 a1_2, .int .i64 a1_3, .slice A1_4 l1_4.length c1_4] 106 ?_; intro gb324 hg w8 hbox hb; have BK324 := Aside0.mk (hbox); have GW324 := gs HB hg; have GE324 := gs HB hg; replace HB := bs HB hb; have NB323_324 := nl BK323 hg; have NB324_323 := ng BK323 hg; replace BK323 := bb BK323 hb; clear hb hbox hg; have hnb9 := NB323_324.out; have hnc9 := NB324_323.out; obtain ⟨_,_,_,_,_,_,_,_,_,_⟩ := cz5 BK323.out; obtain ⟨_,_,_,_,_,_,_,_,_,_⟩ := cz5 BK324.out; have hcv12 := Kd.C_string (P := Try.prog) (A := A0_4) (c := c0_4) Try.underlying27 Try.underlying5 Try.underlying9 (Kd.C_below HR0_4.out HB.out); have hcd12 := fun (nq_ : Nat) => Kd.C_string (P := Try.prog) (A := A0_4) (c := c0_4) Try.underlying27 Try.underlying5 Try.underlying9 (Kd.C_drewN (Kd.C_below HR0_4.out HB.out) nq_); have hcv13 := Kd.C_string (P := Try.prog) (A := A1_4) (c := c1_4) Try.underlying27 Try.underlying5 Try.underlying9 (Kd.C_below HR1_4.out HB.out); have hcd13 := fun (nq_ : Nat) => Kd.C_string (P := Try.prog) (A := A1_4) (c := c1_4) Try.underlying27 Try.underlying5 Try.underlying9 (Kd.C_drewN (Kd.C_below HR1_4.out HB.out) nq_)))
 go_ret
 exact ⟨er, b_w HB⟩
end Go.Proofs.Ytepipgneefcoiaa.D
namespace Go.Proofs.Ytepipgneefcoiaa.D
open Go.RowKit Go.Proofs.YtepipgneefcoiaaW.PrintWords Go.Proofs.YtepipgneefcoiaaW.PrintLast Go.Proofs.YtepipgneefcoiaaW.PrintMore
def marginaliaref16_May.f (a0_0 : Int) (a0_1 : Int) (a0_2 : Int) (a0_3 : Int) (l0_4 : List Int) : Option (Bool) := if a0_2 ≥ 0 then (if a0_2 < a0_3 then (if a0_3 ≤ 65535 then (some (decide ((l0_4.length : Int) ≤ 39))) else (some false)) else (some false)) else (some false)
set_option maxHeartbeats 8000000 in
set_option maxRecDepth 100000 in
theorem marginaliaref16_May.calls (a0_0 : Int) (a0_1 : Int) (a0_2 : Int) (a0_3 : Int) (A0_4 : Option Addr) (c0_4 : Nat) (l0_4 : List Int) (r : Bool) (w : World) (hr0_4 : Kd.C (Kd.int .u8) w A0_4 l0_4.length l0_4) (hc0_4 : l0_4.length ≤ c0_4) (h : marginaliaref16_May.f a0_0 a0_1 a0_2 a0_3 l0_4 = some r) :
    Calls Try.prog 76 #[.agg #[.int .u64 a0_0, .int .u64 a0_1, .int .i64 a0_2, .int .i64 a0_3, .slice A0_4 l0_4.length c0_4]] w fun e w' => e = .returned (.bool r) ∧ Below w.heap.size w w' := by
 have hu106 := Try.underlying106
 have HR0_4 := Aside0.mk hr0_4
 have HC0_4 := Aside0.mk hc0_4
 clear hr0_4 hc0_4
 have HB := Aside0.mk (Below.refl w.heap.size w)
 have H : (if a0_2 ≥ 0 then (if a0_2 < a0_3 then (if a0_3 ≤ 65535 then (some (decide ((l0_4.length : Int) ≤ 39))) else (some false)) else (some false)) else (some false)) = some r := h
 clear h
 by_cases c2 : a0_2 ≥ 0
 rotate_left
 · rw [if_neg c2] at H
   have c2b0 := decide_eq_false c2
   clear c2
   obtain rfl := Option.some.inj H
   go_enter Try.func76, Try.ntmps76
   go_wp2_with (first | ((with_reducible refine gate_dst (N := 1) rfl ?_); (try (refine gate_guard (by rfl) ?_; dsimp only)); refine bx 1 #[.int .u64 a0_0, .int .u64 a0_1, .int .i64 a0_2, .int .i64 a0_3, .slice A0_4 l0_4.length c0_4] 106 ?_; intro gb190 hg w11 hbox hb; have BK190 := Aside0.mk (hbox); have GW190 := gs HB hg; have GE190 := gs HB hg; replace HB := bs HB hb; clear hb hbox hg; obtain ⟨_,_,_,_,_,_,_,_,_,_⟩ := cz5 BK190.out))
   go_ret
   exact ⟨er, b_w HB⟩
 rw [if_pos c2] at H
 have c2b0 := decide_eq_true c2
 clear c2
 by_cases c3 : a0_2 < a0_3
 rotate_left
 · rw [if_neg c3] at H
   have c3b0 := decide_eq_false c3
   clear c3
   obtain rfl := Option.some.inj H
   go_enter Try.func76, Try.ntmps76
   go_wp2_with (first | ((with_reducible refine gate_dst (N := 1) rfl ?_); (try (refine gate_guard (by rfl) ?_; dsimp only)); refine bx 1 #[.int .u64 a0_0, .int .u64 a0_1, .int .i64 a0_2, .int .i64 a0_3, .slice A0_4 l0_4.length c0_4] 106 ?_; intro gb190 hg w9 hbox hb; have BK190 := Aside0.mk (hbox); have GW190 := gs HB hg; have GE190 := gs HB hg; replace HB := bs HB hb; clear hb hbox hg; obtain ⟨_,_,_,_,_,_,_,_,_,_⟩ := cz5 BK190.out))
   go_ret
   exact ⟨er, b_w HB⟩
 rw [if_pos c3] at H
 have c3b0 := decide_eq_true c3
 clear c3
 by_cases c4 : a0_3 ≤ 65535
 · rw [if_pos c4] at H
   have c4b0 := decide_eq_true c4
   clear c4
   obtain rfl := Option.some.inj H
   go_enter Try.func76, Try.ntmps76
   go_wp2_with (first | ((with_reducible refine gate_dst (N := 1) rfl ?_); (try (refine gate_guard (by rfl) ?_; dsimp only)); refine bx 1 #[.int .u64 a0_0, .int .u64 a0_1, .int .i64 a0_2, .int .i64 a0_3, .slice A0_4 l0_4.length c0_4] 106 ?_; intro gb190 hg w5 hbox hb; have BK190 := Aside0.mk (hbox); have GW190 := gs HB hg; have GE190 := gs HB hg; replace HB := bs HB hb; clear hb hbox hg; obtain ⟨_,_,_,_,_,_,_,_,_,_⟩ := cz5 BK190.out))
   go_ret
   exact ⟨er, b_w HB⟩
 rw [if_neg c4] at H
 have c4b0 := decide_eq_false c4
 clear c4
 obtain rfl := Option.some.inj H
 go_enter Try.func76, Try.ntmps76
 go_wp2_with (first | ((with_reducible refine gate_dst (N := 1) rfl ?_); (try (refine gate_guard (by rfl) ?_; dsimp only)); refine bx 1 #[.int .u64 a0_0, .int .u64 a0_1, .int .i64 a0_2, .int .i64 a0_3, .slice A0_4 l0_4.length c0_4] 106 ?_; intro gb190 hg w7 hbox hb; have BK190 := Aside0.mk (hbox); have GW190 := gs HB hg; have GE190 := gs HB hg; replace HB := bs HB hb; clear hb hbox hg; obtain ⟨_,_,_,_,_,_,_,_,_,_⟩ := cz5 BK190.out))
 go_ret
 exact ⟨er, b_w HB⟩
end Go.Proofs.Ytepipgneefcoiaa.D
namespace Go.Proofs.Ytepipgneefcoiaa.D
open Go.RowKit Go.Proofs.YtepipgneefcoiaaW.PrintWords Go.Proofs.YtepipgneefcoiaaW.PrintLast Go.Proofs.YtepipgneefcoiaaW.PrintMore
def marginaliaref16_Put.l0 : Nat → List Int → Int → Int → Option (List Int)
  | 0, _, _, _ => none
  | k + 1, x0, x1, x7 => if x7 ≥ 0 then (if 0 ≤ (IntKind.u64.wrap (wrap64 (8 * x7))) then (if x0.length < 140737488355328 then (marginaliaref16_Put.l0 k (x0 ++ [(shr .u64 x1 (IntKind.u64.wrap (wrap64 (8 * x7)))) % 256]) x1 (wrap64 (x7 - 1))) else (none)) else (none)) else (some x0)
def marginaliaref16_Put.f (k : Nat) (l0 : List Int) (a1 : Int) (a2 : Int) : Option (List Int) := marginaliaref16_Put.l0 k l0 a1 (wrap64 (a2 - 1))
set_option maxHeartbeats 8000000 in
set_option maxRecDepth 100000 in
theorem marginaliaref16_Put.calls (k : Nat) (P0_ : Nat → Prop) (u9000_ : Value) (l0 : List Int) (a1 : Int) (a2 : Int) (r : List Int) (w0 w : World) (hB : Below w0.heap.size w0 w) (ho0 : Kd.R (Kd.int .u8) 5 w w0.heap.size P0_ u9000_ l0) (h : marginaliaref16_Put.f k l0 a1 a2 = some r) :
    Calls Try.prog 77 #[u9000_, .int .u64 a1, .int .i64 a2] w fun e w' => ∃ v0_ : Value, e = .returned (v0_) ∧ Kd.R (Kd.int .u8) 5 w' w0.heap.size (fun k_ => (P0_ k_ ∨ w.heap.size ≤ k_)) v0_ r ∧ Below w0.heap.size w0 w' ∧ Kept w w' (fun k_ => P0_ k_) := by
 have HO0 := Aside0.mk (show Kd.R (Kd.int .u8) 5 w w0.heap.size (fun k_ => (P0_ k_ ∨ w.heap.size ≤ k_)) u9000_ l0 from Kd.R_mono ho0 (fun k_ hk => (.inl hk)))
 have HK := Aside0.mk (Kept.refl w (fun k_ => P0_ k_))
 have HW0 := Aside0.mk hB.size
 have HB := Aside0.mk hB
 clear hB
 have H : (marginaliaref16_Put.l0 k l0 a1 (wrap64 (a2 - 1))) = some r := h
 clear h
 have H' := Aside0.mk H
 clear H
 go_enter Try.func77, Try.ntmps77
 go_wp2
 go_loopg [0, 7] k (fun kq v0 v7 w' => ∃ (x0_1 : List Int) (x7_1 : Int), v7 = .int .i64 x7_1 ∧ Aside0 (marginaliaref16_Put.l0 kq x0_1 a1 x7_1 = some r) ∧ Aside0 (kq ≤ k) ∧ Aside0 (Kd.R (Kd.int .u8) 5 w' w0.heap.size (fun k_ => (P0_ k_ ∨ w.heap.size ≤ k_)) v0 x0_1) ∧ Aside0 (Kept w w' (fun k_ => P0_ k_)) ∧ Aside0 (Below w0.heap.size w0 w'))
 case atStart => exact ⟨(l0), (wrap64 (a2 - 1)), sm, H', ⟨Nat.le_refl _⟩, ⟨kR' HO0⟩, ⟨kp HK⟩, ⟨b_w HB⟩⟩
 clear H'
 try clear p2
 obtain ⟨x0_1, x7_1, rfl, HA, HK1, HO_0, HK, HB⟩ := hrel
 cases gk with
 | zero => exact absurd HA.out (by simp [marginaliaref16_Put.l0])
 | succ k1 => ?_
 have H := HA.out
 clear HA
 simp only [marginaliaref16_Put.l0] at H
 by_cases c4 : x7_1 ≥ 0
 rotate_left
 · rw [if_neg c4] at H
   have c4b0 := decide_eq_false c4
   clear c4
   obtain rfl := Option.some.inj H
   go_wp2
   go_ret
   exact ⟨_, er, kR' HO_0, b_w HB, kp HK⟩
 rw [if_pos c4] at H
 have c4b0 := decide_eq_true c4
 clear c4
 obtain ⟨ji5, hji5⟩ : ∃ j_ : Int, (IntKind.u64.wrap (wrap64 (8 * x7_1))) = j_ := ⟨_, rfl⟩
 replace H : (if 0 ≤ (ji5) then (if x0_1.length < 140737488355328 then (marginaliaref16_Put.l0 k1 (x0_1 ++ [(shr .u64 a1 (ji5)) % 256]) a1 (wrap64 (x7_1 - 1))) else (none)) else (none)) = some r := by first | (rw [hji5] at H; exact H) | (simp only [hji5] at H ⊢; exact H)
 obtain ⟨c6, H⟩ := ifN H
 have c6b0 := eq_true c6
 have c6b1 := decide_eq_true c6
 clear c6
 obtain ⟨ji7, hji7⟩ : ∃ j_ : Int, (shr .u64 a1 (ji5)) = j_ := ⟨_, rfl⟩
 replace H : (if x0_1.length < 140737488355328 then (marginaliaref16_Put.l0 k1 (x0_1 ++ [(ji7) % 256]) a1 (wrap64 (x7_1 - 1))) else (none)) = some r := by first | (rw [hji7] at H; exact H) | (simp only [hji7] at H ⊢; exact H)
 have hji7_ : (a1 / 2 ^ min (ji5).toNat 64) = ji7 := hji7
 have hji7z : (ji5) ≤ 64 → (a1 / 2 ^ (ji5).toNat) = ji7 := shr_small hji7
 obtain ⟨c8, H⟩ := ifN H
 have LMc8 := Aside0.mk c8
 clear c8
 obtain ⟨y191, Ny191⟩ := yy ((x0_1 ++ [(ji7) % 256]) : List Int)
 replace H : (marginaliaref16_Put.l0 k1 y191 a1 (wrap64 (x7_1 - 1))) = some r := yx Ny191 H
 have H' := Aside0.mk H
 clear H
 go_wp2_with (first | ((with_reducible refine gate_builtin (b := .append) (xs := #[.tmp 14, .tmp 21]) rfl ?_); at_builtin; refine Kd.R_append (Kd.int .u8) (w0 := w0) w0.heap.size rfl (.tmp 14) (.tmp 21) 27 5 (.int .u8 0) 1 rfl Try.underlying27 info5 rfl (by decide) (by omega) u0 x0_1 ((ji7) % 256) [.int .u8 ((ji7) % 256)] (fun k_ => (P0_ k_ ∨ w.heap.size ≤ k_)) (fun _ => False) rfl rfl ?aP (fun _ hk => hk.elim) ?aF ?aO ?aB ?aS ?aL ?_; (case aP => exact rfl); (case aB => exact (b_w HB)); (case aF => exact (fun k_ hk => (.inr (Nat.le_trans (by first | exact HK.out.1 | exact (show Kept w _ (fun k_ => P0_ k_) from kp HK).1) hk)))); (case aO => exact (kR' HO_0)); (case aS => exact (below_size (b_w HB))); (case aL => have := LMc8.out; omega); intro v192 w9 ho hb hg hat; rw [← Ny191.out] at ho; replace HB := Aside0.mk (hb); replace HK := Aside0.mk (Kept.of_grown (S := (fun k_ => P0_ k_)) hg (kp HK) (fun k_ e_ => (HO_0.out.1 k_ e_))); have HO193 := Aside0.mk (ho); clear HO_0; clear ho hb hg hat))
 go_roundg k1
 case measure => have := HK1.out; omega
 case rel => exact ⟨(y191), (wrap64 (x7_1 - 1)), sm, H', ⟨by have := HK1.out; omega⟩, ⟨kR' HO193⟩, ⟨kp HK⟩, ⟨b_w HB⟩⟩
end Go.Proofs.Ytepipgneefcoiaa.D
namespace Go.Proofs.Ytepipgneefcoiaa.D
open Go.RowKit Go.Proofs.YtepipgneefcoiaaW.PrintWords Go.Proofs.YtepipgneefcoiaaW.PrintLast Go.Proofs.YtepipgneefcoiaaW.PrintMore
def marginaliaref15_turned.l0 : Nat → Int → Int → Int → Option (Int)
  | 0, _, _, _ => none
  | k + 1, x0, x3, x4 => if x4 < 32 then (marginaliaref15_turned.l0 k ((Int.tdiv x0 2) % 4294967296) ((((x3 * 2) % 4294967296) + (Int.tmod x0 2)) % 4294967296) (wrap64 (x4 + 1))) else (some x3)
def marginaliaref15_turned.f (k : Nat) (a0 : Int) : Option (Int) := marginaliaref15_turned.l0 k a0 0 0
set_option maxHeartbeats 8000000 in
set_option maxRecDepth 100000 in
theorem marginaliaref15_turned.calls (k : Nat) (a0 : Int) (r : Int) (w : World) (h : marginaliaref15_turned.f k a0 = some r) :
    Calls Try.prog 93 #[.int .u32 a0] w fun e w' => e = .returned (.int .u32 r) ∧ Drawn0 w w' := by
 have H : (marginaliaref15_turned.l0 k a0 0 0) = some r := h
 clear h
 have H' := Aside0.mk H
 clear H
 go_enter Try.func93, Try.ntmps93
 go_wp2
 go_loopg [0, 3, 4] k (fun kq v0 v3 v4 w' => ∃ (x0_1 : Int) (x3_1 : Int) (x4_1 : Int), v0 = .int .u32 x0_1 ∧ v3 = .int .u32 x3_1 ∧ v4 = .int .i64 x4_1 ∧ Aside0 (marginaliaref15_turned.l0 kq x0_1 x3_1 x4_1 = some r) ∧ Aside0 (kq ≤ k) ∧ Drawn0 w w')
 case atStart => exact ⟨(a0), (0), (0), sm, sm, sm, H', ⟨Nat.le_refl _⟩, by repeat (first | exact Drawn0.refl _ | apply Drawn0.step)⟩
 clear H'
 obtain ⟨x0_1, x3_1, x4_1, rfl, rfl, rfl, HA, HK1, ⟨m1, rfl⟩⟩ := hrel
 cases gk with
 | zero => exact absurd HA.out (by simp [marginaliaref15_turned.l0])
 | succ k1 => ?_
 have H := HA.out
 clear HA
 simp only [marginaliaref15_turned.l0] at H
 by_cases c2 : x4_1 < 32
 rotate_left
 · rw [if_neg c2] at H
   have c2b0 := decide_eq_false c2
   clear c2
   obtain rfl := Option.some.inj H
   go_wp2
   go_ret
   exact ⟨by first | rfl | (simp; done) | (simp [*]; done), by repeat (first | exact Drawn0.refl _ | apply Drawn0.step)⟩
 rw [if_pos c2] at H
 have c2b0 := decide_eq_true c2
 clear c2
 have H' := Aside0.mk H
 clear H
 go_wp2
 go_roundg k1
 case measure => have := HK1.out; omega
 case rel => exact ⟨((Int.tdiv x0_1 2) % 4294967296), ((((x3_1 * 2) % 4294967296) + (Int.tmod x0_1 2)) % 4294967296), (wrap64 (x4_1 + 1)), sm, sm, sm, H', ⟨by have := HK1.out; omega⟩, by repeat (first | exact Drawn0.refl _ | apply Drawn0.step)⟩
end Go.Proofs.Ytepipgneefcoiaa.D
namespace Go.Proofs.Ytepipgneefcoiaa.D
open Go.RowKit Go.Proofs.YtepipgneefcoiaaW.PrintWords Go.Proofs.YtepipgneefcoiaaW.PrintLast Go.Proofs.YtepipgneefcoiaaW.PrintMore
mutual
def marginaliaref15_More.l0 : Nat → List Int → Int → Int → Option (Int)
  | 0, _, _, _ => none
  | k + 1, x1, x5, x6 => if x6 < (x1.length : Int) then (if 0 ≤ x6 then (marginaliaref15_More.l1 k x1 x5 x6 (rd x1 x6) 0) else (none)) else ((marginaliaref15_turned.f k x5).bind fun t195 => (some (Go.bits .xor .u32 t195 4294967295)))
def marginaliaref15_More.l1 : Nat → List Int → Int → Int → Int → Int → Option (Int)
  | 0, _, _, _, _, _ => none
  | k + 1, x1, x5, x6, x7, x8 => if x8 < 8 then (if ((decide (x5 ≥ 2147483648)) != ((Int.tmod x7 2) == 1)) = true then (marginaliaref15_More.l1 k x1 (Go.bits .xor .u32 ((x5 * 2) % 4294967296) 79764919) x6 ((Int.tdiv x7 2) % 256) (wrap64 (x8 + 1))) else (marginaliaref15_More.l1 k x1 ((x5 * 2) % 4294967296) x6 ((Int.tdiv x7 2) % 256) (wrap64 (x8 + 1)))) else (marginaliaref15_More.l0 k x1 x5 (wrap64 (x6 + 1)))
end
def marginaliaref15_More.f (k : Nat) (a0 : Int) (l1 : List Int) : Option (Int) := (marginaliaref15_turned.f k (Go.bits .xor .u32 a0 4294967295)).bind fun t194 => (marginaliaref15_More.l0 k l1 t194 0)
set_option maxHeartbeats 8000000 in
set_option maxRecDepth 100000 in
theorem marginaliaref15_More.calls (k : Nat) (a0 : Int) (A1 : Option Addr) (c1 : Nat) (l1 : List Int) (r : Int) (w : World) (hr1 : Kd.C (Kd.int .u8) w A1 l1.length l1) (hc1 : l1.length ≤ c1) (h : marginaliaref15_More.f k a0 l1 = some r) :
    Calls Try.prog 85 #[.int .u32 a0, .slice A1 l1.length c1] w fun e w' => e = .returned (.int .u32 r) ∧ Drawn0 w w' := by
 have HR1 := Aside0.mk hr1
 have HC1 := Aside0.mk hc1
 clear hr1 hc1
 have H : ((marginaliaref15_turned.f k (Go.bits .xor .u32 a0 4294967295)).bind fun t194 => (marginaliaref15_More.l0 k l1 t194 0)) = some r := h
 clear h
 obtain ⟨t194, A3, H⟩ := bnd H
 have H' := Aside0.mk H
 clear H
 go_enter Try.func85, Try.ntmps85
 go_wp2_with (first | ((with_reducible refine gate_callee (f := 93) rfl ?_); refine gl 12 Try.func93 #[.int .u32 (Go.bits .xor .u32 a0 4294967295)] ?_; (with_reducible refine (marginaliaref15_turned.calls k (Go.bits .xor .u32 a0 4294967295) t194 _ A3.out).mono ?_); rintro e w' ⟨rfl, ⟨nd, rfl⟩⟩; refine ⟨_, rfl, ?_⟩))
 go_loopg [5, 6] k (fun kq v5 v6 w' => ∃ (x5_1 : Int) (x6_1 : Int), v5 = .int .u32 x5_1 ∧ v6 = .int .i64 x6_1 ∧ Aside0 (marginaliaref15_More.l0 kq l1 x5_1 x6_1 = some r) ∧ Aside0 (kq ≤ k) ∧ Drawn0 w w')
 case atStart => exact ⟨(t194), (0), sm, sm, H', ⟨Nat.le_refl _⟩, by repeat (first | exact Drawn0.refl _ | apply Drawn0.step)⟩
 clear H'
 try clear c1
 try clear p2
 obtain ⟨x5_1, x6_1, rfl, rfl, HA, HK1, ⟨m1, rfl⟩⟩ := hrel
 cases gk with
 | zero => exact absurd HA.out (by simp [marginaliaref15_More.l0])
 | succ k1 => ?_
 have H := HA.out
 clear HA
 simp only [marginaliaref15_More.l0] at H
 by_cases c4 : x6_1 < (l1.length : Int)
 rotate_left
 · rw [if_neg c4] at H
   have c4b0 := decide_eq_false c4
   clear c4
   obtain ⟨t195, A8, H⟩ := bnd H
   obtain rfl := Option.some.inj H
   go_wp2_with (first | ((with_reducible refine gate_callee (f := 93) rfl ?_); refine gl 41 Try.func93 #[.int .u32 x5_1] ?_; (with_reducible refine (marginaliaref15_turned.calls k1 x5_1 t195 _ A8.out).mono ?_); rintro e w' ⟨rfl, ⟨nd, rfl⟩⟩; refine ⟨_, rfl, ?_⟩))
   go_ret
   exact ⟨by first | rfl | (simp; done) | (simp [*]; done), by repeat (first | exact Drawn0.refl _ | apply Drawn0.step)⟩
 rw [if_pos c4] at H
 have c4b0 := decide_eq_true c4
 clear c4
 obtain ⟨c5, H⟩ := ifN H
 have c5b0 := decide_eq_true c5
 clear c5
 have H' := Aside0.mk H
 clear H
 have p196 : 0 ≤ (x6_1 : Int) := od
 have q196 : x6_1 < (l1.length : Int) := od
 obtain ⟨ad196, e196, hx196_0⟩ := Kd.at_int HR1.out x6_1 p196 q196
 cases e196
 replace p196 := eq_true p196
 replace q196 := eq_true q196
 go_wp2
 go_loopg [5, 7, 8] k1 (fun kq v5 v7 v8 w' => ∃ (x5_2 : Int) (x7_2 : Int) (x8_2 : Int), v5 = .int .u32 x5_2 ∧ v7 = .int .u8 x7_2 ∧ v8 = .int .i64 x8_2 ∧ Aside0 (marginaliaref15_More.l1 kq l1 x5_2 x6_1 x7_2 x8_2 = some r) ∧ Aside0 (kq ≤ k1) ∧ Drawn0 w w')
 case atStart => exact ⟨(x5_1), (rd l1 x6_1), (0), sm, sm, sm, H', ⟨Nat.le_refl _⟩, by repeat (first | exact Drawn0.refl _ | apply Drawn0.step)⟩
 clear H'
 try clear c1
 try clear p1
 try clear q1
 try clear hx1
 try clear p2
 try clear c4
 try clear c4b0
 try clear c5
 try clear c5b0
 try clear hx196_0
 try clear p196
 try clear p2
 try clear q196
 obtain ⟨x5_2, x7_2, x8_2, rfl, rfl, rfl, HA, HK2, ⟨m2, rfl⟩⟩ := hrel
 cases gk with
 | zero => exact absurd HA.out (by simp [marginaliaref15_More.l1])
 | succ k2 => ?_
 have H := HA.out
 clear HA
 simp only [marginaliaref15_More.l1] at H
 by_cases c6 : x8_2 < 8
 rotate_left
 · rw [if_neg c6] at H
   have c6b0 := decide_eq_false c6
   clear c6
   have H' := Aside0.mk H
   clear H
   go_wp2
   go_roundg k2
   case measure => have := HK1.out; have := HK2.out; omega
   case rel => exact ⟨(x5_2), (wrap64 (x6_1 + 1)), sm, sm, H', ⟨by have := HK1.out; have := HK2.out; omega⟩, by repeat (first | exact Drawn0.refl _ | apply Drawn0.step)⟩
 rw [if_pos c6] at H
 have c6b0 := decide_eq_true c6
 clear c6
 by_cases c7 : ((decide (x5_2 ≥ 2147483648)) != ((Int.tmod x7_2 2) == 1)) = true
 rotate_left
 · rw [if_neg c7] at H
   have c7b0 : ((decide (x5_2 ≥ 2147483648)) != ((Int.tmod x7_2 2) == 1)) = false := by simpa using c7
   (try (have c7b1 : decide ((decide (x5_2 ≥ 2147483648)) = ((Int.tmod x7_2 2) == 1)) = true := by simpa using c7))
   (try (have c7b2 : ((decide (x5_2 ≥ 2147483648)) == ((Int.tmod x7_2 2) == 1)) = true := by simpa using c7))
   clear c7
   have H' := Aside0.mk H
   clear H
   go_wp2
   go_roundg k2
   case measure => have := HK1.out; have := HK2.out; omega
   case rel => exact ⟨((x5_2 * 2) % 4294967296), ((Int.tdiv x7_2 2) % 256), (wrap64 (x8_2 + 1)), sm, sm, sm, H', ⟨by have := HK1.out; have := HK2.out; omega⟩, by repeat (first | exact Drawn0.refl _ | apply Drawn0.step)⟩
 rw [if_pos c7] at H
 have c7b0 : ((decide (x5_2 ≥ 2147483648)) != ((Int.tmod x7_2 2) == 1)) = true := c7
 (try (have c7b1 : decide ((decide (x5_2 ≥ 2147483648)) = ((Int.tmod x7_2 2) == 1)) = false := by simpa using c7))
 (try (have c7b2 : ((decide (x5_2 ≥ 2147483648)) == ((Int.tmod x7_2 2) == 1)) = false := by simpa using c7))
 (try (have c7b3 : ¬ ((decide (x5_2 ≥ 2147483648)) = ((Int.tmod x7_2 2) == 1)) := by simpa using c7))
 clear c7
 have H' := Aside0.mk H
 clear H
 go_wp2
 go_roundg k2
 case measure => have := HK1.out; have := HK2.out; omega
 case rel => exact ⟨(Go.bits .xor .u32 ((x5_2 * 2) % 4294967296) 79764919), ((Int.tdiv x7_2 2) % 256), (wrap64 (x8_2 + 1)), sm, sm, sm, H', ⟨by have := HK1.out; have := HK2.out; omega⟩, by repeat (first | exact Drawn0.refl _ | apply Drawn0.step)⟩
end Go.Proofs.Ytepipgneefcoiaa.D
namespace Go.Proofs.Ytepipgneefcoiaa.D
open Go.RowKit Go.Proofs.YtepipgneefcoiaaW.PrintWords Go.Proofs.YtepipgneefcoiaaW.PrintLast Go.Proofs.YtepipgneefcoiaaW.PrintMore
def marginaliaref15_Sum.f (k : Nat) (l0 : List Int) : Option (Int) := (marginaliaref15_More.f k 0 l0).bind fun t197 => (some t197)
set_option maxHeartbeats 8000000 in
set_option maxRecDepth 100000 in
theorem marginaliaref15_Sum.calls (k : Nat) (A0 : Option Addr) (c0 : Nat) (l0 : List Int) (r : Int) (w : World) (hr0 : Kd.C (Kd.int .u8) w A0 l0.length l0) (hc0 : l0.length ≤ c0) (h : marginaliaref15_Sum.f k l0 = some r) :
    Calls Try.prog 78 #[.slice A0 l0.length c0] w fun e w' => e = .returned (.int .u32 r) ∧ Drawn0 w w' := by
 have HR0 := Aside0.mk hr0
 have HC0 := Aside0.mk hc0
 clear hr0 hc0
 have H : ((marginaliaref15_More.f k 0 l0).bind fun t197 => (some t197)) = some r := h
 clear h
 obtain ⟨t197, A2, H⟩ := bnd H
 obtain rfl := Option.some.inj H
 go_enter Try.func78, Try.ntmps78
 go_wp2_with (first | ((with_reducible refine gate_callee (f := 85) rfl ?_); refine gl 4 Try.func85 #[.int .u32 0, .slice A0 l0.length c0] ?_; (with_reducible refine (marginaliaref15_More.calls k 0 _ _ l0 t197 _ ?side1 ?side2 A2.out).mono ?_); (case side1 => repeat (first | exact HR0.out | (with_reducible refine Kd.C_alloc ?_ _) | (with_reducible refine Kd.C_drewN ?_ _) | (with_reducible refine Kd.C_drew ?_))); (case side2 => exact HC0.out); rintro e w' ⟨rfl, ⟨nd, rfl⟩⟩; refine ⟨_, rfl, ?_⟩))
 go_ret
 exact ⟨by first | rfl | (simp; done) | (simp [*]; done), by repeat (first | exact Drawn0.refl _ | apply Drawn0.step)⟩
end Go.Proofs.Ytepipgneefcoiaa.D
namespace Go.Proofs.Ytepipgneefcoiaa.D
open Go.RowKit Go.Proofs.YtepipgneefcoiaaW.PrintWords Go.Proofs.YtepipgneefcoiaaW.PrintLast Go.Proofs.YtepipgneefcoiaaW.PrintMore
def marginaliaref16_Encode.l0 : Nat → List Int → Option (List Int × Int)
  | 0, _ => none
  | k + 1, x4 => if (x4.length : Int) < 60 then (if x4.length < 140737488355328 then (marginaliaref16_Encode.l0 k (x4 ++ [0])) else (none)) else ((marginaliaref15_Sum.f k x4).bind fun t221 => ((marginaliaref16_Put.f k x4 (IntKind.u64.wrap (t221)) 4).bind fun t222 => (some (t222, 0))))
def marginaliaref16_Encode.f (k : Nat) (a0_0 : Int) (a0_1 : Int) (a0_2 : Int) (a0_3 : Int) (l0_4 : List Int) : Option (List Int × Int) := (marginaliaref16_May.f a0_0 a0_1 a0_2 a0_3 l0_4).bind fun t199 => (if t199 = true then ((marginaliaref16_Put.f k ([] : List Int) a0_0 8).bind fun t200 => ((marginaliaref16_Put.f k t200 a0_1 8).bind fun t203 => ((marginaliaref16_Put.f k t203 (IntKind.u64.wrap (a0_2)) 2).bind fun t206 => ((marginaliaref16_Put.f k t206 (IntKind.u64.wrap (a0_3)) 2).bind fun t209 => ((marginaliaref16_Put.f k t209 (IntKind.u64.wrap ((l0_4.length : Int))) 1).bind fun t212 => (if t212.length + l0_4.length < 140737488355328 then (marginaliaref16_Encode.l0 k (t212 ++ l0_4)) else (none))))))) else (some (([] : List Int), 1)))
set_option maxHeartbeats 8000000 in
set_option maxRecDepth 100000 in
theorem marginaliaref16_Encode.calls (k : Nat) (a0_0 : Int) (a0_1 : Int) (a0_2 : Int) (a0_3 : Int) (A0_4 : Option Addr) (c0_4 : Nat) (l0_4 : List Int) (r1 : List Int) (r2 : Int) (w : World) (hr0_4 : Kd.C (Kd.int .u8) w A0_4 l0_4.length l0_4) (hc0_4 : l0_4.length ≤ c0_4) (h : marginaliaref16_Encode.f k a0_0 a0_1 a0_2 a0_3 l0_4 = some (r1, r2)) :
    Calls Try.prog 64 #[.agg #[.int .u64 a0_0, .int .u64 a0_1, .int .i64 a0_2, .int .i64 a0_3, .slice A0_4 l0_4.length c0_4]] w fun e w' => ∃ v0_ : Value, e = .returned (.tuple #[v0_, .int .i64 r2]) ∧ Kd.R (Kd.int .u8) 5 w' w.heap.size (fun _ => True) v0_ r1 ∧ Below w.heap.size w w' := by
 have hu106 := Try.underlying106
 have HR0_4 := Aside0.mk hr0_4
 have HC0_4 := Aside0.mk hc0_4
 clear hr0_4 hc0_4
 have HB := Aside0.mk (Below.refl w.heap.size w)
 have H : ((marginaliaref16_May.f a0_0 a0_1 a0_2 a0_3 l0_4).bind fun t199 => (if t199 = true then ((marginaliaref16_Put.f k ([] : List Int) a0_0 8).bind fun t200 => ((marginaliaref16_Put.f k t200 a0_1 8).bind fun t203 => ((marginaliaref16_Put.f k t203 (IntKind.u64.wrap (a0_2)) 2).bind fun t206 => ((marginaliaref16_Put.f k t206 (IntKind.u64.wrap (a0_3)) 2).bind fun t209 => ((marginaliaref16_Put.f k t209 (IntKind.u64.wrap ((l0_4.length : Int))) 1).bind fun t212 => (if t212.length + l0_4.length < 140737488355328 then (marginaliaref16_Encode.l0 k (t212 ++ l0_4)) else (none))))))) else (some (([] : List Int), 1)))) = some (r1, r2) := h
 clear h
 obtain ⟨t199, A2, H⟩ := bnd H
 by_cases c3 : t199 = true
 rotate_left
 · replace c3 := Bool.eq_false_iff.mpr c3
   subst c3
   replace H := fi H
   simp only [Option.some.injEq, Prod.mk.injEq] at H
   obtain ⟨rfl, rfl⟩ := H
   go_enter Try.func64, Try.ntmps64
   go_wp2_with (first | ((with_reducible refine gate_dst (N := 1) rfl ?_); refine bx 1 #[.int .u64 a0_0, .int .u64 a0_1, .int .i64 a0_2, .int .i64 a0_3, .slice A0_4 l0_4.length c0_4] 106 ?_; intro gb198 hg w37 hbox hb; have BK198 := Aside0.mk (hbox); have GW198 := gs HB hg; have GE198 := gs HB hg; replace HB := bs HB hb; clear hb hbox hg; obtain ⟨_,_,_,_,_,_,_,_,_,_⟩ := cz5 BK198.out) | ((with_reducible refine gate_callee (f := 76) rfl ?_); refine gl 6 Try.func76 #[.agg #[.int .u64 a0_0, .int .u64 a0_1, .int .i64 a0_2, .int .i64 a0_3, .slice A0_4 l0_4.length c0_4]] ?_; (with_reducible refine (marginaliaref16_May.calls a0_0 a0_1 a0_2 a0_3 _ _ l0_4 false _ ?side1 ?side2 A2.out).mono ?_); (case side1 => exact kc HR0_4 HB); (case side2 => exact HC0_4.out); rintro e w39 ⟨rfl, hb⟩; refine ⟨_, rfl, ?_⟩; replace BK198 := bb BK198 hb; replace HB := bs HB hb; clear hb))
   go_ret2
   exact ⟨_, er, rn, b_w HB⟩
 subst c3
 replace H := it H
 obtain ⟨t200, A4, H⟩ := bnd H
 obtain ⟨t203, A5, H⟩ := bnd H
 obtain ⟨t206, A6, H⟩ := bnd H
 obtain ⟨t209, A7, H⟩ := bnd H
 obtain ⟨t212, A8, H⟩ := bnd H
 obtain ⟨c9, H⟩ := ifN H
 have LMc9 := Aside0.mk c9
 clear c9
 obtain ⟨y215, Ny215⟩ := yy ((t212 ++ l0_4) : List Int)
 replace H : (marginaliaref16_Encode.l0 k y215) = some (r1, r2) := yx Ny215 H
 have H' := Aside0.mk H
 clear H
 go_enter Try.func64, Try.ntmps64
 go_wp2_with (first | ((with_reducible refine gate_dst (N := 1) rfl ?_); refine bx 1 #[.int .u64 a0_0, .int .u64 a0_1, .int .i64 a0_2, .int .i64 a0_3, .slice A0_4 l0_4.length c0_4] 106 ?_; intro gb198 hg w10 hbox hb; have BK198 := Aside0.mk (hbox); have GW198 := gs HB hg; have GE198 := gs HB hg; replace HB := bs HB hb; clear hb hbox hg; obtain ⟨_,_,_,_,_,_,_,_,_,_⟩ := cz5 BK198.out) | ((with_reducible refine gate_callee (f := 76) rfl ?_); refine gl 6 Try.func76 #[.agg #[.int .u64 a0_0, .int .u64 a0_1, .int .i64 a0_2, .int .i64 a0_3, .slice A0_4 l0_4.length c0_4]] ?_; (with_reducible refine (marginaliaref16_May.calls a0_0 a0_1 a0_2 a0_3 _ _ l0_4 true _ ?side1 ?side2 A2.out).mono ?_); (case side1 => exact kc HR0_4 HB); (case side2 => exact HC0_4.out); rintro e w12 ⟨rfl, hb⟩; refine ⟨_, rfl, ?_⟩; replace BK198 := bb BK198 hb; replace HB := bs HB hb; clear hb; obtain ⟨_,_,_,_,_,_,_,_,_,_⟩ := cz5 BK198.out) | ((with_reducible refine gate_callee (f := 77) rfl ?_); refine gl 10 Try.func77 #[.slice none 0 0, .int .u64 a0_0, .int .i64 8] ?_; (refine (marginaliaref16_Put.calls k (fun k_ => some k_ = (.slice none 0 0 : Value).ownBlock) (.slice none 0 0) ([] : List Int) a0_0 8 t200 w _ ?side1 ?side2 A4.out).mono ?_); (case side1 => exact b_w HB); (case side2 => exact Kd.R_nil _ _ _ _ _); rintro e w14 ⟨v201, rfl, ho0, hb, hkp⟩; refine ⟨_, rfl, ?_⟩; replace BK198 := Aside0.mk (blk_kept (bk BK198) hkp (fun hs_ => (fun e_ => by simp [Value.ownBlock] at e_) hs_)); have HO202 := Aside0.mk (Kd.R_mono (ok' := fun k_ => True) ho0 (fun k_ hk_ => trivial)); replace HB := Aside0.mk (hb); clear hb hkp ho0; obtain ⟨_,_,_,_,_,_,_,_,_,_⟩ := cz5 BK198.out; obtain ⟨Ao16, co16, eo16⟩ := Kd.R_slice HO202.out; subst eo16) | ((with_reducible refine gate_callee (f := 77) rfl ?_); refine gl 14 Try.func77 #[.slice Ao16 t200.length co16, .int .u64 a0_1, .int .i64 8] ?_; (with_reducible refine (marginaliaref16_Put.calls k (fun k_ => some k_ = (.slice Ao16 t200.length co16 : Value).ownBlock) (.slice Ao16 t200.length co16) t200 a0_1 8 t203 w _ ?side1 ?side2 A5.out).mono ?_); (case side1 => exact b_w HB); (case side2 => exact Kd.R_tight rfl HO202.out); rintro e w17 ⟨v204, rfl, ho0, hb, hkp⟩; refine ⟨_, rfl, ?_⟩; replace BK198 := Aside0.mk (blk_kept (bk BK198) hkp (fun hs_ => (fun e_ => (Kd.R_ne HO202.out BK198.out (by decide)) e_) hs_)); have HO205 := Aside0.mk (Kd.R_mono (ok' := fun k_ => True) ho0 (fun k_ hk_ => trivial)); replace HB := Aside0.mk (hb); clear HO202; clear hb hkp ho0; obtain ⟨_,_,_,_,_,_,_,_,_,_⟩ := cz5 BK198.out; obtain ⟨Ao19, co19, eo19⟩ := Kd.R_slice HO205.out; subst eo19) | ((with_reducible refine gate_callee (f := 77) rfl ?_); refine gl 19 Try.func77 #[.slice Ao19 t203.length co19, .int .u64 (IntKind.u64.wrap (a0_2)), .int .i64 2] ?_; (with_reducible refine (marginaliaref16_Put.calls k (fun k_ => some k_ = (.slice Ao19 t203.length co19 : Value).ownBlock) (.slice Ao19 t203.length co19) t203 (IntKind.u64.wrap (a0_2)) 2 t206 w _ ?side1 ?side2 A6.out).mono ?_); (case side1 => exact b_w HB); (case side2 => exact Kd.R_tight rfl HO205.out); rintro e w20 ⟨v207, rfl, ho0, hb, hkp⟩; refine ⟨_, rfl, ?_⟩; replace BK198 := Aside0.mk (blk_kept (bk BK198) hkp (fun hs_ => (fun e_ => (Kd.R_ne HO205.out BK198.out (by decide)) e_) hs_)); have HO208 := Aside0.mk (Kd.R_mono (ok' := fun k_ => True) ho0 (fun k_ hk_ => trivial)); replace HB := Aside0.mk (hb); clear HO205; clear hb hkp ho0; obtain ⟨_,_,_,_,_,_,_,_,_,_⟩ := cz5 BK198.out; obtain ⟨Ao22, co22, eo22⟩ := Kd.R_slice HO208.out; subst eo22) | ((with_reducible refine gate_callee (f := 77) rfl ?_); refine gl 24 Try.func77 #[.slice Ao22 t206.length co22, .int .u64 (IntKind.u64.wrap (a0_3)), .int .i64 2] ?_; (with_reducible refine (marginaliaref16_Put.calls k (fun k_ => some k_ = (.slice Ao22 t206.length co22 : Value).ownBlock) (.slice Ao22 t206.length co22) t206 (IntKind.u64.wrap (a0_3)) 2 t209 w _ ?side1 ?side2 A7.out).mono ?_); (case side1 => exact b_w HB); (case side2 => exact Kd.R_tight rfl HO208.out); rintro e w23 ⟨v210, rfl, ho0, hb, hkp⟩; refine ⟨_, rfl, ?_⟩; replace BK198 := Aside0.mk (blk_kept (bk BK198) hkp (fun hs_ => (fun e_ => (Kd.R_ne HO208.out BK198.out (by decide)) e_) hs_)); have HO211 := Aside0.mk (Kd.R_mono (ok' := fun k_ => True) ho0 (fun k_ hk_ => trivial)); replace HB := Aside0.mk (hb); clear HO208; clear hb hkp ho0; obtain ⟨_,_,_,_,_,_,_,_,_,_⟩ := cz5 BK198.out; obtain ⟨Ao25, co25, eo25⟩ := Kd.R_slice HO211.out; subst eo25) | ((with_reducible refine gate_callee (f := 77) rfl ?_); refine gl 30 Try.func77 #[.slice Ao25 t209.length co25, .int .u64 (IntKind.u64.wrap ((l0_4.length : Int))), .int .i64 1] ?_; (with_reducible refine (marginaliaref16_Put.calls k (fun k_ => some k_ = (.slice Ao25 t209.length co25 : Value).ownBlock) (.slice Ao25 t209.length co25) t209 (IntKind.u64.wrap ((l0_4.length : Int))) 1 t212 w _ ?side1 ?side2 A8.out).mono ?_); (case side1 => exact b_w HB); (case side2 => exact Kd.R_tight rfl HO211.out); rintro e w26 ⟨v213, rfl, ho0, hb, hkp⟩; refine ⟨_, rfl, ?_⟩; replace BK198 := Aside0.mk (blk_kept (bk BK198) hkp (fun hs_ => (fun e_ => (Kd.R_ne HO211.out BK198.out (by decide)) e_) hs_)); have HO214 := Aside0.mk (Kd.R_mono (ok' := fun k_ => True) ho0 (fun k_ hk_ => trivial)); replace HB := Aside0.mk (hb); clear HO211; clear hb hkp ho0; obtain ⟨_,_,_,_,_,_,_,_,_,_⟩ := cz5 BK198.out) | ((with_reducible refine gate_builtin (b := .append) (xs := #[.tmp 31, .tmp 33]) rfl ?_); at_builtin; refine Kd.R_append_rows (Kd.int .u8) (w0 := w) w.heap.size rfl (.tmp 31) (.tmp 33) 27 5 (.int .u8 0) 1 rfl Try.underlying27 info5 rfl (by decide) (by omega) v213 t212 l0_4 _ _ _ (fun _ => True) (fun _ => False) rfl rfl ?aO ?aR (fun _ _ h => h) (fun _ h => h.elim) ?aF ?aB ?aS ?aL ?_; (case aR => exact kc HR0_4 HB); (case aB => exact (b_w HB)); (case aF => exact (fun _ _ => trivial)); (case aO => exact (kR' HO214)); (case aS => exact (below_size (b_w HB))); (case aL => have := LMc9.out; omega); intro v216 w28 ho hb hg hat; rw [← Ny215.out] at ho; replace BK198 := Aside0.mk (blk_grown (g := gb198) (o := .cells #[.int .u64 a0_0, .int .u64 a0_1, .int .i64 a0_2, .int .i64 a0_3, .slice A0_4 l0_4.length c0_4] 106 (0, 0)) (bk BK198) hg (Kd.R_ne HO214.out BK198.out (by decide))); replace HB := Aside0.mk (hb); have HO217 := Aside0.mk (ho); clear HO214; clear ho hb hg hat))
 go_loopg [4] k (fun kq v4 w' => ∃ (x4_1 : List Int), Aside0 (marginaliaref16_Encode.l0 kq x4_1 = some (r1, r2)) ∧ Aside0 (kq ≤ k) ∧ Aside0 (Kd.R (Kd.int .u8) 5 w' w.heap.size (fun _ => True) v4 x4_1) ∧ Aside0 (w'.heap[gb198]? = some (.cells #[.int .u64 a0_0, .int .u64 a0_1, .int .i64 a0_2, .int .i64 a0_3, (.slice A0_4 l0_4.length c0_4)] 106 (0, 0))) ∧ Aside0 (Below w.heap.size w w'))
 case atStart => exact ⟨(y215), H', ⟨Nat.le_refl _⟩, ⟨kR' HO217⟩, ⟨bk BK198⟩, ⟨b_w HB⟩⟩
 clear H'
 try clear p2
 try clear c3
 try clear c6
 try clear c7
 try clear c9
 obtain ⟨x4_1, HA, HK1, HO_4, BK198, HB⟩ := hrel
 cases gk with
 | zero => exact absurd HA.out (by simp [marginaliaref16_Encode.l0])
 | succ k1 => ?_
 have H := HA.out
 clear HA
 simp only [marginaliaref16_Encode.l0] at H
 by_cases c29 : (x4_1.length : Int) < 60
 · rw [if_pos c29] at H
   have c29b0 := decide_eq_true c29
   have c29b1 : decide (x4_1.length < 60) = true := decide_eq_true (by omega)
   clear c29
   obtain ⟨c30, H⟩ := ifN H
   have LMc30 := Aside0.mk c30
   clear c30
   obtain ⟨y218, Ny218⟩ := yy ((x4_1 ++ [0]) : List Int)
   replace H : (marginaliaref16_Encode.l0 k1 y218) = some (r1, r2) := yx Ny218 H
   have H' := Aside0.mk H
   clear H
   obtain ⟨Ao31, co31, eo31⟩ := Kd.R_slice HO_4.out
   subst eo31
   go_wp2_with (first | ((with_reducible refine gate_builtin (b := .append) (xs := #[.tmp 38, .tmp 39]) rfl ?_); at_builtin; refine Kd.R_append (Kd.int .u8) (w0 := w) w.heap.size rfl (.tmp 38) (.tmp 39) 27 5 (.int .u8 0) 1 rfl Try.underlying27 info5 rfl (by decide) (by omega) (.slice Ao31 x4_1.length co31) x4_1 0 [.int .u8 0] (fun _ => True) (fun _ => False) rfl rfl ?aP (fun _ hk => hk.elim) ?aF ?aO ?aB ?aS ?aL ?_; (case aP => exact rfl); (case aB => exact (b_w HB)); (case aF => exact (fun _ _ => trivial)); (case aO => exact (kR' HO_4)); (case aS => exact (below_size (b_w HB))); (case aL => have := LMc30.out; omega); intro v219 w32 ho hb hg hat; rw [← Ny218.out] at ho; replace BK198 := Aside0.mk (blk_grown (g := gb198) (o := .cells #[.int .u64 a0_0, .int .u64 a0_1, .int .i64 a0_2, .int .i64 a0_3, .slice A0_4 l0_4.length c0_4] 106 (0, 0)) (bk BK198) hg (Kd.R_ne HO_4.out BK198.out (by decide))); replace HB := Aside0.mk (hb); have HO220 := Aside0.mk (ho); clear HO_4; clear ho hb hg hat))
   go_roundg k1
   case measure => have := HK1.out; omega
   case rel => exact ⟨(y218), H', ⟨by have := HK1.out; omega⟩, ⟨kR' HO220⟩, ⟨bk BK198⟩, ⟨b_w HB⟩⟩
 rw [if_neg c29] at H
 have c29b0 := decide_eq_false c29
 have c29b1 : decide (x4_1.length < 60) = false := decide_eq_false (by omega)
 clear c29
 obtain ⟨t221, A33, H⟩ := bnd H
 obtain ⟨t222, A34, H⟩ := bnd H
 simp only [Option.some.injEq, Prod.mk.injEq] at H
 obtain ⟨rfl, rfl⟩ := H
 obtain ⟨Ao35, co35, eo35⟩ := Kd.R_slice HO_4.out
 subst eo35
 go_wp2_with (first | ((with_reducible refine gate_callee (f := 78) rfl ?_); refine gl 43 Try.func78 #[.slice Ao35 x4_1.length co35] ?_; (with_reducible refine (marginaliaref15_Sum.calls k1 _ _ x4_1 t221 _ ?side1 ?side2 A33.out).mono ?_); (case side1 => repeat (first | exact (Kd.R_reads' HO_4.out).2.2 | (with_reducible refine Kd.C_alloc ?_ _) | (with_reducible refine Kd.C_drewN ?_ _) | (with_reducible refine Kd.C_drew ?_))); (case side2 => exact (Kd.R_reads' HO_4.out).2.1); rintro e w' ⟨rfl, ⟨nd, rfl⟩⟩; refine ⟨_, rfl, ?_⟩) | ((with_reducible refine gate_callee (f := 77) rfl ?_); refine gl 45 Try.func77 #[.slice Ao35 x4_1.length co35, .int .u64 (IntKind.u64.wrap (t221)), .int .i64 4] ?_; (with_reducible refine (marginaliaref16_Put.calls k1 (fun k_ => some k_ = (.slice Ao35 x4_1.length co35 : Value).ownBlock) (.slice Ao35 x4_1.length co35) x4_1 (IntKind.u64.wrap (t221)) 4 t222 w _ ?side1 ?side2 A34.out).mono ?_); (case side1 => exact b_w HB); (case side2 => exact Kd.R_tight rfl HO_4.out); rintro e w36 ⟨v223, rfl, ho0, hb, hkp⟩; refine ⟨_, rfl, ?_⟩; replace BK198 := Aside0.mk (blk_kept (bk BK198) hkp (fun hs_ => (fun e_ => (Kd.R_ne HO_4.out BK198.out (by decide)) e_) hs_)); have HO224 := Aside0.mk (Kd.R_mono (ok' := fun k_ => True) ho0 (fun k_ hk_ => trivial)); replace HB := Aside0.mk (hb); clear HO_4; clear hb hkp ho0))
 go_ret2
 exact ⟨_, er, kR' HO224, b_w HB⟩
end Go.Proofs.Ytepipgneefcoiaa.D
namespace Go.Proofs.Ytepipgneefcoiaa.D
open Go.RowKit Go.Proofs.YtepipgneefcoiaaW.PrintWords Go.Proofs.YtepipgneefcoiaaW.PrintLast Go.Proofs.YtepipgneefcoiaaW.PrintMore
def marginaliaref16_Number.l0 : Nat → List Int → Int → Int → Option (Int)
  | 0, _, _, _ => none
  | k + 1, x0, x3, x4 => if x4 < (x0.length : Int) then (if 0 ≤ x4 then (marginaliaref16_Number.l0 k x0 (IntKind.u64.wrap ((IntKind.u64.wrap (x3 * 256)) + (IntKind.u64.wrap (rd x0 x4)))) (wrap64 (x4 + 1))) else (none)) else (some x3)
def marginaliaref16_Number.f (k : Nat) (l0 : List Int) : Option (Int) := marginaliaref16_Number.l0 k l0 0 0
set_option maxHeartbeats 8000000 in
set_option maxRecDepth 100000 in
theorem marginaliaref16_Number.calls (k : Nat) (A0 : Option Addr) (c0 : Nat) (l0 : List Int) (r : Int) (w : World) (hr0 : Kd.C (Kd.int .u8) w A0 l0.length l0) (hc0 : l0.length ≤ c0) (h : marginaliaref16_Number.f k l0 = some r) :
    Calls Try.prog 81 #[.slice A0 l0.length c0] w fun e w' => e = .returned (.int .u64 r) ∧ Drawn0 w w' := by
 have HR0 := Aside0.mk hr0
 have HC0 := Aside0.mk hc0
 clear hr0 hc0
 have H : (marginaliaref16_Number.l0 k l0 0 0) = some r := h
 clear h
 have H' := Aside0.mk H
 clear H
 go_enter Try.func81, Try.ntmps81
 go_wp2
 go_loopg [3, 4] k (fun kq v3 v4 w' => ∃ (x3_1 : Int) (x4_1 : Int), v3 = .int .u64 x3_1 ∧ v4 = .int .i64 x4_1 ∧ Aside0 (marginaliaref16_Number.l0 kq l0 x3_1 x4_1 = some r) ∧ Aside0 (kq ≤ k) ∧ Drawn0 w w')
 case atStart => exact ⟨(0), (0), sm, sm, H', ⟨Nat.le_refl _⟩, by repeat (first | exact Drawn0.refl _ | apply Drawn0.step)⟩
 clear H'
 obtain ⟨x3_1, x4_1, rfl, rfl, HA, HK1, ⟨m1, rfl⟩⟩ := hrel
 cases gk with
 | zero => exact absurd HA.out (by simp [marginaliaref16_Number.l0])
 | succ k1 => ?_
 have H := HA.out
 clear HA
 simp only [marginaliaref16_Number.l0] at H
 by_cases c2 : x4_1 < (l0.length : Int)
 rotate_left
 · rw [if_neg c2] at H
   have c2b0 := decide_eq_false c2
   clear c2
   obtain rfl := Option.some.inj H
   go_wp2
   go_ret
   exact ⟨by first | rfl | (simp; done) | (simp [*]; done), by repeat (first | exact Drawn0.refl _ | apply Drawn0.step)⟩
 rw [if_pos c2] at H
 have c2b0 := decide_eq_true c2
 clear c2
 obtain ⟨c3, H⟩ := ifN H
 have c3b0 := decide_eq_true c3
 clear c3
 have H' := Aside0.mk H
 clear H
 have p285 : 0 ≤ (x4_1 : Int) := od
 have q285 : x4_1 < (l0.length : Int) := od
 obtain ⟨ad285, e285, hx285_0⟩ := Kd.at_int HR0.out x4_1 p285 q285
 cases e285
 replace p285 := eq_true p285
 replace q285 := eq_true q285
 go_wp2
 go_roundg k1
 case measure => have := HK1.out; omega
 case rel => exact ⟨(IntKind.u64.wrap ((IntKind.u64.wrap (x3_1 * 256)) + (IntKind.u64.wrap (rd l0 x4_1)))), (wrap64 (x4_1 + 1)), sm, sm, H', ⟨by have := HK1.out; omega⟩, by repeat (first | exact Drawn0.refl _ | apply Drawn0.step)⟩
end Go.Proofs.Ytepipgneefcoiaa.D
namespace Go.Proofs.Ytepipgneefcoiaa
open Go.RowKit Go.Proofs.Ytepipgneefcoiaa.D Go.Proofs.YtepipgneefcoiaaW.PrintWords Go.Proofs.YtepipgneefcoiaaW.PrintLast
namespace CrcK
def Pl : BitVec 32 := 0xEDB88320#32
def Pm : BitVec 32 := 0x04C11DB7#32
def step (s : BitVec 32) : BitVec 32 := (s >>> 1) ^^^ (if s.getLsbD 0 then Pl else 0#32)
def steps : Nat → BitVec 32 → BitVec 32
  | 0, s => s
  | n + 1, s => steps n (step s)
def byt (s c : BitVec 32) : BitVec 32 := steps 8 (s ^^^ c)
def run (s : BitVec 32) : List (BitVec 32) → BitVec 32
  | [] => s
  | c :: l => run (byt s c) l
def rstep (x : BitVec 32) (b : Bool) : BitVec 32 := (x <<< 1) ^^^ (if (x.getLsbD 31) != b then Pm else 0#32)
def rsteps : Nat → BitVec 32 → BitVec 32 → BitVec 32
  | 0, x, _ => x
  | n + 1, x, c => rsteps n (rstep x (c.getLsbD 0)) (c >>> 1)
theorem rev_get (x : BitVec 32) (i : Nat) (h : i < 32) : x.reverse.getLsbD i = x.getLsbD (31 - i) := by
  rw [BitVec.getLsbD_reverse, BitVec.getMsbD_eq_getLsbD]
  simp [h]
theorem rev_xor (x y : BitVec 32) : (x ^^^ y).reverse = x.reverse ^^^ y.reverse := by
  apply BitVec.eq_of_getLsbD_eq
  intro i hi
  rw [BitVec.getLsbD_xor, rev_get _ _ hi, rev_get _ _ hi, rev_get _ _ hi, BitVec.getLsbD_xor]
theorem rev_rev (x : BitVec 32) : x.reverse.reverse = x := by
  apply BitVec.eq_of_getLsbD_eq
  intro i hi
  rw [rev_get _ _ hi, rev_get _ _ (by omega)]
  congr 1; omega
theorem rev_shr (x : BitVec 32) : (x >>> 1).reverse = x.reverse <<< 1 := by
  apply BitVec.eq_of_getLsbD_eq
  intro i hi
  rw [rev_get _ _ hi, BitVec.getLsbD_ushiftRight, BitVec.getLsbD_shiftLeft]
  cases i with
  | zero => simp
  | succ i => 
    rw [rev_get _ _ (by omega)]
    simp [hi]
    congr 1; omega
theorem rev_P : Pl.reverse = Pm := by decide +kernel
theorem rev_0 : (0#32).reverse = 0#32 := by decide +kernel
theorem tstep (t d : BitVec 32) : (step (t ^^^ d)).reverse = rstep t.reverse (d.getLsbD 0) ^^^ (d >>> 1).reverse := by
  unfold step rstep
  rw [BitVec.ushiftRight_xor_distrib, rev_xor, rev_xor, rev_shr t, BitVec.getLsbD_xor, rev_get _ _ (by decide)]
  simp only [Nat.sub_self]
  cases t.getLsbD 0 <;> cases d.getLsbD 0 <;> simp [rev_P, rev_0] <;> ac_rfl
theorem tsteps (n : Nat) (t d : BitVec 32) : (steps n (t ^^^ d)).reverse = rsteps n t.reverse d ^^^ (d >>> n).reverse := by
  induction n generalizing t d with
  | zero => simp [steps, rsteps, rev_xor]
  | succ n ih =>
    simp only [steps, rsteps]
    have h : step (t ^^^ d) = (rstep t.reverse (d.getLsbD 0)).reverse ^^^ (d >>> 1) := by
      rw [← rev_rev (step (t ^^^ d)), tstep, rev_xor, rev_rev]
    rw [h, ih, rev_rev, ← BitVec.shiftRight_add, Nat.add_comm 1 n]
theorem byt_rev (s c : BitVec 32) (h : c.toNat < 256) : (byt s c).reverse = rsteps 8 s.reverse c := by
  unfold byt
  rw [tsteps]
  have : c >>> 8 = 0#32 := by
    apply BitVec.eq_of_toNat_eq
    rw [BitVec.toNat_ushiftRight, Nat.shiftRight_eq_div_pow]
    simp; omega
  rw [this, rev_0, BitVec.xor_zero]
end CrcK
namespace CrcK
def u32 (s : BitVec 32) : Int := (s.toNat : Int)
def bv (x : Int) : BitVec 32 := BitVec.ofInt 32 x
theorem u32_lt (s : BitVec 32) : 0 ≤ u32 s ∧ u32 s < 4294967296 := by
  have := s.isLt
  unfold u32
  omega
theorem u32_bv (x : Int) (h0 : 0 ≤ x) (h1 : x < 4294967296) : u32 (bv x) = x := by
  unfold u32 bv
  rw [BitVec.toNat_ofInt]
  omega
theorem xor_u32 (s t : BitVec 32) : Go.bits .xor .u32 (u32 s) (u32 t) = u32 (s ^^^ t) := by
  unfold u32
  rw [u32_xor_nat _ _ s.isLt t.isLt, BitVec.toNat_xor]
theorem u32_ones : (4294967295 : Int) = u32 (BitVec.allOnes 32) := by decide +kernel
theorem u32_P : (3988292384 : Int) = u32 Pl := by decide +kernel
theorem u32_Q : (79764919 : Int) = u32 Pm := by decide +kernel
theorem not_u32 (s : BitVec 32) : Go.bits .xor .u32 4294967295 (u32 s) = u32 (~~~ s) := by
  rw [u32_ones, xor_u32, BitVec.allOnes_xor]
theorem not_u32' (s : BitVec 32) : Go.bits .xor .u32 (u32 s) 4294967295 = u32 (~~~ s) := by
  rw [u32_ones, xor_u32, BitVec.xor_allOnes]
theorem half_u32 (s : BitVec 32) : u32 s / (2 : Int) = u32 (s >>> 1) := by
  unfold u32
  rw [BitVec.toNat_ushiftRight, Nat.shiftRight_eq_div_pow]
  omega
theorem twice_u32 (s : BitVec 32) : (u32 s * (2 : Int)) % (4294967296 : Int) = u32 (s <<< 1) := by
  unfold u32
  rw [BitVec.toNat_shiftLeft, Nat.shiftLeft_eq]
  omega
theorem low_nat (s : BitVec 32) : s.getLsbD 0 = decide (s.toNat % 2 = 1) := by
  rw [BitVec.getLsbD, Nat.testBit_zero]
theorem and_one (s : BitVec 32) : (Go.bits .and .u32 (u32 s) 1 = 0) ↔ s.getLsbD 0 = false := by
  have h : Go.bits .and .u32 (u32 s) 1 = ((s.toNat &&& 1 : Nat) : Int) := u32_and_nat s.toNat 1 s.isLt (by decide)
  rw [h, Nat.and_one_is_mod, low_nat]
  simp
  omega
theorem top_nat (s : BitVec 32) : s.getLsbD 31 = decide (u32 s ≥ 2147483648) := by
  have := s.isLt
  unfold u32
  rw [BitVec.getLsbD, Nat.testBit_eq_decide_div_mod_eq]
  congr 1
  apply propext
  omega
theorem wrap_small {i : Int} (h0 : 0 ≤ i) (h1 : i < 9223372036854775807) : wrap64 (i + 1) = i + 1 := by
  unfold wrap64
  omega
def Bytes (l : List Int) : Prop := ∀ x ∈ l, 0 ≤ x ∧ x ≤ 255
theorem bytes_wf {l : List Int} (h : ∀ x ∈ l, (Lit.int .u8 x).wf = true) : Bytes l := fun x hx => bounds_u8 (h x hx)
theorem bytes_rd {l : List Int} (h : Bytes l) (i : Int) (h0 : 0 ≤ i) (h1 : i < (l.length : Int)) : 0 ≤ rd l i ∧ rd l i ≤ 255 := by
  unfold rd
  rw [List.getD_eq_getElem?_getD, List.getElem?_eq_getElem (show i.toNat < l.length by omega)]
  exact h _ (List.getElem_mem _)
def bl (l : List Int) : List (BitVec 32) := l.map bv
theorem more_l1 {l : List Int} {len i r : Int} (n : Nat) : ∀ (s : BitVec 32), n ≤ 8 → Ev (fun k => crc_More.l0 k (u32 (steps n s)) l len (wrap64 (i + 1))) r → Ev (fun k => crc_More.l1 k (u32 s) l len i (8 - (n : Int))) r := by
  induction n with
  | zero =>
    intro s _ h
    refine Ev.step (f := fun k => crc_More.l0 k (u32 s) l len (wrap64 (i + 1))) (fun k => ?_) h
    rw [crc_More.l1, if_neg (by omega)]
  | succ n ih =>
    intro s hn h
    refine Ev.step (f := fun k => crc_More.l1 k (u32 (step s)) l len i (8 - (n : Int))) (fun k => ?_) (ih (step s) (by omega) h)
    rw [crc_More.l1, if_pos (by omega)]
    have e : wrap64 (8 - ((n + 1 : Nat) : Int) + 1) = 8 - (n : Int) := by unfold wrap64; omega
    rw [e]
    unfold step
    by_cases hb : s.getLsbD 0 = true
    · rw [if_neg (by rw [and_one, hb]; simp), if_pos hb, half_u32, u32_P, xor_u32]
    · rw [if_pos ((and_one s).2 (by simpa using hb)), if_neg hb, half_u32, BitVec.xor_zero]
theorem more_l0 {l : List Int} (hb : Bytes l) (hl : l.length ≤ 140737488355328) (n : Nat) : ∀ (s : BitVec 32) (j : Nat), j + n = l.length →
    Ev (fun k => crc_More.l0 k (u32 s) l (l.length : Int) (j : Int)) (u32 (~~~ (run s (bl (l.drop j))))) := by
  induction n with
  | zero =>
    intro s j hj
    refine Ev.step (f := fun _ => some _) (fun k => ?_) (Ev.now _)
    rw [crc_More.l0, if_neg (by omega), List.drop_of_length_le (by omega), not_u32]
    rfl
  | succ n ih =>
    intro s j hj
    have hjl : j < l.length := by omega
    have hr := bytes_rd hb (j : Int) (by omega) (by omega)
    have e : rd l (j : Int) % 4294967296 = u32 (bv (rd l (j : Int))) := by rw [u32_bv _ hr.1 (by omega)]; omega
    have ed : bl (l.drop j) = bv (rd l (j : Int)) :: bl (l.drop (j + 1)) := by
      rw [List.drop_eq_getElem_cons hjl]
      simp only [bl, List.map_cons, rd, Int.toNat_natCast, List.getD_eq_getElem?_getD, List.getElem?_eq_getElem hjl, Option.getD_some]
    rw [ed]
    refine Ev.step (f := fun k => crc_More.l1 k (u32 (s ^^^ bv (rd l (j : Int)))) l (l.length : Int) (j : Int) (8 - ((8 : Nat) : Int))) (fun k => ?_) ?_
    · rw [crc_More.l0, if_pos (by omega), if_pos (by omega), if_pos (by omega), e, xor_u32]
      rfl
    · refine more_l1 8 _ (by omega) ?_
      rw [wrap_small (by omega) (by omega)]
      exact ih _ (j + 1) (by omega)
def more (s : BitVec 32) (l : List Int) : BitVec 32 := ~~~ (run (~~~ s) (bl l))
theorem more_ev (s : BitVec 32) {l : List Int} (hb : Bytes l) (hl : l.length ≤ 140737488355328) : Ev (fun k => crc_More.f k (u32 s) l) (u32 (more s l)) := by
  have := more_l0 hb hl l.length (~~~ s) 0 (by omega)
  refine Ev.congr (fun k => ?_) this
  rw [crc_More.f, not_u32]
  rfl
theorem u32_zero : (0 : Int) = u32 0#32 := by decide
theorem sum_ev {l : List Int} (hb : Bytes l) (hl : l.length ≤ 140737488355328) : Ev (fun k => crc_Sum.f k l) (u32 (more 0#32 l)) := by
  have := more_ev 0#32 hb hl
  rw [← u32_zero] at this
  exact Ev.congr (fun k => rfl) (Ev.bind this (Ev.now _))
def revn (n : Nat) (x y : BitVec 32) : BitVec 32 :=
  match n with
  | 0 => y
  | n + 1 => revn n (x >>> 1) ((y <<< 1) ||| (x &&& 1#32))
theorem revn_get (n : Nat) : ∀ (x y : BitVec 32) (i : Nat), i < 32 → (revn n x y).getLsbD i = if i < n then x.getLsbD (n - 1 - i) else y.getLsbD (i - n) := by
  induction n with
  | zero => intro x y i hi; simp [revn]
  | succ n ih =>
    intro x y i hi
    rw [revn, ih _ _ _ hi]
    by_cases h1 : i < n
    · rw [if_pos h1, if_pos (by omega), BitVec.getLsbD_ushiftRight]
      congr 1; omega
    · rw [if_neg h1]
      by_cases h2 : i = n
      · subst h2
        rw [if_pos (by omega)]
        simp
      · rw [if_neg (by omega)]
        have hq : i - n ≠ 0 := by omega
        have : (x &&& 1#32).getLsbD (i - n) = false := by
          rw [BitVec.getLsbD_and, BitVec.getLsbD_one]
          simp [hq]
        rw [BitVec.getLsbD_or, this, BitVec.getLsbD_shiftLeft]
        have e : i - n - 1 = i - (n + 1) := by omega
        rw [e]
        simp [show i - n < 32 by omega, hq]
theorem revn_all (x : BitVec 32) : revn 32 x 0#32 = x.reverse := by
  apply BitVec.eq_of_getLsbD_eq
  intro i hi
  rw [revn_get _ _ _ _ hi, if_pos hi, rev_get _ _ hi]
theorem half_td (s : BitVec 32) : (Int.tdiv (u32 s) (2 : Int)) % (4294967296 : Int) = u32 (s >>> 1) := by
  have h := u32_lt s
  rw [Int.tdiv_eq_ediv_of_nonneg h.1, half_u32]
  have := u32_lt (s >>> 1)
  omega
theorem low_tm (s : BitVec 32) : Int.tmod (u32 s) (2 : Int) = u32 (s &&& 1#32) := by
  have h := u32_lt s
  rw [Int.tmod_eq_emod_of_nonneg h.1]
  unfold u32
  rw [BitVec.toNat_and, show (1#32).toNat = 1 from rfl, Nat.and_one_is_mod]
  omega
theorem revn_step (x y : BitVec 32) : ((u32 y * (2 : Int)) % (4294967296 : Int) + Int.tmod (u32 x) (2 : Int)) % (4294967296 : Int) = u32 ((y <<< 1) ||| (x &&& 1#32)) := by
  rw [twice_u32, low_tm]
  have h1 : (y <<< 1).toNat % 2 = 0 := by
    rw [BitVec.toNat_shiftLeft, Nat.shiftLeft_eq]
    omega
  have h2 : (x &&& 1#32).toNat ≤ 1 := by
    rw [BitVec.toNat_and, show (1#32).toNat = 1 from rfl, Nat.and_one_is_mod]
    omega
  have h3 := (y <<< 1).isLt
  unfold u32
  rw [BitVec.toNat_or, or_bit _ _ h1 h2]
  omega
theorem turned_ev (x : BitVec 32) : Ev (fun k => marginaliaref15_turned.f k (u32 x)) (u32 x.reverse) := by
  have h : ∀ (n : Nat) (x y : BitVec 32), n ≤ 32 → Ev (fun k => marginaliaref15_turned.l0 k (u32 x) (u32 y) (32 - (n : Int))) (u32 (revn n x y)) := by
    intro n
    induction n with
    | zero =>
      intro x y _
      refine Ev.step (f := fun _ => some _) (fun k => ?_) (Ev.now _)
      rw [marginaliaref15_turned.l0, if_neg (by omega)]
      rfl
    | succ n ih =>
      intro x y hn
      refine Ev.step (f := fun k => marginaliaref15_turned.l0 k (u32 (x >>> 1)) (u32 ((y <<< 1) ||| (x &&& 1#32))) (32 - (n : Int))) (fun k => ?_) (ih _ _ (by omega))
      rw [marginaliaref15_turned.l0, if_pos (by omega), half_td, revn_step]
      have e : wrap64 (32 - ((n + 1 : Nat) : Int) + 1) = 32 - (n : Int) := by unfold wrap64; omega
      rw [e]
  have := h 32 x 0#32 (by omega)
  rw [revn_all] at this
  exact Ev.congr (fun k => rfl) this
theorem ref_l1 {l : List Int} {i r : Int} (n : Nat) : ∀ (x c : BitVec 32), n ≤ 8 → c.toNat < 256 → Ev (fun k => marginaliaref15_More.l0 k l (u32 (rsteps n x c)) (wrap64 (i + 1))) r → Ev (fun k => marginaliaref15_More.l1 k l (u32 x) i (u32 c) (8 - (n : Int))) r := by
  induction n with
  | zero =>
    intro x c _ _ h
    refine Ev.step (f := fun k => marginaliaref15_More.l0 k l (u32 x) (wrap64 (i + 1))) (fun k => ?_) h
    rw [marginaliaref15_More.l1, if_neg (by omega)]
  | succ n ih =>
    intro x c hn hc h
    have hc1 : (c >>> 1).toNat < 256 := by
      rw [BitVec.toNat_ushiftRight, Nat.shiftRight_eq_div_pow]
      omega
    refine Ev.step (f := fun k => marginaliaref15_More.l1 k l (u32 (rstep x (c.getLsbD 0))) i (u32 (c >>> 1)) (8 - (n : Int))) (fun k => ?_) (ih _ _ (by omega) hc1 h)
    have e : wrap64 (8 - ((n + 1 : Nat) : Int) + 1) = 8 - (n : Int) := by unfold wrap64; omega
    have ec : (Int.tdiv (u32 c) (2 : Int)) % (256 : Int) = u32 (c >>> 1) := by
      have h := u32_lt c
      rw [Int.tdiv_eq_ediv_of_nonneg h.1, half_u32]
      unfold u32
      omega
    have et : (Int.tmod (u32 c) (2 : Int) == 1) = c.getLsbD 0 := by
      have h := u32_lt c
      rw [Int.tmod_eq_emod_of_nonneg h.1, low_nat, Bool.eq_iff_iff, beq_iff_eq, decide_eq_true_iff]
      unfold u32
      omega
    rw [marginaliaref15_More.l1, if_pos (by omega), e, ec, et, ← top_nat, twice_u32]
    unfold rstep
    by_cases hb : (x.getLsbD 31 != c.getLsbD 0) = true
    · rw [if_pos hb, if_pos hb, u32_Q, xor_u32]
    · rw [if_neg hb, if_neg hb, BitVec.xor_zero]
theorem bv_lt {x : Int} (h0 : 0 ≤ x) (h1 : x ≤ 255) : (bv x).toNat < 256 := by
  have := u32_bv x h0 (by omega)
  unfold u32 at this
  omega
theorem ref_l0 {l : List Int} (hb : Bytes l) (hl : l.length ≤ 140737488355328) (n : Nat) : ∀ (s : BitVec 32) (j : Nat), j + n = l.length →
    Ev (fun k => marginaliaref15_More.l0 k l (u32 s.reverse) (j : Int)) (u32 (~~~ (run s (bl (l.drop j))))) := by
  induction n with
  | zero =>
    intro s j hj
    have h := turned_ev s.reverse
    rw [rev_rev] at h
    refine Ev.step (f := fun k => (marginaliaref15_turned.f k (u32 s.reverse)).bind fun t => some (Go.bits .xor .u32 t 4294967295)) (fun k => ?_) (Ev.bind h ?_)
    · rw [marginaliaref15_More.l0, if_neg (by omega)]
    · rw [not_u32', List.drop_of_length_le (by omega)]
      exact Ev.now _
  | succ n ih =>
    intro s j hj
    have hjl : j < l.length := by omega
    have hr := bytes_rd hb (j : Int) (by omega) (by omega)
    have e : rd l (j : Int) = u32 (bv (rd l (j : Int))) := by rw [u32_bv _ hr.1 (by omega)]
    have ed : bl (l.drop j) = bv (rd l (j : Int)) :: bl (l.drop (j + 1)) := by
      rw [List.drop_eq_getElem_cons hjl]
      simp only [bl, List.map_cons, rd, Int.toNat_natCast, List.getD_eq_getElem?_getD, List.getElem?_eq_getElem hjl, Option.getD_some]
    rw [ed]
    refine Ev.step (f := fun k => marginaliaref15_More.l1 k l (u32 s.reverse) (j : Int) (u32 (bv (rd l (j : Int)))) (8 - ((8 : Nat) : Int))) (fun k => ?_) ?_
    · rw [marginaliaref15_More.l0, if_pos (by omega), if_pos (by omega), ← e]
      rfl
    · have hlt := bv_lt hr.1 hr.2
      refine ref_l1 8 _ _ (by omega) hlt ?_
      rw [wrap_small (by omega) (by omega), ← byt_rev _ _ hlt]
      exact ih _ (j + 1) (by omega)
theorem refmore_ev (s : BitVec 32) {l : List Int} (hb : Bytes l) (hl : l.length ≤ 140737488355328) : Ev (fun k => marginaliaref15_More.f k (u32 s) l) (u32 (more s l)) := by
  have h := turned_ev (~~~ s)
  rw [← not_u32'] at h
  exact Ev.bind h (ref_l0 hb hl l.length (~~~ s) 0 (by omega))
theorem refsum_ev {l : List Int} (hb : Bytes l) (hl : l.length ≤ 140737488355328) : Ev (fun k => marginaliaref15_Sum.f k l) (u32 (more 0#32 l)) := by
  have := refmore_ev 0#32 hb hl
  rw [← u32_zero] at this
  exact Ev.congr (fun k => rfl) (Ev.bind this (Ev.now _))
end CrcK
end Go.Proofs.Ytepipgneefcoiaa
namespace Go.Proofs.Ytepipgneefcoiaa.CellLaws
open Go.RowKit Go.Proofs.Ytepipgneefcoiaa Go.Proofs.Ytepipgneefcoiaa.D Go.Proofs.YtepipgneefcoiaaW.PrintWords Go.Proofs.YtepipgneefcoiaaW.PrintLast Go.Proofs.YtepipgneefcoiaaW.PrintMore
open Go.Proofs.Ytepipgneefcoiaa.CrcK (Bytes u32 more sum_ev refsum_ev bytes_rd u32_lt bytes_wf)
theorem ba_loop (b : ByteArray) (n : Nat) : ∀ (i : Nat) (r : List UInt8), b.size - i = n → ByteArray.toList.loop b i r = r.reverse ++ b.data.toList.drop i := by
  have hs : b.size = b.data.toList.length := by rw [Array.length_toList]; rfl
  induction n with
  | zero =>
    intro i r h
    rw [ByteArray.toList.loop, if_neg (by omega), List.drop_of_length_le (by omega), List.append_nil]
  | succ n ih =>
    intro i r h
    have hi : i < b.data.toList.length := by omega
    rw [ByteArray.toList.loop, if_pos (by omega), ih (i + 1) _ (by omega), List.drop_eq_getElem_cons hi, List.reverse_cons, List.append_assoc]
    have hg : b.get! i = b.data.toList[i] := by
      have hi' : i < b.data.size := by simpa using hi
      unfold ByteArray.get!
      simp only [Array.getElem_toList]
      exact getElem!_pos b.data i hi'
    rw [hg]
    rfl
theorem ba_toList (b : ByteArray) : b.toList = b.data.toList := by
  unfold ByteArray.toList
  rw [ba_loop b _ 0 [] rfl]
  simp
def be : Nat → Int → List Int
  | 0, _ => []
  | n + 1, x => (x / 256 ^ n) % 256 :: be n x
theorem be_length (n : Nat) (x : Int) : (be n x).length = n := by
  induction n with
  | zero => rfl
  | succ n ih => simp [be, ih]
theorem by_nil : Bytes [] := fun x hx => by cases hx
theorem by_cons {x : Int} {l : List Int} (hx : 0 ≤ x ∧ x ≤ 255) (h : Bytes l) : Bytes (x :: l) := fun y hy => by
  rcases List.mem_cons.1 hy with rfl | hy
  · exact hx
  · exact h y hy
theorem by_app {a b : List Int} (ha : Bytes a) (hb : Bytes b) : Bytes (a ++ b) := fun y hy => by
  rcases List.mem_append.1 hy with h | h
  · exact ha y h
  · exact hb y h
theorem by_take {a : List Int} (ha : Bytes a) (n : Nat) : Bytes (a.take n) := fun y hy => ha y (List.mem_of_mem_take hy)
theorem by_drop {a : List Int} (ha : Bytes a) (n : Nat) : Bytes (a.drop n) := fun y hy => ha y (List.mem_of_mem_drop hy)
theorem by_zeros (n : Nat) : Bytes (List.replicate n 0) := fun y hy => by
  have := (List.mem_replicate.1 hy).2
  omega
theorem be_bytes (n : Nat) (x : Int) : Bytes (be n x) := by
  induction n with
  | zero => exact by_nil
  | succ n ih => exact by_cons (by omega) ih
theorem snoc_ind {P : List Int → Prop} (h0 : P []) (h1 : ∀ l b, P l → P (l ++ [b])) (l : List Int) : P l := by
  have h : ∀ r : List Int, P r.reverse := fun r => by
    induction r with
    | nil => exact h0
    | cons b r ih => rw [List.reverse_cons]; exact h1 _ _ ih
  rw [← List.reverse_reverse l]
  exact h _
def num (l : List Int) : Int := l.foldl (fun n b => n * 256 + b) 0
theorem num_snoc (l : List Int) (b : Int) : num (l ++ [b]) = num l * 256 + b := by simp [num]
theorem num_range (l : List Int) : Bytes l → 0 ≤ num l ∧ num l < 256 ^ l.length := by
  refine snoc_ind (P := fun l => Bytes l → 0 ≤ num l ∧ num l < 256 ^ l.length) (fun _ => by simp [num]) (fun l b ih h => ?_) l
  · have h1 := ih (fun x hx => h x (List.mem_append_left _ hx))
    have h2 := h b (by simp)
    rw [num_snoc, List.length_append, List.length_singleton, Int.pow_succ]
    omega
theorem be_snoc (n : Nat) (x : Int) : be (n + 1) x = be n (x / 256) ++ [x % 256] := by
  induction n generalizing x with
  | zero => simp [be]
  | succ n ih =>
    rw [be, ih]
    simp only [be, List.cons_append]
    congr 1
    rw [Int.pow_succ, Int.mul_comm, ← Int.ediv_ediv_of_nonneg (by decide)]
theorem be_num (l : List Int) : Bytes l → be l.length (num l) = l := by
  refine snoc_ind (P := fun l => Bytes l → be l.length (num l) = l) (fun _ => rfl) (fun l b ih h => ?_) l
  · have h1 := ih (fun x hx => h x (List.mem_append_left _ hx))
    have h2 := h b (by simp)
    rw [num_snoc, List.length_append, List.length_singleton, be_snoc]
    have e1 : (num l * 256 + b) / 256 = num l := by omega
    have e2 : (num l * 256 + b) % 256 = b := by omega
    rw [e1, e2, h1]
theorem num_be (n : Nat) : ∀ (x : Int), 0 ≤ x → x < 256 ^ n → num (be n x) = x := by
  induction n with
  | zero => intro x h0 h1; simp [be, num] at *; omega
  | succ n ih =>
    intro x h0 h1
    rw [be_snoc, num_snoc, ih _ (by omega) (by rw [Int.pow_succ] at h1; omega)]
    omega
theorem strs_eq {a b : List Int} (ha : Bytes a) (hb : Bytes b) (h : (strOfNums a).toList = (strOfNums b).toList) : a = b := by
  rw [ba_toList, ba_toList] at h
  have h : a.map (fun n => UInt8.ofNat n.toNat) = b.map (fun n => UInt8.ofNat n.toNat) := h
  have e : ∀ (l : List Int), Bytes l → (l.map (fun n => UInt8.ofNat n.toNat)).map (fun c => (c.toNat : Int)) = l := fun l hl => by
    rw [List.map_map]
    conv => rhs; rw [← List.map_id l]
    refine List.map_congr_left fun x hx => ?_
    have := hl x hx
    simp only [Function.comp, id, UInt8.toNat_ofNat']
    omega
  rw [← e a ha, ← e b hb, h]
theorem strs_iff {a b : List Int} (ha : Bytes a) (hb : Bytes b) : (strOfNums a).toList = (strOfNums b).toList ↔ a = b := ⟨strs_eq ha hb, fun h => by rw [h]⟩
theorem u64w {n : Int} (h0 : 0 ≤ n) (h1 : n < 18446744073709551616) : IntKind.u64.wrap n = n := by
  rw [IntKind.wrap_u64]; omega
theorem w64 {n : Int} (h0 : -9223372036854775808 ≤ n) (h1 : n < 9223372036854775808) : wrap64 n = n := by unfold wrap64; omega
theorem rd_at {l : List Int} {j : Nat} (h : j < l.length) : rd l (j : Int) = l[j] := by simp [rd, List.getD_eq_getElem?_getD, h]
theorem num_take_succ {l : List Int} {j : Nat} (h : j < l.length) : num (l.take (j + 1)) = num (l.take j) * 256 + rd l (j : Int) := by
  rw [List.take_succ_eq_append_getElem h, num_snoc, rd_at h]
theorem pow_le {j : Nat} (h : j < 8) : (256 : Int) ^ j * 256 ≤ 18446744073709551616 := by
  have : j = 0 ∨ j = 1 ∨ j = 2 ∨ j = 3 ∨ j = 4 ∨ j = 5 ∨ j = 6 ∨ j = 7 := by omega
  rcases this with rfl | rfl | rfl | rfl | rfl | rfl | rfl | rfl <;> decide
theorem num_step {l : List Int} (hb : Bytes l) (hl : l.length ≤ 8) {j : Nat} (hj : j < l.length) : 0 ≤ num (l.take j) ∧ num (l.take j) * 256 + 256 ≤ 18446744073709551616 ∧ 0 ≤ rd l (j : Int) ∧ rd l (j : Int) ≤ 255 := by
  have h1 := num_range _ (by_take hb j)
  have h2 := bytes_rd hb (j : Int) (by omega) (by omega)
  rw [List.length_take, Nat.min_eq_left (by omega)] at h1
  have h3 := pow_le (j := j) (by omega)
  omega
theorem or_u64 {x b : Int} (h0 : 0 ≤ x) (h1 : x * 256 + 256 ≤ 18446744073709551616) (h2 : 0 ≤ b) (h3 : b ≤ 255) : Go.bits .or .u64 (IntKind.u64.wrap (x * 256)) (IntKind.u64.wrap b) = x * 256 + b := by
  rw [u64w (by omega) (by omega), u64w h2 (by omega)]
  exact bits_join .u64 64 (by decide) (fun n a c => u64w a (by simpa using c)) 8 _ _ (by omega) (by omega) (by simpa using (by omega : x * 256 < 18446744073709551616)) h2 (by omega) (by simpa using (by omega : b < 18446744073709551616))
theorem number_ev {l : List Int} (hb : Bytes l) (hl : l.length ≤ 8) : Ev (fun k => cell_number.f k l) (num l) := by
  have h : ∀ n j : Nat, j + n = l.length → Ev (fun k => cell_number.l0 k (num (l.take j)) l (l.length : Int) (j : Int)) (num l) := by
    intro n
    induction n with
    | zero =>
      intro j hj
      refine Ev.step (f := fun _ => some _) (fun k => ?_) (Ev.now _)
      rw [cell_number.l0, if_neg (by omega), List.take_of_length_le (by omega)]
    | succ n ih =>
      intro j hj
      obtain ⟨a1, a2, a3, a4⟩ := num_step hb hl (j := j) (by omega)
      refine Ev.step (fun k => ?_) (ih (j + 1) (by omega))
      rw [cell_number.l0, if_pos (by omega), if_pos (by omega), if_pos (by omega), or_u64 a1 a2 a3 a4, ← num_take_succ (by omega), w64 (by omega) (by omega)]
      rfl
  exact Ev.congr (fun k => rfl) (h l.length 0 (by omega))
theorem refNumber_ev {l : List Int} (hb : Bytes l) (hl : l.length ≤ 8) : Ev (fun k => marginaliaref16_Number.f k l) (num l) := by
  have h : ∀ n j : Nat, j + n = l.length → Ev (fun k => marginaliaref16_Number.l0 k l (num (l.take j)) (j : Int)) (num l) := by
    intro n
    induction n with
    | zero =>
      intro j hj
      refine Ev.step (f := fun _ => some _) (fun k => ?_) (Ev.now _)
      rw [marginaliaref16_Number.l0, if_neg (by omega), List.take_of_length_le (by omega)]
    | succ n ih =>
      intro j hj
      obtain ⟨a1, a2, a3, a4⟩ := num_step hb hl (j := j) (by omega)
      refine Ev.step (fun k => ?_) (ih (j + 1) (by omega))
      rw [marginaliaref16_Number.l0, if_pos (by omega), if_pos (by omega), u64w (n := num (l.take j) * 256) (by omega) (by omega), u64w (n := rd l (j : Int)) (by omega) (by omega), u64w (by omega) (by omega), ← num_take_succ (by omega), w64 (by omega) (by omega)]
      rfl
  exact Ev.congr (fun k => rfl) (h l.length 0 (by omega))
theorem shr_be {x : Int} {j : Nat} (h : j ≤ 7) : shr .u64 x (IntKind.u64.wrap (wrap64 (8 * (j : Int)))) = x / 256 ^ j := by
  rw [w64 (by omega) (by omega), u64w (by omega) (by omega)]
  unfold shr
  have e : min (8 * (j : Int)).toNat IntKind.u64.bits = 8 * j := by
    have : IntKind.u64.bits = 64 := rfl
    omega
  rw [e, Int.pow_mul]
  rfl
theorem put_ev {x : Int} (n : Nat) (hn : n ≤ 8) : ∀ (l : List Int), l.length + n ≤ 1000 → Ev (fun k => marginaliaref16_Put.f k l x (n : Int)) (l ++ be n x) := by
  have h : ∀ (n : Nat), n ≤ 8 → ∀ (l : List Int), l.length + n ≤ 1000 → Ev (fun k => marginaliaref16_Put.l0 k l x ((n : Int) - 1)) (l ++ be n x) := by
    intro n
    induction n with
    | zero =>
      intro _ l _
      refine Ev.step (f := fun _ => some _) (fun k => ?_) (Ev.now _)
      rw [marginaliaref16_Put.l0, if_neg (by omega)]
      simp [be]
    | succ n ih =>
      intro hn l hl
      have := ih (by omega) (l ++ [(x / 256 ^ n) % 256]) (by simp; omega)
      rw [List.append_assoc] at this
      refine Ev.step (fun k => ?_) this
      have e : ((n + 1 : Nat) : Int) - 1 = (n : Int) := by omega
      rw [e, marginaliaref16_Put.l0, if_pos (by omega), if_pos (by rw [w64 (by omega) (by omega), u64w (by omega) (by omega)]; omega), if_pos (by omega), shr_be (by omega), w64 (by omega) (by omega)]
  intro l hl
  refine Ev.congr (fun k => ?_) (h n hn l hl)
  rw [marginaliaref16_Put.f, w64 (by omega) (by omega)]
def sumv (l : List Int) : Int := u32 (more 0#32 l)
theorem sumv_range (l : List Int) : 0 ≤ sumv l ∧ sumv l < 4294967296 := u32_lt _
def hd (a0 a1 a2 a3 : Int) (l : List Int) : List Int := be 8 a0 ++ (be 8 a1 ++ (be 2 a2 ++ (be 2 a3 ++ ((l.length : Int) :: (l ++ List.replicate (39 - l.length) 0)))))
theorem hd_length {a0 a1 a2 a3 : Int} {l : List Int} (h : l.length ≤ 39) : (hd a0 a1 a2 a3 l).length = 60 := by
  simp [hd, be_length]; omega
theorem hd_bytes {a0 a1 a2 a3 : Int} {l : List Int} (h : l.length ≤ 39) (hb : Bytes l) : Bytes (hd a0 a1 a2 a3 l) :=
  by_app (be_bytes _ _) (by_app (be_bytes _ _) (by_app (be_bytes _ _) (by_app (be_bytes _ _) (by_cons (by omega) (by_app hb (by_zeros _))))))
def enc (a0 a1 a2 a3 : Int) (l : List Int) : List Int := hd a0 a1 a2 a3 l ++ be 4 (sumv (hd a0 a1 a2 a3 l))
theorem enc_bytes {a0 a1 a2 a3 : Int} {l : List Int} (h : l.length ≤ 39) (hb : Bytes l) : Bytes (enc a0 a1 a2 a3 l) := by_app (hd_bytes h hb) (be_bytes _ _)
theorem enc_length {a0 a1 a2 a3 : Int} {l : List Int} (h : l.length ≤ 39) : (enc a0 a1 a2 a3 l).length = 64 := by
  rw [enc, List.length_append, hd_length h, be_length]
def May (a2 a3 : Int) (l : List Int) : Prop := 0 ≤ a2 ∧ a2 < a3 ∧ a3 ≤ 65535 ∧ l.length ≤ 39
theorem refEncode_ev {a0 a1 a2 a3 : Int} {l : List Int} (hb : Bytes l) (hm : May a2 a3 l) : Ev (fun k => marginaliaref16_Encode.f k a0 a1 a2 a3 l) (enc a0 a1 a2 a3 l, 0) := by
  obtain ⟨m1, m2, m3, m4⟩ := hm
  have hz : ∀ (n : Nat) (x : List Int), x.length + n = 60 → Bytes x → Ev (fun k => marginaliaref16_Encode.l0 k x) ((x ++ List.replicate n 0) ++ be 4 (sumv (x ++ List.replicate n 0)), 0) := by
    intro n
    induction n with
    | zero =>
      intro x hx hbx
      have hs := refsum_ev hbx (by omega)
      have hp := put_ev (x := sumv x) 4 (by omega) x (by omega)
      have hr := sumv_range x
      refine Ev.step (f := fun k => (marginaliaref15_Sum.f k x).bind fun t => (marginaliaref16_Put.f k x (IntKind.u64.wrap t) 4).bind fun t => some (t, 0)) (fun k => ?_) (Ev.bind hs (Ev.bind ?_ (Ev.now _)))
      · rw [marginaliaref16_Encode.l0, if_neg (by omega)]
      · rw [List.replicate_zero, List.append_nil]
        show Ev (fun n => marginaliaref16_Put.f n x (IntKind.u64.wrap (sumv x)) 4) _
        rw [u64w hr.1 (by omega)]
        exact hp
    | succ n ih =>
      intro x hx hbx
      have := ih (x ++ [0]) (by simp; omega) (by_app hbx (by_cons (by omega) by_nil))
      have e : x ++ [0] ++ List.replicate n 0 = x ++ List.replicate (n + 1) 0 := by rw [List.append_assoc]; rfl
      rw [e] at this
      refine Ev.step (fun k => ?_) this
      rw [marginaliaref16_Encode.l0, if_pos (by omega), if_pos (by omega)]
  have p1 := put_ev (x := a0) 8 (by omega) [] (by simp)
  rw [List.nil_append] at p1
  have p2 := put_ev (x := a1) 8 (by omega) (be 8 a0) (by simp [be_length])
  have p3 := put_ev (x := a2) 2 (by omega) (be 8 a0 ++ be 8 a1) (by simp [be_length])
  have p4 := put_ev (x := a3) 2 (by omega) (be 8 a0 ++ be 8 a1 ++ be 2 a2) (by simp [be_length])
  have p5 := put_ev (x := (l.length : Int)) 1 (by omega) (be 8 a0 ++ be 8 a1 ++ be 2 a2 ++ be 2 a3) (by simp [be_length])
  have e1 : be 1 (l.length : Int) = [(l.length : Int)] := by simp [be]; omega
  rw [e1] at p5
  have hfin := hz (39 - l.length) (be 8 a0 ++ be 8 a1 ++ be 2 a2 ++ be 2 a3 ++ [(l.length : Int)] ++ l) (by simp [be_length]; omega) (by_app (by_app (by_app (by_app (by_app (be_bytes _ _) (be_bytes _ _)) (be_bytes _ _)) (be_bytes _ _)) (by_cons (by omega) by_nil)) hb)
  have e2 : be 8 a0 ++ be 8 a1 ++ be 2 a2 ++ be 2 a3 ++ [(l.length : Int)] ++ l ++ List.replicate (39 - l.length) 0 = hd a0 a1 a2 a3 l := by simp [hd]
  rw [e2] at hfin
  have hmay : marginaliaref16_May.f a0 a1 a2 a3 l = some true := by
    rw [marginaliaref16_May.f, if_pos (by omega), if_pos (by omega), if_pos (by omega), decide_eq_true (by omega)]
  obtain ⟨K1, q1⟩ := p1
  obtain ⟨K2, q2⟩ := p2
  obtain ⟨K3, q3⟩ := p3
  obtain ⟨K4, q4⟩ := p4
  obtain ⟨K5, q5⟩ := p5
  obtain ⟨K6, q6⟩ := hfin
  refine ⟨K1 + K2 + K3 + K4 + K5 + K6, fun k hk => ?_⟩
  show marginaliaref16_Encode.f k a0 a1 a2 a3 l = _
  rw [marginaliaref16_Encode.f, hmay, Option.bind_some, if_pos rfl, u64w m1 (by omega), u64w (n := a3) (by omega) (by omega), u64w (n := (l.length : Int)) (by omega) (by omega)]
  have r1 : marginaliaref16_Put.f k [] a0 8 = some (be 8 a0) := q1 k (by omega)
  have r2 : marginaliaref16_Put.f k (be 8 a0) a1 8 = some (be 8 a0 ++ be 8 a1) := q2 k (by omega)
  have r3 : marginaliaref16_Put.f k (be 8 a0 ++ be 8 a1) a2 2 = some (be 8 a0 ++ be 8 a1 ++ be 2 a2) := q3 k (by omega)
  have r4 : marginaliaref16_Put.f k (be 8 a0 ++ be 8 a1 ++ be 2 a2) a3 2 = some (be 8 a0 ++ be 8 a1 ++ be 2 a2 ++ be 2 a3) := q4 k (by omega)
  have r5 : marginaliaref16_Put.f k (be 8 a0 ++ be 8 a1 ++ be 2 a2 ++ be 2 a3) (l.length : Int) 1 = some (be 8 a0 ++ be 8 a1 ++ be 2 a2 ++ be 2 a3 ++ [(l.length : Int)]) := q5 k (by omega)
  rw [r1, Option.bind_some, r2, Option.bind_some, r3, Option.bind_some, r4, Option.bind_some, r5, Option.bind_some, if_pos (by simp [be_length]; omega)]
  exact q6 k (by omega)
theorem refEncode_bad {a0 a1 a2 a3 : Int} {l : List Int} (hm : ¬ May a2 a3 l) (k : Nat) : marginaliaref16_Encode.f k a0 a1 a2 a3 l = some ([], 1) := by
  have hmay : marginaliaref16_May.f a0 a1 a2 a3 l = some false := by
    unfold marginaliaref16_May.f May at *
    by_cases c1 : a2 ≥ 0
    · by_cases c2 : a2 < a3
      · by_cases c3 : a3 ≤ 65535
        · rw [if_pos c1, if_pos c2, if_pos c3, decide_eq_false (by omega)]
        · rw [if_pos c1, if_pos c2, if_neg c3]
      · rw [if_pos c1, if_neg c2]
    · rw [if_neg c1]
  rw [marginaliaref16_Encode.f, hmay, Option.bind_some]
  simp
def e0 (l : List Int) : Int := num (l.take 8)
def e1 (l : List Int) : Int := num ((l.take 16).drop 8)
def pt (l : List Int) : Int := num ((l.take 18).drop 16)
def ofs (l : List Int) : Int := num ((l.take 20).drop 18)
def nn (l : List Int) : Nat := (rd l 20).toNat
def dat (l : List Int) : List Int := (l.take (21 + nn l)).drop 21
def tail (l : List Int) : List Int := (l.take 60).drop (21 + nn l)
theorem nn_at {l : List Int} (hb : Bytes l) (hl : l.length = 64) : 0 ≤ rd l 20 ∧ rd l 20 ≤ 255 ∧ (nn l : Int) = rd l 20 := by
  have := bytes_rd hb 20 (by omega) (by omega)
  unfold nn
  omega
theorem dat_length {l : List Int} (hl : l.length = 64) (hn : nn l ≤ 39) : (dat l).length = nn l := by
  unfold dat; simp; omega
theorem tail_length {l : List Int} (hl : l.length = 64) (hn : nn l ≤ 39) : (tail l).length = 39 - nn l := by
  unfold tail; simp; omega
theorem cut_take (l : List Int) (a b : Nat) (h : a ≤ b) : l.take b = l.take a ++ (l.take b).drop a := by
  conv => lhs; rw [← List.take_append_drop a (l.take b)]
  rw [List.take_take, Nat.min_eq_left h]
theorem be_piece {l : List Int} (hb : Bytes l) (n : Nat) (h : l.length = n) : be n (num l) = l := by
  subst h; exact be_num l hb
theorem take60 {l : List Int} (hb : Bytes l) (hl : l.length = 64) (hn : nn l ≤ 39) : l.take 60 = be 8 (e0 l) ++ (be 8 (e1 l) ++ (be 2 (pt l) ++ (be 2 (ofs l) ++ (((dat l).length : Int) :: (dat l ++ tail l))))) := by
  have h20 := nn_at hb hl
  unfold e0 e1 pt ofs
  rw [be_piece (by_take hb _) 8 (by simp; omega), be_piece (by_drop (by_take hb _) _) 8 (by simp; omega), be_piece (by_drop (by_take hb _) _) 2 (by simp; omega), be_piece (by_drop (by_take hb _) _) 2 (by simp; omega), dat_length hl hn]
  have s1 := (cut_take l 8 16 (by omega)).symm
  have s2 := (cut_take l 16 18 (by omega)).symm
  have s3 := (cut_take l 18 20 (by omega)).symm
  have s4 : l.take 20 ++ [(nn l : Int)] = l.take 21 := by
    have h := List.take_succ_eq_append_getElem (l := l) (i := 20) (by omega)
    rw [← rd_at (l := l) (j := 20) (by omega)] at h
    rw [h20.2.2, show (21 : Nat) = 20 + 1 from rfl, h]
    rfl
  have s5 : l.take 21 ++ dat l = l.take (21 + nn l) := (cut_take l 21 (21 + nn l) (by omega)).symm
  have s6 : l.take (21 + nn l) ++ tail l = l.take 60 := (cut_take l (21 + nn l) 60 (by omega)).symm
  have h : ((((((l.take 8 ++ (l.take 16).drop 8) ++ (l.take 18).drop 16) ++ (l.take 20).drop 18) ++ [(nn l : Int)]) ++ dat l) ++ tail l) = l.take 60 := by
    rw [s1, s2, s3, s4, s5, s6]
  rw [← h]
  simp only [List.append_assoc, List.cons_append, List.nil_append]
def Good (l : List Int) : Prop := l.length = 64 ∧ nn l ≤ 39 ∧ pt l < ofs l ∧ tail l = List.replicate (39 - nn l) 0 ∧ num (l.drop 60) = sumv (l.take 60)
theorem ofs_le {l : List Int} (hb : Bytes l) (hl : l.length = 64) : 0 ≤ pt l ∧ pt l ≤ 65535 ∧ 0 ≤ ofs l ∧ ofs l ≤ 65535 := by
  have h1 := num_range ((l.take 18).drop 16) (by_drop (by_take hb _) _)
  have h2 := num_range ((l.take 20).drop 18) (by_drop (by_take hb _) _)
  have g1 : ((l.take 18).drop 16).length = 2 := by simp; omega
  have g2 : ((l.take 20).drop 18).length = 2 := by simp; omega
  rw [g1] at h1
  rw [g2] at h2
  unfold pt ofs
  omega
theorem dat_bytes {l : List Int} (hb : Bytes l) : Bytes (dat l) := by_drop (by_take hb _) _
theorem good_iff {l : List Int} (hb : Bytes l) (hl : l.length = 64) (hn : nn l ≤ 39) : (enc (e0 l) (e1 l) (pt l) (ofs l) (dat l) = l) ↔ (tail l = List.replicate (39 - nn l) 0 ∧ num (l.drop 60) = sumv (l.take 60)) := by
  have hd60 : (hd (e0 l) (e1 l) (pt l) (ofs l) (dat l)).length = 60 := hd_length (by rw [dat_length hl hn]; omega)
  have ht : (tail l = List.replicate (39 - nn l) 0) ↔ hd (e0 l) (e1 l) (pt l) (ofs l) (dat l) = l.take 60 := by
    rw [take60 hb hl hn]
    unfold hd
    rw [dat_length hl hn]
    constructor
    · intro h; rw [h]
    · intro h
      have h := List.append_cancel_left h
      have h := List.append_cancel_left h
      have h := List.append_cancel_left h
      have h := List.append_cancel_left h
      have h := List.append_cancel_left (List.cons.inj h).2
      exact h.symm
  have hdr : (l.drop 60).length = 4 := by simp; omega
  constructor
  · intro h
    have h1 : hd (e0 l) (e1 l) (pt l) (ofs l) (dat l) = l.take 60 := by
      have := congrArg (List.take 60) h
      rwa [enc, List.take_left' hd60] at this
    have h2 : be 4 (sumv (hd (e0 l) (e1 l) (pt l) (ofs l) (dat l))) = l.drop 60 := by
      have := congrArg (List.drop 60) h
      rwa [enc, List.drop_left' hd60] at this
    refine ⟨ht.2 h1, ?_⟩
    have hr := sumv_range (l.take 60)
    rw [← h2, h1, num_be 4 _ hr.1 (by omega)]
  · rintro ⟨h1, h2⟩
    rw [enc, ht.1 h1, ← h2, be_piece (by_drop hb _) 4 hdr, List.take_append_drop]
theorem rd20_nn {l : List Int} (hb : Bytes l) (hl : l.length = 64) : wrap64 (rd l 20) = (nn l : Int) := by
  have h := nn_at hb hl
  rw [w64 (by omega) (by omega)]; omega
theorem tail_any {l : List Int} (hl : l.length = 64) (hn : nn l ≤ 39) : (tail l).any (fun x => x != 0) = false ↔ tail l = List.replicate (39 - nn l) 0 := by
  rw [← tail_length hl hn, List.any_eq_false, List.eq_replicate_iff]
  constructor
  · intro h; exact ⟨rfl, fun b hb => by have := h b hb; simpa using this⟩
  · rintro ⟨_, h⟩ b hb; simp [h b hb]
theorem decode_numbers {l : List Int} (hb : Bytes l) (hl : l.length = 64) : ∃ K, ∀ k, K ≤ k → cell_number.f k (l.take 8) = some (e0 l) ∧ cell_number.f k ((l.take 16).drop 8) = some (e1 l) ∧ cell_number.f k ((l.take 18).drop 16) = some (pt l) ∧ cell_number.f k ((l.take 20).drop 18) = some (ofs l) ∧ cell_number.f k (l.drop 60) = some (num (l.drop 60)) ∧ crc_Sum.f k (l.take 60) = some (sumv (l.take 60)) := by
  obtain ⟨K1, q1⟩ := number_ev (l := l.take 8) (by_take hb _) (by simp; omega)
  obtain ⟨K2, q2⟩ := number_ev (l := (l.take 16).drop 8) (by_drop (by_take hb _) _) (by simp; omega)
  obtain ⟨K3, q3⟩ := number_ev (l := (l.take 18).drop 16) (by_drop (by_take hb _) _) (by simp; omega)
  obtain ⟨K4, q4⟩ := number_ev (l := (l.take 20).drop 18) (by_drop (by_take hb _) _) (by simp; omega)
  obtain ⟨K5, q5⟩ := number_ev (l := l.drop 60) (by_drop hb _) (by simp; omega)
  obtain ⟨K6, q6⟩ := sum_ev (l := l.take 60) (by_take hb _) (by simp; omega)
  exact ⟨K1 + K2 + K3 + K4 + K5 + K6, fun k hk => ⟨q1 k (by omega), q2 k (by omega), q3 k (by omega), q4 k (by omega), q5 k (by omega), q6 k (by omega)⟩⟩
theorem clone_some {l : List Int} (h : l.length ≤ 1000) : slices_Clone_byte_byte.f l = some l := by
  simp only [slices_Clone_byte_byte.f, Option.bind_some, List.length_nil, List.nil_append]
  rw [if_pos (by omega)]
theorem decode_good {l : List Int} (hb : Bytes l) (h : Good l) : Ev (fun k => cell_Decode.f k l) (e0 l, e1 l, pt l, ofs l, dat l, 0) := by
  obtain ⟨hl, hn, hp, ht, hs⟩ := h
  obtain ⟨K, hK⟩ := decode_numbers hb hl
  have ho := ofs_le hb hl
  have hr := sumv_range (l.take 60)
  refine ⟨K + 2, fun k hk => ?_⟩
  obtain ⟨m, rfl⟩ : ∃ m, k = m + 1 + 1 := ⟨k - 2, by omega⟩
  obtain ⟨_, _, _, _, a5, a6⟩ := hK (m + 1 + 1) (by omega)
  obtain ⟨a1, a2, a3, a4, _, _⟩ := hK (m + 1) (by omega)
  show cell_Decode.f (m + 1 + 1) l = _
  have hx : (IntKind.u64.wrap (sumv (l.take 60)) != num (l.drop 60)) = false := by rw [u64w hr.1 (by omega), hs]; simp
  rw [cell_Decode.f, if_pos (by omega), if_pos (by omega), a6, Option.bind_some, a5, Option.bind_some, hx]
  rw [cell_Decode.j0, if_neg (by simp), if_pos (by omega), a1, Option.bind_some, if_pos (by decide), if_pos (by omega), a2, Option.bind_some, if_pos (by decide), if_pos (by omega), a3, Option.bind_some, if_pos (by decide), if_pos (by omega), a4, Option.bind_some, if_pos (by omega), rd20_nn hb hl, w64 (n := pt l) (by omega) (by omega), w64 (n := ofs l) (by omega) (by omega)]
  have e21 : wrap64 (21 + (nn l : Int)) = ((21 + nn l : Nat) : Int) := by rw [w64 (by omega) (by omega)]; omega
  rw [if_neg (by omega), if_neg (by omega), e21, if_pos (by omega), if_pos (by omega), if_pos (by omega), Int.toNat_natCast]
  have hc : slices_ContainsFunc_byte_byte.f ((l.take 60).drop (21 + nn l)) = some false := by
    rw [slices_ContainsFunc_byte_byte.f]
    exact congrArg some ((tail_any hl hn).2 ht)
  rw [hc, Option.bind_some, cell_Decode.j1, if_neg (by simp), e21, if_pos (by omega), if_pos (by omega), Int.toNat_natCast]
  have hd := dat_length hl hn
  rw [show (l.take (21 + nn l)).drop 21 = dat l from rfl, clone_some (by omega), Option.bind_some]
theorem decode_bad {l : List Int} (hb : Bytes l) (h : ¬ Good l) : Ev (fun k => cell_Decode.f k l) (0, 0, 0, 0, [], 8) := by
  by_cases hl : l.length = 64
  · obtain ⟨K, hK⟩ := decode_numbers hb hl
    have ho := ofs_le hb hl
    have hr := sumv_range (l.take 60)
    refine ⟨K + 2, fun k hk => ?_⟩
    obtain ⟨m, rfl⟩ : ∃ m, k = m + 1 + 1 := ⟨k - 2, by omega⟩
    obtain ⟨_, _, _, _, a5, a6⟩ := hK (m + 1 + 1) (by omega)
    obtain ⟨a1, a2, a3, a4, _, _⟩ := hK (m + 1) (by omega)
    show cell_Decode.f (m + 1 + 1) l = _
    rw [cell_Decode.f, if_pos (by omega), if_pos (by omega), a6, Option.bind_some, a5, Option.bind_some, u64w hr.1 (by omega)]
    by_cases hs : num (l.drop 60) = sumv (l.take 60)
    · have hx : (sumv (l.take 60) != num (l.drop 60)) = false := by rw [hs]; simp
      rw [hx, cell_Decode.j0, if_neg (by simp), if_pos (by omega), a1, Option.bind_some, if_pos (by decide), if_pos (by omega), a2, Option.bind_some, if_pos (by decide), if_pos (by omega), a3, Option.bind_some, if_pos (by decide), if_pos (by omega), a4, Option.bind_some, if_pos (by omega), rd20_nn hb hl, w64 (n := pt l) (by omega) (by omega), w64 (n := ofs l) (by omega) (by omega)]
      have hj1 : ∀ x5 p q r s, cell_Decode.j1 (m + 1) l x5 true p q r s = some (0, 0, 0, 0, [], 8) := fun _ _ _ _ _ => by rw [cell_Decode.j1, if_pos rfl]
      by_cases hp : pt l ≥ ofs l
      · rw [if_pos hp, hj1]
      rw [if_neg hp]
      by_cases hn : (nn l : Int) > 39
      · rw [if_pos hn, hj1]
      have e21 : wrap64 (21 + (nn l : Int)) = ((21 + nn l : Nat) : Int) := by rw [w64 (by omega) (by omega)]; omega
      rw [if_neg hn, e21, if_pos (by omega), if_pos (by omega), if_pos (by omega), Int.toNat_natCast]
      have hc : slices_ContainsFunc_byte_byte.f ((l.take 60).drop (21 + nn l)) = some true := by
        rw [slices_ContainsFunc_byte_byte.f]
        congr 1
        cases hq : (tail l).any (fun x => x != 0) with
        | true => exact hq
        | false => exact absurd ⟨hl, by omega, by omega, (tail_any hl (by omega)).1 hq, hs⟩ h
      rw [hc, Option.bind_some, hj1]
    · have hx : (sumv (l.take 60) != num (l.drop 60)) = true := by simpa using fun e => hs e.symm
      rw [hx, cell_Decode.j0, if_pos rfl]
  · refine ⟨1, fun k hk => ?_⟩
    obtain ⟨m, rfl⟩ : ∃ m, k = m + 1 := ⟨k - 1, by omega⟩
    show cell_Decode.f (m + 1) l = _
    rw [cell_Decode.f, if_neg (by omega), cell_Decode.j0, if_pos rfl]
end Go.Proofs.Ytepipgneefcoiaa.CellLaws
namespace Go.Proofs.Ytepipgneefcoiaa.CellLaws
open Go.RowKit Go.Proofs.Ytepipgneefcoiaa Go.Proofs.Ytepipgneefcoiaa.D Go.Proofs.YtepipgneefcoiaaW.PrintWords Go.Proofs.YtepipgneefcoiaaW.PrintLast Go.Proofs.YtepipgneefcoiaaW.PrintMore
open Go.Proofs.Ytepipgneefcoiaa.CrcK (Bytes u32 more sum_ev refsum_ev bytes_rd u32_lt bytes_wf)
def part (l : List Int) (i : Nat) : List Int := (l.drop (i * 39)).take 39
def cutn (l : List Int) (a b m : Int) (n : Nat) : List S106 := (List.range n).map fun (i : Nat) => (⟨a, b, (i : Int), m, part l i⟩ : S106)
theorem cutn_length (l : List Int) (a b m : Int) (n : Nat) : (cutn l a b m n).length = n := by simp [cutn]
theorem cutn_succ (l : List Int) (a b m : Int) (n : Nat) : cutn l a b m (n + 1) = cutn l a b m n ++ [(⟨a, b, (n : Int), m, part l n⟩ : S106)] := by
  simp [cutn, List.range_succ]
theorem rd106_at {x : List S106} {j : Nat} (h : j < x.length) : rd_T106 x (j : Int) = x[j] := by
  unfold rd_T106
  rw [Int.toNat_natCast, List.getD_eq_getElem?_getD, List.getElem?_eq_getElem h]
  rfl
def many (n : Nat) : Nat := (n + 38) / 39
theorem many_ev {n : Nat} (h : n ≤ 100000) : wrap64 (Int.tdiv (wrap64 ((wrap64 ((n : Int) + 39)) - 1)) 39) = (many n : Int) := by
  rw [w64 (n := (n : Int) + 39) (by omega) (by omega), w64 (n := (n : Int) + 39 - 1) (by omega) (by omega), Int.tdiv_eq_ediv_of_nonneg (by omega), w64 (by omega) (by omega)]
  unfold many
  omega
theorem part_length (l : List Int) (j : Nat) : (part l j).length = min 39 (l.length - j * 39) := by
  unfold part
  rw [List.length_take, List.length_drop]
theorem part_bytes {l : List Int} (hb : Bytes l) (j : Nat) : Bytes (part l j) := by_take (by_drop hb _) _
theorem mn_eq (a b : Int) : mn a b = min a b := by
  unfold mn
  split <;> omega
theorem cut_ev {l : List Int} (a b : Int) (hl : l.length ≤ 100000) : Ev (fun k => cell_Cut.f k l a b) (cutn l a b (many l.length : Int) (many l.length)) := by
  have hN : many l.length = (l.length + 38) / 39 := rfl
  obtain ⟨N, hN'⟩ : ∃ N, N = many l.length := ⟨_, rfl⟩
  rw [← hN'] at hN ⊢
  have h : ∀ n j : Nat, j + n = N → Ev (fun k => cell_Cut.l0 k l a b (N : Int) (cutn l a b (N : Int) j) (N : Int) (j : Int)) (cutn l a b (N : Int) N) := by
    intro n
    induction n with
    | zero =>
      intro j hj
      refine Ev.step (f := fun _ => some _) (fun k => ?_) (Ev.now _)
      rw [cell_Cut.l0, if_neg (by omega), show j = N by omega]
    | succ n ih =>
      intro j hj
      refine Ev.step (fun k => ?_) (ih (j + 1) (by omega))
      have e39 : wrap64 ((j : Int) * 39) = ((j * 39 : Nat) : Int) := by rw [w64 (by omega) (by omega)]; omega
      have hlen : (l.drop (j * 39)).length = l.length - j * 39 := by simp
      have hmn : mn ((l.drop (j * 39)).length : Int) 39 = ((min 39 (l.length - j * 39) : Nat) : Int) := by rw [mn_eq, hlen]; omega
      rw [cell_Cut.l0, if_pos (by omega), e39, Int.toNat_natCast, hmn, Int.toNat_natCast, if_pos (by omega), if_pos (by omega), if_pos (by omega), if_pos (by omega)]
      have ht : (l.drop (j * 39)).take (min 39 (l.length - j * 39)) = part l j := by
        unfold part
        rw [← hlen, ← List.take_take, List.take_length]
      rw [ht, clone_some (by rw [part_length]; omega), Option.bind_some, if_pos (by rw [cutn_length]; omega), ← cutn_succ, w64 (by omega) (by omega)]
      rfl
  refine Ev.congr (fun k => ?_) (h N 0 (by omega))
  show cell_Cut.f k l a b = _
  rw [cell_Cut.f, many_ev hl, ← hN', if_neg (by omega)]
  rfl
theorem same_eq {a0 a1 a2 a3 b0 b1 b2 b3 : Int} {l m : List Int} (hl : Bytes l) (hm : Bytes m) : marginaliaref16_Same.f a0 a1 a2 a3 l b0 b1 b2 b3 m = some (decide (a0 = b0 ∧ a1 = b1 ∧ a2 = b2 ∧ a3 = b3 ∧ l = m)) := by
  unfold marginaliaref16_Same.f
  by_cases c0 : a0 = b0
  · by_cases c1 : a1 = b1
    · by_cases c2 : a2 = b2
      · by_cases c3 : a3 = b3
        · rw [if_pos c0, if_pos c1, if_pos c2, if_pos c3]
          congr 1
          rw [Bool.eq_iff_iff, beq_iff_eq, decide_eq_true_eq, strs_iff hl hm]
          simp [c0, c1, c2, c3]
        · rw [if_pos c0, if_pos c1, if_pos c2, if_neg c3]; simp [c3]
      · rw [if_pos c0, if_pos c1, if_neg c2]; simp [c2]
    · rw [if_pos c0, if_neg c1]; simp [c1]
  · rw [if_neg c0]; simp [c0]
theorem same_refl (a0 a1 a2 a3 : Int) (l : List Int) : marginaliaref16_Same.f a0 a1 a2 a3 l a0 a1 a2 a3 l = some true := by
  simp [marginaliaref16_Same.f]
end Go.Proofs.Ytepipgneefcoiaa.CellLaws
