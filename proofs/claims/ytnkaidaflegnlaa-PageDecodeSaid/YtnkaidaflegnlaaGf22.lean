/- The functions of the program that these laws reach, each as a plain Lean function, and the proof that the machine's call comes to it; no condition beyond those that each theorem names. Made by wip/xprint.py. -/
-- squeezed
import Derived.Test.YtnkaidaflegnlaaGx0
import Derived.Test.YtnkaidaflegnlaaGf16
import Derived.Test.YtnkaidaflegnlaaGf53
import Derived.Test.YtnkaidaflegnlaaGf56
import Derived.Test.YtnkaidaflegnlaaGf59
import Derived.Test.YtnkaidaflegnlaaGh
namespace Go.Proofs.Ytnkaidaflegnlaa.G
open Go.RowKit Go.Proofs.YtnkaidaflegnlaaW.PrintWords Go.Proofs.YtnkaidaflegnlaaW.PrintLast Go.Proofs.YtnkaidaflegnlaaW.PrintMore
attribute [local go_sem] max2_int min2_int max_two min_two max_three min_three max_four min_four   -- for this text's walks alone
set_option linter.unusedVariables false
set_option linter.unusedSimpArgs false

/-! ### page_Decode: function 22: by hand -/
/- page.reader: its methods, by hand. -/
theorem rd_set {w : World} {g p : Nat} {v : Value} : w.grownBy (w.setCell ⟨g, p, none⟩ v) (some g) := by
 refine ⟨rfl, rfl, rfl, by simp [World.setCell], fun i hi hne => ?_⟩
 have : i ≠ g := fun e => hne (by rw [e])
 simp only [World.setCell]
 rw [Array.getElem?_modify, if_neg (Ne.symm this)]
theorem rd_trans {w w1 w2 : World} {row : Option Nat} (h : w.grownBy w1 row) (k : w1.grownBy w2 row) : w.grownBy w2 row :=
 ⟨k.os.trans h.os, k.tape.trans h.tape, k.output.trans h.output, Nat.le_trans h.size k.size, fun i hi hne => (k.block i (Nat.lt_of_lt_of_le hi h.size) hne).trans (h.block i hi hne)⟩
theorem rd_refl (w : World) (row : Option Nat) : w.grownBy w row := ⟨rfl, rfl, rfl, Nat.le_refl _, fun _ _ _ => rfl⟩
/-- What take tells of the bytes that are left, and what is left then. -/
def page_tk (l : List Int) (s : Bool) (n : Int) : List Int × List Int × Bool := if 0 ≤ n ∧ n ≤ (l.length : Int) then (l.take n.toNat, l.drop n.toNat, s) else ([], l, true)
/-- A reader's block. -/
def page_rd (w : World) (g : Nat) (A : Option Addr) (c : Nat) (l : List Int) (s : Bool) : Prop := w.heap[g]? = some (.cells #[.slice A l.length c, .bool s] 84 (0, 0)) ∧ l.length ≤ c
theorem C_none (w : World) : Kd.C (Kd.int .u8) w none ([] : List Int).length [] := ⟨rfl, by decide, fun h => absurd h (by decide)⟩
set_option maxHeartbeats 4000000 in
theorem page_take_calls (g : Nat) (A : Option Addr) (c : Nat) (l : List Int) (s : Bool) (n : Int) (w : World) (hg : page_rd w g A c l s) (hm : l.length ≤ 1000000) :
  Calls Try.prog 57 #[.pointer (some ⟨g, 0, none⟩), .int .i64 n] w fun e w' => ∃ (B : Option Addr) (cB : Nat) (A' : Option Addr) (c' : Nat), e = .returned (.slice B (page_tk l s n).1.length cB) ∧ (page_tk l s n).1.length ≤ cB ∧ (∀ W : World, Kd.C (Kd.int .u8) W A l.length l → Kd.C (Kd.int .u8) W B (page_tk l s n).1.length (page_tk l s n).1) ∧ (∀ W : World, Kd.C (Kd.int .u8) W A l.length l → Kd.C (Kd.int .u8) W A' (page_tk l s n).2.1.length (page_tk l s n).2.1) ∧ page_rd w' g A' c' (page_tk l s n).2.1 (page_tk l s n).2.2 ∧ w.grownBy w' (some g) := by
 obtain ⟨hg, hc⟩ := hg
 have HG := Aside0.mk hg
 have HC := Aside0.mk hc
 have HM := Aside0.mk hm
 have h0 : w.cell? ⟨g, 0, none⟩ = some (.slice A l.length c) := (blk_cell hg 0).trans rfl
 have h1 : w.cell? ⟨g, 1, none⟩ = some (.bool s) := (blk_cell hg 1).trans rfl
 have f0 := blk_frozen hg 0
 have f1 := blk_frozen hg 1
 clear hg hc hm
 by_cases c1 : n < 0
 ·have c1b : decide (n < 0) = true := decide_eq_true c1
  have E := Aside0.mk (show page_tk l s n = ([], l, true) from if_neg (by omega))
  clear c1
  go_enter Try.func57, Try.ntmps57
  go_wp2
  go_ret
  rw [E.out]
  exact ⟨none, 0, A, c, rfl, Nat.le_refl _, fun W _ => C_none W, fun W h => h, ⟨by exact (blk_set HG.out 1 _).trans rfl, HC.out⟩, rd_set⟩
 ·have c1b : decide (n < 0) = false := decide_eq_false c1
  by_cases c2 : (l.length : Int) < n
  ·have c2b : decide ((l.length : Int) < n) = true := decide_eq_true c2
   have E := Aside0.mk (show page_tk l s n = ([], l, true) from if_neg (by omega))
   clear c1 c2
   go_enter Try.func57, Try.ntmps57
   go_wp2
   go_ret
   rw [E.out]
   exact ⟨none, 0, A, c, rfl, Nat.le_refl _, fun W _ => C_none W, fun W h => h, ⟨by exact (blk_set HG.out 1 _).trans rfl, HC.out⟩, rd_set⟩
  ·have c2b : decide ((l.length : Int) < n) = false := decide_eq_false c2
   have E := Aside0.mk (show page_tk l s n = (l.take n.toNat, l.drop n.toNat, s) from if_pos (by omega))
   obtain ⟨i0, hi0, _, hsz0, _⟩ := info_parts info5
   obtain ⟨hT, hTr, hTc⟩ := print_take_of (P := Try.prog) (Value.int .u8) 0 24 5 .i64 Try.underlying24 hi0 hsz0 A c l n (by omega) (by omega) HC.out
   obtain ⟨A', hD, hDr, hDc⟩ := print_drop_of (P := Try.prog) (Value.int .u8) 0 24 5 .i64 Try.underlying24 hi0 hsz0 A c l n (by omega) (by omega) HC.out
   have KT := Aside0.mk hTr
   have KTC := Aside0.mk hTc
   have KD := Aside0.mk hDr
   have KDC := Aside0.mk hDc
   clear c1 c2 hi0 hsz0 hTr hTc hDr hDc
   go_enter Try.func57, Try.ntmps57
   go_wp2
   go_ret
   rw [E.out]
   exact ⟨A, c, A', c - n.toNat, by (show Ending.returned (.slice A (min n.toNat l.length) c) = _); rw [List.length_take], KTC.out, fun W h => Kd.C_of_reads (KT.out W (Kd.reads_of_C h)), fun W h => Kd.C_of_reads (KD.out W (Kd.reads_of_C h)), ⟨by rw [List.length_drop]; exact (blk_set HG.out 0 _).trans rfl, KDC.out⟩, rd_set⟩
def page_step (n c : Int) : Int := bits BinOp.or IntKind.u64 (IntKind.u64.wrap (n * 256)) (IntKind.u64.wrap c)
def page_num (l : List Int) : Int := l.foldl (fun n c => page_step n c) 0
theorem page_num_take {l : List Int} {j : Nat} (h : j < l.length) : page_num (l.take (j + 1)) = page_step (page_num (l.take j)) (rd l (j : Int)) := by
 unfold page_num
 have : rd l (j : Int) = l[j] := by simp [rd, List.getD_eq_getElem?_getD, h]
 rw [List.take_add_one, List.getElem?_eq_getElem h, Option.toList_some, List.foldl_append, this]
 rfl
theorem rd_below {w0 w w1 : World} {g : Nat} (hB : Below w0.heap.size w0 w) (hgb : w0.heap.size ≤ g) (hg : w.grownBy w1 (some g)) : Below w0.heap.size w0 w1 :=
 pw_below_grown hB (some g) hB.size hg (fun k hk => by injection hk with hk; omega)
set_option maxHeartbeats 4000000 in
theorem page_number_calls (w0 : World) (g : Nat) (A : Option Addr) (c : Nat) (l : List Int) (s : Bool) (n : Int) (w : World) (hB : Below w0.heap.size w0 w) (hgb : w0.heap.size ≤ g) (hr : Kd.C (Kd.int .u8) w0 A l.length l) (hg : page_rd w g A c l s) (hm : l.length ≤ 1000000) :
  Calls Try.prog 55 #[.pointer (some ⟨g, 0, none⟩), .int .i64 n] w fun e w' => ∃ (A' : Option Addr) (c' : Nat), e = .returned (.int .u64 (page_num (page_tk l s n).1)) ∧ Kd.C (Kd.int .u8) w0 A' (page_tk l s n).2.1.length (page_tk l s n).2.1 ∧ page_rd w' g A' c' (page_tk l s n).2.1 (page_tk l s n).2.2 ∧ w.grownBy w' (some g) := by
 have HB := Aside0.mk hB
 have HGB := Aside0.mk hgb
 have HR := Aside0.mk hr
 have HG := Aside0.mk hg
 have HM := Aside0.mk hm
 clear hB hgb hr hg hm
 go_enter Try.func55, Try.ntmps55
 go_wp2_with (go_at_call 57; refine (page_take_calls g A c l s n _ HG.out HM.out).mono ?_; rintro e w1 ⟨B, cB, A', c', rfl, hcB, hBr, hAr, hg1, hgr⟩)
 have HCB := Aside0.mk hcB
 have HRB := Aside0.mk (hBr w0 HR.out)
 have HRA := Aside0.mk (hAr w0 HR.out)
 have HG1 := Aside0.mk hg1
 have HGR := Aside0.mk hgr
 have HB1 := Aside0.mk (rd_below HB.out HGB.out hgr)
 obtain ⟨out, ho⟩ : ∃ out, out = (page_tk l s n).1 := ⟨_, rfl⟩
 have hmx := Kd.C_max HRB.out
 rw [← ho] at hmx HCB HRB ⊢
 have HO := Aside0.mk ho
 clear ho hcB hBr hAr hg1 hgr
 have HRW := Aside0.mk (Kd.C_below HRB.out HB1.out)
 go_loop [5, 12] (fun v5 v12 => ∃ j : Nat, j ≤ out.length ∧ v12 = .int .i64 j ∧ v5 = .int .u64 (page_num (out.take j))) (fun v5 v12 => out.length - (intOf v12).toNat)
 case atStart => exact ⟨0, Nat.zero_le _, rfl, rfl⟩
 case round =>
  obtain ⟨j, hj, rfl, rfl⟩ := hrel
  by_cases hlt : j < out.length
  ·obtain ⟨ad, ea, hx⟩ := Kd.at_int HRW.out (j : Int) (by omega) (by omega)
   cases ea
   simp only [Int.toNat_natCast] at hx
   have hlt' : decide (j < out.length) = true := decide_eq_true hlt
   go_wp2
   go_round
   case rel => exact ⟨j + 1, by omega, by go_num, by rw [page_num_take hlt]; rfl⟩
   case measure => simp [intOf]; omega
  ·have hlt' : decide (j < out.length) = false := decide_eq_false hlt
   have E := Aside0.mk (show out.take j = out from List.take_of_length_le (by omega))
   go_wp2
   go_ret
   exact ⟨by (show Ending.returned (.int .u64 (page_num (out.take j))) = _); rw [E.out, HO.out], A', HRA.out, ⟨c', HG1.out⟩, HGR.out⟩
theorem tk_rest (l : List Int) (s : Bool) (n : Int) : (page_tk l s n).2.1.length ≤ l.length := by
 unfold page_tk; split
 ·rw [List.length_drop]; omega
 ·exact Nat.le_refl _
theorem tk_out (l : List Int) (s : Bool) (n : Int) : (page_tk l s n).1.length ≤ l.length := by
 unfold page_tk; split
 ·rw [List.length_take]; omega
 ·exact Nat.zero_le _
theorem set_other {w : World} {g p i : Nat} {v : Value} (h : g ≠ p) : (w.setCell ⟨p, i, none⟩ v).heap[g]? = w.heap[g]? := by
 simp only [World.setCell]
 rw [Array.getElem?_modify, if_neg (Ne.symm h)]
theorem gr_set {w W : World} {row : Option Nat} {p i : Nat} {v : Value} (h : w.grownBy W row) (hp : w.heap.size ≤ p) : w.grownBy (W.setCell ⟨p, i, none⟩ v) row := by
 refine ⟨h.os, h.tape, h.output, by simp only [World.setCell, Array.size_modify]; exact h.size, fun k hk hne => ?_⟩
 rw [set_other (by omega)]
 exact h.block k hk hne
theorem gr_of {w W W1 : World} {row : Option Nat} (h : w.grownBy W row) (hb : Below W.heap.size W W1) : w.grownBy W1 row := rd_trans h (grown_of_below hb row)
/-- What item tells, of the bytes that are left. -/
def page_itC (a z : Int) (l : List Int) (s : Bool) : S39 × List Int × Bool := if z ≤ 40 then (⟨a, z, (page_tk l s z).1, 0⟩, (page_tk l s z).2) else (⟨a, z, [], wrap64 (page_num (page_tk l s 4).1)⟩, (page_tk l s 4).2)
def page_itB (a k : Int) (l : List Int) (s : Bool) : S39 × List Int × Bool := if k = 1 then page_itC a (wrap64 (page_num (page_tk l s 4).1)) (page_tk l s 4).2.1 (page_tk l s 4).2.2 else (⟨a, 0, [], wrap64 (page_num (page_tk l s 4).1)⟩, (page_tk l s 4).2)
def page_it (l : List Int) (s : Bool) (k : Int) : S39 × List Int × Bool := page_itB (page_num (page_tk l s 8).1) k (page_tk l s 8).2.1 (page_tk l s 8).2.2
/-- An item's block. -/
def page_xb (w : World) (p : Nat) (a z : Int) (v : Value) (y : Int) : Prop := w.heap[p]? = some (.cells #[.int .u64 a, .int .i64 z, v, .int .i64 y] 39 (0, 0))
/-- What stands in memory while an item is read: the reader, the item's result, the item. -/
def page_fr (w W : World) (g : Nat) (A : Option Addr) (c : Nat) (l : List Int) (s : Bool) (p4 p5 : Nat) (a z : Int) (v : Value) (y : Int) : Prop :=
 w.grownBy W (some g) ∧ page_rd W g A c l s ∧ page_xb W p4 0 0 (.slice none 0 0) 0 ∧ page_xb W p5 a z v y
def page_pl (w : World) (g p4 p5 : Nat) : Prop := w.heap.size ≤ p4 ∧ w.heap.size ≤ p5 ∧ p4 ≠ g ∧ p5 ≠ g ∧ p4 ≠ p5
theorem fr_below {w W W1 : World} {g : Nat} {A : Option Addr} {c : Nat} {l : List Int} {s : Bool} {p4 p5 : Nat} {a z : Int} {v : Value} {y : Int} (h : page_fr w W g A c l s p4 p5 a z v y) (hb : Below W.heap.size W W1) : page_fr w W1 g A c l s p4 p5 a z v y :=
 ⟨gr_of h.1 hb, ⟨(hb.block g (blk_lt h.2.1.1)).trans h.2.1.1, h.2.1.2⟩, (hb.block p4 (blk_lt h.2.2.1)).trans h.2.2.1, (hb.block p5 (blk_lt h.2.2.2)).trans h.2.2.2⟩
theorem fr_grown {w W W1 : World} {g : Nat} {A : Option Addr} {c : Nat} {l : List Int} {s : Bool} {p4 p5 : Nat} {a z : Int} {v : Value} {y : Int} {A1 : Option Addr} {c1 : Nat} {l1 : List Int} {s1 : Bool} (h : page_fr w W g A c l s p4 p5 a z v y) (hp : page_pl w g p4 p5) (hg : W.grownBy W1 (some g)) (hr : page_rd W1 g A1 c1 l1 s1) : page_fr w W1 g A1 c1 l1 s1 p4 p5 a z v y :=
 ⟨rd_trans h.1 hg, hr, blk_grown h.2.2.1 hg (fun e_ => hp.2.2.1 (Option.some.inj e_)), blk_grown h.2.2.2 hg (fun e_ => hp.2.2.2.1 (Option.some.inj e_))⟩
theorem fr_set {w W : World} {g : Nat} {A : Option Addr} {c : Nat} {l : List Int} {s : Bool} {p4 p5 : Nat} {a z a' z' : Int} {v v' : Value} {y y' : Int} {i : Nat} {u : Value} (h : page_fr w W g A c l s p4 p5 a z v y) (hp : page_pl w g p4 p5) (he : (#[.int .u64 a, .int .i64 z, v, .int .i64 y] : Array Value).setIfInBounds i u = #[.int .u64 a', .int .i64 z', v', .int .i64 y']) : page_fr w (W.setCell ⟨p5, i, none⟩ u) g A c l s p4 p5 a' z' v' y' :=
 ⟨gr_set h.1 hp.2.1, ⟨(set_other (Ne.symm hp.2.2.2.1)).trans h.2.1.1, h.2.1.2⟩, (set_other hp.2.2.2.2).trans h.2.2.1, by unfold page_xb; rw [blk_set h.2.2.2 i u, he]⟩
theorem fr_cells {w W : World} {g : Nat} {A : Option Addr} {c : Nat} {l : List Int} {s : Bool} {p4 p5 : Nat} {a z : Int} {v : Value} {y : Int} (h : page_fr w W g A c l s p4 p5 a z v y) :
  W.cell? ⟨p5, 0, none⟩ = some (.int .u64 a) ∧ W.cell? ⟨p5, 1, none⟩ = some (.int .i64 z) ∧ W.cell? ⟨p5, 2, none⟩ = some v ∧ W.cell? ⟨p5, 3, none⟩ = some (.int .i64 y) ∧ (W.frozen? ⟨p5, 0, none⟩ = false ∧ W.frozen? ⟨p5, 1, none⟩ = false ∧ W.frozen? ⟨p5, 2, none⟩ = false ∧ W.frozen? ⟨p5, 3, none⟩ = false) ∧ (W.frozen? ⟨p4, 0, none⟩ = false ∧ W.frozen? ⟨p4, 1, none⟩ = false ∧ W.frozen? ⟨p4, 2, none⟩ = false ∧ W.frozen? ⟨p4, 3, none⟩ = false) ∧ W.cell? ⟨p4, 0, none⟩ = some (.int .u64 0) ∧ W.cell? ⟨p4, 1, none⟩ = some (.int .i64 0) ∧ W.cell? ⟨p4, 2, none⟩ = some (.slice none 0 0) ∧ W.cell? ⟨p4, 3, none⟩ = some (.int .i64 0) :=
 ⟨(blk_cell h.2.2.2 0).trans rfl, (blk_cell h.2.2.2 1).trans rfl, (blk_cell h.2.2.2 2).trans rfl, (blk_cell h.2.2.2 3).trans rfl, ⟨blk_frozen h.2.2.2 0, blk_frozen h.2.2.2 1, blk_frozen h.2.2.2 2, blk_frozen h.2.2.2 3⟩, ⟨blk_frozen h.2.2.1 0, blk_frozen h.2.2.1 1, blk_frozen h.2.2.1 2, blk_frozen h.2.2.1 3⟩, (blk_cell h.2.2.1 0).trans rfl, (blk_cell h.2.2.1 1).trans rfl, (blk_cell h.2.2.1 2).trans rfl, (blk_cell h.2.2.1 3).trans rfl⟩
def page_itPost (w0 w : World) (g : Nat) (l : List Int) (s : Bool) (k : Int) (e : Ending) (w' : World) : Prop :=
 ∃ (v : Value) (A' : Option Addr) (c' : Nat), e = .returned (.agg #[.int .u64 (page_it l s k).1.f0, .int .i64 (page_it l s k).1.f1, v, .int .i64 (page_it l s k).1.f3]) ∧ Kd.R (Kd.int .u8) 5 w' w.heap.size (fun _ => True) v (page_it l s k).1.f2 ∧ Kd.C (Kd.int .u8) w0 A' (page_it l s k).2.1.length (page_it l s k).2.1 ∧ page_rd w' g A' c' (page_it l s k).2.1 (page_it l s k).2.2 ∧ w.grownBy w' (some g)
theorem fr_fin {w W : World} {g : Nat} {A : Option Addr} {c : Nat} {l : List Int} {s : Bool} {p4 p5 : Nat} {a z : Int} {v : Value} {y : Int} (h : page_fr w W g A c l s p4 p5 a z v y) (hp : page_pl w g p4 p5) {u : Value} {xs : List Int} (hR : Kd.R (Kd.int .u8) 5 W w.heap.size (fun k => k ≠ p4) u xs) (u0 u1 u2 u3 : Value) :
  Kd.R (Kd.int .u8) 5 ((((W.setCell ⟨p4, 0, none⟩ u0).setCell ⟨p4, 1, none⟩ u1).setCell ⟨p4, 2, none⟩ u2).setCell ⟨p4, 3, none⟩ u3) w.heap.size (fun _ => True) u xs ∧ page_rd ((((W.setCell ⟨p4, 0, none⟩ u0).setCell ⟨p4, 1, none⟩ u1).setCell ⟨p4, 2, none⟩ u2).setCell ⟨p4, 3, none⟩ u3) g A c l s ∧ w.grownBy ((((W.setCell ⟨p4, 0, none⟩ u0).setCell ⟨p4, 1, none⟩ u1).setCell ⟨p4, 2, none⟩ u2).setCell ⟨p4, 3, none⟩ u3) (some g) := by
 refine ⟨Kd.R_mono (Kd.R_far (p := ⟨p4, 3, none⟩) (Kd.R_far (p := ⟨p4, 2, none⟩) (Kd.R_far (p := ⟨p4, 1, none⟩) (Kd.R_far (p := ⟨p4, 0, none⟩) hR (fun _ hk => hk) u0) (fun _ hk => hk) u1) (fun _ hk => hk) u2) (fun _ hk => hk) u3) (fun _ _ => trivial), ⟨?_, h.2.1.2⟩, gr_set (gr_set (gr_set (gr_set h.1 hp.1) hp.1) hp.1) hp.1⟩
 have hne := Ne.symm hp.2.2.1
 rw [set_other hne, set_other hne, set_other hne, set_other hne]
 exact h.2.1.1
theorem fr_p4 {w W : World} {g : Nat} {A : Option Addr} {c : Nat} {l : List Int} {s : Bool} {p4 p5 : Nat} {a z : Int} {v : Value} {y : Int} (h : page_fr w W g A c l s p4 p5 a z v y) (u0 u1 u2 u3 : Value) :
  ((((W.setCell ⟨p4, 0, none⟩ u0).setCell ⟨p4, 1, none⟩ u1).setCell ⟨p4, 2, none⟩ u2).setCell ⟨p4, 3, none⟩ u3).heap[p4]? = some (.cells #[u0, u1, u2, u3] 39 (0, 0)) := by
 rw [blk_set (blk_set (blk_set (blk_set h.2.2.1 0 u0) 1 u1) 2 u2) 3 u3]
 rfl
theorem page_res1 {P : Program} {fn : Func} {p : Tmp} {ty : TypeId} (h : fn.results = #[.cell p ty]) (tmps : Array Value) (w : World) (g : Nat) (t : TypeId) (cs : Array Value) (fr : Nat × Nat) (d : TypeDesc)
  (hp : tmps.getD p undef = .pointer (some ⟨g, 0, none⟩)) (hg : w.heap[g]? = some (.cells cs t fr))
  (hu : P.underlying ty = some d) (hd : (match d with | .struct _ | .array _ _ => true | _ => false) = true) (hi : (P.info? ty).map (·.size) = some cs.size) :
  (results fn tmps).run P w = .ok (.agg cs) w := by
 have hp' : tmps[p]?.getD undef = .pointer (some ⟨g, 0, none⟩) := by simpa using hp
 simp [results, h, hp', asAddr, run_loadVar_row w g t ty cs fr d hg hu hd hi]
theorem clone_is {l : List Int} (h : l.length ≤ 1000000) : slices_Clone_byte_byte.f l = some l := by
 rw [slices_Clone_byte_byte.f, Option.bind_some, if_pos (by simp; omega), List.nil_append]
set_option maxHeartbeats 4000000 in
theorem page_item_calls (w0 : World) (g : Nat) (A : Option Addr) (c : Nat) (l : List Int) (s : Bool) (k : Int) (w : World) (hB : Below w0.heap.size w0 w) (hgb : w0.heap.size ≤ g) (hr : Kd.C (Kd.int .u8) w0 A l.length l) (hg : page_rd w g A c l s) (hm : l.length ≤ 1000000) :
  Calls Try.prog 58 #[.pointer (some ⟨g, 0, none⟩), .int .i64 k] w (page_itPost w0 w g l s k) := by
 have HB := Aside0.mk hB
 have HGB := Aside0.mk hgb
 have HR := Aside0.mk hr
 have HG := Aside0.mk hg
 have HM := Aside0.mk hm
 have HGL := Aside0.mk (blk_lt hg.1)
 clear hB hgb hr hg hm
 go_enter Try.func58, Try.ntmps58
 go_upto_region 2 with (first | ((with_reducible refine gate_dst (N := 4) rfl ?_); (try (refine gate_guard (by rfl) ?_; dsimp only)); refine box_event ?hg (N := 4) ?hd (cs := #[.int .u64 0, .int .i64 0, .slice none 0 0, .int .i64 0]) (t := 39) ?hr ?_; (case hd => rfl); (case hg => rfl); (case hr => first | (go_simp; done) | (go_simp; rfl)); intro p4 hp4 w1 hbox hb; have P4 := Aside0.mk (show w.heap.size ≤ p4 from Nat.le_of_eq hp4.symm); have GR := Aside0.mk (grown_of_below hb (some g)); have RD := Aside0.mk (show page_rd w1 g A c l s from ⟨(hb.block g HGL.out).trans HG.out.1, HG.out.2⟩); have B4 := Aside0.mk (show page_xb w1 p4 0 0 (.slice none 0 0) 0 from hbox); have N4 := Aside0.mk (show p4 ≠ g by have := HGL.out; omega); clear hp4 hbox hb) | (go_at_call 55; refine (page_number_calls w0 g A c l s 8 _ (rd_below HB.out HGB.out GR.out) HGB.out HR.out RD.out HM.out).mono ?_; rintro e w2 ⟨A1, c1, rfl, hR1, hg1, hgr⟩; have HR1 := Aside0.mk hR1; have RD1 := Aside0.mk hg1; have GR1 := Aside0.mk (rd_trans GR.out hgr); have B41 := Aside0.mk (show page_xb w2 p4 0 0 (.slice none 0 0) 0 from blk_grown B4.out hgr (fun e_ => N4.out (Option.some.inj e_))); clear hR1 hg1 hgr GR RD B4) | ((with_reducible refine gate_dst (N := 5) rfl ?_); (try (refine gate_guard (by rfl) ?_; dsimp only)); refine box_event ?hg (N := 5) ?hd (cs := #[.int .u64 0, .int .i64 0, .slice none 0 0, .int .i64 0]) (t := 39) ?hr ?_; (case hd => rfl); (case hg => rfl); (case hr => first | (go_simp; done) | (go_simp; rfl)); intro p5 hp5 w3 hbox hb; have P5 := Aside0.mk (show w.heap.size ≤ p5 by rw [hp5]; exact GR1.out.size); have N5 := Aside0.mk (show p5 ≠ g by rw [hp5]; exact Nat.ne_of_gt (blk_lt RD1.out.1)); have N54 := Aside0.mk (show p4 ≠ p5 by rw [hp5]; exact Nat.ne_of_lt (blk_lt B41.out)); have GR := Aside0.mk (gr_of GR1.out hb); have RD := Aside0.mk (show page_rd w3 g A1 c1 _ _ from ⟨(hb.block g (blk_lt RD1.out.1)).trans RD1.out.1, RD1.out.2⟩); have B4 := Aside0.mk (show page_xb w3 p4 0 0 (.slice none 0 0) 0 from (hb.block p4 (blk_lt B41.out)).trans B41.out); have B5 := Aside0.mk (show page_xb w3 p5 0 0 (.slice none 0 0) 0 from hbox); clear hp5 hbox hb GR1 RD1 B41; have z0 : w3.cell? ⟨p5, 0, none⟩ = some (.int .u64 0) := (blk_cell B5.out 0).trans rfl; have z1 : w3.cell? ⟨p5, 1, none⟩ = some (.int .i64 0) := (blk_cell B5.out 1).trans rfl; have z2 : w3.cell? ⟨p5, 2, none⟩ = some (.slice none 0 0) := (blk_cell B5.out 2).trans rfl; have z3 : w3.cell? ⟨p5, 3, none⟩ = some (.int .i64 0) := (blk_cell B5.out 3).trans rfl; have f0 := blk_frozen B5.out 0; have f1 := blk_frozen B5.out 1; have f2 := blk_frozen B5.out 2; have f3 := blk_frozen B5.out 3))
 have PL := Aside0.mk (show page_pl w g p4 p5 from ⟨P4.out, P5.out, N4.out, N5.out, N54.out⟩)
 have FR0 : page_fr w w3 g A1 c1 _ _ p4 p5 0 0 (.slice none 0 0) 0 := ⟨GR.out, RD.out, B4.out, B5.out⟩
 have FR1 := fr_set (a' := page_num (page_tk l s 8).1) (z' := 0) (v' := .slice none 0 0) (y' := 0) (i := 0) (u := .int .u64 (page_num (page_tk l s 8).1)) FR0 PL.out rfl
 have FR2 := fr_set (a' := page_num (page_tk l s 8).1) (z' := 0) (v' := .slice none 0 0) (y' := 0) (i := 1) (u := .int .i64 0) FR1 PL.out rfl
 have FR3 := fr_set (a' := page_num (page_tk l s 8).1) (z' := 0) (v' := .slice none 0 0) (y' := 0) (i := 2) (u := .slice none 0 0) FR2 PL.out rfl
 have FR4 := fr_set (a' := page_num (page_tk l s 8).1) (z' := 0) (v' := .slice none 0 0) (y' := 0) (i := 3) (u := .int .i64 0) FR3 PL.out rfl
 generalize World.setCell (World.setCell (World.setCell (World.setCell w3 ⟨p5, 0, none⟩ _) ⟨p5, 1, none⟩ _) ⟨p5, 2, none⟩ _) ⟨p5, 3, none⟩ _ = W5 at FR4 ⊢
 have FR := Aside0.mk FR4
 have HM1 := Aside0.mk (Nat.le_trans (tk_rest l s 8) HM.out)
 obtain ⟨a, ha⟩ : ∃ a, a = page_num (page_tk l s 8).1 := ⟨_, rfl⟩
 obtain ⟨l1, hl1⟩ : ∃ q, q = (page_tk l s 8).2.1 := ⟨_, rfl⟩
 obtain ⟨s1, hs1⟩ : ∃ q, q = (page_tk l s 8).2.2 := ⟨_, rfl⟩
 have hIT : page_it l s k = page_itB a k l1 s1 := by rw [ha, hl1, hs1]; rfl
 have hpost : page_itPost w0 w g l s k = fun e w' => ∃ (v : Value) (A' : Option Addr) (c' : Nat), e = .returned (.agg #[.int .u64 (page_itB a k l1 s1).1.f0, .int .i64 (page_itB a k l1 s1).1.f1, v, .int .i64 (page_itB a k l1 s1).1.f3]) ∧ Kd.R (Kd.int .u8) 5 w' w.heap.size (fun _ => True) v (page_itB a k l1 s1).1.f2 ∧ Kd.C (Kd.int .u8) w0 A' (page_itB a k l1 s1).2.1.length (page_itB a k l1 s1).2.1 ∧ page_rd w' g A' c' (page_itB a k l1 s1).2.1 (page_itB a k l1 s1).2.2 ∧ w.grownBy w' (some g) := by
  unfold page_itPost; rw [hIT]
 rw [← ha, ← hl1, ← hs1] at FR
 rw [← hl1] at HR1 HM1
 rw [← ha]
 have HPOST := Aside0.mk hpost
 have hp45 : p4 ≠ p5 := PL.out.2.2.2.2
 have hp54 : p5 ≠ p4 := Ne.symm hp45
 clear ha hl1 hs1 hIT hpost FR0 FR1 FR2 FR3 FR4 GR RD B4 B5 z0 z1 z2 z3 f0 f1 f2 f3 P4 P5 N4 N5 N54
 by_cases hk : k = 1
 ·have hkb : (k == 1) = true := beq_iff_eq.2 hk
  obtain ⟨z0, z1, z2, z3, ⟨f0, f1, f2, f3⟩, ⟨q0, q1, q2, q3⟩, y0, y1, y2, y3⟩ := fr_cells FR.out
  go_upto_region 4 with (go_at_call 55; refine (page_number_calls w0 g A1 c1 l1 s1 4 _ (rd_below HB.out HGB.out FR.out.1) HGB.out HR1.out FR.out.2.1 HM1.out).mono ?_; rintro e w6 ⟨A2, c2, rfl, hR2, hg2, hgr⟩; have FRa := Aside0.mk (fr_grown FR.out PL.out hgr hg2); have HR2 := Aside0.mk hR2; clear hR2 hg2 hgr FR z0 z1 z2 z3 f0 f1 f2 f3 q0 q1 q2 q3 y0 y1 y2 y3; obtain ⟨z0, z1, z2, z3, ⟨f0, f1, f2, f3⟩, ⟨q0, q1, q2, q3⟩, y0, y1, y2, y3⟩ := fr_cells FRa.out)
  have FRb := fr_set (a' := a) (z' := wrap64 (page_num (page_tk l1 s1 4).1)) (v' := .slice none 0 0) (y' := 0) (i := 1) (u := .int .i64 (wrap64 (page_num (page_tk l1 s1 4).1))) FRa.out PL.out rfl
  generalize World.setCell w6 ⟨p5, 1, none⟩ _ = W7 at FRb ⊢
  have FRB := Aside0.mk FRb
  clear FRb FRa
  obtain ⟨z, hz⟩ : ∃ q, q = wrap64 (page_num (page_tk l1 s1 4).1) := ⟨_, rfl⟩
  obtain ⟨l2, hl2⟩ : ∃ q, q = (page_tk l1 s1 4).2.1 := ⟨_, rfl⟩
  obtain ⟨s2, hs2⟩ : ∃ q, q = (page_tk l1 s1 4).2.2 := ⟨_, rfl⟩
  have HM2 := Aside0.mk (show l2.length ≤ 1000000 by rw [hl2]; exact Nat.le_trans (tk_rest l1 s1 4) HM1.out)
  have HIT := Aside0.mk (show page_itB a k l1 s1 = page_itC a z l2 s2 by rw [hz, hl2, hs2]; exact if_pos hk)
  rw [← hz, ← hl2, ← hs2] at FRB
  rw [← hl2] at HR2
  rw [← hz]
  clear hz hl2 hs2 hk hkb z0 z1 z2 z3 f0 f1 f2 f3 q0 q1 q2 q3 y0 y1 y2 y3
  obtain ⟨z0, z1, z2, z3, ⟨f0, f1, f2, f3⟩, ⟨q0, q1, q2, q3⟩, y0, y1, y2, y3⟩ := fr_cells FRB.out
  by_cases hz : z ≤ 40
  ·have IT := Aside0.mk (show page_itC a z l2 s2 = (⟨a, z, (page_tk l2 s2 z).1, 0⟩, (page_tk l2 s2 z).2) from if_pos hz)
   have HI := Aside0.mk (show page_inline.f a z [] 0 = some true by rw [page_inline.f, decide_eq_true hz])
   clear hz
   go_wp2_with (first | (go_at_call 53; refine (page_inline.calls a z none 0 [] 0 true _ (C_none _) (Nat.le_refl _) HI.out).mono ?_; rintro e w8 ⟨rfl, hb⟩; have FRC := Aside0.mk (fr_below FRB.out hb); clear hb z0 z1 z2 z3 f0 f1 f2 f3 q0 q1 q2 q3 y0 y1 y2 y3; obtain ⟨z0, z1, z2, z3, ⟨f0, f1, f2, f3⟩, ⟨q0, q1, q2, q3⟩, y0, y1, y2, y3⟩ := fr_cells FRC.out) | (go_at_call 57; refine (page_take_calls g A2 c2 l2 s2 z _ FRC.out.2.1 HM2.out).mono ?_; rintro e w9 ⟨B, cB, A3, c3, rfl, hcB, hBr, hAr, hg3, hgr⟩; have FRD := Aside0.mk (fr_grown FRC.out PL.out hgr hg3); have HCB := Aside0.mk hcB; have HRB := Aside0.mk (hBr w0 HR2.out); have HR3 := Aside0.mk (hAr w0 HR2.out); have HW9 := Aside0.mk (rd_below HB.out HGB.out FRD.out.1); clear hcB hBr hAr hg3 hgr z0 z1 z2 z3 f0 f1 f2 f3 q0 q1 q2 q3 y0 y1 y2 y3) | (go_at_call 56; refine (slices_Clone_byte_byte.calls B cB _ _ _ (Kd.C_below HRB.out HW9.out) HCB.out (clone_is (Nat.le_trans (tk_out l2 s2 z) HM2.out))).mono ?_; rintro e w10 ⟨v2, rfl, hR, hb⟩; have FRE := Aside0.mk (fr_below FRD.out hb); have HRV := Aside0.mk (Kd.R_lower (Kd.R_mono (ok' := fun k => k ≠ p4 ∧ k ≠ p5) (Kd.R_bound hR) (fun k hk => ⟨by have := hk.2.1; have := blk_lt FRD.out.2.2.1; omega, by have := hk.2.1; have := blk_lt FRD.out.2.2.2; omega⟩)) FRD.out.1.size); clear hR hb; obtain ⟨Ad, cd, ev⟩ := Kd.R_slice HRV.out; subst ev; obtain ⟨z0, z1, z2, z3, ⟨f0, f1, f2, f3⟩, ⟨q0, q1, q2, q3⟩, y0, y1, y2, y3⟩ := fr_cells FRE.out))
   have FRF := fr_set (a' := a) (z' := z) (v' := .slice Ad (page_tk l2 s2 z).1.length cd) (y' := 0) (i := 2) (u := (.slice Ad (page_tk l2 s2 z).1.length cd)) FRE.out PL.out rfl
   have HRW := Kd.R_mono (Kd.R_far (p := ⟨p5, 2, none⟩) HRV.out (fun _ hk => hk.2) (.slice Ad (page_tk l2 s2 z).1.length cd)) (fun _ hk => hk.1)
   have HF := Aside0.mk (fr_fin FRF PL.out HRW (.int .u64 a) (.int .i64 z) (.slice Ad (page_tk l2 s2 z).1.length cd) (.int .i64 0))
   have HP := Aside0.mk (fr_p4 FRF (.int .u64 a) (.int .i64 z) (.slice Ad (page_tk l2 s2 z).1.length cd) (.int .i64 0))
   (try simp only [Exit.inBlock, Exit.then])
   refine bodyPost_ret (page_res1 rfl _ _ p4 39 #[.int .u64 a, .int .i64 z, (.slice Ad (page_tk l2 s2 z).1.length cd), .int .i64 0] (0, 0) _ rfl HP.out Try.underlying39 rfl (by kernel_rfl)) rfl ?_
   rw [HPOST.out, HIT.out, IT.out]
   exact ⟨.slice Ad (page_tk l2 s2 z).1.length cd, A3, c3, rfl, HF.out.1, HR3.out, HF.out.2.1, HF.out.2.2⟩
  ·have IT := Aside0.mk (show page_itC a z l2 s2 = (⟨a, z, [], wrap64 (page_num (page_tk l2 s2 4).1)⟩, (page_tk l2 s2 4).2) from if_neg hz)
   have HI := Aside0.mk (show page_inline.f a z [] 0 = some false by rw [page_inline.f, decide_eq_false hz])
   clear hz
   go_wp2_with (first | (go_at_call 53; refine (page_inline.calls a z none 0 [] 0 false _ (C_none _) (Nat.le_refl _) HI.out).mono ?_; rintro e w8 ⟨rfl, hb⟩; have FRC := Aside0.mk (fr_below FRB.out hb); clear hb z0 z1 z2 z3 f0 f1 f2 f3 q0 q1 q2 q3 y0 y1 y2 y3; obtain ⟨z0, z1, z2, z3, ⟨f0, f1, f2, f3⟩, ⟨q0, q1, q2, q3⟩, y0, y1, y2, y3⟩ := fr_cells FRC.out) | (go_at_call 55; refine (page_number_calls w0 g A2 c2 l2 s2 4 _ (rd_below HB.out HGB.out FRC.out.1) HGB.out HR2.out FRC.out.2.1 HM2.out).mono ?_; rintro e w9 ⟨A3, c3, rfl, hR3, hg3, hgr⟩; have FRD := Aside0.mk (fr_grown FRC.out PL.out hgr hg3); have HR3 := Aside0.mk hR3; clear hR3 hg3 hgr z0 z1 z2 z3 f0 f1 f2 f3 q0 q1 q2 q3 y0 y1 y2 y3; obtain ⟨z0, z1, z2, z3, ⟨f0, f1, f2, f3⟩, ⟨q0, q1, q2, q3⟩, y0, y1, y2, y3⟩ := fr_cells FRD.out))
   have FRF := fr_set (a' := a) (z' := z) (v' := .slice none 0 0) (y' := (wrap64 (page_num (page_tk l2 s2 4).1))) (i := 3) (u := .int .i64 (wrap64 (page_num (page_tk l2 s2 4).1))) FRD.out PL.out rfl
   have HF := Aside0.mk (fr_fin FRF PL.out (Kd.R_nil (Kd.int .u8) 5 _ w.heap.size (fun k => k ≠ p4)) (.int .u64 a) (.int .i64 z) (.slice none 0 0) (.int .i64 (wrap64 (page_num (page_tk l2 s2 4).1))))
   have HP := Aside0.mk (fr_p4 FRF (.int .u64 a) (.int .i64 z) (.slice none 0 0) (.int .i64 (wrap64 (page_num (page_tk l2 s2 4).1))))
   (try simp only [Exit.inBlock, Exit.then])
   refine bodyPost_ret (page_res1 rfl _ _ p4 39 #[.int .u64 a, .int .i64 z, .slice none 0 0, .int .i64 (wrap64 (page_num (page_tk l2 s2 4).1))] (0, 0) _ rfl HP.out Try.underlying39 rfl (by kernel_rfl)) rfl ?_
   rw [HPOST.out, HIT.out, IT.out]
   exact ⟨.slice none 0 0, A3, c3, rfl, HF.out.1, HR3.out, HF.out.2.1, HF.out.2.2⟩
 ·have hkb : (k == 1) = false := beq_eq_false_iff_ne.2 hk
  have HIT := Aside0.mk (show page_itB a k l1 s1 = (⟨a, 0, [], wrap64 (page_num (page_tk l1 s1 4).1)⟩, (page_tk l1 s1 4).2) from if_neg hk)
  clear hk
  obtain ⟨z0, z1, z2, z3, ⟨f0, f1, f2, f3⟩, ⟨q0, q1, q2, q3⟩, y0, y1, y2, y3⟩ := fr_cells FR.out
  go_wp2_with (go_at_call 55; refine (page_number_calls w0 g A1 c1 l1 s1 4 _ (rd_below HB.out HGB.out FR.out.1) HGB.out HR1.out FR.out.2.1 HM1.out).mono ?_; rintro e w6 ⟨A3, c3, rfl, hR3, hg3, hgr⟩; have FRD := Aside0.mk (fr_grown FR.out PL.out hgr hg3); have HR3 := Aside0.mk hR3; clear hR3 hg3 hgr z0 z1 z2 z3 f0 f1 f2 f3 q0 q1 q2 q3 y0 y1 y2 y3; obtain ⟨z0, z1, z2, z3, ⟨f0, f1, f2, f3⟩, ⟨q0, q1, q2, q3⟩, y0, y1, y2, y3⟩ := fr_cells FRD.out)
  have FRF := fr_set (a' := a) (z' := 0) (v' := .slice none 0 0) (y' := (wrap64 (page_num (page_tk l1 s1 4).1))) (i := 3) (u := .int .i64 (wrap64 (page_num (page_tk l1 s1 4).1))) FRD.out PL.out rfl
  have HF := Aside0.mk (fr_fin FRF PL.out (Kd.R_nil (Kd.int .u8) 5 _ w.heap.size (fun k => k ≠ p4)) (.int .u64 a) (.int .i64 0) (.slice none 0 0) (.int .i64 (wrap64 (page_num (page_tk l1 s1 4).1))))
  have HP := Aside0.mk (fr_p4 FRF (.int .u64 a) (.int .i64 0) (.slice none 0 0) (.int .i64 (wrap64 (page_num (page_tk l1 s1 4).1))))
  (try simp only [Exit.inBlock, Exit.then])
  refine bodyPost_ret (page_res1 rfl _ _ p4 39 #[.int .u64 a, .int .i64 0, .slice none 0 0, .int .i64 (wrap64 (page_num (page_tk l1 s1 4).1))] (0, 0) _ rfl HP.out Try.underlying39 rfl (by kernel_rfl)) rfl ?_
  rw [HPOST.out, HIT.out]
  exact ⟨.slice none 0 0, A3, c3, rfl, HF.out.1, HR3.out, HF.out.2.1, HF.out.2.2⟩
theorem wrap_u64_mod (n : Int) : IntKind.u64.wrap n = n % 18446744073709551616 := by simp [IntKind.wrap, IntKind.bits, IntKind.signed]
theorem page_step_range (n c : Int) : 0 ≤ page_step n c ∧ page_step n c < 18446744073709551616 := by
 unfold page_step bits
 simp only [wrap_u64_mod]
 omega
theorem page_num_range (l : List Int) : 0 ≤ page_num l ∧ page_num l < 18446744073709551616 := by
 have h : ∀ (l : List Int) (n : Int), 0 ≤ n ∧ n < 18446744073709551616 → 0 ≤ l.foldl (fun n c => page_step n c) n ∧ l.foldl (fun n c => page_step n c) n < 18446744073709551616 := by
  intro l
  induction l with
  | nil => intro n h; exact h
  | cons c l ih => intro n _; exact ih _ (page_step_range n c)
 exact h l 0 ⟨by decide, by decide⟩
theorem it_rest (l : List Int) (s : Bool) (k : Int) : (page_it l s k).2.1.length ≤ l.length := by
 have h8 := tk_rest l s 8
 have h4 := tk_rest (page_tk l s 8).2.1 (page_tk l s 8).2.2 4
 unfold page_it page_itB
 split
 ·unfold page_itC
  split
  ·exact Nat.le_trans (tk_rest _ _ _) (Nat.le_trans h4 h8)
  ·exact Nat.le_trans (tk_rest _ _ _) (Nat.le_trans h4 h8)
 ·exact Nat.le_trans h4 h8
theorem dec_wrap (n : Nat) (h : n + 1 < 18446744073709551616) : IntKind.u64.wrap (((n + 1 : Nat) : Int) - 1) = (n : Int) := by
 rw [wrap_u64_mod]
 omega
/- page.Decode, by hand. -/
def page_pg (W : World) (p : Nat) (a : Int) (vI : Value) (y : Int) (vD : Value) : Prop := W.heap[p]? = some (.cells #[.int .i64 a, vI, .int .i64 y, vD] 26 (0, 0))
def page_df (w W : World) (g : Nat) (A : Option Addr) (c : Nat) (l : List Int) (s : Bool) (p2 p5 : Nat) (a : Int) (vI : Value) (y : Int) (vD : Value) : Prop :=
 Below w.heap.size w W ∧ page_rd W g A c l s ∧ page_pg W p2 0 (.slice none 0 0) 0 (.slice none 0 0) ∧ page_pg W p5 a vI y vD
def page_dp (w : World) (g p2 p5 : Nat) : Prop := w.heap.size ≤ g ∧ w.heap.size ≤ p2 ∧ w.heap.size ≤ p5 ∧ p2 ≠ g ∧ p5 ≠ g ∧ p2 ≠ p5
section
variable {w W W1 : World} {g : Nat} {A A1 : Option Addr} {c c1 : Nat} {l l1 : List Int} {s s1 : Bool} {p2 p5 : Nat} {a y a' y' : Int} {vI vD vI' vD' u : Value} {i : Nat}
theorem df_below (h : page_df w W g A c l s p2 p5 a vI y vD) (hb : Below W.heap.size W W1) : page_df w W1 g A c l s p2 p5 a vI y vD :=
 ⟨below_step h.1 hb, ⟨(hb.block g (blk_lt h.2.1.1)).trans h.2.1.1, h.2.1.2⟩, (hb.block p2 (blk_lt h.2.2.1)).trans h.2.2.1, (hb.block p5 (blk_lt h.2.2.2)).trans h.2.2.2⟩
theorem df_grown (h : page_df w W g A c l s p2 p5 a vI y vD) (hp : page_dp w g p2 p5) (hg : W.grownBy W1 (some g)) (hr : page_rd W1 g A1 c1 l1 s1) : page_df w W1 g A1 c1 l1 s1 p2 p5 a vI y vD :=
 ⟨rd_below h.1 hp.1 hg, hr, blk_grown h.2.2.1 hg (fun e_ => hp.2.2.2.1 (Option.some.inj e_)), blk_grown h.2.2.2 hg (fun e_ => hp.2.2.2.2.1 (Option.some.inj e_))⟩
theorem df_set (h : page_df w W g A c l s p2 p5 a vI y vD) (hp : page_dp w g p2 p5) (he : (#[.int .i64 a, vI, .int .i64 y, vD] : Array Value).setIfInBounds i u = #[.int .i64 a', vI', .int .i64 y', vD']) : page_df w (W.setCell ⟨p5, i, none⟩ u) g A c l s p2 p5 a' vI' y' vD' :=
 ⟨below_set h.1 hp.2.2.1, ⟨(set_other (Ne.symm hp.2.2.2.2.1)).trans h.2.1.1, h.2.1.2⟩, (set_other hp.2.2.2.2.2).trans h.2.2.1, by unfold page_pg; rw [blk_set h.2.2.2 i u, he]⟩
theorem df_cells (h : page_df w W g A c l s p2 p5 a vI y vD) :
  W.cell? ⟨p5, 0, none⟩ = some (.int .i64 a) ∧ W.cell? ⟨p5, 1, none⟩ = some vI ∧ W.cell? ⟨p5, 2, none⟩ = some (.int .i64 y) ∧ W.cell? ⟨p5, 3, none⟩ = some vD ∧ (W.frozen? ⟨p5, 0, none⟩ = false ∧ W.frozen? ⟨p5, 1, none⟩ = false ∧ W.frozen? ⟨p5, 2, none⟩ = false ∧ W.frozen? ⟨p5, 3, none⟩ = false) ∧ (W.frozen? ⟨p2, 0, none⟩ = false ∧ W.frozen? ⟨p2, 1, none⟩ = false ∧ W.frozen? ⟨p2, 2, none⟩ = false ∧ W.frozen? ⟨p2, 3, none⟩ = false) ∧ W.cell? ⟨p2, 0, none⟩ = some (.int .i64 0) ∧ W.cell? ⟨p2, 1, none⟩ = some (.slice none 0 0) ∧ W.cell? ⟨p2, 2, none⟩ = some (.int .i64 0) ∧ W.cell? ⟨p2, 3, none⟩ = some (.slice none 0 0) ∧ W.cell? ⟨g, 0, none⟩ = some (.slice A l.length c) ∧ W.cell? ⟨g, 1, none⟩ = some (.bool s) :=
 ⟨(blk_cell h.2.2.2 0).trans rfl, (blk_cell h.2.2.2 1).trans rfl, (blk_cell h.2.2.2 2).trans rfl, (blk_cell h.2.2.2 3).trans rfl, ⟨blk_frozen h.2.2.2 0, blk_frozen h.2.2.2 1, blk_frozen h.2.2.2 2, blk_frozen h.2.2.2 3⟩, ⟨blk_frozen h.2.2.1 0, blk_frozen h.2.2.1 1, blk_frozen h.2.2.1 2, blk_frozen h.2.2.1 3⟩, (blk_cell h.2.2.1 0).trans rfl, (blk_cell h.2.2.1 1).trans rfl, (blk_cell h.2.2.1 2).trans rfl, (blk_cell h.2.2.1 3).trans rfl, (blk_cell h.2.1.1 0).trans rfl, (blk_cell h.2.1.1 1).trans rfl⟩
end
/-- The items that are read, so many, or till one is short. -/
def page_loop (k : Int) : Nat → List Int → Bool → List S39 → Option (List S39 × List Int × Bool)
 | 0, l, s, x => some (x, l, s)
 | n + 1, l, s, x => if s = true then some (x, l, s) else if x.length < 2932031007402 then page_loop k n (page_it l s k).2.1 (page_it l s k).2.2 (x ++ [(page_it l s k).1]) else none
def page_end (k : Nat) (a : Int) (x : List S39) (y : Int) (d l : List Int) (s : Bool) : Option (Int × List S39 × Int × List Int × Int) :=
 if s = true then some (0, [], 0, [], 8) else if (l.any fun x => x != 0) = true then some (0, [], 0, [], 8) else (page_Check.f k a x y d).bind fun e => if e = 0 then some (a, x, y, d, 0) else some (0, [], 0, [], 8)
def page_body (k : Nat) (a : Int) (l : List Int) (s : Bool) : Option (Int × List S39 × Int × List Int × Int) :=
 if a = 3 then
  page_end k a [] (wrap64 (wrap64 (page_num (page_tk l s 4).1) - 1)) (page_tk (page_tk (page_tk l s 4).2.1 (page_tk l s 4).2.2 2).2.1 (page_tk (page_tk l s 4).2.1 (page_tk l s 4).2.2 2).2.2 (wrap64 (page_num (page_tk (page_tk l s 4).2.1 (page_tk l s 4).2.2 2).1))).1
   (page_tk (page_tk (page_tk l s 4).2.1 (page_tk l s 4).2.2 2).2.1 (page_tk (page_tk l s 4).2.1 (page_tk l s 4).2.2 2).2.2 (wrap64 (page_num (page_tk (page_tk l s 4).2.1 (page_tk l s 4).2.2 2).1))).2.1 (page_tk (page_tk (page_tk l s 4).2.1 (page_tk l s 4).2.2 2).2.1 (page_tk (page_tk l s 4).2.1 (page_tk l s 4).2.2 2).2.2 (wrap64 (page_num (page_tk (page_tk l s 4).2.1 (page_tk l s 4).2.2 2).1))).2.2
 else (page_loop a (page_num (page_tk l s 2).1).toNat (page_tk l s 2).2.1 (page_tk l s 2).2.2 []).bind fun q => page_end k a q.1 0 [] q.2.1 q.2.2
def page_Decode.f (k : Nat) (l0 : List Int) : Option (Int × List S39 × Int × List Int × Int) :=
 if (l0.length : Int) = 256 then page_body k (wrap64 (page_num (page_tk l0 false 1).1)) (page_tk l0 false 1).2.1 (page_tk l0 false 1).2.2 else some (0, [], 0, [], 8)
theorem page_end.mono (k : Nat) (a : Int) (x : List S39) (y : Int) (d l : List Int) (s : Bool) : LeO (page_end k a x y d l s) (page_end (k + 1) a x y d l s) := by
 unfold page_end
 split
 ·exact LeO.refl _
 ·split
  ·exact LeO.refl _
  ·exact LeO.bind (page_Check.mono a x y d k) (fun _ => LeO.refl _)
theorem page_Decode.mono (l0 : List Int) (k : Nat) : LeO (page_Decode.f k l0) (page_Decode.f (k + 1) l0) := by
 unfold page_Decode.f page_body
 split
 ·split
  ·exact page_end.mono _ _ _ _ _ _ _
  ·exact LeO.bind (LeO.refl _) (fun _ => page_end.mono _ _ _ _ _ _ _)
 ·exact LeO.refl _
theorem drawn_below {w w1 : World} (h : Drawn0 w w1) : Below w.heap.size w w1 := by
 obtain ⟨nd, rfl⟩ := h
 exact pw_below_drewN (Below.refl _ _) nd
def page_decPost (w : World) (r1 : Int) (r2 : List S39) (r3 : Int) (r4 : List Int) (r5 : Int) (e : Ending) (w' : World) : Prop := ∃ v1_ v3_ : Value, e = .returned (.tuple #[.agg #[.int .i64 r1, v1_, .int .i64 r3, v3_], .int .i64 r5]) ∧ Kd.S k39 39 w' w.heap.size (fun k_ => some k_ ≠ (v3_ : Value).ownBlock) v1_ r2 ∧ Kd.R (Kd.int .u8) 5 w' w.heap.size (fun _ => True) v3_ r4 ∧ Below w.heap.size w w'
theorem dec_zero (w W : World) (p : Nat) (hB : Below w.heap.size w W) (hp : w.heap.size ≤ p) (u0 u1 u2 u3 : Value) : page_decPost w 0 [] 0 [] 8 (.returned (.tuple #[.agg #[.int .i64 0, .slice none 0 0, .int .i64 0, .slice none 0 0], .int .i64 8])) ((((W.setCell ⟨p, 0, none⟩ u0).setCell ⟨p, 1, none⟩ u1).setCell ⟨p, 2, none⟩ u2).setCell ⟨p, 3, none⟩ u3) :=
 ⟨.slice none 0 0, .slice none 0 0, rfl, Kd.S_nil _ _ _ _ _, Kd.R_nil _ _ _ _ _, below_set (below_set (below_set (below_set hB hp) hp) hp) hp⟩
theorem set4 {W : World} {p : Nat} {a y : Int} {vI vD : Value} (h : page_pg W p a vI y vD) (u0 u1 u2 u3 : Value) : ((((W.setCell ⟨p, 0, none⟩ u0).setCell ⟨p, 1, none⟩ u1).setCell ⟨p, 2, none⟩ u2).setCell ⟨p, 3, none⟩ u3).heap[p]? = some (.cells #[u0, u1, u2, u3] 26 (0, 0)) := by
 rw [blk_set (blk_set (blk_set (blk_set h 0 u0) 1 u1) 2 u2) 3 u3]
 rfl
set_option maxRecDepth 4000 in
set_option maxHeartbeats 8000000 in
theorem page_dec_walk (k : Nat) (A0 : Option Addr) (c0 : Nat) (l0 : List Int) (r1 : Int) (r2 : List S39) (r3 : Int) (r4 : List Int) (r5 : Int) (w : World) (hr0 : Kd.C (Kd.int .u8) w A0 l0.length l0) (hc0 : l0.length ≤ c0) (h : page_Decode.f k l0 = some (r1, r2, r3, r4, r5)) :
  Calls Try.prog 22 #[.slice A0 l0.length c0] w (page_decPost w r1 r2 r3 r4 r5) := by
 have HR := Aside0.mk hr0
 have HC := Aside0.mk hc0
 clear hr0 hc0
 by_cases hl : (l0.length : Int) = 256
 ·have hlb : ((l0.length : Int) != 256) = false := bne_eq_false_iff_eq.2 hl
  have H := Aside0.mk (show page_body k (wrap64 (page_num (page_tk l0 false 1).1)) (page_tk l0 false 1).2.1 (page_tk l0 false 1).2.2 = some (r1, r2, r3, r4, r5) from (if_pos hl).symm.trans h)
  have HM := Aside0.mk (show l0.length ≤ 1000000 by omega)
  clear h hl
  go_enter Try.func22, Try.ntmps22
  go_upto_if 21 with (first | ((with_reducible refine gate_dst (N := 2) rfl ?_); (try (refine gate_guard (by rfl) ?_; dsimp only)); refine box_event ?hg (N := 2) ?hd (cs := #[.int .i64 0, .slice none 0 0, .int .i64 0, .slice none 0 0]) (t := 26) ?hr ?_; (case hd => rfl); (case hg => rfl); (case hr => first | (go_simp; done) | (go_simp; rfl)); intro p2 hp2 w1 hbox hb; have P2 := Aside0.mk (show w.heap.size ≤ p2 from Nat.le_of_eq hp2.symm); have HB1 := Aside0.mk (show Below w.heap.size w w1 from hb); have B2 := Aside0.mk (show page_pg w1 p2 0 (.slice none 0 0) 0 (.slice none 0 0) from hbox); clear hp2 hbox hb)  | ((with_reducible refine gate_dst (N := 14) rfl ?_); (try (refine gate_guard (by rfl) ?_; dsimp only)); refine box_event ?hg (N := 14) ?hd (cs := #[.slice A0 l0.length c0, .bool false]) (t := 84) ?hr ?_; (case hd => rfl); (case hg => rfl); (case hr => first | (go_simp; done) | (go_simp; rfl)); intro g hp w2 hbox hb; have PG := Aside0.mk (show w.heap.size ≤ g by rw [hp]; exact HB1.out.size); have N2 := Aside0.mk (show p2 ≠ g by rw [hp]; exact Nat.ne_of_lt (blk_lt B2.out)); have HB2 := Aside0.mk (below_step HB1.out hb); have B22 := Aside0.mk (show page_pg w2 p2 0 (.slice none 0 0) 0 (.slice none 0 0) from (hb.block p2 (blk_lt B2.out)).trans B2.out); have RD := Aside0.mk (show page_rd w2 g A0 c0 l0 false from ⟨hbox, HC.out⟩); clear hp hbox hb HB1 B2)  | (go_at_call 55; refine (page_number_calls w g A0 c0 l0 false 1 _ HB2.out PG.out HR.out RD.out HM.out).mono ?_; rintro e w3 ⟨A1, c1, rfl, hR1, hg1, hgr⟩; have HR1 := Aside0.mk hR1; have RD1 := Aside0.mk hg1; have HB3 := Aside0.mk (rd_below HB2.out PG.out hgr); have B23 := Aside0.mk (show page_pg w3 p2 0 (.slice none 0 0) 0 (.slice none 0 0) from blk_grown B22.out hgr (fun e_ => N2.out (Option.some.inj e_))); clear hR1 hg1 hgr RD HB2 B22)  | ((with_reducible refine gate_dst (N := 5) rfl ?_); (try (refine gate_guard (by rfl) ?_; dsimp only)); refine box_event ?hg (N := 5) ?hd (cs := #[.int .i64 0, .slice none 0 0, .int .i64 0, .slice none 0 0]) (t := 26) ?hr ?_; (case hd => rfl); (case hg => rfl); (case hr => first | (go_simp; done) | (go_simp; rfl)); intro p5 hp5 w4 hbox hb; have DP := Aside0.mk (show page_dp w g p2 p5 from ⟨PG.out, P2.out, by rw [hp5]; exact HB3.out.size, N2.out, by rw [hp5]; exact Nat.ne_of_gt (blk_lt RD1.out.1), by rw [hp5]; exact Nat.ne_of_lt (blk_lt B23.out)⟩); have DF := Aside0.mk (show page_df w w4 g A1 c1 _ _ p2 p5 0 (.slice none 0 0) 0 (.slice none 0 0) from ⟨below_step HB3.out hb, ⟨(hb.block g (blk_lt RD1.out.1)).trans RD1.out.1, RD1.out.2⟩, (hb.block p2 (blk_lt B23.out)).trans B23.out, hbox⟩); clear hp5 hbox hb RD1 HB3 B23 PG P2 N2; obtain ⟨z0, z1, z2, z3, ⟨f0, f1, f2, f3⟩, ⟨q0, q1, q2, q3⟩, y0, y1, y2, y3, x0, x1⟩ := df_cells DF.out; have hp25 : p2 ≠ p5 := DP.out.2.2.2.2.2; have hp52 : p5 ≠ p2 := Ne.symm hp25; have hg5 : g ≠ p5 := Ne.symm DP.out.2.2.2.2.1))
  have HR1 := HR1
  have DF1 := df_set (a' := wrap64 (page_num (page_tk l0 false 1).1)) (vI' := .slice none 0 0) (y' := 0) (vD' := .slice none 0 0) (i := 0) (u := .int .i64 (wrap64 (page_num (page_tk l0 false 1).1))) DF.out DP.out rfl
  have DF2 := df_set (a' := wrap64 (page_num (page_tk l0 false 1).1)) (vI' := .slice none 0 0) (y' := 0) (vD' := .slice none 0 0) (i := 1) (u := .slice none 0 0) DF1 DP.out rfl
  have DF3 := df_set (a' := wrap64 (page_num (page_tk l0 false 1).1)) (vI' := .slice none 0 0) (y' := 0) (vD' := .slice none 0 0) (i := 2) (u := .int .i64 0) DF2 DP.out rfl
  have DF4 := df_set (a' := wrap64 (page_num (page_tk l0 false 1).1)) (vI' := .slice none 0 0) (y' := 0) (vD' := .slice none 0 0) (i := 3) (u := .slice none 0 0) DF3 DP.out rfl
  generalize World.setCell (World.setCell (World.setCell (World.setCell w4 ⟨p5, 0, none⟩ _) ⟨p5, 1, none⟩ _) ⟨p5, 2, none⟩ _) ⟨p5, 3, none⟩ _ = W5 at DF4 ⊢
  have HM1 := Aside0.mk (Nat.le_trans (tk_rest l0 false 1) HM.out)
  have DFA := Aside0.mk DF4
  clear DF DF1 DF2 DF3 DF4 z0 z1 z2 z3 f0 f1 f2 f3 q0 q1 q2 q3 y0 y1 y2 y3 x0 x1
  generalize wrap64 (page_num (page_tk l0 false 1).1) = a at H DFA ⊢
  generalize (page_tk l0 false 1).2.1 = l1 at H HR1 HM1 DFA
  generalize (page_tk l0 false 1).2.2 = s1 at H DFA
  go_cut [6] (fun v6 wc => ∃ (x : List S39) (y : Int) (d l : List Int) (s : Bool) (vI vD : Value) (A : Option Addr) (c : Nat), Aside0 (page_end k a x y d l s = some (r1, r2, r3, r4, r5)) ∧ Aside0 (page_df w wc g A c l s p2 p5 a vI y vD) ∧ Aside0 (Kd.C (Kd.int .u8) w A l.length l) ∧ Aside0 (l.length ≤ 1000000) ∧ Aside0 (Kd.S k39 39 wc w.heap.size (fun k_ => (k_ ≠ g ∧ k_ ≠ p2 ∧ k_ ≠ p5) ∧ some k_ ≠ vD.ownBlock) vI x) ∧ Aside0 (Kd.R (Kd.int .u8) 5 wc w.heap.size (fun k_ => k_ ≠ g ∧ k_ ≠ p2 ∧ k_ ≠ p5) vD d))
  case first =>
   by_cases ha : a = 3
   ·have hab : (a == 3) = true := beq_iff_eq.2 ha
    have HE := Aside0.mk (if_pos ha |>.symm.trans H.out)
    obtain ⟨z0, z1, z2, z3, ⟨f0, f1, f2, f3⟩, ⟨q0, q1, q2, q3⟩, y0, y1, y2, y3, x0, x1⟩ := df_cells DFA.out
    clear H ha
    go_upto_region 7 with (go_at_call 55; refine (page_number_calls w g A1 c1 l1 s1 4 _ DFA.out.1 DP.out.1 HR1.out DFA.out.2.1 HM1.out).mono ?_; rintro e w6 ⟨A2, c2, rfl, hR2, hg2, hgr⟩; have DFB := Aside0.mk (df_grown DFA.out DP.out hgr hg2); have HR2 := Aside0.mk hR2; clear hR2 hg2 hgr z0 z1 z2 z3 f0 f1 f2 f3 q0 q1 q2 q3 y0 y1 y2 y3 x0 x1; obtain ⟨z0, z1, z2, z3, ⟨f0, f1, f2, f3⟩, ⟨q0, q1, q2, q3⟩, y0, y1, y2, y3, x0, x1⟩ := df_cells DFB.out)
    have HM2 := Aside0.mk (Nat.le_trans (tk_rest l1 s1 4) HM1.out)
    have DFC' := df_set (a' := a) (vI' := .slice none 0 0) (y' := wrap64 (wrap64 (page_num (page_tk l1 s1 4).1) - 1)) (vD' := .slice none 0 0) (i := 2) (u := .int .i64 (wrap64 (wrap64 (page_num (page_tk l1 s1 4).1) - 1))) DFB.out DP.out rfl
    generalize World.setCell w6 ⟨p5, 2, none⟩ _ = W7 at DFC' ⊢
    have DFC := Aside0.mk DFC'
    clear DFC' DFB z0 z1 z2 z3 f0 f1 f2 f3 q0 q1 q2 q3 y0 y1 y2 y3 x0 x1
    generalize wrap64 (wrap64 (page_num (page_tk l1 s1 4).1) - 1) = y at HE DFC ⊢
    generalize (page_tk l1 s1 4).2.1 = l2 at HE HR2 HM2 DFC
    generalize (page_tk l1 s1 4).2.2 = s2 at HE DFC
    have HM3 := Aside0.mk (Nat.le_trans (tk_rest l2 s2 2) HM2.out)
    obtain ⟨z0, z1, z2, z3, ⟨f0, f1, f2, f3⟩, ⟨q0, q1, q2, q3⟩, y0, y1, y2, y3, x0, x1⟩ := df_cells DFC.out
    go_wp2_with (first | (go_at_call 55; refine (page_number_calls w g A2 c2 l2 s2 2 _ DFC.out.1 DP.out.1 HR2.out DFC.out.2.1 HM2.out).mono ?_; rintro e w8 ⟨A3, c3, rfl, hR3, hg3, hgr⟩; have DFD := Aside0.mk (df_grown DFC.out DP.out hgr hg3); have HR3 := Aside0.mk hR3; clear hR3 hg3 hgr z0 z1 z2 z3 f0 f1 f2 f3 q0 q1 q2 q3 y0 y1 y2 y3 x0 x1) | (go_at_call 57; refine (page_take_calls g A3 c3 (page_tk l2 s2 2).2.1 (page_tk l2 s2 2).2.2 (wrap64 (page_num (page_tk l2 s2 2).1)) _ DFD.out.2.1 HM3.out).mono ?_; rintro e w9 ⟨B, cB, A4, c4, rfl, hcB, hBr, hAr, hg4, hgr⟩; have DFE := Aside0.mk (df_grown DFD.out DP.out hgr hg4); have HCB := Aside0.mk hcB; have HRB := Aside0.mk (hBr w HR3.out); have HR4 := Aside0.mk (hAr w HR3.out); clear hcB hBr hAr hg4 hgr) | (go_at_call 56; refine (slices_Clone_byte_byte.calls B cB _ _ _ (Kd.C_below HRB.out DFE.out.1) HCB.out (clone_is (Nat.le_trans (tk_out _ _ _) HM3.out))).mono ?_; rintro e w10 ⟨v2, rfl, hR, hb⟩; have DFF := Aside0.mk (df_below DFE.out hb); have HRV := Aside0.mk (Kd.R_lower (Kd.R_mono (ok' := fun k => k ≠ g ∧ k ≠ p2 ∧ k ≠ p5) (Kd.R_bound hR) (fun k hk => ⟨by have := hk.2.1; have := blk_lt DFE.out.2.1.1; omega, by have := hk.2.1; have := blk_lt DFE.out.2.2.1; omega, by have := hk.2.1; have := blk_lt DFE.out.2.2.2; omega⟩)) DFE.out.1.size); clear hR hb; obtain ⟨Ad, cd, ev⟩ := Kd.R_slice HRV.out; subst ev; obtain ⟨z0, z1, z2, z3, ⟨f0, f1, f2, f3⟩, ⟨q0, q1, q2, q3⟩, y0, y1, y2, y3, x0, x1⟩ := df_cells DFF.out))
    go_meet
    case rel => exact ⟨[], y, _, _, _, .slice none 0 0, .slice Ad _ cd, A4, c4, HE, ⟨df_set DFF.out DP.out rfl⟩, HR4, ⟨Nat.le_trans (tk_rest _ _ _) HM3.out⟩, ⟨Kd.S_nil _ _ _ _ _⟩, ⟨Kd.R_far (p := ⟨p5, 3, none⟩) HRV.out (fun _ hk => hk.2.2) _⟩⟩
   ·have hab : (a == 3) = false := beq_eq_false_iff_ne.2 ha
    have HE0 := (if_neg ha).symm.trans H.out
    obtain ⟨⟨xf, lf, sf⟩, hloop, HE1⟩ := Option.bind_eq_some_iff.1 HE0
    have HL := Aside0.mk hloop
    have HE := Aside0.mk HE1
    clear hloop HE0 HE1 H ha
    obtain ⟨z0, z1, z2, z3, ⟨f0, f1, f2, f3⟩, ⟨q0, q1, q2, q3⟩, y0, y1, y2, y3, x0, x1⟩ := df_cells DFA.out
    go_wp2_with (go_at_call 55; refine (page_number_calls w g A1 c1 l1 s1 2 _ DFA.out.1 DP.out.1 HR1.out DFA.out.2.1 HM1.out).mono ?_; rintro e w6 ⟨A2, c2, rfl, hR2, hg2, hgr⟩; have DFB := Aside0.mk (df_grown DFA.out DP.out hgr hg2); have HR2 := Aside0.mk hR2; clear hR2 hg2 hgr z0 z1 z2 z3 f0 f1 f2 f3 q0 q1 q2 q3 y0 y1 y2 y3 x0 x1)
    have HM2 := Aside0.mk (Nat.le_trans (tk_rest l1 s1 2) HM1.out)
    have hnum := page_num_range (page_tk l1 s1 2).1
    go_loopw [6] (fun v6 wr => ∃ (n : Nat) (x : List S39) (l : List Int) (s : Bool) (vI : Value) (A : Option Addr) (c : Nat), v6 = .int .u64 (n : Int) ∧ n < 18446744073709551616 ∧ Aside0 (page_loop a n l s x = some (xf, lf, sf)) ∧ Aside0 (page_df w wr g A c l s p2 p5 a vI 0 (.slice none 0 0)) ∧ Aside0 (Kd.C (Kd.int .u8) w A l.length l) ∧ Aside0 (l.length ≤ 1000000) ∧ Aside0 (Kd.S k39 39 wr w.heap.size (fun k_ => k_ ≠ g ∧ k_ ≠ p2 ∧ k_ ≠ p5) vI x)) (fun v6 _ => (intOf v6).toNat)
    case atStart => exact ⟨(page_num (page_tk l1 s1 2).1).toNat, [], _, _, .slice none 0 0, A2, c2, by rw [Int.toNat_of_nonneg hnum.1], by omega, HL, DFB, HR2, HM2, ⟨Kd.S_nil _ _ _ _ _⟩⟩
    case round =>
     obtain ⟨n, x, l, s, vI, A, c, rfl, hn, HLn, DF, HRl, HMl, HS⟩ := hrel
     obtain ⟨AI, cI, eI⟩ := Kd.S_slice HS.out
     subst eI
     obtain ⟨z0, z1, z2, z3, ⟨f0, f1, f2, f3⟩, ⟨q0, q1, q2, q3⟩, y0, y1, y2, y3, x0, x1⟩ := df_cells DF.out
     cases n with
     | zero =>
      have hnb : decide ((0 : Int) < ((0 : Nat) : Int)) = false := by decide
      have E := Option.some.inj HLn.out
      injection E with e1 E
      injection E with e2 e3
      subst e1 e2 e3
      go_wp2
      go_meet
      case rel => exact ⟨x, 0, [], l, s, .slice AI x.length cI, .slice none 0 0, A, c, HE, DF, HRl, HMl, ⟨Kd.S_mono HS.out (fun _ hk => ⟨hk, by simp [Value.ownBlock]⟩)⟩, ⟨Kd.R_nil _ _ _ _ _⟩⟩
     | succ n =>
      have hnb : decide ((0 : Int) < ((n + 1 : Nat) : Int)) = true := decide_eq_true (by omega)
      cases s with
      | true =>
       have E := Option.some.inj (show some (x, l, true) = some (xf, lf, sf) from (if_pos rfl).symm.trans HLn.out)
       injection E with e1 E
       injection E with e2 e3
       subst e1 e2 e3
       go_wp2
       go_meet
       case rel => exact ⟨x, 0, [], l, true, .slice AI x.length cI, .slice none 0 0, A, c, HE, DF, HRl, HMl, ⟨Kd.S_mono HS.out (fun _ hk => ⟨hk, by simp [Value.ownBlock]⟩)⟩, ⟨Kd.R_nil _ _ _ _ _⟩⟩
      | false =>
       have HL' : (if x.length < 2932031007402 then page_loop a n (page_it l false a).2.1 (page_it l false a).2.2 (x ++ [(page_it l false a).1]) else none) = some (xf, lf, sf) := (if_neg (by decide)).symm.trans HLn.out
       have hxl : x.length < 2932031007402 := Classical.byContradiction fun c_ => by rw [if_neg c_] at HL'; cases HL'
       rw [if_pos hxl] at HL'
       have HLm := Aside0.mk HL'
       have HXL := Aside0.mk hxl
       clear HL' hxl HLn
       go_upto_region 11 with (fail)
       clear z0 z1 z2 z3 f0 f1 f2 f3 q0 q1 q2 q3 y0 y1 y2 y3 x0 x1
       have DFR := Aside0.mk (df_below DF.out (below_drew (Below.refl _ _)))
       have HSR := Aside0.mk (Kd.S_drew HS.out)
       refine start_ (n := 10) (S := fun w' => w'.cell? ⟨p5, 1, none⟩ = some (.slice AI x.length cI) ∧ w'.cell? ⟨p5, 0, none⟩ = some (.int .i64 a)) (ds := [9]) (bm 10 0) (by kernel_rfl) rfl rfl ⟨(blk_cell (DFR.out).2.2.2 1).trans rfl, (blk_cell (DFR.out).2.2.2 0).trans rfl⟩ (fun hHeld => ?_)
       generalize wr.drew = W at DFR HSR hHeld ⊢
       refine pure_ (i := 0) (N := some 47) (v := ?_) (a' := ?_) (bm 10 1) rfl rfl (by kernel_rfl) (fun _ _ _ h => h) (Or.inl ⟨by rfl, ?_⟩) ?_ ?_
       rotate_left
       ·intro w'
        go_simp
        with_reducible rfl
       rotate_left
       ·simp only [Act.put, List.setIfInBounds_toArray, List.set_cons_zero, List.set_cons_succ, i64_w, i32_w]
        rfl
       refine pure_ (i := 2) (N := some 49) (v := ?_) (a' := ?_) (bm 10 5) rfl rfl (by kernel_rfl) (fun _ _ _ h => h) (Or.inl ⟨by rfl, ?_⟩) ?_ ?_
       rotate_left
       ·intro w'
        go_simp
        with_reducible rfl
       rotate_left
       ·simp only [Act.put, List.setIfInBounds_toArray, List.set_cons_zero, List.set_cons_succ, i64_w, i32_w]
        rfl
       refine pure_ (i := 3) (N := some 50) (v := ?_) (a' := ?_) (bm 10 13) rfl rfl (by kernel_rfl) (fun _ _ _ h => h) (Or.inl ⟨by rfl, ?_⟩) ?_ ?_
       rotate_left
       ·intro w'
        go_simp
        with_reducible rfl
       rotate_left
       ·simp only [Act.put, List.setIfInBounds_toArray, List.set_cons_zero, List.set_cons_succ, i64_w, i32_w]
        rfl
       refine take_ (i := 1) (N := some 48) (v := ?_) (a' := ?_) (bm 10 15) rfl rfl (by kernel_rfl) (fun _ _ _ h => h) (Or.inl ⟨by rfl, ?_⟩) hHeld ?_ ?_
       rotate_left
       ·rintro w' ⟨s0, s1⟩
        go_simp
        with_reducible rfl
       rotate_left
       ·simp only [Act.put, List.setIfInBounds_toArray, List.set_cons_zero, List.set_cons_succ, i64_w, i32_w]
        rfl
       refine take_ (i := 4) (N := some 51) (v := ?_) (a' := ?_) (bm 10 31) rfl rfl (by kernel_rfl) (fun _ _ _ h => h) (Or.inl ⟨by rfl, ?_⟩) hHeld ?_ ?_
       rotate_left
       ·rintro w' ⟨s0, s1⟩
        go_simp
        with_reducible rfl
       rotate_left
       ·simp only [Act.put, List.setIfInBounds_toArray, List.set_cons_zero, List.set_cons_succ, i64_w, i32_w]
        rfl
       refine one_ (i := 5) (N := some 52) (bm 10 63) rfl rfl (by kernel_rfl) (by decide) (fun K hK => ?_)
       refine goes_ Try.func58 (by kernel_rfl) rfl #[.pointer (some ⟨g, 0, none⟩), .int .i64 a] (by rfl) rfl rfl (by simp only [List.map_toArray, List.map_cons, List.map_nil]; rfl) ?_
       refine (page_item_calls w g A c l false a _ DFR.out.1 DP.out.1 HRl.out DFR.out.2.1 HMl.out).mono ?_
       rintro e w5 ⟨v, A', c', rfl, hR, hC, hrd, hgr⟩
       refine ⟨_, rfl, ?_⟩
       have DF5 := Aside0.mk (df_grown DFR.out DP.out hgr hrd)
       have HRn := Aside0.mk hC
       have HS5 := Aside0.mk (Kd.S_step (w1 := w5) (Kd.S_mono (ok' := fun k_ => (k_ ≠ g ∧ k_ ≠ p2 ∧ k_ ≠ p5) ∧ ¬ W.heap.size ≤ k_) (Kd.S_bound HSR.out) (fun k_ hk => ⟨hk.1, by have := hk.2.2.1; omega⟩)) (fun k_ hk hlt => hgr.block k_ hlt (fun e_ => hk.1.1 (Option.some.inj e_))))
       have HV5 := Aside0.mk (Kd.R_mono (ok' := fun k_ => W.heap.size ≤ k_) (Kd.R_bound hR) (fun k_ hk => hk.2.1))
       have HSZ := Aside0.mk hgr.size
       have HNB := Aside0.mk (fun k_ (e_ : (Value.slice AI x.length cI).ownBlock = some k_) => Kd.S_lt HSR.out k_ e_)
       clear hR hC hrd hgr
       refine hK.out _ _ ⟨(blk_cell (DF5.out).2.2.2 1).trans rfl, (blk_cell (DF5.out).2.2.2 0).trans rfl⟩ (fun hHeld => ?_)
       clear hK K
       refine norm_ (a' := ?_) ?_ ?_
       rotate_left
       ·show Act.put _ (some 52) _ = _
        simp only [Act.put, List.setIfInBounds_toArray, List.set_cons_zero, List.set_cons_succ, i64_w, i32_w]
        rfl
       refine one_ (i := 6) (N := some 53) (bm 10 127) rfl rfl (by kernel_rfl) (by decide) (fun K hK => ?_)
       refine value_ (w1 := ?_) (v := ?_) (by rfl) rfl ?_ ?_
       rotate_left 2
       ·go_simp
        constructor
        ·rfl
        ·rfl
       refine hK.out _ _ ⟨(blk_cell (df_below DF5.out (below_alloc (Below.refl _ _) _)).2.2.2 1).trans rfl, (blk_cell (df_below DF5.out (below_alloc (Below.refl _ _) _)).2.2.2 0).trans rfl⟩ (fun hHeld => ?_)
       clear hK K
       refine norm_ (a' := ?_) ?_ ?_
       rotate_left
       ·show Act.put _ (some 53) _ = _
        simp only [Act.put, List.setIfInBounds_toArray, List.set_cons_zero, List.set_cons_succ, i64_w, i32_w]
        rfl
       refine one_ (i := 7) (N := some 54) (bm 10 255) rfl rfl (by kernel_rfl) (by decide) (fun K hK => ?_)
       refine Kd.S_append_step k39 (w0 := w) (W := w5) w.heap.size (by rfl) (.tmp 48) (.tmp 53) 23 39 (.agg #[(.int .u64 0), (.int .i64 0), (.slice none 0 0), (.int .i64 0)]) 48 rfl Try.underlying23 info39 rfl (by decide) (by decide) (.slice AI x.length cI) x (page_it l false a).1 [.int .u64 (page_it l false a).1.f0, .int .i64 (page_it l false a).1.f1, v, .int .i64 (page_it l false a).1.f3] (fun k_ => k_ ≠ g ∧ k_ ≠ p2 ∧ k_ ≠ p5) (fun k_ => W.heap.size ≤ k_) rfl rfl (k39_mkM w5 w.heap.size _ (page_it l false a).1 (Kd.R_lower HV5.out DFR.out.1.size)) (fun k_ hk => ⟨⟨by have := blk_lt DFR.out.2.1.1; omega, by have := blk_lt DFR.out.2.2.1; omega, by have := blk_lt DFR.out.2.2.2; omega⟩, fun e_ => by have := HNB.out k_ e_.symm; omega⟩) (fun k_ hk => ⟨by have := blk_lt DF5.out.2.1.1; omega, by have := blk_lt DF5.out.2.2.1; omega, by have := blk_lt DF5.out.2.2.2; omega⟩) HS5.out DF5.out.1 DF5.out.1.size (by have := HXL.out; omega) ?_
       intro v1 w7 hS7 hB7 hg7 hat7
       have hown := fun (k_ : Nat) (e_ : (Value.slice AI x.length cI).ownBlock = some k_) => (Kd.S_R HS5.out).1 k_ e_
       have DF7 := Aside0.mk (show page_df w w7 g A' c' (page_it l false a).2.1 (page_it l false a).2.2 p2 p5 a (.slice AI x.length cI) 0 (.slice none 0 0) from ⟨hB7, ⟨(hg7.block g (blk_lt DF5.out.2.1.1) (fun e_ => (hown g e_.symm).1.1 rfl)).trans DF5.out.2.1.1, DF5.out.2.1.2⟩, (hg7.block p2 (blk_lt DF5.out.2.2.1) (fun e_ => (hown p2 e_.symm).1.2.1 rfl)).trans DF5.out.2.2.1, (hg7.block p5 (blk_lt DF5.out.2.2.2) (fun e_ => (hown p5 e_.symm).1.2.2 rfl)).trans DF5.out.2.2.2⟩)
       have HS7 := Aside0.mk hS7
       obtain ⟨A7, c7, e7⟩ := Kd.S_slice HS7.out
       subst e7
       clear hS7 hB7 hg7 hat7 hown
       obtain ⟨z0, z1, z2, z3, ⟨f0, f1, f2, f3⟩, ⟨q0, q1, q2, q3⟩, y0, y1, y2, y3, x0, x1⟩ := df_cells DF7.out
       refine hK.out _ _ ⟨(blk_cell (DF7.out).2.2.2 1).trans rfl, (blk_cell (DF7.out).2.2.2 0).trans rfl⟩ (fun hHeld => ?_)
       clear hK K
       refine norm_ (a' := ?_) ?_ ?_
       rotate_left
       ·show Act.put _ (some 54) _ = _
        simp only [Act.put, List.setIfInBounds_toArray, List.set_cons_zero, List.set_cons_succ, i64_w, i32_w]
        rfl
       refine pure_ (i := 8) (N := some 55) (v := ?_) (a' := ?_) (bm 10 511) rfl rfl (by kernel_rfl) (fun _ _ _ h => h) (Or.inl ⟨by rfl, ?_⟩) ?_ ?_
       rotate_left
       ·intro w'
        go_simp
        with_reducible rfl
       rotate_left
       ·simp only [Act.put, List.setIfInBounds_toArray, List.set_cons_zero, List.set_cons_succ, i64_w, i32_w]
        rfl
       refine last_ (i := 9) (N := none) (bm 10 1023) rfl rfl (by kernel_rfl) (by decide) (fun K hK => ?_)
       refine skip_ (w1 := ?_) (by rfl) rfl ?_ ?_
       rotate_left
       ·go_simp
        rfl
       refine hK.out _ _ ?_
       clear hK K
       refine done_ (by kernel_rfl) ?_
       clear z0 z1 z2 z3 f0 f1 f2 f3 q0 q1 q2 q3 y0 y1 y2 y3 x0 x1 hHeld
       have DFN := Aside0.mk (df_set (vI' := .slice A7 (x ++ [(page_it l false a).1]).length c7) (a' := a) (y' := 0) (vD' := .slice none 0 0) (i := 1) (u := .slice A7 (x ++ [(page_it l false a).1]).length c7) DF7.out DP.out rfl)
       have HSN := Aside0.mk (Kd.S_far (p := ⟨p5, 1, none⟩) HS7.out (fun _ hk => hk.2.2) (.slice A7 (x ++ [(page_it l false a).1]).length c7))
       have HMN := Aside0.mk (Nat.le_trans (it_rest l false a) HMl.out)
       have hln : (x ++ [(page_it l false a).1]).length = x.length + 1 := by simp
       rw [hln] at DFN HSN
       clear hln
       generalize World.setCell w7 ⟨p5, 1, none⟩ _ = W9 at DFN HSN ⊢
       (try simp only [Exit.inBlock, Exit.then])
       go_wp2
       go_round
       case rel => exact ⟨n, _, _, _, .slice A7 (x.length + 1) c7, A', c', by first | go_num | (congr 1; exact dec_wrap n hn), by omega, HLm, DFN, HRn, HMN, HSN⟩
       case measure => show (n : Int).toNat < ((n + 1 : Nat) : Int).toNat; omega
  case rest =>
   clear H HR1 HM1 DFA
   obtain ⟨x, y, d, l, s, vI, vD, A, c, HE, DF, HRl, HMl, HS, HD⟩ := hcut
   obtain ⟨AI, cI, eI⟩ := Kd.S_slice HS.out
   subst eI
   obtain ⟨AD, cD, eD⟩ := Kd.R_slice HD.out
   subst eD
   obtain ⟨z0, z1, z2, z3, ⟨f0, f1, f2, f3⟩, ⟨q0, q1, q2, q3⟩, y0, y1, y2, y3, x0, x1⟩ := df_cells DF.out
   obtain ⟨b, hb⟩ : ∃ b, b = (l.any fun x => x != 0) := ⟨_, rfl⟩
   have HF := Aside0.mk (show slices_ContainsFunc_byte_byte.f l = some b by rw [hb]; rfl)
   cases s with
   | true =>
    have HE := Aside0.mk (show some ((0 : Int), ([] : List S39), (0 : Int), ([] : List Int), (8 : Int)) = some (r1, r2, r3, r4, r5) from (if_pos rfl).symm.trans HE.out)
    have E := Option.some.inj HE.out
    injection E with e1 E
    injection E with e2 E
    injection E with e3 E
    injection E with e4 e5
    subst e1 e2 e3 e4 e5
    clear HE
    clear hb
    go_wp2_with (go_at_call 59; refine (slices_ContainsFunc_byte_byte.calls A c l _ _ (Kd.C_below HRl.out DF.out.1) DF.out.2.1.2 HF.out).mono ?_; rintro e w6 ⟨rfl, hd⟩; have hb := drawn_below hd; have DF6 := Aside0.mk (df_below DF.out hb); have HS6 := Aside0.mk (Kd.S_below HS.out hb); have HD6 := Aside0.mk (Kd.R_below HD.out hb); clear hb hd z0 z1 z2 z3 f0 f1 f2 f3 q0 q1 q2 q3 y0 y1 y2 y3 x0 x1; obtain ⟨z0, z1, z2, z3, ⟨f0, f1, f2, f3⟩, ⟨q0, q1, q2, q3⟩, y0, y1, y2, y3, x0, x1⟩ := df_cells DF6.out)
    (try simp only [Exit.inBlock, Exit.then])
    refine bodyPost_ret (results_ct rfl _ _ p2 26 #[.int .i64 0, .slice none 0 0, .int .i64 0, .slice none 0 0] (0, 0) _ rfl (set4 DF6.out.2.2.1 (.int .i64 0) (.slice none 0 0) (.int .i64 0) (.slice none 0 0)) Try.underlying26 rfl (by kernel_rfl)) rfl ?_
    exact dec_zero w _ p2 DF6.out.1 DP.out.2.1 _ _ _ _
   | false =>
    cases b with
    | true =>
     have HE := Aside0.mk (show some ((0 : Int), ([] : List S39), (0 : Int), ([] : List Int), (8 : Int)) = some (r1, r2, r3, r4, r5) by
      have := HE.out; unfold page_end at this; rw [if_neg (by decide), ← hb, if_pos rfl] at this; exact this)
     have E := Option.some.inj HE.out
     injection E with e1 E
     injection E with e2 E
     injection E with e3 E
     injection E with e4 e5
     subst e1 e2 e3 e4 e5
     clear HE
     clear hb
     go_wp2_with (go_at_call 59; refine (slices_ContainsFunc_byte_byte.calls A c l _ _ (Kd.C_below HRl.out DF.out.1) DF.out.2.1.2 HF.out).mono ?_; rintro e w6 ⟨rfl, hd⟩; have hb := drawn_below hd; have DF6 := Aside0.mk (df_below DF.out hb); have HS6 := Aside0.mk (Kd.S_below HS.out hb); have HD6 := Aside0.mk (Kd.R_below HD.out hb); clear hb hd z0 z1 z2 z3 f0 f1 f2 f3 q0 q1 q2 q3 y0 y1 y2 y3 x0 x1; obtain ⟨z0, z1, z2, z3, ⟨f0, f1, f2, f3⟩, ⟨q0, q1, q2, q3⟩, y0, y1, y2, y3, x0, x1⟩ := df_cells DF6.out)
     (try simp only [Exit.inBlock, Exit.then])
     refine bodyPost_ret (results_ct rfl _ _ p2 26 #[.int .i64 0, .slice none 0 0, .int .i64 0, .slice none 0 0] (0, 0) _ rfl (set4 DF6.out.2.2.1 (.int .i64 0) (.slice none 0 0) (.int .i64 0) (.slice none 0 0)) Try.underlying26 rfl (by kernel_rfl)) rfl ?_
     exact dec_zero w _ p2 DF6.out.1 DP.out.2.1 _ _ _ _
    | false =>
     have HE' : ((page_Check.f k a x y d).bind fun e => if e = 0 then some (a, x, y, d, (0 : Int)) else some (0, [], 0, [], 8)) = some (r1, r2, r3, r4, r5) := by
      have := HE.out; unfold page_end at this; rw [if_neg (by decide), ← hb, if_neg (by decide)] at this; exact this
     obtain ⟨e5, he5, HE''⟩ := Option.bind_eq_some_iff.1 HE'
     have HE5 := Aside0.mk he5
     have HE := Aside0.mk HE''
     clear HE' HE'' he5 hb
     by_cases c5 : e5 = 0
     ·have c5b : (e5 != 0) = false := bne_eq_false_iff_eq.2 c5
      have HE := Aside0.mk (show some (a, x, y, d, (0 : Int)) = some (r1, r2, r3, r4, r5) from (if_pos c5).symm.trans HE.out)
      have E := Option.some.inj HE.out
      injection E with e1 E
      injection E with e2 E
      injection E with e3 E
      injection E with e4 e5
      subst e1 e2 e3 e4 e5
      clear HE
      go_wp2_with (first | (go_at_call 59; refine (slices_ContainsFunc_byte_byte.calls A c l _ _ (Kd.C_below HRl.out DF.out.1) DF.out.2.1.2 HF.out).mono ?_; rintro e w6 ⟨rfl, hd⟩; have hb := drawn_below hd; have DF6 := Aside0.mk (df_below DF.out hb); have HS6 := Aside0.mk (Kd.S_below HS.out hb); have HD6 := Aside0.mk (Kd.R_below HD.out hb); clear hb hd z0 z1 z2 z3 f0 f1 f2 f3 q0 q1 q2 q3 y0 y1 y2 y3 x0 x1; obtain ⟨z0, z1, z2, z3, ⟨f0, f1, f2, f3⟩, ⟨q0, q1, q2, q3⟩, y0, y1, y2, y3, x0, x1⟩ := df_cells DF6.out) | (go_at_call 16; refine (page_Check.calls k a AI cI x y AD cD d e5 _ (Kd.S_reads' HS6.out).2.2 (Kd.S_reads' HS6.out).2.1 (Kd.R_reads' HD6.out).2.2 (Kd.R_reads' HD6.out).2.1 HE5.out).mono ?_; rintro e w7 ⟨rfl, hb⟩; have DF7 := Aside0.mk (df_below DF6.out hb); have HS7 := Aside0.mk (Kd.S_below HS6.out hb); have HD7 := Aside0.mk (Kd.R_below HD6.out hb); clear hb z0 z1 z2 z3 f0 f1 f2 f3 q0 q1 q2 q3 y0 y1 y2 y3 x0 x1; obtain ⟨z0, z1, z2, z3, ⟨f0, f1, f2, f3⟩, ⟨q0, q1, q2, q3⟩, y0, y1, y2, y3, x0, x1⟩ := df_cells DF7.out))
      (try simp only [Exit.inBlock, Exit.then])
      refine bodyPost_ret (results_ct rfl _ _ p2 26 #[.int .i64 a, .slice AI x.length cI, .int .i64 y, .slice AD d.length cD] (0, 0) _ rfl (set4 DF7.out.2.2.1 (.int .i64 a) (.slice AI x.length cI) (.int .i64 y) (.slice AD d.length cD)) Try.underlying26 rfl (by kernel_rfl)) rfl ?_
      exact ⟨.slice AI x.length cI, .slice AD d.length cD, rfl, Kd.S_mono (Kd.S_far (p := ⟨p2, 3, none⟩) (Kd.S_far (p := ⟨p2, 2, none⟩) (Kd.S_far (p := ⟨p2, 1, none⟩) (Kd.S_far (p := ⟨p2, 0, none⟩) HS7.out (fun _ hk => hk.1.2.1) _) (fun _ hk => hk.1.2.1) _) (fun _ hk => hk.1.2.1) _) (fun _ hk => hk.1.2.1) _) (fun _ hk => hk.2), Kd.R_mono (Kd.R_far (p := ⟨p2, 3, none⟩) (Kd.R_far (p := ⟨p2, 2, none⟩) (Kd.R_far (p := ⟨p2, 1, none⟩) (Kd.R_far (p := ⟨p2, 0, none⟩) HD7.out (fun _ hk => hk.2.1) _) (fun _ hk => hk.2.1) _) (fun _ hk => hk.2.1) _) (fun _ hk => hk.2.1) _) (fun _ _ => trivial), below_set (below_set (below_set (below_set DF7.out.1 DP.out.2.1) DP.out.2.1) DP.out.2.1) DP.out.2.1⟩
     ·have c5b : (e5 != 0) = true := bne_iff_ne.2 c5
      have HE := Aside0.mk (show some ((0 : Int), ([] : List S39), (0 : Int), ([] : List Int), (8 : Int)) = some (r1, r2, r3, r4, r5) from (if_neg c5).symm.trans HE.out)
      have E := Option.some.inj HE.out
      injection E with e1 E
      injection E with e2 E
      injection E with e3 E
      injection E with e4 e5
      subst e1 e2 e3 e4 e5
      clear HE
      go_wp2_with (first | (go_at_call 59; refine (slices_ContainsFunc_byte_byte.calls A c l _ _ (Kd.C_below HRl.out DF.out.1) DF.out.2.1.2 HF.out).mono ?_; rintro e w6 ⟨rfl, hd⟩; have hb := drawn_below hd; have DF6 := Aside0.mk (df_below DF.out hb); have HS6 := Aside0.mk (Kd.S_below HS.out hb); have HD6 := Aside0.mk (Kd.R_below HD.out hb); clear hb hd z0 z1 z2 z3 f0 f1 f2 f3 q0 q1 q2 q3 y0 y1 y2 y3 x0 x1; obtain ⟨z0, z1, z2, z3, ⟨f0, f1, f2, f3⟩, ⟨q0, q1, q2, q3⟩, y0, y1, y2, y3, x0, x1⟩ := df_cells DF6.out) | (go_at_call 16; refine (page_Check.calls k a AI cI x y AD cD d e5 _ (Kd.S_reads' HS6.out).2.2 (Kd.S_reads' HS6.out).2.1 (Kd.R_reads' HD6.out).2.2 (Kd.R_reads' HD6.out).2.1 HE5.out).mono ?_; rintro e w7 ⟨rfl, hb⟩; have DF7 := Aside0.mk (df_below DF6.out hb); have HS7 := Aside0.mk (Kd.S_below HS6.out hb); have HD7 := Aside0.mk (Kd.R_below HD6.out hb); clear hb z0 z1 z2 z3 f0 f1 f2 f3 q0 q1 q2 q3 y0 y1 y2 y3 x0 x1; obtain ⟨z0, z1, z2, z3, ⟨f0, f1, f2, f3⟩, ⟨q0, q1, q2, q3⟩, y0, y1, y2, y3, x0, x1⟩ := df_cells DF7.out))
      (try simp only [Exit.inBlock, Exit.then])
      refine bodyPost_ret (results_ct rfl _ _ p2 26 #[.int .i64 0, .slice none 0 0, .int .i64 0, .slice none 0 0] (0, 0) _ rfl (set4 DF7.out.2.2.1 (.int .i64 0) (.slice none 0 0) (.int .i64 0) (.slice none 0 0)) Try.underlying26 rfl (by kernel_rfl)) rfl ?_
      exact dec_zero w _ p2 DF7.out.1 DP.out.2.1 _ _ _ _
 ·have hlb : ((l0.length : Int) != 256) = true := bne_iff_ne.2 hl
  have H := Aside0.mk (show some ((0 : Int), ([] : List S39), (0 : Int), ([] : List Int), (8 : Int)) = some (r1, r2, r3, r4, r5) from (if_neg hl).symm.trans h)
  have E := Option.some.inj H.out
  injection E with e1 E
  injection E with e2 E
  injection E with e3 E
  injection E with e4 e5
  subst e1 e2 e3 e4 e5
  clear h hl H
  go_enter Try.func22, Try.ntmps22
  go_wp2_with ((with_reducible refine gate_dst (N := 2) rfl ?_); (try (refine gate_guard (by rfl) ?_; dsimp only)); refine box_event ?hg (N := 2) ?hd (cs := #[.int .i64 0, .slice none 0 0, .int .i64 0, .slice none 0 0]) (t := 26) ?hr ?_; (case hd => rfl); (case hg => rfl); (case hr => first | (go_simp; done) | (go_simp; rfl)); intro p2 hp2 w1 hbox hb; have P2 := Aside0.mk (show w.heap.size ≤ p2 from Nat.le_of_eq hp2.symm); have HB1 := Aside0.mk (show Below w.heap.size w w1 from hb); have B2 := Aside0.mk (show page_pg w1 p2 0 (.slice none 0 0) 0 (.slice none 0 0) from hbox); clear hp2 hbox hb; have y0 : w1.cell? ⟨p2, 0, none⟩ = some (.int .i64 0) := (blk_cell B2.out 0).trans rfl; have y1 : w1.cell? ⟨p2, 1, none⟩ = some (.slice none 0 0) := (blk_cell B2.out 1).trans rfl; have y2 : w1.cell? ⟨p2, 2, none⟩ = some (.int .i64 0) := (blk_cell B2.out 2).trans rfl; have y3 : w1.cell? ⟨p2, 3, none⟩ = some (.slice none 0 0) := (blk_cell B2.out 3).trans rfl; have q0 := blk_frozen B2.out 0; have q1 := blk_frozen B2.out 1; have q2 := blk_frozen B2.out 2; have q3 := blk_frozen B2.out 3)
  (try simp only [Exit.inBlock, Exit.then])
  refine bodyPost_ret (results_ct rfl _ _ p2 26 #[.int .i64 0, .slice none 0 0, .int .i64 0, .slice none 0 0] (0, 0) _ rfl (set4 B2.out (.int .i64 0) (.slice none 0 0) (.int .i64 0) (.slice none 0 0)) Try.underlying26 rfl (by kernel_rfl)) rfl ?_
  exact dec_zero w w1 p2 HB1.out P2.out _ _ _ _
theorem page_Decode.calls (k : Nat) (A0 : Option Addr) (c0 : Nat) (l0 : List Int) (r1 : Int) (r2 : List S39) (r3 : Int) (r4 : List Int) (r5 : Int) (w : World) (hr0 : Kd.C (Kd.int .u8) w A0 l0.length l0) (hc0 : l0.length ≤ c0) (h : page_Decode.f k l0 = some (r1, r2, r3, r4, r5)) :
  Calls Try.prog 22 #[.slice A0 l0.length c0] w fun e w' => ∃ v1_ v3_ : Value, e = .returned (.tuple #[.agg #[.int .i64 r1, v1_, .int .i64 r3, v3_], .int .i64 r5]) ∧ Kd.S k39 39 w' w.heap.size (fun k_ => some k_ ≠ (v3_ : Value).ownBlock) v1_ r2 ∧ Kd.R (Kd.int .u8) 5 w' w.heap.size (fun _ => True) v3_ r4 ∧ Below w.heap.size w w' :=
 page_dec_walk k A0 c0 l0 r1 r2 r3 r4 r5 w hr0 hc0 h

end Go.Proofs.Ytnkaidaflegnlaa.G
