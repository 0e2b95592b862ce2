/- The functions of the program that these laws reach, each as a plain Lean function, and the proof that the machine's call comes to it; no condition beyond those that each theorem names. Made by wip/xprint.py. -/
import Derived.Test.YtepipgneefcoiaaTW1
import Derived.Test.YtepipgneefcoiaaDx0
namespace Go.Proofs.Ytepipgneefcoiaa.D
open Go.RowKit Go.Proofs.YtepipgneefcoiaaW.PrintWords Go.Proofs.YtepipgneefcoiaaW.PrintLast Go.Proofs.YtepipgneefcoiaaW.PrintMore
attribute [local go_sem] max2_int min2_int max_two min_two max_three min_three max_four min_four
set_option linter.unusedVariables false
set_option linter.unusedSimpArgs false
/- A log's state, and the log in memory beside its disk. -/
structure Wl where
  fi : Nat
  si : Nat
  ep : Int
  li : Int
  en : Nat
  rs : List (List Int)
  br : Bool
  X : Nat → Prop
def kL : Kd (List Int) := Kd.slice 5 (Kd.int .u8)
def lgc (q : Nat) (l : Wl) (v : Value) : Array Value := #[.pointer (some ⟨q, 0, none⟩), .int .i64 (l.fi : Int), .int .i64 (l.si : Int), .int .u64 l.ep, .int .u64 l.li, .int .i64 (l.en : Int), v, .bool l.br]
structure LX (w0 : World) (p q : Nat) (l : Wl) (s : Dk) (A : Option Addr) (n c : Nat) (O OV : Nat → Prop) (w : World) : Prop where
  d : JO w0 w q s O
  box : w.heap[p]? = some (.cells (lgc q l (.slice A n c)) 115 (0, 0))
  op : O p
  lp : w0.heap.size ≤ p
  ov : ∀ k, OV k → O k ∧ k ≠ p ∧ ¬ l.X k
  v : Kd.V kL 27 w 0 OV (.slice A n c) l.rs
  hn : n = l.rs.length
  xo : ∀ k, l.X k → O k
def LG (w0 : World) (p q : Nat) (l : Wl) (s : Dk) (O : Nat → Prop) (w : World) : Prop := ∃ A n c OV, LX w0 p q l s A n c O OV w
section
variable {w0 w w' : World} {p q n c : Nat} {l l' : Wl} {s s' : Dk} {A : Option Addr} {O OV O' : Nat → Prop}
theorem LX_cells (h : LX w0 p q l s A n c O OV w) : w.cell? ⟨p, 0, none⟩ = some (.pointer (some ⟨q, 0, none⟩)) ∧ w.cell? ⟨p, 1, none⟩ = some (.int .i64 (l.fi : Int)) ∧ w.cell? ⟨p, 2, none⟩ = some (.int .i64 (l.si : Int)) ∧ w.cell? ⟨p, 3, none⟩ = some (.int .u64 l.ep) ∧ w.cell? ⟨p, 4, none⟩ = some (.int .u64 l.li) ∧ w.cell? ⟨p, 5, none⟩ = some (.int .i64 (l.en : Int)) ∧ w.cell? ⟨p, 6, none⟩ = some (.slice A n c) ∧ w.cell? ⟨p, 7, none⟩ = some (.bool l.br) :=
  ⟨(blk_cell h.box 0).trans rfl, (blk_cell h.box 1).trans rfl, (blk_cell h.box 2).trans rfl, (blk_cell h.box 3).trans rfl, (blk_cell h.box 4).trans rfl, (blk_cell h.box 5).trans rfl, (blk_cell h.box 6).trans rfl, (blk_cell h.box 7).trans rfl⟩
theorem LX_act (h : LX w0 p q l s A n c O OV w) (hj : JO w0 w' q s' O) (hk : kO O w w') : LX w0 p q l s' A n c O OV w' :=
  ⟨hj, (hk.2 p h.op).trans h.box, h.op, h.lp, h.ov, Kd.V_step h.v (fun k hk2 _ => hk.2 k (h.ov k hk2).1), h.hn, h.xo⟩
theorem LX_step (h : LX w0 p q l s A n c O OV w) (hb : Below w.heap.size w w') : LX w0 p q l s A n c O OV w' := LX_act h (JO_step h.d hb) (kO_below h.d hb)
theorem LX_deep (h : LX w0 p q l s A n c O OV w) (hb : Below w.heap.size w w') : LX w0 p q l s A n c (fun k => O k ∨ (w.heap.size ≤ k ∧ k < w'.heap.size)) OV w' := by
  have h1 := LX_step h hb
  exact ⟨JO_deep h.d hb, h1.box, .inl h.op, h.lp, fun k hk => ⟨.inl (h.ov k hk).1, (h.ov k hk).2⟩, h1.v, h.hn, fun k hk => .inl (h.xo k hk)⟩
theorem LX_mono (h : LX w0 p q l s A n c O OV w) (ho : ∀ k, O' k → O k) (hp : O' p) (hv : ∀ k, OV k → O' k) (hx : ∀ k, l.X k → O' k) : LX w0 p q l s A n c O' OV w := ⟨JO_mono h.d ho, h.box, hp, h.lp, fun k hk => ⟨hv k hk, (h.ov k hk).2⟩, h.v, h.hn, hx⟩
/- A number of the log is written. -/
theorem LX_set (h : LX w0 p q l s A n c O OV w) (j : Nat) (u : Value) (hl : (lgc q l (.slice A n c)).setIfInBounds j u = lgc q l' (.slice A n c)) (hr : l'.rs = l.rs) (hx : l'.X = l.X := by rfl) : LX w0 p q l' s A n c O OV (w.setCell ⟨p, j, none⟩ u) :=
  ⟨JO_write h.d h.op h.lp u, blk_put h.box j u hl, h.op, h.lp, by rw [hx]; exact h.ov, by rw [hr]; exact Kd.V_step h.v (fun k hk _ => Below.heap_setCell w ⟨p, j, none⟩ u k (h.ov k hk).2.1), by rw [hr]; exact h.hn, by rw [hx]; exact h.xo⟩
theorem LX_below (h : LX w0 p q l s A n c O OV w) : Below w0.heap.size w0 w := JO_below h.d
theorem LG_step (h : LG w0 p q l s O w) (hb : Below w.heap.size w w') : LG w0 p q l s O w' := by
  obtain ⟨A, n, c, OV, h⟩ := h
  exact ⟨A, n, c, OV, LX_step h hb⟩
theorem LG_act (h : LG w0 p q l s O w) (hj : JO w0 w' q s' O) (hk : kO O w w') : LG w0 p q l s' O w' := by
  obtain ⟨A, n, c, OV, h⟩ := h
  exact ⟨A, n, c, OV, LX_act h hj hk⟩
theorem LG_d (h : LG w0 p q l s O w) : JO w0 w q s O := by
  obtain ⟨A, n, c, OV, h⟩ := h
  exact h.d
theorem LG_below (h : LG w0 p q l s O w) : Below w0.heap.size w0 w := JO_below (LG_d h)
theorem L_Life (h : LG w0 p q l s O w) : Calls Try.prog 42 #[.pointer (some ⟨p, 0, none⟩)] w fun e w' => e = .returned (.int .u64 l.li) ∧ w = w' := by
  obtain ⟨A, n, c, OV, h⟩ := h
  obtain ⟨y0, y1, y2, y3, y4, y5, y6, y7⟩ := LX_cells h
  clear h y0 y1 y2 y3 y5 y6 y7
  go_enter Try.func42, Try.ntmps42
  go_wp2
  go_ret
  exact ⟨rfl, rfl⟩
theorem L_Epoch (h : LG w0 p q l s O w) : Calls Try.prog 43 #[.pointer (some ⟨p, 0, none⟩)] w fun e w' => e = .returned (.int .u64 l.ep) ∧ w = w' := by
  obtain ⟨A, n, c, OV, h⟩ := h
  obtain ⟨y0, y1, y2, y3, y4, y5, y6, y7⟩ := LX_cells h
  clear h y0 y1 y2 y4 y5 y6 y7
  go_enter Try.func43, Try.ntmps43
  go_wp2
  go_ret
  exact ⟨rfl, rfl⟩
theorem LG_X (h : LG w0 p q l s O w) (X' : Nat → Prop) (h1 : ∀ k, X' k → l.X k ∨ ¬ O k) (h2 : ∀ k, X' k → O' k) (h3 : ∀ k, O k → O' k) (hj : JO w0 w q s O') : LG w0 p q {l with X := X'} s O' w := by
  obtain ⟨A, n, c, OV, h⟩ := h
  exact ⟨A, n, c, OV, hj, h.box, h3 p h.op, h.lp, fun k hk => ⟨h3 k (h.ov k hk).1, (h.ov k hk).2.1, fun hx => (h1 k hx).elim (h.ov k hk).2.2 (fun hn => hn (h.ov k hk).1)⟩, h.v, h.hn, h2⟩
/- A block that the log's own rows stay away from is written. -/
theorem LG_out (h : LG w0 p q l s O w) {g : Nat} (hg : l.X g) (hp : g ≠ p) (hw : ∀ k, k ≠ g → w'.heap[k]? = w.heap[k]?) (hj : JO w0 w' q s O) : LG w0 p q l s O w' := by
  obtain ⟨A, n, c, OV, h⟩ := h
  exact ⟨A, n, c, OV, hj, (hw p (Ne.symm hp)).trans h.box, h.op, h.lp, h.ov, Kd.V_step h.v (fun k hk _ => hw k (fun e => (h.ov k hk).2.2 (by rw [e]; exact hg))), h.hn, h.xo⟩
/- What Sync and Reset make of a log. -/
def syx (l : Wl) (s : Dk) : Wl × Dk × Int := if l.br = true then (l, s, 9) else ({l with br := (flx s).2 != 0}, (flx s).1, (flx s).2)
def rex (l : Wl) (e : Int) : Wl × Int := if l.br = true then (l, 9) else if e ≤ l.ep then (l, 1) else ({l with ep := e, en := 0, rs := []}, 0)
theorem L_Sync (h : LG w0 p q l s O w) (hl : s.pend.length ≤ 100000) (l' : Wl) (s' : Dk) (r : Int) (hx : syx l s = (l', s', r)) : Calls Try.prog 46 #[.pointer (some ⟨p, 0, none⟩)] w fun e w' => e = .returned (.int .i64 r) ∧ LG w0 p q l' s' O w' ∧ ∀ k, O k → k ≠ p → w'.heap[k]? = w.heap[k]? := by
  obtain ⟨A, n, c, OV, h⟩ := h
  obtain ⟨y0, y1, y2, y3, y4, y5, y6, y7⟩ := LX_cells h
  unfold syx at hx
  obtain ⟨b, hb⟩ : ∃ b, b = l.br := ⟨_, rfl⟩
  rw [← hb] at hx y7
  cases b with
  | true =>
    rw [if_pos rfl] at hx
    have H := Aside0.mk h
    have HX := Aside0.mk hx
    clear h hx hb y0 y1 y2 y3 y4 y5 y6
    go_enter Try.func46, Try.ntmps46
    go_wp2
    go_ret
    have hx := HX.out
    injection hx with e1 e2
    injection e2 with e2 e3
    subst e1 e2 e3
    exact ⟨rfl, ⟨A, n, c, OV, H.out⟩, fun _ _ _ => rfl⟩
  | false =>
    rw [if_neg (by decide)] at hx
    injection hx with e1 e2
    injection e2 with e2 e3
    subst e1
    obtain ⟨⟨s2, r2⟩, hf⟩ : ∃ x, flx s = x := ⟨_, rfl⟩
    rw [hf] at e2 e3
    dsimp only at e2 e3
    subst e2 e3
    have H := Aside0.mk h
    have HF := Aside0.mk hf
    have HL := Aside0.mk hl
    have HB := Aside0.mk hb
    rw [hf]
    clear h hf hb hl y1 y2 y3 y4 y5 y6
    go_enter Try.func46, Try.ntmps46
    go_upto_region 6 with (go_at_call 24; refine (JO_Flush H.out.d HL.out s2 r2 HF.out).mono ?_; rintro e w1 ⟨rfl, hj, hk⟩; have X1 := Aside0.mk (LX_act H.out hj hk); have K1 := Aside0.mk hk; clear hj hk y0 y7)
    obtain ⟨y0, y1, y2, y3, y4, y5, y6, y7⟩ := LX_cells X1.out
    have fz := blk_frozen X1.out.box 7
    clear y0 y1 y2 y3 y4 y5 y6
    go_wp2
    go_ret
    refine ⟨rfl, ⟨A, n, c, OV, LX_set X1.out 7 (.bool (r2 != 0)) rfl rfl⟩, fun k hk hkp => (Below.heap_setCell w1 ⟨p, 7, none⟩ _ k hkp).trans (K1.out.2 k hk)⟩
end
end Go.Proofs.Ytepipgneefcoiaa.D
