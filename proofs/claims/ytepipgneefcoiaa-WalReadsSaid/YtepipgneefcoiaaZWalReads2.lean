/- What the law WalReads rests on, part 2: words on memory, the functions that it reaches as plain Lean functions with the proofs that the machine's calls come to them, and the mathematics; no condition beyond those that each theorem names. -/
import Derived.Test.YtepipgneefcoiaaZWalReads1
set_option linter.unusedVariables false
set_option linter.unusedSimpArgs false
namespace Go.Proofs.Ytepipgneefcoiaa.D
open Go.RowKit Go.Proofs.YtepipgneefcoiaaW.PrintWords Go.Proofs.YtepipgneefcoiaaW.PrintLast Go.Proofs.YtepipgneefcoiaaW.PrintMore
def JO (w0 w : World) (p : Nat) (s : Dk) (O : Nat → Prop) : Prop := ∃ a b v, dm w0.heap.size w p a b v s ∧ Below w0.heap.size w0 w ∧ ∀ k, O k → k < w.heap.size ∧ ¬ dS p a b v k
def kO (O : Nat → Prop) (w w' : World) : Prop := w.heap.size ≤ w'.heap.size ∧ ∀ k, O k → w'.heap[k]? = w.heap[k]?
theorem kO_refl (O : Nat → Prop) (w : World) : kO O w w := ⟨Nat.le_refl _, fun _ _ => rfl⟩
theorem kO_trans {O : Nat → Prop} {w w1 w2 : World} (h : kO O w w1) (k : kO O w1 w2) : kO O w w2 := ⟨Nat.le_trans h.1 k.1, fun i hi => (k.2 i hi).trans (h.2 i hi)⟩
theorem kO_mono {O O' : Nat → Prop} {w w' : World} (h : kO O w w') (ho : ∀ k, O' k → O k) : kO O' w w' := ⟨h.1, fun k hk => h.2 k (ho k hk)⟩
theorem JO_J {w0 w : World} {p : Nat} {s : Dk} {O : Nat → Prop} (h : JO w0 w p s O) : J w0 w p s := by obtain ⟨a, b, v, h1, h2, _⟩ := h; exact ⟨a, b, v, h1, h2⟩
theorem J_JO {w0 w : World} {p : Nat} {s : Dk} (h : J w0 w p s) : JO w0 w p s (fun _ => False) := by obtain ⟨a, b, v, h1, h2⟩ := h; exact ⟨a, b, v, h1, h2, fun _ hk => hk.elim⟩
theorem JO_below {w0 w : World} {p : Nat} {s : Dk} {O : Nat → Prop} (h : JO w0 w p s O) : Below w0.heap.size w0 w := J_below (JO_J h)
theorem JO_O {w0 w : World} {p : Nat} {s : Dk} {O : Nat → Prop} (h : JO w0 w p s O) {k : Nat} (hk : O k) : k < w.heap.size := by obtain ⟨a, b, v, _, _, h⟩ := h; exact (h k hk).1
theorem JO_mono {w0 w : World} {p : Nat} {s : Dk} {O O' : Nat → Prop} (h : JO w0 w p s O) (ho : ∀ k, O' k → O k) : JO w0 w p s O' := by
 obtain ⟨a, b, v, h1, h2, h3⟩ := h
 exact ⟨a, b, v, h1, h2, fun k hk => h3 k (ho k hk)⟩
theorem dS_lt {base p n f : Nat} {w : World} {vP : Value} {s : Dk} (h : dm base w p n f vP s) {k : Nat} (hk : dS p n f vP k) : k < w.heap.size := by
 rcases hk with e | e | e | e
 · rw [e]; exact blk_lt h.box
 · rw [e]; exact blk_lt h.now
 · rw [e]; exact blk_lt h.safe
 obtain ⟨cc, hc⟩ := Kd.R_typed h.pend k e.symm; exact blk_lt hc
theorem JO_deep {w0 w w' : World} {p : Nat} {s : Dk} {O : Nat → Prop} (h : JO w0 w p s O) (b : Below w.heap.size w w') : JO w0 w' p s (fun k => O k ∨ (w.heap.size ≤ k ∧ k < w'.heap.size)) := by
 obtain ⟨a, b', v, h1, h2, h3⟩ := h
 refine ⟨a, b', v, dm_below h1 b, below_step h2 b, fun k hk => ?_⟩
 rcases hk with hk | hk
 · exact ⟨Nat.lt_of_lt_of_le (h3 k hk).1 b.size, (h3 k hk).2⟩
 exact ⟨hk.2, fun e => by have := dS_lt h1 e; omega⟩
theorem JO_step {w0 w w' : World} {p : Nat} {s : Dk} {O : Nat → Prop} (h : JO w0 w p s O) (b : Below w.heap.size w w') : JO w0 w' p s O := JO_mono (JO_deep h b) (fun _ hk => .inl hk)
theorem kO_below {w0 w w' : World} {p : Nat} {s : Dk} {O : Nat → Prop} (h : JO w0 w p s O) (b : Below w.heap.size w w') : kO O w w' := ⟨b.size, fun k hk => b.block k (JO_O h hk)⟩
theorem JO_write {w0 w : World} {p g j : Nat} {s : Dk} {O : Nat → Prop} (h : JO w0 w p s O) (hO : O g) (hg : w0.heap.size ≤ g) (u : Value) : JO w0 (w.setCell ⟨g, j, none⟩ u) p s O := by
 obtain ⟨a, b, v, h1, h2, h3⟩ := h
 have hn := (h3 g hO).2
 have far : ∀ k, k ≠ g → (w.setCell ⟨g, j, none⟩ u).heap[k]? = w.heap[k]? := fun k hk => Below.heap_setCell w ⟨g, j, none⟩ u k hk
 refine ⟨a, b, v, ⟨(far p (fun e => hn (.inl e.symm))).trans h1.box, (far a (fun e => hn (.inr (.inl e.symm)))).trans h1.now, (far b (fun e => hn (.inr (.inr (.inl e.symm))))).trans h1.safe, Kd.R_mono (Kd.R_move (Kd.R_tight rfl h1.pend) (fun k hk => far k (fun e => hn (by rw [← e]; exact .inr (.inr (.inr hk)))))) (fun _ _ => trivial), h1.ne, h1.hp, h1.hn, h1.hf, h1.ok⟩, below_set h2 hg, fun k hk => ⟨by simpa using (h3 k hk).1, (h3 k hk).2⟩⟩
theorem JO_act {w0 w w' : World} {p a b : Nat} {v v' : Value} {s s' : Dk} {O : Nat → Prop} {S : Nat → Prop} (h : dm w0.heap.size w p a b v s) (hB : Below w0.heap.size w0 w) (hO : ∀ k, O k → k < w.heap.size ∧ ¬ dS p a b v k) (h' : dm w0.heap.size w' p a b v' s') (hn : newer w v v') (hk : skp S w w') (hS : ∀ i, S i → dS p a b v i) : JO w0 w' p s' O ∧ kO O w w' := by
 refine ⟨⟨a, b, v', h', skp_below hB hk (fun i e => dS_base h i (hS i e)), fun k hkk => ⟨Nat.lt_of_lt_of_le (hO k hkk).1 hk.2.2.2.1, fun e => ?_⟩⟩, hk.2.2.2.1, fun k hkk => hk.2.2.2.2 k (hO k hkk).1 (fun e => (hO k hkk).2 (hS k e))⟩
 rcases e with e | e | e | e
 · exact (hO k hkk).2 (.inl e)
 · exact (hO k hkk).2 (.inr (.inl e))
 · exact (hO k hkk).2 (.inr (.inr (.inl e)))
 have h1 := (hO k hkk).1
 have h2 := (hO k hkk).2
 unfold newer at hn
 rcases hn with hn | hn | ⟨q, hq, hl⟩
 · rw [hn] at e; cases e
 · exact h2 (.inr (.inr (.inr (e.trans hn))))
 have : some k = some q := e.trans hq
 injection this with this
 omega
theorem newer_refl (w : World) (v : Value) : newer w v v := .inr (.inl rfl)
theorem JO_Read {w0 w : World} {p : Nat} {s : Dk} {O : Nat → Prop} (h : JO w0 w p s O) (i : Int) (l : List Int) (e' : Int) (hx : rdx s i = (l, e')) :
    Calls Try.prog 16 #[.pointer (some ⟨p, 0, none⟩), .int .i64 i] w fun e w' => ∃ v, e = .returned (.tuple #[v, .int .i64 e']) ∧ frs w w' v l ∧ Below w.heap.size w w' := by
 refine (J_Read (JO_J h) i l e' hx).mono ?_
 rintro e w' ⟨v, rfl, hf, _, hb⟩
 exact ⟨v, rfl, hf, hb⟩
theorem JO_Blocks {w0 w : World} {p : Nat} {s : Dk} {O : Nat → Prop} (h : JO w0 w p s O) : Calls Try.prog 17 #[.pointer (some ⟨p, 0, none⟩)] w fun e w' => e = .returned (.int .i64 (s.nb : Int)) ∧ Below w.heap.size w w' := by
 refine (J_Blocks (JO_J h)).mono ?_
 rintro e w' ⟨rfl, _, hb⟩
 exact ⟨rfl, hb⟩
theorem JO_Write {w0 w : World} {p : Nat} {s : Dk} {O : Nat → Prop} (h : JO w0 w p s O) (hl : s.pend.length ≤ 100000) (i : Int) (A : Option Addr) (c : Nat) (b : List Int) (hb : b.length = 256) (hc : 256 ≤ c) (hR : ∀ W, kO O w W → Kd.C (Kd.int .u8) W A 256 b) (s' : Dk) (e' : Int) (hx : wrx s i b = (s', e')) :
    Calls Try.prog 22 #[.pointer (some ⟨p, 0, none⟩), .int .i64 i, .slice A 256 c] w fun e w' => e = .returned (.int .i64 e') ∧ JO w0 w' p s' O ∧ kO O w w' := by
 obtain ⟨a, b', v, h1, h2, h3⟩ := id h
 unfold wrx at hx
 by_cases c0 : hasB s i = true
 rotate_left
 · rw [if_neg (fun hh => c0 hh.1)] at hx
   injection hx with e1 e2
   subst e1 e2
   refine (dk_WriteArg h1 i A 256 c (.inl (by simpa using c0))).mono ?_
   rintro e w' ⟨rfl, hd⟩
   exact ⟨rfl, JO_step h (drawn_below hd), kO_below h (drawn_below hd)⟩
 rw [if_pos ⟨c0, hb⟩] at hx
 obtain ⟨k, rfl, hk⟩ := hasB_nat c0
 obtain ⟨⟨s1, d⟩, hp⟩ : ∃ q, q = pwx s := ⟨_, rfl⟩
 rw [← hp] at hx
 cases d with
 | true =>
  rw [if_pos rfl] at hx
  injection hx with e1 e2
  subst e1 e2
  refine (dk_Write h1 h2.size k hk A c b hb hp.symm hl hc (fun W hW => hR W ⟨hW.2.2.2.1, fun k hkk => hW.2.2.2.2 k (h3 k hkk).1 (h3 k hkk).2⟩)).mono ?_
  rintro e w' ⟨rfl, v', hd, hn, hk2⟩
  rw [Int.toNat_natCast]
  exact ⟨rfl, JO_act h1 h2 h3 hd hn hk2 (fun i e => e)⟩
 | false => ?_
 rw [if_neg (by simp)] at hx
 injection hx with e1 e2
 subst e1 e2
 refine (dk_WriteDown h1 (k : Int) A c c0 hp.symm).mono ?_
 rintro e w' ⟨rfl, hd, hk2⟩
 exact ⟨rfl, JO_act h1 h2 h3 hd (newer_refl w v) hk2 (fun i e => .inl e)⟩
theorem JO_Flush {w0 w : World} {p : Nat} {s : Dk} {O : Nat → Prop} (h : JO w0 w p s O) (hl : s.pend.length ≤ 100000) (s' : Dk) (e' : Int) (hx : flx s = (s', e')) :
    Calls Try.prog 24 #[.pointer (some ⟨p, 0, none⟩)] w fun e w' => e = .returned (.int .i64 e') ∧ JO w0 w' p s' O ∧ kO O w w' := by
 obtain ⟨a, b, v, h1, h2, h3⟩ := id h
 refine (dk_Flush h1 h2.size hl s' e' hx).mono ?_
 rintro e w' ⟨rfl, v', hd, hn, hk⟩
 exact ⟨rfl, JO_act h1 h2 h3 hd hn hk (fun i e => e)⟩
structure Wl where
  fi : Nat
  si : Nat
  ep : Int
  li : Int
  en : Nat
  rs : List (List Int)
  br : Bool
  X : Nat → Prop
def kL : Kd (List Int) := Kd.slice 5 (Kd.int .u8)
def lgc (q : Nat) (l : Wl) (v : Value) : Array Value := #[.pointer (some ⟨q, 0, none⟩), .int .i64 (l.fi : Int), .int .i64 (l.si : Int), .int .u64 l.ep, .int .u64 l.li, .int .i64 (l.en : Int), v, .bool l.br]
structure LX (w0 : World) (p q : Nat) (l : Wl) (s : Dk) (A : Option Addr) (n c : Nat) (O OV : Nat → Prop) (w : World) : Prop where
  d : JO w0 w q s O
  box : w.heap[p]? = some (.cells (lgc q l (.slice A n c)) 115 (0, 0))
  op : O p
  lp : w0.heap.size ≤ p
  ov : ∀ k, OV k → O k ∧ k ≠ p ∧ ¬ l.X k
  v : Kd.V kL 27 w 0 OV (.slice A n c) l.rs
  hn : n = l.rs.length
  xo : ∀ k, l.X k → O k
def LG (w0 : World) (p q : Nat) (l : Wl) (s : Dk) (O : Nat → Prop) (w : World) : Prop := ∃ A n c OV, LX w0 p q l s A n c O OV w
section
variable {w0 w w' : World} {p q n c : Nat} {l l' : Wl} {s s' : Dk} {A : Option Addr} {O OV O' : Nat → Prop}
theorem LX_cells (h : LX w0 p q l s A n c O OV w) : w.cell? ⟨p, 0, none⟩ = some (.pointer (some ⟨q, 0, none⟩)) ∧ w.cell? ⟨p, 1, none⟩ = some (.int .i64 (l.fi : Int)) ∧ w.cell? ⟨p, 2, none⟩ = some (.int .i64 (l.si : Int)) ∧ w.cell? ⟨p, 3, none⟩ = some (.int .u64 l.ep) ∧ w.cell? ⟨p, 4, none⟩ = some (.int .u64 l.li) ∧ w.cell? ⟨p, 5, none⟩ = some (.int .i64 (l.en : Int)) ∧ w.cell? ⟨p, 6, none⟩ = some (.slice A n c) ∧ w.cell? ⟨p, 7, none⟩ = some (.bool l.br) :=
  ⟨(blk_cell h.box 0).trans rfl, (blk_cell h.box 1).trans rfl, (blk_cell h.box 2).trans rfl, (blk_cell h.box 3).trans rfl, (blk_cell h.box 4).trans rfl, (blk_cell h.box 5).trans rfl, (blk_cell h.box 6).trans rfl, (blk_cell h.box 7).trans rfl⟩
theorem LX_act (h : LX w0 p q l s A n c O OV w) (hj : JO w0 w' q s' O) (hk : kO O w w') : LX w0 p q l s' A n c O OV w' :=
  ⟨hj, (hk.2 p h.op).trans h.box, h.op, h.lp, h.ov, Kd.V_step h.v (fun k hk2 _ => hk.2 k (h.ov k hk2).1), h.hn, h.xo⟩
theorem LX_step (h : LX w0 p q l s A n c O OV w) (hb : Below w.heap.size w w') : LX w0 p q l s A n c O OV w' := LX_act h (JO_step h.d hb) (kO_below h.d hb)
theorem LX_deep (h : LX w0 p q l s A n c O OV w) (hb : Below w.heap.size w w') : LX w0 p q l s A n c (fun k => O k ∨ (w.heap.size ≤ k ∧ k < w'.heap.size)) OV w' := by
 have h1 := LX_step h hb
 exact ⟨JO_deep h.d hb, h1.box, .inl h.op, h.lp, fun k hk => ⟨.inl (h.ov k hk).1, (h.ov k hk).2⟩, h1.v, h.hn, fun k hk => .inl (h.xo k hk)⟩
theorem LX_set (h : LX w0 p q l s A n c O OV w) (j : Nat) (u : Value) (hl : (lgc q l (.slice A n c)).setIfInBounds j u = lgc q l' (.slice A n c)) (hr : l'.rs = l.rs) (hx : l'.X = l.X := by rfl) : LX w0 p q l' s A n c O OV (w.setCell ⟨p, j, none⟩ u) :=
  ⟨JO_write h.d h.op h.lp u, blk_put h.box j u hl, h.op, h.lp, by rw [hx]; exact h.ov, by rw [hr]; exact Kd.V_step h.v (fun k hk _ => Below.heap_setCell w ⟨p, j, none⟩ u k (h.ov k hk).2.1), by rw [hr]; exact h.hn, by rw [hx]; exact h.xo⟩
theorem LX_below (h : LX w0 p q l s A n c O OV w) : Below w0.heap.size w0 w := JO_below h.d
theorem LG_step (h : LG w0 p q l s O w) (hb : Below w.heap.size w w') : LG w0 p q l s O w' := by
 obtain ⟨A, n, c, OV, h⟩ := h
 exact ⟨A, n, c, OV, LX_step h hb⟩
theorem LG_act (h : LG w0 p q l s O w) (hj : JO w0 w' q s' O) (hk : kO O w w') : LG w0 p q l s' O w' := by
 obtain ⟨A, n, c, OV, h⟩ := h
 exact ⟨A, n, c, OV, LX_act h hj hk⟩
theorem LG_d (h : LG w0 p q l s O w) : JO w0 w q s O := by
 obtain ⟨A, n, c, OV, h⟩ := h
 exact h.d
theorem LG_below (h : LG w0 p q l s O w) : Below w0.heap.size w0 w := JO_below (LG_d h)
theorem L_Life (h : LG w0 p q l s O w) : Calls Try.prog 42 #[.pointer (some ⟨p, 0, none⟩)] w fun e w' => e = .returned (.int .u64 l.li) ∧ w = w' := by
 obtain ⟨A, n, c, OV, h⟩ := h
 obtain ⟨y0, y1, y2, y3, y4, y5, y6, y7⟩ := LX_cells h
 clear h y0 y1 y2 y3 y5 y6 y7
 go_enter Try.func42, Try.ntmps42
 go_wp2
 go_ret
 exact ⟨rfl, rfl⟩
theorem L_Epoch (h : LG w0 p q l s O w) : Calls Try.prog 43 #[.pointer (some ⟨p, 0, none⟩)] w fun e w' => e = .returned (.int .u64 l.ep) ∧ w = w' := by
 obtain ⟨A, n, c, OV, h⟩ := h
 obtain ⟨y0, y1, y2, y3, y4, y5, y6, y7⟩ := LX_cells h
 clear h y0 y1 y2 y4 y5 y6 y7
 go_enter Try.func43, Try.ntmps43
 go_wp2
 go_ret
 exact ⟨rfl, rfl⟩
def syx (l : Wl) (s : Dk) : Wl × Dk × Int := if l.br = true then (l, s, 9) else ({l with br := (flx s).2 != 0}, (flx s).1, (flx s).2)
theorem L_Sync (h : LG w0 p q l s O w) (hl : s.pend.length ≤ 100000) (l' : Wl) (s' : Dk) (r : Int) (hx : syx l s = (l', s', r)) : Calls Try.prog 46 #[.pointer (some ⟨p, 0, none⟩)] w fun e w' => e = .returned (.int .i64 r) ∧ LG w0 p q l' s' O w' ∧ ∀ k, O k → k ≠ p → w'.heap[k]? = w.heap[k]? := by
 obtain ⟨A, n, c, OV, h⟩ := h
 obtain ⟨y0, y1, y2, y3, y4, y5, y6, y7⟩ := LX_cells h
 unfold syx at hx
 obtain ⟨b, hb⟩ : ∃ b, b = l.br := ⟨_, rfl⟩
 rw [← hb] at hx y7
 cases b with
 | true =>
  rw [if_pos rfl] at hx
  have H := Aside0.mk h
  have HX := Aside0.mk hx
  clear h hx hb y0 y1 y2 y3 y4 y5 y6
  go_enter Try.func46, Try.ntmps46
  go_wp2
  go_ret
  have hx := HX.out
  injection hx with e1 e2
  injection e2 with e2 e3
  subst e1 e2 e3
  exact ⟨rfl, ⟨A, n, c, OV, H.out⟩, fun _ _ _ => rfl⟩
 | false => ?_
 rw [if_neg (by decide)] at hx
 injection hx with e1 e2
 injection e2 with e2 e3
 subst e1
 obtain ⟨⟨s2, r2⟩, hf⟩ : ∃ x, flx s = x := ⟨_, rfl⟩
 rw [hf] at e2 e3
 dsimp only at e2 e3
 subst e2 e3
 have H := Aside0.mk h
 have HF := Aside0.mk hf
 have HL := Aside0.mk hl
 have HB := Aside0.mk hb
 rw [hf]
 clear h hf hb hl y1 y2 y3 y4 y5 y6
 go_enter Try.func46, Try.ntmps46
 go_upto_region 6 with (go_at_call 24; refine (JO_Flush H.out.d HL.out s2 r2 HF.out).mono ?_; rintro e w1 ⟨rfl, hj, hk⟩; have X1 := Aside0.mk (LX_act H.out hj hk); have K1 := Aside0.mk hk; clear hj hk y0 y7)
 obtain ⟨y0, y1, y2, y3, y4, y5, y6, y7⟩ := LX_cells X1.out
 have fz := blk_frozen X1.out.box 7
 clear y0 y1 y2 y3 y4 y5 y6
 go_wp2
 go_ret
 refine ⟨rfl, ⟨A, n, c, OV, LX_set X1.out 7 (.bool (r2 != 0)) rfl rfl⟩, fun k hk hkp => (Below.heap_setCell w1 ⟨p, 7, none⟩ _ k hkp).trans (K1.out.2 k hk)⟩
end
section
variable {w0 w w' : World} {p q n c : Nat} {l l' : Wl} {s s' : Dk} {A : Option Addr} {O OV O' : Nat → Prop}
def rmx (l : Wl) : Int := if l.br = true then 0 else mn (((l.si : Int) * 4 - (l.en : Int)) * 39) 6000
theorem L_Room (h : LG w0 p q l s O w) (hs : l.si ≤ 4096) (he : l.en ≤ l.si * 4) (r : Int) (hr : rmx l = r) : Calls Try.prog 40 #[.pointer (some ⟨p, 0, none⟩)] w fun e w' => e = .returned (.int .i64 r) ∧ Below w.heap.size w w' := by
 obtain ⟨A, n, c, OV, h⟩ := h
 obtain ⟨y0, y1, y2, y3, y4, y5, y6, y7⟩ := LX_cells h
 unfold rmx at hr
 obtain ⟨b, hb⟩ : ∃ b, b = l.br := ⟨_, rfl⟩
 rw [← hb] at hr y7
 cases b with
 | true =>
  rw [if_pos rfl] at hr
  subst hr
  clear h hb y0 y1 y2 y3 y4 y5 y6 hs he
  go_enter Try.func40, Try.ntmps40
  go_wp2
  go_ret
  exact ⟨rfl, Below.refl _ _⟩
 | false => ?_
 rw [if_neg (by decide)] at hr
 obtain ⟨si, hsi⟩ : ∃ si, si = l.si := ⟨_, rfl⟩
 obtain ⟨en, hen⟩ : ∃ en, en = l.en := ⟨_, rfl⟩
 rw [← hsi] at hr y2 hs he
 rw [← hen] at hr y5 he
 have HR := Aside0.mk hr
 have f1 : wrap64 ((si : Int) * 4) = (si : Int) * 4 := by unfold wrap64; omega
 have f2 : wrap64 ((si : Int) * 4 - (en : Int)) = (si : Int) * 4 - (en : Int) := by unfold wrap64; omega
 have f3 : wrap64 (((si : Int) * 4 - (en : Int)) * 39) = ((si : Int) * 4 - (en : Int)) * 39 := by unfold wrap64; omega
 clear h hb hsi hen hr hs he y0 y1 y3 y4 y6
 go_enter Try.func40, Try.ntmps40
 go_upto_region 3 with (fail)
 refine start_ (n := 13) (S := fun w' => w'.cell? ⟨p, 2, none⟩ = some (.int .i64 (si : Int)) ∧ w'.cell? ⟨p, 5, none⟩ = some (.int .i64 (en : Int))) (ds := []) #[false, false, false, false, false, false, false, false, false, false, false, false, false] (by kernel_rfl) rfl rfl ⟨y2, y5⟩ (fun hHeld => ?_)
 refine pu 0 (some 11) (bm 13 1) ?_
 refine pu 1 (some 12) (bm 13 3) ?_
 refine pu 2 (some 13) (bm 13 7) ?_
 refine pu 5 (some 16) (bm 13 39) ?_
 refine pu 6 (some 17) (bm 13 103) ?_
 refine pu 7 (some 18) (bm 13 231) ?_
 refine take_ (i := 3) (N := some 14) (v := ?_) (a' := ?_) #[true, true, true, true, false, true, true, true, false, false, false, false, false] rfl rfl (by kernel_rfl) (fun _ _ _ h => h) (Or.inl ⟨by rfl, ?_⟩) hHeld ?_ ?_
 rotate_left
 · rintro w' ⟨s0, s1⟩
   go_simp
   with_reducible rfl
 rotate_left
 · simp only [Act.put, List.setIfInBounds_toArray, List.set_cons_zero, List.set_cons_succ, i64_w, i32_w]
   rfl
 refine pu 4 (some 15) (bm 13 255) ?_
 refine take_ (i := 8) (N := some 19) (v := ?_) (a' := ?_) #[true, true, true, true, true, true, true, true, true, false, false, false, false] rfl rfl (by kernel_rfl) (fun _ _ _ h => h) (Or.inl ⟨by rfl, ?_⟩) hHeld ?_ ?_
 rotate_left
 · rintro w' ⟨s0, s1⟩
   go_simp
   with_reducible rfl
 rotate_left
 · simp only [Act.put, List.setIfInBounds_toArray, List.set_cons_zero, List.set_cons_succ, i64_w, i32_w]
   rfl
 refine pu 9 (some 20) (bm 13 1023) ?_
 refine pu 10 (some 21) (bm 13 2047) ?_
 refine pu 11 (some 22) (bm 13 4095) ?_
 refine pu 12 (some 2) (bm 13 8191) ?_
 refine done_ (by kernel_rfl) ?_
 go_wp2
 all_goals
   go_ret
   exact ⟨by rw [← HR.out]; unfold mn; first | rfl | (split <;> first | rfl | (exfalso; omega)), below_drew (Below.refl _ _)⟩
end
def secL (L : List Int) (o m : Nat) : List (List Int) := (List.range m).map fun i => cut8 L ((o + i) * 64) 64
theorem secL_len (L : List Int) (o m : Nat) : (secL L o m).length = m := by simp [secL]
theorem secL_succ (L : List Int) (o m : Nat) : secL L o (m + 1) = secL L o m ++ [cut8 L ((o + m) * 64) 64] := by simp [secL, List.range_succ]
theorem cut_cut {L : List Int} {a b o n : Nat} (h : o + n ≤ b) : cut8 (cut8 L a b) o n = cut8 L (a + o) n := by
 apply List.ext_getElem?
 intro i
 unfold cut8
 by_cases c : i < n
 rotate_left
 · rw [List.getElem?_eq_none (by rw [List.length_take]; omega), List.getElem?_eq_none (by rw [List.length_take]; omega)]
 rw [List.getElem?_take_of_lt c, List.getElem?_take_of_lt c, List.getElem?_drop, List.getElem?_take_of_lt (by omega), List.getElem?_drop, List.getElem?_drop, Nat.add_assoc]
theorem FK_cut {W : World} {g o m c : Nat} {L : List Int} (h : W.heap[g]? = some (.cells (by8 L).toArray 96 (0, 0))) (hf : o + m ≤ L.length) (hm : m ≤ 1000000000) (hc : m ≤ c) : Kd.FK kL W (fun k => k = g) (cut8 L o m) [.slice (some ⟨g, o, none⟩) m c] := by
 intro W' hW
 have hb := (hW g rfl (blk_lt h)).trans h
 have hC := C_blk (o := o) (m := m) hb hf hm
 have hl := cut8_len (L := L) (o := o) (n := m) hf
 exact ⟨some ⟨g, o, none⟩, c, by rw [hl], by rw [hl]; exact hc, by rw [hl]; exact hC⟩
theorem rdx_off {s : Dk} (ho : s.of = true) {i : Nat} (hi : i < s.nb) : rdx s (i : Int) = ([], 9) := by
 have h1 : hasB s (i : Int) = true := by unfold hasB; rw [decide_eq_true (by omega), decide_eq_true (by omega)]; rfl
 unfold rdx
 rw [if_pos h1, ho, if_pos rfl]
theorem JO_ReadIn {w0 w : World} {p : Nat} {s : Dk} {O : Nat → Prop} (h : JO w0 w p s O) (ho : s.of = false) (i : Nat) (hi : i < s.nb) (m : Int) (hm : m = (i : Int)) :
    Calls Try.prog 16 #[.pointer (some ⟨p, 0, none⟩), .int .i64 m] w fun e w' => ∃ g, e = .returned (.tuple #[.slice (some ⟨g, 0, none⟩) 256 256, .int .i64 0]) ∧ w.heap.size ≤ g ∧ w'.heap[g]? = some (.cells (by8 (cut8 s.now (i * 256) 256)).toArray 96 (0, 0)) ∧ Below w.heap.size w w' := by
 subst hm
 obtain ⟨a, b, v, h1, h2, h3⟩ := h
 exact dk_Read h1 i hi ho
theorem info27w : (Try.prog.info? 27).map (fun i => (i.zero, i.size, i.bytes)) = some (some (.slice none 0 0), 1, 24) := by kernel_rfl
set_option maxRecDepth 20000 in
set_option maxHeartbeats 16000000 in
theorem L_read {w0 w : World} {q : Nat} {s : Dk} {O : Nat → Prop} (h : JO w0 w q s O) (ho : s.of = false) (fi si : Nat) (hf : fi + si ≤ s.nb) (hn : s.nb ≤ 4096) (hL : s.now.length = s.nb * 256) :
    Calls Try.prog 66 #[.pointer (some ⟨q, 0, none⟩), .int .i64 (fi : Int), .int .i64 (si : Int)] w fun e w' => ∃ A m c, e = .returned (.tuple #[.slice A m c, .int .i64 0]) ∧ m = si * 4 ∧ Kd.V kL 27 w' 0 (fun k => w.heap.size ≤ k) (.slice A m c) (secL s.now (fi * 4) (si * 4)) ∧ Below w.heap.size w w' := by
 have H := Aside0.mk h
 have HO := Aside0.mk ho
 have HF := Aside0.mk hf
 have HN := Aside0.mk hn
 have HL := Aside0.mk hL
 clear h ho hL
 go_enter Try.func66, Try.ntmps66
 go_wp2
 go_loopw [8, 9, 10, 11, 12, 14] (fun v8 v9 v10 v11 v12 v14 wr => ∃ (i m : Nat) (A : Option Addr) (c : Nat), v14 = .int .i64 (i : Int) ∧ v8 = .slice A m c ∧ i ≤ si ∧ Aside0 (m = i * 4) ∧ Aside0 (Below w.heap.size w wr) ∧ Aside0 (Kd.N kL 27 wr w.heap.size (fun k => w.heap.size ≤ k) (.slice A m c) (secL s.now (fi * 4) (i * 4)))) (fun v8 v9 v10 v11 v12 v14 _ => si - (intOf v14).toNat)
 case atStart => exact ⟨0, 0, none, 0, rfl, rfl, Nat.zero_le _, ⟨rfl⟩, ⟨Below.refl _ _⟩, ⟨Kd.N_nil _ _ _ _ _⟩⟩
 obtain ⟨i, m, A, c, rfl, rfl, hi, HM, HB, HR⟩ := hrel
 by_cases d : i < si
 rotate_left
 · have d1 : ¬ (i : Int) < (si : Int) := by omega
   have db : decide (i < si) = false := decide_eq_false d
   obtain rfl : i = si := by omega
   go_wp2
   go_ret2
   exact ⟨A, m, c, rfl, HM.out, Kd.N_V HR.out, HB.out⟩
 have d1 : (i : Int) < (si : Int) := by omega
 have db : decide (i < si) = true := decide_eq_true d
 have DD := Aside0.mk d
 have FI := Aside0.mk (show fi + i < s.nb by omega)
 have wf : wrap64 ((fi : Int) + (i : Int)) = (fi : Int) + (i : Int) := by unfold wrap64; omega
 clear d
 go_upto_region 6 with (go_at_call 16; refine (JO_ReadIn (JO_step H.out HB.out) HO.out (fi + i) FI.out _ (by push_cast; rfl)).mono ?_; rintro e w2 ⟨g, rfl, hg, hb, hB⟩; have G2 := Aside0.mk (show w.heap.size ≤ g from Nat.le_trans HB.out.size hg); have BK := Aside0.mk hb; have B2 := Aside0.mk (below_step HB.out hB); have R2 := Aside0.mk (Kd.N_below HR.out hB); clear hg hb hB HR HB)
 go_wp2
 go_loopw [8, 12] (fun v8 v12 wr => ∃ (j m : Nat) (A : Option Addr) (c : Nat), v12 = .int .i64 ((j : Int) * 64) ∧ v8 = .slice A m c ∧ j ≤ 4 ∧ Aside0 (m = i * 4 + j) ∧ Aside0 (Below w.heap.size w wr) ∧ Aside0 (wr.heap[g]? = some (.cells (by8 (cut8 s.now ((fi + i) * 256) 256)).toArray 96 (0, 0))) ∧ Aside0 (Kd.N kL 27 wr w.heap.size (fun k => w.heap.size ≤ k) (.slice A m c) (secL s.now (fi * 4) (i * 4 + j)))) (fun v8 v12 _ => 256 - (intOf v12).toNat)
 case atStart => exact ⟨0, m, A, c, rfl, rfl, by omega, HM, B2, BK, R2⟩
 clear R2 B2 BK HM
 obtain ⟨j, m, A, c, rfl, rfl, hj, HM, HB, BK, HR⟩ := hrel
 by_cases f : j < 4
 rotate_left
 · have f1 : ¬ (j : Int) * 64 < 256 := by omega
   have fb : decide ((j : Int) * 64 < 256) = false := decide_eq_false f1
   obtain rfl : j = 4 := by omega
   have NX := Aside0.mk HM.out
   go_wp2
   go_roundw
   case rel => exact ⟨i + 1, m, A, c, by go_num, rfl, DD.out, ⟨by rw [NX.out]; omega⟩, HB, ⟨by have := HR.out; rw [show i * 4 + 4 = (i + 1) * 4 by omega] at this; exact this⟩⟩
   case measure => have := DD.out; simp [intOf]; omega
 have f1 : (j : Int) * 64 < 256 := by omega
 have fb : decide ((j : Int) * 64 < 256) = true := decide_eq_true f1
 have FF := Aside0.mk f
 have wj : wrap64 ((j : Int) * 64 + 64) = (j : Int) * 64 + 64 := by unfold wrap64; omega
 have ME := Aside0.mk (show m ≤ 16384 by have h1 := HM.out; have h2 := HN.out; have h3 := HF.out; have h4 := DD.out; omega)
 have CL := Aside0.mk (show (cut8 s.now ((fi + i) * 256) 256).length = 256 from cut8_len (by rw [HL.out]; have h1 := FI.out; omega))
 have CC := Aside0.mk (show cut8 (cut8 s.now ((fi + i) * 256) 256) (j * 64) 64 = cut8 s.now ((fi * 4 + (i * 4 + j)) * 64) 64 by rw [cut_cut (by omega)]; congr 1; omega)
 have FKj := Aside0.mk (FK_cut (o := j * 64) (m := 64) (c := 256 - j * 64) BK.out (by rw [CL.out]; omega) (by decide) (by omega))
 rw [CC.out] at FKj
 obtain ⟨x, hx⟩ : ∃ x, x = cut8 s.now ((fi * 4 + (i * 4 + j)) * 64) 64 := ⟨_, rfl⟩
 have SX := Aside0.mk (secL_succ s.now (fi * 4) (i * 4 + j))
 rw [← hx] at FKj SX
 obtain ⟨xs, hxs⟩ : ∃ xs, xs = secL s.now (fi * 4) (i * 4 + j) := ⟨_, rfl⟩
 have XL := Aside0.mk (show xs.length = m by rw [hxs, secL_len]; exact HM.out.symm)
 rw [← hxs] at HR SX
 have NG := Aside0.mk (fun (e : some g = (Value.slice A m c).ownBlock) => (by obtain ⟨cc, hc⟩ := Kd.N_typed HR.out g e.symm; exact absurd rfl (blk_ne BK.out hc (by decide)) : False))
 clear hx hxs CC CL f
 go_wp2_with ((with_reducible refine gate_builtin (b := .append) (xs := #[.tmp 34, .tmp 40]) rfl ?_); at_builtin; refine Kd.N_append kL (w0 := w) w.heap.size rfl (.tmp 34) (.tmp 40) 46 27 (.slice none 0 0) 24 rfl Try.underlying46 info27w rfl (by decide) (by omega) (.slice A m c) xs x _ (fun k => w.heap.size ≤ k) (fun k => k = g) rfl rfl (Kd.FK_below FKj.out (Below.refl _ _)) ?aK ?aF HR.out HB.out HB.out.size ?aL ?_; (case aK => exact fun k hk => ⟨by rw [hk]; exact G2.out, fun e => by rw [hk] at e; exact NG.out e⟩); (case aF => exact fun k hk => Nat.le_trans HB.out.size hk); (case aL => have h1 := XL.out; have h2 := ME.out; omega); intro v9 w5 hN hb hg hat; have N5 := Aside0.mk hN; have B5 := Aside0.mk hb; have K5 := Aside0.mk (blk_grown BK.out hg (fun e => NG.out e)); obtain ⟨A9, c9, e9⟩ := Kd.N_slice hN; obtain ⟨m9, hm9⟩ : ∃ m9, m9 = (xs ++ [x]).length := ⟨_, rfl⟩; have M9 := Aside0.mk hm9; rw [← hm9] at e9; subst e9; clear hN hb hg hat hm9)
 go_roundw
 case rel => exact ⟨j + 1, m9, A9, c9, by first | rfl | (congr 1; omega) | (simp; omega), rfl, by have := FF.out; omega, ⟨by rw [M9.out, List.length_append, XL.out, HM.out]; simp; omega⟩, B5, K5, ⟨by have := N5.out; rw [← SX.out] at this; exact this⟩⟩
 case measure => have := FF.out; simp [intOf]; omega
end Go.Proofs.Ytepipgneefcoiaa.D
namespace Go.Proofs.Ytepipgneefcoiaa.D
open Go.RowKit Go.Proofs.YtepipgneefcoiaaW.PrintWords Go.Proofs.YtepipgneefcoiaaW.PrintLast Go.Proofs.YtepipgneefcoiaaW.PrintMore
def slices_Clone_byte_byte.f (l0 : List Int) : Option (List Int) := (some (([] : List Int) : List Int)).bind fun y106 => (if y106.length + l0.length < 140737488355328 then (some (y106 ++ l0)) else (none))
set_option maxHeartbeats 8000000 in
set_option maxRecDepth 100000 in
theorem slices_Clone_byte_byte.calls_some (a0_ : Addr) (c0 : Nat) (l0 : List Int) (r : List Int) (w : World) (hr0 : Kd.C (Kd.int .u8) w (some a0_) l0.length l0) (hc0 : l0.length ≤ c0) (h : slices_Clone_byte_byte.f l0 = some r) :
    Calls Try.prog 72 #[.slice (some a0_) l0.length c0] w fun e w' => ∃ v0_ : Value, e = .returned (v0_) ∧ Kd.R (Kd.int .u8) 5 w' w.heap.size (fun _ => True) v0_ r ∧ Below w.heap.size w w' := by
 have HR0 := Aside0.mk hr0
 have HC0 := Aside0.mk hc0
 clear hr0 hc0
 have HB := Aside0.mk (Below.refl w.heap.size w)
 have H : ((some (([] : List Int) : List Int)).bind fun y106 => (if y106.length + l0.length < 140737488355328 then (some (y106 ++ l0)) else (none))) = some r := h
 clear h
 obtain ⟨y106, Ny106⟩ := yy ((([] : List Int)) : List Int)
 replace H : (if y106.length + l0.length < 140737488355328 then (some (y106 ++ l0)) else (none)) = some r := yx Ny106 H
 obtain ⟨c2, H⟩ := ifN H
 have LMc2 := Aside0.mk c2
 clear c2
 obtain ⟨y109, Ny109⟩ := yy ((y106 ++ l0) : List Int)
 replace H : (some y109) = some r := yx Ny109 H
 obtain rfl := Option.some.inj H
 have hq_ : ∀ w_ : World, Sem.run Try.prog (binOp .eql 27 (.slice (some a0_) l0.length c0) (.slice none 0 0)) w_ = .ok (.bool false) w_ := fun w_ => Lib.run_eql_slice_nil (P := Try.prog) w_ 27 5 _ _ _ 0 0 Try.underlying27
 go_enter Try.func72, Try.ntmps72
 go_wp2_with (first | ((with_reducible refine gate_dst (N := 5) rfl ?_); refine Kd.R_lit (Kd.int .u8) _ 5 ?hg (N := 5) ?hd (xs := ([] : List Int)) (inner := []) (ok := fun _ => True) (okp := fun _ => True) ?hr ?hp (fun _ hk => hk) trivial (Below.refl _ _) (Nat.le_refl _) (by simp) ?_; (case hd => rfl); (case hg => rfl); (case hr => first | (go_simp; done) | (go_simp; rfl)); (case hp => exact (Reps.none _ _)); intro v107 w3 ho4 hb hg_ hnew_; clear hg_ hnew_; (first | rw [← Ny106.out] at ho4 | (simp only [Int.reduceToNat] at ho4; rw [← Ny106.out] at ho4)); have HO108 := Aside0.mk (Kd.R_lower ho4 (below_size (b_w HB))); replace HB := bs HB hb; clear hb ho4) | ((with_reducible refine gate_builtin (b := .append) (xs := #[.tmp 5, .tmp 6]) rfl ?_); at_builtin; refine Kd.R_append_rows (Kd.int .u8) (w0 := w) w.heap.size rfl (.tmp 5) (.tmp 6) 27 5 (.int .u8 0) 1 rfl Try.underlying27 info5 rfl (by decide) (by omega) v107 y106 l0 _ _ _ (fun _ => True) (fun _ => False) rfl rfl ?aO ?aR (fun _ _ h => h) (fun _ h => h.elim) ?aF ?aB ?aS ?aL ?_; (case aR => exact kc HR0 HB); (case aB => exact (b_w HB)); (case aF => exact (fun _ _ => trivial)); (case aO => exact (kR' HO108)); (case aS => exact (below_size (b_w HB))); (case aL => have := LMc2.out; omega); intro v110 w5 ho hb hg hat; rw [← Ny109.out] at ho; replace HB := Aside0.mk (hb); have HO111 := Aside0.mk (ho); clear HO108; clear ho hb hg hat))
 go_ret
 exact ⟨_, er, kR' HO111, b_w HB⟩
set_option maxHeartbeats 1000000 in
theorem slices_Clone_byte_byte.calls_nil (c0 : Nat) (l0 : List Int) (r : List Int) (w : World) (hr0 : Kd.C (Kd.int .u8) w none l0.length l0) (hc0 : l0.length ≤ c0) (h : slices_Clone_byte_byte.f l0 = some r) :
    Calls Try.prog 72 #[.slice none l0.length c0] w fun e w' => ∃ v0_ : Value, e = .returned (v0_) ∧ Kd.R (Kd.int .u8) 5 w' w.heap.size (fun _ => True) v0_ r ∧ Below w.heap.size w w' := by
 have hz_ : l0 = [] := clone_nil hr0
 subst hz_
 have hr_ : r = [] := by simp [slices_Clone_byte_byte.f] at h; exact h
 subst hr_
 clear h
 have hq_ := fun (w_ : World) (n_ : Nat) => Lib.run_eql_slice_nil (P := Try.prog) w_ 27 5 none n_ c0 0 0 Try.underlying27
 go_enter Try.func72, Try.ntmps72
 go_wp2
 go_ret
 exact ⟨_, rfl, Kd.R_nil _ _ _ _ _, Below.refl _ _⟩
theorem slices_Clone_byte_byte.calls (A0 : Option Addr) (c0 : Nat) (l0 : List Int) (r : List Int) (w : World) (hr0 : Kd.C (Kd.int .u8) w A0 l0.length l0) (hc0 : l0.length ≤ c0) (h : slices_Clone_byte_byte.f l0 = some r) :
    Calls Try.prog 72 #[.slice A0 l0.length c0] w fun e w' => ∃ v0_ : Value, e = .returned (v0_) ∧ Kd.R (Kd.int .u8) 5 w' w.heap.size (fun _ => True) v0_ r ∧ Below w.heap.size w w' := by
 cases A0 with
 | none => exact slices_Clone_byte_byte.calls_nil c0 l0 r w hr0 hc0 h
 | some a => exact slices_Clone_byte_byte.calls_some a c0 l0 r w hr0 hc0 h
end Go.Proofs.Ytepipgneefcoiaa.D
namespace Go.Proofs.Ytepipgneefcoiaa.D
open Go.RowKit Go.Proofs.YtepipgneefcoiaaW.PrintWords Go.Proofs.YtepipgneefcoiaaW.PrintLast Go.Proofs.YtepipgneefcoiaaW.PrintMore
mutual
def crc_More.l0 : Nat → Int → List Int → Int → Int → Option (Int)
  | 0, _, _, _, _ => none
  | k + 1, x0, x10, x11, x12 => if x12 < x11 then (if 0 ≤ x12 then (if x12 < (x10.length : Int) then (crc_More.l1 k (Go.bits .xor .u32 x0 ((rd x10 x12) % 4294967296)) x10 x11 x12 0) else (none)) else (none)) else (some (Go.bits .xor .u32 4294967295 x0))
def crc_More.l1 : Nat → Int → List Int → Int → Int → Int → Option (Int)
  | 0, _, _, _, _, _ => none
  | k + 1, x0, x10, x11, x12, x20 => if x20 < 8 then (if (Go.bits .and .u32 x0 1) = 0 then (crc_More.l1 k (x0 / 2) x10 x11 x12 (wrap64 (x20 + 1))) else (crc_More.l1 k (Go.bits .xor .u32 (x0 / 2) 3988292384) x10 x11 x12 (wrap64 (x20 + 1)))) else (crc_More.l0 k x0 x10 x11 (wrap64 (x12 + 1)))
end
def crc_More.f (k : Nat) (a0 : Int) (l1 : List Int) : Option (Int) := crc_More.l0 k (Go.bits .xor .u32 4294967295 a0) l1 (l1.length : Int) 0
set_option maxHeartbeats 8000000 in
set_option maxRecDepth 100000 in
theorem crc_More.calls (k : Nat) (a0 : Int) (A1 : Option Addr) (c1 : Nat) (l1 : List Int) (r : Int) (w : World) (hr1 : Kd.C (Kd.int .u8) w A1 l1.length l1) (hc1 : l1.length ≤ c1) (h : crc_More.f k a0 l1 = some r) :
    Calls Try.prog 94 #[.int .u32 a0, .slice A1 l1.length c1] w fun e w' => e = .returned (.int .u32 r) ∧ Drawn0 w w' := by
 have HR1 := Aside0.mk hr1
 have HC1 := Aside0.mk hc1
 clear hr1 hc1
 have H : (crc_More.l0 k (Go.bits .xor .u32 4294967295 a0) l1 (l1.length : Int) 0) = some r := h
 clear h
 have H' := Aside0.mk H
 clear H
 go_enter Try.func94, Try.ntmps94
 go_wp2
 go_loopg [0, 12] k (fun kq v0 v12 w' => ∃ (x0_1 : Int) (x12_1 : Int), v0 = .int .u32 x0_1 ∧ v12 = .int .i64 x12_1 ∧ Aside0 (crc_More.l0 kq x0_1 l1 (l1.length : Int) x12_1 = some r) ∧ Aside0 (kq ≤ k) ∧ Drawn0 w w')
 case atStart => exact ⟨(Go.bits .xor .u32 4294967295 a0), (0), sm, sm, H', ⟨Nat.le_refl _⟩, by repeat (first | exact Drawn0.refl _ | apply Drawn0.step)⟩
 clear H'
 try clear c1
 try clear p2
 obtain ⟨x0_1, x12_1, rfl, rfl, HA, HK1, ⟨m1, rfl⟩⟩ := hrel
 cases gk with
 | zero => exact absurd HA.out (by simp [crc_More.l0])
 | succ k1 => ?_
 have H := HA.out
 clear HA
 simp only [crc_More.l0] at H
 by_cases c3 : x12_1 < (l1.length : Int)
 rotate_left
 · rw [if_neg c3] at H
   have c3b0 := decide_eq_false c3
   clear c3
   obtain rfl := Option.some.inj H
   go_wp2
   go_ret
   exact ⟨by first | rfl | (simp; done) | (simp [*]; done), by repeat (first | exact Drawn0.refl _ | apply Drawn0.step)⟩
 rw [if_pos c3] at H
 have c3b0 := decide_eq_true c3
 clear c3
 obtain ⟨c4, H⟩ := ifN H
 have c4b0 := decide_eq_true c4
 clear c4
 obtain ⟨c5, H⟩ := ifN H
 have c5b0 := decide_eq_true c5
 clear c5
 have H' := Aside0.mk H
 clear H
 have p112 : 0 ≤ (x12_1 : Int) := od
 have q112 : x12_1 < (l1.length : Int) := od
 obtain ⟨ad112, e112, hx112_0⟩ := Kd.at_int HR1.out x12_1 p112 q112
 cases e112
 replace p112 := eq_true p112
 replace q112 := eq_true q112
 go_wp2
 go_loopg [0, 20] k1 (fun kq v0 v20 w' => ∃ (x0_2 : Int) (x20_2 : Int), v0 = .int .u32 x0_2 ∧ v20 = .int .i64 x20_2 ∧ Aside0 (crc_More.l1 kq x0_2 l1 (l1.length : Int) x12_1 x20_2 = some r) ∧ Aside0 (kq ≤ k1) ∧ Drawn0 w w')
 case atStart => exact ⟨(Go.bits .xor .u32 x0_1 ((rd l1 x12_1) % 4294967296)), (0), sm, sm, H', ⟨Nat.le_refl _⟩, by repeat (first | exact Drawn0.refl _ | apply Drawn0.step)⟩
 clear H'
 try clear c1
 try clear p1
 try clear q1
 try clear hx1
 try clear p2
 try clear c3
 try clear c3b0
 try clear c4
 try clear c4b0
 try clear c5
 try clear c5b0
 try clear hx112_0
 try clear p112
 try clear p2
 try clear q112
 obtain ⟨x0_2, x20_2, rfl, rfl, HA, HK2, ⟨m2, rfl⟩⟩ := hrel
 cases gk with
 | zero => exact absurd HA.out (by simp [crc_More.l1])
 | succ k2 => ?_
 have H := HA.out
 clear HA
 simp only [crc_More.l1] at H
 by_cases c6 : x20_2 < 8
 rotate_left
 · rw [if_neg c6] at H
   have c6b0 := decide_eq_false c6
   clear c6
   have H' := Aside0.mk H
   clear H
   go_wp2
   go_roundg k2
   case measure => have := HK1.out; have := HK2.out; omega
   case rel => exact ⟨(x0_2), (wrap64 (x12_1 + 1)), sm, sm, H', ⟨by have := HK1.out; have := HK2.out; omega⟩, by repeat (first | exact Drawn0.refl _ | apply Drawn0.step)⟩
 rw [if_pos c6] at H
 have c6b0 := decide_eq_true c6
 clear c6
 by_cases c7 : (Go.bits .and .u32 x0_2 1) = 0
 · rw [if_pos c7] at H
   have c7b0 := beq_iff_eq.mpr c7
   have c7b1 := bne_eq_false_iff_eq.mpr c7
   clear c7
   have H' := Aside0.mk H
   clear H
   go_wp2
   go_roundg k2
   case measure => have := HK1.out; have := HK2.out; omega
   case rel => exact ⟨(x0_2 / 2), (wrap64 (x20_2 + 1)), sm, sm, H', ⟨by have := HK1.out; have := HK2.out; omega⟩, by repeat (first | exact Drawn0.refl _ | apply Drawn0.step)⟩
 rw [if_neg c7] at H
 have c7b0 := beq_eq_false_iff_ne.mpr c7
 have c7b1 := bne_iff_ne.mpr c7
 have H' := Aside0.mk H
 clear H
 go_wp2
 go_roundg k2
 case measure => have := HK1.out; have := HK2.out; omega
 case rel => exact ⟨(Go.bits .xor .u32 (x0_2 / 2) 3988292384), (wrap64 (x20_2 + 1)), sm, sm, H', ⟨by have := HK1.out; have := HK2.out; omega⟩, by repeat (first | exact Drawn0.refl _ | apply Drawn0.step)⟩
end Go.Proofs.Ytepipgneefcoiaa.D
namespace Go.Proofs.Ytepipgneefcoiaa.D
open Go.RowKit Go.Proofs.YtepipgneefcoiaaW.PrintWords Go.Proofs.YtepipgneefcoiaaW.PrintLast Go.Proofs.YtepipgneefcoiaaW.PrintMore
def crc_Sum.f (k : Nat) (l0 : List Int) : Option (Int) := (crc_More.f k 0 l0).bind fun t113 => (some t113)
set_option maxHeartbeats 8000000 in
set_option maxRecDepth 100000 in
theorem crc_Sum.calls (k : Nat) (A0 : Option Addr) (c0 : Nat) (l0 : List Int) (r : Int) (w : World) (hr0 : Kd.C (Kd.int .u8) w A0 l0.length l0) (hc0 : l0.length ≤ c0) (h : crc_Sum.f k l0 = some r) :
    Calls Try.prog 86 #[.slice A0 l0.length c0] w fun e w' => e = .returned (.int .u32 r) ∧ Drawn0 w w' := by
 have HR0 := Aside0.mk hr0
 have HC0 := Aside0.mk hc0
 clear hr0 hc0
 have H : ((crc_More.f k 0 l0).bind fun t113 => (some t113)) = some r := h
 clear h
 obtain ⟨t113, A2, H⟩ := bnd H
 obtain rfl := Option.some.inj H
 go_enter Try.func86, Try.ntmps86
 go_wp2_with (first | ((with_reducible refine gate_callee (f := 94) rfl ?_); refine gl 4 Try.func94 #[.int .u32 0, .slice A0 l0.length c0] ?_; (with_reducible refine (crc_More.calls k 0 _ _ l0 t113 _ ?side1 ?side2 A2.out).mono ?_); (case side1 => repeat (first | exact HR0.out | (with_reducible refine Kd.C_alloc ?_ _) | (with_reducible refine Kd.C_drewN ?_ _) | (with_reducible refine Kd.C_drew ?_))); (case side2 => exact HC0.out); rintro e w' ⟨rfl, ⟨nd, rfl⟩⟩; refine ⟨_, rfl, ?_⟩))
 go_ret
 exact ⟨by first | rfl | (simp; done) | (simp [*]; done), by repeat (first | exact Drawn0.refl _ | apply Drawn0.step)⟩
end Go.Proofs.Ytepipgneefcoiaa.D
namespace Go.Proofs.Ytepipgneefcoiaa.D
open Go.RowKit Go.Proofs.YtepipgneefcoiaaW.PrintWords Go.Proofs.YtepipgneefcoiaaW.PrintLast Go.Proofs.YtepipgneefcoiaaW.PrintMore
def cell_number.l0 : Nat → Int → List Int → Int → Int → Option (Int)
  | 0, _, _, _, _ => none
  | k + 1, x3, x6, x7, x8 => if x8 < x7 then (if 0 ≤ x8 then (if x8 < (x6.length : Int) then (cell_number.l0 k (Go.bits .or .u64 (IntKind.u64.wrap (x3 * 256)) (IntKind.u64.wrap (rd x6 x8))) x6 x7 (wrap64 (x8 + 1))) else (none)) else (none)) else (some x3)
def cell_number.f (k : Nat) (l0 : List Int) : Option (Int) := cell_number.l0 k 0 l0 (l0.length : Int) 0
set_option maxHeartbeats 8000000 in
set_option maxRecDepth 100000 in
theorem cell_number.calls (k : Nat) (A0 : Option Addr) (c0 : Nat) (l0 : List Int) (r : Int) (w : World) (hr0 : Kd.C (Kd.int .u8) w A0 l0.length l0) (hc0 : l0.length ≤ c0) (h : cell_number.f k l0 = some r) :
    Calls Try.prog 87 #[.slice A0 l0.length c0] w fun e w' => e = .returned (.int .u64 r) ∧ Drawn0 w w' := by
 have HR0 := Aside0.mk hr0
 have HC0 := Aside0.mk hc0
 clear hr0 hc0
 have H : (cell_number.l0 k 0 l0 (l0.length : Int) 0) = some r := h
 clear h
 have H' := Aside0.mk H
 clear H
 go_enter Try.func87, Try.ntmps87
 go_wp2
 go_loopg [3, 8] k (fun kq v3 v8 w' => ∃ (x3_1 : Int) (x8_1 : Int), v3 = .int .u64 x3_1 ∧ v8 = .int .i64 x8_1 ∧ Aside0 (cell_number.l0 kq x3_1 l0 (l0.length : Int) x8_1 = some r) ∧ Aside0 (kq ≤ k) ∧ Drawn0 w w')
 case atStart => exact ⟨(0), (0), sm, sm, H', ⟨Nat.le_refl _⟩, by repeat (first | exact Drawn0.refl _ | apply Drawn0.step)⟩
 clear H'
 obtain ⟨x3_1, x8_1, rfl, rfl, HA, HK1, ⟨m1, rfl⟩⟩ := hrel
 cases gk with
 | zero => exact absurd HA.out (by simp [cell_number.l0])
 | succ k1 => ?_
 have H := HA.out
 clear HA
 simp only [cell_number.l0] at H
 by_cases c2 : x8_1 < (l0.length : Int)
 rotate_left
 · rw [if_neg c2] at H
   have c2b0 := decide_eq_false c2
   clear c2
   obtain rfl := Option.some.inj H
   go_wp2
   go_ret
   exact ⟨by first | rfl | (simp; done) | (simp [*]; done), by repeat (first | exact Drawn0.refl _ | apply Drawn0.step)⟩
 rw [if_pos c2] at H
 have c2b0 := decide_eq_true c2
 clear c2
 obtain ⟨c3, H⟩ := ifN H
 have c3b0 := decide_eq_true c3
 clear c3
 obtain ⟨c4, H⟩ := ifN H
 have c4b0 := decide_eq_true c4
 clear c4
 have H' := Aside0.mk H
 clear H
 have p114 : 0 ≤ (x8_1 : Int) := od
 have q114 : x8_1 < (l0.length : Int) := od
 obtain ⟨ad114, e114, hx114_0⟩ := Kd.at_int HR0.out x8_1 p114 q114
 cases e114
 replace p114 := eq_true p114
 replace q114 := eq_true q114
 go_wp2
 go_roundg k1
 case measure => have := HK1.out; omega
 case rel => exact ⟨(Go.bits .or .u64 (IntKind.u64.wrap (x3_1 * 256)) (IntKind.u64.wrap (rd l0 x8_1))), (wrap64 (x8_1 + 1)), sm, sm, H', ⟨by have := HK1.out; omega⟩, by repeat (first | exact Drawn0.refl _ | apply Drawn0.step)⟩
end Go.Proofs.Ytepipgneefcoiaa.D
namespace Go.Proofs.Ytepipgneefcoiaa.D
open Go.RowKit Go.Proofs.YtepipgneefcoiaaW.PrintWords Go.Proofs.YtepipgneefcoiaaW.PrintLast Go.Proofs.YtepipgneefcoiaaW.PrintMore
theorem contains_clos (x : Int) (w : World) : Calls Try.prog 89 #[.int .u8 x] w fun e w' => e = .returned (.bool (x != 0)) ∧ w = w' := by
 go_enter Try.func89, Try.ntmps89
 go_wp2
 go_ret
 exact ⟨rfl, rfl⟩
def idxNon (l : List Int) : Int := if l.any (fun x => x != 0) = true then (l.findIdx (fun x => x != 0) : Int) else -1
theorem idxNon_at {l : List Int} {k : Nat} (hk : k < l.length) (h0 : ∀ j, j < k → rd l (j : Int) = 0) (h1 : rd l (k : Int) ≠ 0) : idxNon l = k := by
 have e : ∀ j, (hj : j < l.length) → rd l (j : Int) = l[j] := fun j hj => by simp [rd, List.getD_eq_getElem?_getD, List.getElem?_eq_getElem hj]
 have ha : l.any (fun x => x != 0) = true := by
   rw [List.any_eq_true]
   exact ⟨l[k], List.getElem_mem _, by rw [← e k hk]; simpa using h1⟩
 unfold idxNon
 rw [if_pos ha]
 congr 1
 rw [List.findIdx_eq hk]
 refine ⟨by rw [← e k hk]; simpa using h1, fun j hj => ?_⟩
 have := h0 j hj
 rw [e j (by omega)] at this
 simp [this]
theorem idxNon_none {l : List Int} (h0 : ∀ j, j < l.length → rd l (j : Int) = 0) : idxNon l = -1 ∧ l.any (fun x => x != 0) = false := by
 have ha : l.any (fun x => x != 0) = false := by
   rw [List.any_eq_false]
   intro x hx
   obtain ⟨j, hj, rfl⟩ := List.mem_iff_getElem.1 hx
   have := h0 j hj
   simp [rd, List.getD_eq_getElem?_getD, List.getElem?_eq_getElem hj] at this
   simp [this]
 unfold idxNon
 rw [ha]
 simp
set_option maxHeartbeats 1000000 in
theorem contains_index (A0 : Option Addr) (c0 : Nat) (l0 : List Int) (w : World) (hr0 : Kd.C (Kd.int .u8) w A0 l0.length l0) :
    Calls Try.prog 95 #[.slice A0 l0.length c0, .func (.func 89) #[] #[]] w fun e w' => e = .returned (.int .i64 (idxNon l0)) ∧ w = w' := by
 have HR0 := Aside0.mk hr0
 have hm := Kd.C_max hr0
 clear hr0
 go_enter Try.func95, Try.ntmps95
 go_wp2
 go_loop [8] (fun v8 => ∃ k : Nat, k ≤ l0.length ∧ v8 = .int .i64 k ∧ Aside0 (∀ j, j < k → rd l0 (j : Int) = 0)) (fun v8 => l0.length - (intOf v8).toNat)
 case atStart => exact ⟨0, Nat.zero_le _, rfl, ⟨fun j hj => absurd hj (Nat.not_lt_zero _)⟩⟩
 obtain ⟨k, hk, rfl, H0⟩ := hrel
 by_cases hlt : k < l0.length
 rotate_left
 · have hlt' : decide (k < l0.length) = false := decide_eq_false hlt
   have H1 := Aside0.mk (idxNon_none (l := l0) (fun j hj => H0.out j (by omega))).1
   go_wp2
   go_ret
   exact ⟨by rw [H1.out]; rfl, rfl⟩
 obtain ⟨ad, ea, hx⟩ := Kd.at_int HR0.out (k : Int) (by omega) (by omega)
 cases ea
 simp only [Int.toNat_natCast] at hx
 have hlt' : decide (k < l0.length) = true := decide_eq_true hlt
 by_cases hz : rd l0 (k : Int) = 0
 rotate_left
 · have hzb : (rd l0 (k : Int) != 0) = true := by simp [hz]
   have H1 := Aside0.mk (idxNon_at hlt H0.out hz)
   clear hz
   go_wp2_with (go_at_call 89; refine (contains_clos _ _).mono ?_; rintro e w' ⟨rfl, rfl⟩)
   go_ret
   exact ⟨by rw [H1.out]; rfl, rfl⟩
 have hzb : (rd l0 (k : Int) != 0) = false := by simp [hz]
 have H1 : Aside0 (∀ j, j < k + 1 → rd l0 (j : Int) = 0) := ⟨fun j hj => by
   by_cases e : j = k
   · subst e; exact hz
   · exact H0.out j (by omega)⟩
 clear hz
 go_wp2_with (go_at_call 89; refine (contains_clos _ _).mono ?_; rintro e w' ⟨rfl, rfl⟩)
 go_round
 case rel => exact ⟨k + 1, by omega, by go_num, H1⟩
 case measure => simp [intOf]; omega
def slices_ContainsFunc_byte_byte.f (l0 : List Int) : Option Bool := some (l0.any fun x => x != 0)
set_option maxHeartbeats 1000000 in
theorem slices_ContainsFunc_byte_byte.calls (A0 : Option Addr) (c0 : Nat) (l0 : List Int) (r : Bool) (w : World) (hr0 : Kd.C (Kd.int .u8) w A0 l0.length l0) (hc0 : l0.length ≤ c0) (h : slices_ContainsFunc_byte_byte.f l0 = some r) :
    Calls Try.prog 88 #[.slice A0 l0.length c0, .func (.func 89) #[] #[]] w fun e w' => e = .returned (.bool r) ∧ Drawn0 w w' := by
 have hr : decide (0 ≤ idxNon l0) = r := by
   obtain rfl := Option.some.inj h
   unfold idxNon
   split
   · rename_i h; rw [h]; simp
   · rename_i h; simp only [Bool.not_eq_true] at h; rw [h]; rfl
 have HR0 := Aside0.mk hr0
 have Hr := Aside0.mk hr
 clear hr0 hr h
 go_enter Try.func88, Try.ntmps88
 go_wp2_with (go_at_call 95; refine (contains_index _ _ l0 _ HR0.out).mono ?_; rintro e w' ⟨rfl, rfl⟩)
 go_ret
 exact ⟨by rw [← Hr.out]; rfl, Drawn0.refl _⟩
end Go.Proofs.Ytepipgneefcoiaa.D
namespace Go.Proofs.Ytepipgneefcoiaa.D
open Go.RowKit Go.Proofs.YtepipgneefcoiaaW.PrintWords Go.Proofs.YtepipgneefcoiaaW.PrintLast Go.Proofs.YtepipgneefcoiaaW.PrintMore
mutual
def cell_Decode.j0 : Nat → List Int → Bool → Option (Int × Int × Int × Int × List Int × Int)
  | 0, _, _ => none
  | k + 1, x0, x18 => if x18 = true then (some (0, 0, 0, 0, ([] : List Int), 8)) else (if 8 ≤ (x0.length : Int) then ((cell_number.f k (x0.take 8)).bind fun t121 => (if 8 ≤ 16 then (if 16 ≤ (x0.length : Int) then ((cell_number.f k ((x0.take 16).drop 8)).bind fun t123 => (if 16 ≤ 18 then (if 18 ≤ (x0.length : Int) then ((cell_number.f k ((x0.take 18).drop 16)).bind fun t125 => (if 18 ≤ 20 then (if 20 ≤ (x0.length : Int) then ((cell_number.f k ((x0.take 20).drop 18)).bind fun t127 => (if 20 < (x0.length : Int) then (if (wrap64 (t125)) ≥ (wrap64 (t127)) then (cell_Decode.j1 k x0 (wrap64 (rd x0 20)) true t121 t123 (wrap64 (t125)) (wrap64 (t127))) else (if (wrap64 (rd x0 20)) > 39 then (cell_Decode.j1 k x0 (wrap64 (rd x0 20)) true t121 t123 (wrap64 (t125)) (wrap64 (t127))) else (if 0 ≤ (wrap64 (21 + (wrap64 (rd x0 20)))) then (if (wrap64 (21 + (wrap64 (rd x0 20)))) ≤ 60 then (if 60 ≤ (x0.length : Int) then ((slices_ContainsFunc_byte_byte.f ((x0.take 60).drop ((wrap64 (21 + (wrap64 (rd x0 20)))) : Int).toNat)).bind fun t131 => (cell_Decode.j1 k x0 (wrap64 (rd x0 20)) t131 t121 t123 (wrap64 (t125)) (wrap64 (t127)))) else (none)) else (none)) else (none)))) else (none))) else (none)) else (none))) else (none)) else (none))) else (none)) else (none))) else (none))
def cell_Decode.j1 : Nat → List Int → Int → Bool → Int → Int → Int → Int → Option (Int × Int × Int × Int × List Int × Int)
  | 0, _, _, _, _, _, _, _ => none
  | k + 1, x0, x5, x54, x129000, x129001, x129002, x129003 => if x54 = true then (some (0, 0, 0, 0, ([] : List Int), 8)) else (if 21 ≤ (wrap64 (21 + x5)) then (if (wrap64 (21 + x5)) ≤ (x0.length : Int) then ((slices_Clone_byte_byte.f ((x0.take ((wrap64 (21 + x5)) : Int).toNat).drop 21)).bind fun t133 => (some (x129000, x129001, x129002, x129003, t133, 0))) else (none)) else (none))
end
def cell_Decode.f (k : Nat) (l0 : List Int) : Option (Int × Int × Int × Int × List Int × Int) := if (l0.length : Int) = 64 then (if 60 ≤ (l0.length : Int) then ((crc_Sum.f k (l0.take 60)).bind fun t117 => ((cell_number.f k (l0.drop 60)).bind fun t119 => (cell_Decode.j0 k l0 ((IntKind.u64.wrap (t117)) != t119)))) else (none)) else (cell_Decode.j0 k l0 true)
def cell_Decode.T1 : Bool × List (List Nat × List Nat) := (true, [([], []), ([0], [0]), ([1], [1]), ([2], [2]), ([3], [3]), ([4, 3], [3, 4]), ([5, 3, 3], [3, 5]), ([6, 3], [3, 6]), ([3], [3]), ([8, 3], [3, 8]), ([9, 6, 3], [3, 9]), ([7, 10, 3], [3, 7, 10]), ([3, 11], [3, 11])])
def cell_Decode.B1 : List Nat := [0, 1, 3, 7, 15, 31, 63, 127, 15, 271, 895, 2047, 4095]
theorem cell_Decode.tab1 : rtab .any (opsOf Try.f79 1) = cell_Decode.T1 := by kernel_rfl
theorem cell_Decode.bits1 : waitsOk cell_Decode.T1.2 cell_Decode.B1 = true := by kernel_rfl
def cell_Decode.T3 : Bool × List (List Nat × List Nat) := (true, [([], []), ([0], [0]), ([1], [1]), ([], []), ([3], [3]), ([4, 2], [4]), ([], []), ([6], [6]), ([7, 5], [7]), ([8], [8]), ([], []), ([10], [10]), ([11, 8], [11]), ([12], [12]), ([2, 5, 9, 13], [2, 5, 9, 13]), ([], []), ([15, 14, 12, 0, 1, 2, 3, 4, 5, 6, 7, 8, 9, 10, 11, 12, 13, 14, 15], [14, 15])])
def cell_Decode.B3 : List Nat := [0, 1, 3, 0, 8, 31, 0, 64, 255, 511, 0, 1024, 3583, 7679, 16383, 0, 65535]
theorem cell_Decode.tab3 : rtab .any (opsOf Try.f79 3) = cell_Decode.T3 := by kernel_rfl
theorem cell_Decode.bits3 : waitsOk cell_Decode.T3.2 cell_Decode.B3 = true := by kernel_rfl
set_option maxHeartbeats 8000000 in
set_option maxRecDepth 100000 in
theorem cell_Decode.calls (k : Nat) (A0 : Option Addr) (c0 : Nat) (l0 : List Int) (r1 : Int) (r2 : Int) (r3 : Int) (r4 : Int) (r5 : List Int) (r6 : Int) (w : World) (hr0 : Kd.C (Kd.int .u8) w A0 l0.length l0) (hc0 : l0.length ≤ c0) (h : cell_Decode.f k l0 = some (r1, r2, r3, r4, r5, r6)) :
    Calls Try.prog 79 #[.slice A0 l0.length c0] w fun e w' => ∃ v4_ : Value, e = .returned (.tuple #[.agg #[.int .u64 r1, .int .u64 r2, .int .i64 r3, .int .i64 r4, v4_], .int .i64 r6]) ∧ Kd.R (Kd.int .u8) 5 w' w.heap.size (fun _ => True) v4_ r5 ∧ Below w.heap.size w w' := by
 have hu106 := Try.underlying106
 have HR0 := Aside0.mk hr0
 have HC0 := Aside0.mk hc0
 clear hr0 hc0
 have HB := Aside0.mk (Below.refl w.heap.size w)
 have H : (if (l0.length : Int) = 64 then (if 60 ≤ (l0.length : Int) then ((crc_Sum.f k (l0.take 60)).bind fun t117 => ((cell_number.f k (l0.drop 60)).bind fun t119 => (cell_Decode.j0 k l0 ((IntKind.u64.wrap (t117)) != t119)))) else (none)) else (cell_Decode.j0 k l0 true)) = some (r1, r2, r3, r4, r5, r6) := h
 clear h
 have HC2 := Aside0.mk H
 clear H
 go_enter Try.func79, Try.ntmps79
 go_upto_region 1 with (first | ((with_reducible refine gate_dst (N := 2) rfl ?_); refine bx 2 #[.int .u64 0, .int .u64 0, .int .i64 0, .int .i64 0, .slice none 0 0] 106 ?_; intro gb115 hg w3 hbox hb; have BK115 := Aside0.mk (hbox); have GW115 := gs HB hg; have GE115 := gs HB hg; replace HB := bs HB hb; clear hb hbox hg))
 (try simp only [Act.put, List.setIfInBounds_toArray, List.set_cons_zero, List.set_cons_succ])
 go_cut [18] (fun v18 wc => ∃ (kq : Nat) (x18_1 : Bool), v18 = .bool x18_1 ∧ Aside0 (cell_Decode.j0 kq l0 x18_1 = some (r1, r2, r3, r4, r5, r6)) ∧ Aside0 (kq ≤ k) ∧ Aside0 (wc.heap[gb115]? = some (.cells #[.int .u64 0, .int .u64 0, .int .i64 0, .int .i64 0, (.slice none 0 0)] 106 (0, 0))) ∧ Aside0 (Below w.heap.size w wc))
 case first =>
  have H := HC2.out
  clear HC2
  by_cases c4 : (l0.length : Int) = 64
  rotate_left
  · rw [if_neg c4] at H
    have c4b0 := beq_eq_false_iff_ne.mpr c4
    have c4b1 := bne_iff_ne.mpr c4
    (first | rw [c4b0] | (simp only [i64_w, i32_w]; rw [c4b0]) | skip)
    have H' := Aside0.mk H
    clear H
    try go_wp2
    replace BK115 := Aside0.mk (blk_drew BK115.out)
    replace HB := Aside0.mk (below_drew1 HB.out)
    refine start_ (n := 13) (S := fun w' => True) (ds := []) #[false, false, false, false, false, false, false, false, false, false, false, false, false] (by kernel_rfl) rfl rfl trivial (fun hHeld => ?_); refine with_tabW cell_Decode.tab1 cell_Decode.bits1 (fun HT_ HW_ => ?_)
    generalize w3.drew = w12 at BK115 HB hHeld ⊢
    refine pu 0 (some 6) (bm 13 1) ?_
    refine pu 1 (some 7) (bm 13 3) ?_
    refine pu 2 (some 8) (bm 13 7) ?_
    refine pu 3 (some 9) (bm 13 15) ?_
    refine pud 4 (some 10) (bm 13 31) ?_
    refine pud 5 (some 11) (bm 13 63) ?_
    refine pud 6 (some 12) (bm 13 127) ?_
    refine pud 7 (some 13) (bm 13 255) ?_
    refine pud 8 (some 14) (bm 13 511) ?_
    refine pud 9 (some 15) (bm 13 1023) ?_
    refine pud 10 (some 16) (bm 13 2047) ?_
    refine pud 11 (some 17) (bm 13 4095) ?_
    refine pu 12 (some 18) (bm 13 8191) ?_
    refine done_ (done_of HT_.out (by kernel_rfl)) ?_
    try go_wp2
    go_meet
    case rel => exact ⟨_, (true), sm, H', ⟨om⟩, ⟨bk BK115⟩, ⟨b_w HB⟩⟩
  rw [if_pos c4] at H
  have c4b0 := beq_iff_eq.mpr c4
  have c4b1 := bne_eq_false_iff_eq.mpr c4
  clear c4
  (first | rw [c4b0] | (simp only [i64_w, i32_w]; rw [c4b0]) | skip)
  obtain ⟨c5, H⟩ := ifN H
  have c5b0 := eq_true c5
  have c5b1 := decide_eq_true c5
  clear c5
  obtain ⟨t117, A6, H⟩ := bnd H
  have c7b0 := eq_true (od : 60 ≤ (l0.length : Int))
  obtain ⟨t119, A8, H⟩ := bnd H
  have H' := Aside0.mk H
  clear H
  try go_wp2
  replace BK115 := Aside0.mk (blk_drew BK115.out)
  replace HB := Aside0.mk (below_drew1 HB.out)
  obtain ⟨i010, hi010, _, hsz10, _⟩ := info_parts info5
  obtain ⟨hcut10, hA10, hC10⟩ := print_take_of (P := Try.prog) (Value.int .u8) 0 27 5 .i64 Try.underlying27 hi010 hsz10 A0 c0 l0 60 (by omega) (od) HC0.out
  have HR116 := Aside0.mk (Kd.C_of_reads (h1 := fun _ => rfl) (hA10 _ (Kd.reads_of_C HR0.out)))
  have HC116 := Aside0.mk hC10
  clear hA10 hC10 hi010 hsz10
  obtain ⟨i011, hi011, _, hsz11, _⟩ := info_parts info5
  obtain ⟨A11, hcut11, hA11, hC11⟩ := print_drop_of (P := Try.prog) (Value.int .u8) 0 27 5 .i64 Try.underlying27 hi011 hsz11 A0 c0 l0 60 (by omega) (od) HC0.out
  have HR118 := Aside0.mk (Kd.C_of_reads (h1 := fun _ => rfl) (hA11 _ (Kd.reads_of_C HR0.out)))
  have HC118 := Aside0.mk hC11
  clear hA11 hC11 hi011 hsz11
  refine start_ (n := 13) (S := fun w' => True) (ds := []) #[false, false, false, false, false, false, false, false, false, false, false, false, false] (by kernel_rfl) rfl rfl trivial (fun hHeld => ?_); refine with_tabW cell_Decode.tab1 cell_Decode.bits1 (fun HT_ HW_ => ?_)
  generalize w3.drew = w9 at BK115 HB HR116 HR118 hHeld ⊢
  refine pu 0 (some 6) (bm 13 1) ?_
  refine pu 1 (some 7) (bm 13 3) ?_
  refine pu 2 (some 8) (bm 13 7) ?_
  refine pu 3 (some 9) (bm 13 15) ?_
  refine pu 4 (some 10) (bm 13 31) ?_
  refine pu 5 (some 11) (bm 13 63) ?_
  refine pu 8 (some 14) (bm 13 319) ?_
  refine pu 9 (some 15) (bm 13 831) ?_
  refine pn 6 (some 12) (bm 13 895) (fun K hK => ?_)
  refine goes_ Try.func86 (by kernel_rfl) rfl #[.slice A0 (l0.take 60).length c0] (by rfl) rfl rfl (aw (ln od (q := (60 : Int) ≤ (l0.length : Int)) : (l0.take 60).length = 60)) ?_
  with_reducible refine (crc_Sum.calls k _ _ (l0.take 60) t117 _ ?side1 ?side2 A6.out).mono ?_
  (case side1 => exact kc HR116 HB)
  (case side2 => exact HC116.out)
  rintro e w' ⟨rfl, ⟨nd, rfl⟩⟩
  refine ⟨_, rfl, ?_⟩
  refine hK.out _ _ trivial (fun hHeld => ?_)
  clear hK K
  refine no (some 12) ?_
  refine pu 7 (some 13) (bm 13 1023) ?_
  refine pn 10 (some 16) (bm 13 2047) (fun K hK => ?_)
  refine goes_ Try.func87 (by kernel_rfl) rfl #[.slice A11 (l0.drop 60).length (c0 - 60)] (by rfl) rfl rfl (by (try simp only [List.map_toArray, List.map_cons, List.map_nil]); first | done | (rw [show (l0.drop 60).length = (l0.length - 60) from List.length_drop] <;> rfl) | rfl | (simp only [List.length_drop, List.length_take]; rfl)) ?_
  with_reducible refine (cell_number.calls k _ _ (l0.drop 60) t119 _ ?side1 ?side2 A8.out).mono ?_
  (case side1 => repeat (first | exact (Kd.C_below HR118.out (b_w HB)) | (with_reducible refine Kd.C_alloc ?_ _) | (with_reducible refine Kd.C_drewN ?_ _) | (with_reducible refine Kd.C_drew ?_)))
  (case side2 => exact HC118.out)
  rintro e w' ⟨rfl, ⟨nd, rfl⟩⟩
  refine ⟨_, rfl, ?_⟩
  refine hK.out _ _ trivial (fun hHeld => ?_)
  clear hK K
  refine no (some 16) ?_
  refine pu 11 (some 17) (bm 13 4095) ?_
  refine pu 12 (some 18) (bm 13 8191) ?_
  refine done_ (done_of HT_.out (by kernel_rfl)) ?_
  try go_wp2
  go_meet
  case rel => exact ⟨_, (((IntKind.u64.wrap (t117)) != t119)), sm, H', ⟨om⟩, ⟨bk BK115⟩, ⟨b_w HB⟩⟩
 clear HC2
 try clear p2
 try clear c4
 try clear c4b0
 try clear c4b1
 try clear c5
 try clear c5b0
 try clear c5b1
 try clear c7
 try clear c7b0
 try clear c8
 obtain ⟨kq, x18_1, rfl, HA, HJ1, BK115, HB⟩ := hcut
 cases kq with
 | zero => exact absurd HA.out (by simp [cell_Decode.j0])
 | succ kj1 => ?_
 have H := HA.out
 clear HA
 simp only [cell_Decode.j0] at H
 by_cases c13 : x18_1 = true
 · subst c13
   replace H := it H
   simp only [Option.some.injEq, Prod.mk.injEq] at H
   obtain ⟨rfl, rfl, rfl, rfl, rfl, rfl⟩ := H
   obtain ⟨_,_,_,_,_,_,_,_,_,_⟩ := cz5 BK115.out
   go_wp2
   refine bodyPost_ret (results_ct rfl _ _ gb115 106 #[.int .u64 0, .int .u64 0, .int .i64 0, .int .i64 0, .slice none 0 0] (0, 0) _ rfl (bp BK115) Try.underlying106 rfl (by kernel_rfl)) rfl ?_
   exact ⟨_, er, rn, b_w HB⟩
 replace c13 := Bool.eq_false_iff.mpr c13
 subst c13
 replace H := fi H
 obtain ⟨c15, H⟩ := ifN H
 have c15b0 := eq_true c15
 have c15b1 := decide_eq_true c15
 clear c15
 obtain ⟨t121, A16, H⟩ := bnd H
 obtain ⟨c17, H⟩ := ifN H
 have c17b0 := eq_true c17
 have c17b1 := decide_eq_true c17
 clear c17
 obtain ⟨c18, H⟩ := ifN H
 have c18b0 := eq_true c18
 have c18b1 := decide_eq_true c18
 clear c18
 obtain ⟨t123, A19, H⟩ := bnd H
 obtain ⟨c20, H⟩ := ifN H
 have c20b0 := eq_true c20
 have c20b1 := decide_eq_true c20
 clear c20
 obtain ⟨c21, H⟩ := ifN H
 have c21b0 := eq_true c21
 have c21b1 := decide_eq_true c21
 clear c21
 obtain ⟨t125, A22, H⟩ := bnd H
 obtain ⟨c23, H⟩ := ifN H
 have c23b0 := eq_true c23
 have c23b1 := decide_eq_true c23
 clear c23
 obtain ⟨c24, H⟩ := ifN H
 have c24b0 := eq_true c24
 have c24b1 := decide_eq_true c24
 clear c24
 obtain ⟨t127, A25, H⟩ := bnd H
 obtain ⟨c26, H⟩ := ifN H
 have c26b0 := decide_eq_true c26
 have c26b1 : decide (20 < l0.length) = true := decide_eq_true (by omega)
 clear c26
 have HC27 := Aside0.mk H
 clear H
 try go_wp2
 replace BK115 := Aside0.mk (blk_drew BK115.out)
 replace HB := Aside0.mk (below_drew1 HB.out)
 obtain ⟨i029, hi029, _, hsz29, _⟩ := info_parts info5
 obtain ⟨hcut29, hA29, hC29⟩ := print_take_of (P := Try.prog) (Value.int .u8) 0 27 5 .i64 Try.underlying27 hi029 hsz29 A0 c0 l0 8 (by omega) (od) HC0.out
 have HR120 := Aside0.mk (Kd.C_of_reads (h1 := fun _ => rfl) (hA29 _ (Kd.reads_of_C HR0.out)))
 have HC120 := Aside0.mk hC29
 clear hA29 hC29 hi029 hsz29
 obtain ⟨i030, hi030, _, hsz30, _⟩ := info_parts info5
 obtain ⟨A30, hcut30, hA30, hC30⟩ := print_mid_of (P := Try.prog) (Value.int .u8) 0 27 5 .i64 .i64 Try.underlying27 hi030 hsz30 A0 c0 l0 8 16 (by omega) (by first | omega | exact od) (od) HC0.out
 have HR122 := Aside0.mk (Kd.C_of_reads (h1 := fun _ => rfl) (hA30 _ (Kd.reads_of_C HR0.out)))
 have HC122 := Aside0.mk hC30
 clear hA30 hC30 hi030 hsz30
 obtain ⟨i031, hi031, _, hsz31, _⟩ := info_parts info5
 obtain ⟨A31, hcut31, hA31, hC31⟩ := print_mid_of (P := Try.prog) (Value.int .u8) 0 27 5 .i64 .i64 Try.underlying27 hi031 hsz31 A0 c0 l0 16 18 (by omega) (by first | omega | exact od) (od) HC0.out
 have HR124 := Aside0.mk (Kd.C_of_reads (h1 := fun _ => rfl) (hA31 _ (Kd.reads_of_C HR0.out)))
 have HC124 := Aside0.mk hC31
 clear hA31 hC31 hi031 hsz31
 obtain ⟨i032, hi032, _, hsz32, _⟩ := info_parts info5
 obtain ⟨A32, hcut32, hA32, hC32⟩ := print_mid_of (P := Try.prog) (Value.int .u8) 0 27 5 .i64 .i64 Try.underlying27 hi032 hsz32 A0 c0 l0 18 20 (by omega) (by first | omega | exact od) (od) HC0.out
 have HR126 := Aside0.mk (Kd.C_of_reads (h1 := fun _ => rfl) (hA32 _ (Kd.reads_of_C HR0.out)))
 have HC126 := Aside0.mk hC32
 clear hA32 hC32 hi032 hsz32
 refine start_ (n := 17) (S := fun w' => True) (ds := []) #[false, false, false, false, false, false, false, false, false, false, false, false, false, false, false, false, false] (by kernel_rfl) rfl rfl trivial (fun hHeld => ?_); refine with_tabW cell_Decode.tab3 cell_Decode.bits3 (fun HT_ HW_ => ?_)
 generalize wc.drew = w28 at BK115 HB HR120 HR122 HR124 HR126 hHeld ⊢
 refine pu 0 (some 20) (bm 17 1) ?_
 refine pu 1 (some 21) (bm 17 3) ?_
 refine pu 3 (some 23) (bm 17 11) ?_
 refine pu 4 (some 24) (bm 17 27) ?_
 refine pu 6 (some 26) (bm 17 91) ?_
 refine pu 7 (some 27) (bm 17 219) ?_
 refine pu 10 (some 30) (bm 17 1243) ?_
 refine pu 11 (some 31) (bm 17 3291) ?_
 refine join_ (σ := Nat) 1 #[true, true, true, true, true, true, true, true, true, true, true, true, true, true, true, true, false] (fun s_ => [(22, .int .u64 t121), (25, .int .u64 t123), (28, .int .u64 t125), (32, .int .u64 t127), (4, .pointer (some ⟨s_, 0, none⟩)), (29, .int .i64 (wrap64 (t125))), (33, .int .i64 (wrap64 (t127))), (34, .agg #[.int .u64 t121, .int .u64 t123, .int .i64 (wrap64 (t125)), .int .i64 (wrap64 (t127)), .slice none 0 0])]) (fun s_ w' => (w'.heap[gb115]? = some (.cells #[.int .u64 0, .int .u64 0, .int .i64 0, .int .i64 0, .slice none 0 0] 106 (0, 0))) ∧ (w'.heap[s_]? = some (.cells #[.int .u64 0, .int .u64 0, .int .i64 0, .int .i64 0, .slice none 0 0] 106 (0, 0))) ∧ (w.heap.size ≤ s_) ∧ (w.heap.size ≤ s_) ∧ (gb115 ≠ s_) ∧ (s_ ≠ gb115) ∧ (Below w.heap.size w w')) ?_ ?_
 rotate_left
 · intro hJ2_5_8_12_15
   refine join_ (σ := Unit) 2 #[true, true, true, true, true, true, true, true, true, true, true, true, true, true, true, false, false] (fun s_ => [(22, .int .u64 t121), (25, .int .u64 t123), (28, .int .u64 t125), (32, .int .u64 t127), (29, .int .i64 (wrap64 (t125))), (33, .int .i64 (wrap64 (t127))), (34, .agg #[.int .u64 t121, .int .u64 t123, .int .i64 (wrap64 (t125)), .int .i64 (wrap64 (t127)), .slice none 0 0])]) (fun s_ w' => (w'.heap[gb115]? = some (.cells #[.int .u64 0, .int .u64 0, .int .i64 0, .int .i64 0, .slice none 0 0] 106 (0, 0))) ∧ (Below w.heap.size w w')) ?_ ?_
   rotate_left
   · intro hJ2_5_8_12
     refine join_ (σ := Nat) 4 #[true, true, true, true, true, true, true, true, true, true, true, true, false, false, false, true, false] (fun s_ => [(22, .int .u64 t121), (25, .int .u64 t123), (28, .int .u64 t125), (4, .pointer (some ⟨s_, 0, none⟩)), (29, .int .i64 (wrap64 (t125)))]) (fun s_ w' => (w'.heap[gb115]? = some (.cells #[.int .u64 0, .int .u64 0, .int .i64 0, .int .i64 0, .slice none 0 0] 106 (0, 0))) ∧ (w'.heap[s_]? = some (.cells #[.int .u64 0, .int .u64 0, .int .i64 0, .int .i64 0, .slice none 0 0] 106 (0, 0))) ∧ (w.heap.size ≤ s_) ∧ (w.heap.size ≤ s_) ∧ (gb115 ≠ s_) ∧ (s_ ≠ gb115) ∧ (Below w.heap.size w w')) ?_ ?_
     rotate_left
     · intro hJ2_5_8_15
       refine join_ (σ := Unit) 5 #[true, true, true, true, true, true, true, true, true, true, true, true, false, false, false, false, false] (fun s_ => [(22, .int .u64 t121), (25, .int .u64 t123), (28, .int .u64 t125), (29, .int .i64 (wrap64 (t125)))]) (fun s_ w' => (w'.heap[gb115]? = some (.cells #[.int .u64 0, .int .u64 0, .int .i64 0, .int .i64 0, .slice none 0 0] 106 (0, 0))) ∧ (Below w.heap.size w w')) ?_ ?_
       rotate_left
       · intro hJ2_5_8
         refine join_ (σ := Nat) 6 #[true, true, true, true, true, true, true, true, false, false, true, true, false, false, false, true, false] (fun s_ => [(22, .int .u64 t121), (25, .int .u64 t123), (4, .pointer (some ⟨s_, 0, none⟩))]) (fun s_ w' => (w'.heap[gb115]? = some (.cells #[.int .u64 0, .int .u64 0, .int .i64 0, .int .i64 0, .slice none 0 0] 106 (0, 0))) ∧ (w'.heap[s_]? = some (.cells #[.int .u64 0, .int .u64 0, .int .i64 0, .int .i64 0, .slice none 0 0] 106 (0, 0))) ∧ (w.heap.size ≤ s_) ∧ (w.heap.size ≤ s_) ∧ (gb115 ≠ s_) ∧ (s_ ≠ gb115) ∧ (Below w.heap.size w w')) ?_ ?_
         rotate_left
         · intro hJ2_5_15
           refine join_ (σ := Unit) 7 #[true, true, true, true, true, true, true, true, false, false, true, true, false, false, false, false, false] (fun s_ => [(22, .int .u64 t121), (25, .int .u64 t123)]) (fun s_ w' => (w'.heap[gb115]? = some (.cells #[.int .u64 0, .int .u64 0, .int .i64 0, .int .i64 0, .slice none 0 0] 106 (0, 0))) ∧ (Below w.heap.size w w')) ?_ ?_
           rotate_left
           · intro hJ2_5
             refine join_ (σ := Nat) 7 #[true, true, true, true, true, false, true, true, false, false, true, true, false, false, false, true, false] (fun s_ => [(22, .int .u64 t121), (4, .pointer (some ⟨s_, 0, none⟩))]) (fun s_ w' => (w'.heap[gb115]? = some (.cells #[.int .u64 0, .int .u64 0, .int .i64 0, .int .i64 0, .slice none 0 0] 106 (0, 0))) ∧ (w'.heap[s_]? = some (.cells #[.int .u64 0, .int .u64 0, .int .i64 0, .int .i64 0, .slice none 0 0] 106 (0, 0))) ∧ (w.heap.size ≤ s_) ∧ (w.heap.size ≤ s_) ∧ (gb115 ≠ s_) ∧ (s_ ≠ gb115) ∧ (Below w.heap.size w w')) ?_ ?_
             rotate_left
             · intro hJ2_15
               refine join_ (σ := Unit) 8 #[true, true, true, true, true, false, true, true, false, false, true, true, false, false, false, false, false] (fun s_ => [(22, .int .u64 t121)]) (fun s_ w' => (w'.heap[gb115]? = some (.cells #[.int .u64 0, .int .u64 0, .int .i64 0, .int .i64 0, .slice none 0 0] 106 (0, 0))) ∧ (Below w.heap.size w w')) ?_ ?_
               rotate_left
               · intro hJ2
                 refine join_ (σ := Nat) 8 #[true, true, false, true, true, false, true, true, false, false, true, true, false, false, false, true, false] (fun s_ => [(4, .pointer (some ⟨s_, 0, none⟩))]) (fun s_ w' => (w'.heap[gb115]? = some (.cells #[.int .u64 0, .int .u64 0, .int .i64 0, .int .i64 0, .slice none 0 0] 106 (0, 0))) ∧ (w'.heap[s_]? = some (.cells #[.int .u64 0, .int .u64 0, .int .i64 0, .int .i64 0, .slice none 0 0] 106 (0, 0))) ∧ (w.heap.size ≤ s_) ∧ (w.heap.size ≤ s_) ∧ (gb115 ≠ s_) ∧ (s_ ≠ gb115) ∧ (Below w.heap.size w w')) ?_ ?_
                 rotate_left
                 · intro hJ15
                   refine pw 2 15 (some 22) (some 4) (bm 17 3295) (bm 17 36059) (fun K hK => ?_) (fun K hK => ?_)
                   · skip
                     refine goes_ Try.func87 (by kernel_rfl) rfl #[.slice A0 (l0.take 8).length c0] (by rfl) rfl rfl (aw (ln od (q := (8 : Int) ≤ (l0.length : Int)) : (l0.take 8).length = 8)) ?_
                     with_reducible refine (cell_number.calls kj1 _ _ (l0.take 8) t121 _ ?side1 ?side2 A16.out).mono ?_
                     (case side1 => exact kc HR120 HB)
                     (case side2 => exact HC120.out)
                     rintro e w' ⟨rfl, ⟨nd, rfl⟩⟩
                     refine ⟨_, rfl, ?_⟩
                     refine hK.out _ _ trivial (fun hHeld => ?_)
                     clear hK K
                     refine no (some 22) ?_
                     exact nb (hJ2 () _ ⟨(bk BK115), (b_w HB)⟩)
                   skip
                   refine box_step ?hg (N := 4) ?hd (cs := #[.int .u64 0, .int .u64 0, .int .i64 0, .int .i64 0, .slice none 0 0]) (t := 106) ?hr ?_; (case hd => rfl); (case hg => rfl); (case hr => first | (go_simp; done) | (go_simp; rfl))
                   intro gb128 hg w33 hbox hb
                   have BK128 := Aside0.mk (hbox)
                   have GW128 := gs HB hg
                   have GE128 := gs HB hg
                   replace HB := bs HB hb
                   have NB115_128 := nl BK115 hg
                   have NB128_115 := ng BK115 hg
                   replace BK115 := bb BK115 hb
                   clear hb hbox hg
                   refine hK.out _ _ trivial (fun hHeld => ?_)
                   clear hK K
                   refine no (some 4) ?_
                   exact nb (hJ15 (gb128) _ ⟨(bk BK115), (bk BK128), GW128.out, GE128.out, NB115_128.out, NB128_115.out, (b_w HB)⟩)
                 skip
                 rintro gb128 w34 ⟨h0_, h1_, h2_, h3_, h4_, h5_, h6_⟩
                 have n0_ : Aside0 (w34.heap[gb115]? = some (.cells #[.int .u64 0, .int .u64 0, .int .i64 0, .int .i64 0, .slice none 0 0] 106 (0, 0))) := ⟨h0_⟩
                 have n1_ : Aside0 (w34.heap[gb128]? = some (.cells #[.int .u64 0, .int .u64 0, .int .i64 0, .int .i64 0, .slice none 0 0] 106 (0, 0))) := ⟨h1_⟩
                 have n2_ : Aside0 (w.heap.size ≤ gb128) := ⟨h2_⟩
                 have n3_ : Aside0 (w.heap.size ≤ gb128) := ⟨h3_⟩
                 have n4_ : Aside0 (gb115 ≠ gb128) := ⟨h4_⟩
                 have n5_ : Aside0 (gb128 ≠ gb115) := ⟨h5_⟩
                 have n6_ : Aside0 (Below w.heap.size w w34) := ⟨h6_⟩
                 clear BK115
                 clear HB
                 clear h0_ h1_ h2_ h3_ h4_ h5_ h6_
                 have BK115 := n0_
                 have BK128 := n1_
                 have GW128 := n2_
                 have GE128 := n3_
                 have NB115_128 := n4_
                 have NB128_115 := n5_
                 have HB := n6_
                 clear n0_ n1_ n2_ n3_ n4_ n5_ n6_
                 have hHeld := trivial
                 refine na ?_
                 refine pn 2 (some 22) (bm 17 36063) (fun K hK => ?_)
                 refine goes_ Try.func87 (by kernel_rfl) rfl #[.slice A0 (l0.take 8).length c0] (by rfl) rfl rfl (aw (ln od (q := (8 : Int) ≤ (l0.length : Int)) : (l0.take 8).length = 8)) ?_
                 with_reducible refine (cell_number.calls kj1 _ _ (l0.take 8) t121 _ ?side1 ?side2 A16.out).mono ?_
                 (case side1 => exact kc HR120 HB)
                 (case side2 => exact HC120.out)
                 rintro e w' ⟨rfl, ⟨nd, rfl⟩⟩
                 refine ⟨_, rfl, ?_⟩
                 refine hK.out _ _ trivial (fun hHeld => ?_)
                 clear hK K
                 refine no (some 22) ?_
                 exact nb (hJ2_15 (gb128) _ ⟨(bk BK115), (bk BK128), GW128.out, GE128.out, NB115_128.out, NB128_115.out, (b_w HB)⟩)
               skip
               rintro _ w33 ⟨h0_, h1_⟩
               have n0_ : Aside0 (w33.heap[gb115]? = some (.cells #[.int .u64 0, .int .u64 0, .int .i64 0, .int .i64 0, .slice none 0 0] 106 (0, 0))) := ⟨h0_⟩
               have n1_ : Aside0 (Below w.heap.size w w33) := ⟨h1_⟩
               clear BK115
               clear HB
               clear h0_ h1_
               have BK115 := n0_
               have HB := n1_
               clear n0_ n1_
               have hHeld := trivial
               refine na ?_
               refine pw 5 15 (some 25) (some 4) (bm 17 3327) (bm 17 36063) (fun K hK => ?_) (fun K hK => ?_)
               · skip
                 refine goes_ Try.func87 (by kernel_rfl) rfl #[.slice A30 ((l0.take 16).drop 8).length (c0 - 8)] (by rfl) rfl rfl (aw (ln od (q := (16 : Int) ≤ (l0.length : Int)) : ((l0.take 16).drop 8).length = (16 - 8))) ?_
                 with_reducible refine (cell_number.calls kj1 _ _ ((l0.take 16).drop 8) t123 _ ?side1 ?side2 A19.out).mono ?_
                 (case side1 => exact kc HR122 HB)
                 (case side2 => exact HC122.out)
                 rintro e w' ⟨rfl, ⟨nd, rfl⟩⟩
                 refine ⟨_, rfl, ?_⟩
                 refine hK.out _ _ trivial (fun hHeld => ?_)
                 clear hK K
                 refine no (some 25) ?_
                 exact nb (hJ2_5 () _ ⟨(bk BK115), (b_w HB)⟩)
               skip
               refine box_step ?hg (N := 4) ?hd (cs := #[.int .u64 0, .int .u64 0, .int .i64 0, .int .i64 0, .slice none 0 0]) (t := 106) ?hr ?_; (case hd => rfl); (case hg => rfl); (case hr => first | (go_simp; done) | (go_simp; rfl))
               intro gb128 hg w34 hbox hb
               have BK128 := Aside0.mk (hbox)
               have GW128 := gs HB hg
               have GE128 := gs HB hg
               replace HB := bs HB hb
               have NB115_128 := nl BK115 hg
               have NB128_115 := ng BK115 hg
               replace BK115 := bb BK115 hb
               clear hb hbox hg
               refine hK.out _ _ trivial (fun hHeld => ?_)
               clear hK K
               refine no (some 4) ?_
               exact nb (hJ2_15 (gb128) _ ⟨(bk BK115), (bk BK128), GW128.out, GE128.out, NB115_128.out, NB128_115.out, (b_w HB)⟩)
             skip
             rintro gb128 w34 ⟨h0_, h1_, h2_, h3_, h4_, h5_, h6_⟩
             have n0_ : Aside0 (w34.heap[gb115]? = some (.cells #[.int .u64 0, .int .u64 0, .int .i64 0, .int .i64 0, .slice none 0 0] 106 (0, 0))) := ⟨h0_⟩
             have n1_ : Aside0 (w34.heap[gb128]? = some (.cells #[.int .u64 0, .int .u64 0, .int .i64 0, .int .i64 0, .slice none 0 0] 106 (0, 0))) := ⟨h1_⟩
             have n2_ : Aside0 (w.heap.size ≤ gb128) := ⟨h2_⟩
             have n3_ : Aside0 (w.heap.size ≤ gb128) := ⟨h3_⟩
             have n4_ : Aside0 (gb115 ≠ gb128) := ⟨h4_⟩
             have n5_ : Aside0 (gb128 ≠ gb115) := ⟨h5_⟩
             have n6_ : Aside0 (Below w.heap.size w w34) := ⟨h6_⟩
             clear BK115
             clear HB
             clear h0_ h1_ h2_ h3_ h4_ h5_ h6_
             have BK115 := n0_
             have BK128 := n1_
             have GW128 := n2_
             have GE128 := n3_
             have NB115_128 := n4_
             have NB128_115 := n5_
             have HB := n6_
             clear n0_ n1_ n2_ n3_ n4_ n5_ n6_
             have hHeld := trivial
             refine na ?_
             refine pn 5 (some 25) (bm 17 36095) (fun K hK => ?_)
             refine goes_ Try.func87 (by kernel_rfl) rfl #[.slice A30 ((l0.take 16).drop 8).length (c0 - 8)] (by rfl) rfl rfl (aw (ln od (q := (16 : Int) ≤ (l0.length : Int)) : ((l0.take 16).drop 8).length = (16 - 8))) ?_
             with_reducible refine (cell_number.calls kj1 _ _ ((l0.take 16).drop 8) t123 _ ?side1 ?side2 A19.out).mono ?_
             (case side1 => exact kc HR122 HB)
             (case side2 => exact HC122.out)
             rintro e w' ⟨rfl, ⟨nd, rfl⟩⟩
             refine ⟨_, rfl, ?_⟩
             refine hK.out _ _ trivial (fun hHeld => ?_)
             clear hK K
             refine no (some 25) ?_
             exact nb (hJ2_5_15 (gb128) _ ⟨(bk BK115), (bk BK128), GW128.out, GE128.out, NB115_128.out, NB128_115.out, (b_w HB)⟩)
           skip
           rintro _ w33 ⟨h0_, h1_⟩
           have n0_ : Aside0 (w33.heap[gb115]? = some (.cells #[.int .u64 0, .int .u64 0, .int .i64 0, .int .i64 0, .slice none 0 0] 106 (0, 0))) := ⟨h0_⟩
           have n1_ : Aside0 (Below w.heap.size w w33) := ⟨h1_⟩
           clear BK115
           clear HB
           clear h0_ h1_
           have BK115 := n0_
           have HB := n1_
           clear n0_ n1_
           have hHeld := trivial
           refine na ?_
           refine pw 8 15 (some 28) (some 4) (bm 17 3583) (bm 17 36095) (fun K hK => ?_) (fun K hK => ?_)
           · skip
             refine goes_ Try.func87 (by kernel_rfl) rfl #[.slice A31 ((l0.take 18).drop 16).length (c0 - 16)] (by rfl) rfl rfl (aw (ln od (q := (18 : Int) ≤ (l0.length : Int)) : ((l0.take 18).drop 16).length = (18 - 16))) ?_
             with_reducible refine (cell_number.calls kj1 _ _ ((l0.take 18).drop 16) t125 _ ?side1 ?side2 A22.out).mono ?_
             (case side1 => exact kc HR124 HB)
             (case side2 => exact HC124.out)
             rintro e w' ⟨rfl, ⟨nd, rfl⟩⟩
             refine ⟨_, rfl, ?_⟩
             refine hK.out _ _ trivial (fun hHeld => ?_)
             clear hK K
             refine no (some 28) ?_
             refine pu 9 (some 29) (bm 17 4095) ?_
             exact nb (hJ2_5_8 () _ ⟨(bk BK115), (b_w HB)⟩)
           skip
           refine box_step ?hg (N := 4) ?hd (cs := #[.int .u64 0, .int .u64 0, .int .i64 0, .int .i64 0, .slice none 0 0]) (t := 106) ?hr ?_; (case hd => rfl); (case hg => rfl); (case hr => first | (go_simp; done) | (go_simp; rfl))
           intro gb128 hg w34 hbox hb
           have BK128 := Aside0.mk (hbox)
           have GW128 := gs HB hg
           have GE128 := gs HB hg
           replace HB := bs HB hb
           have NB115_128 := nl BK115 hg
           have NB128_115 := ng BK115 hg
           replace BK115 := bb BK115 hb
           clear hb hbox hg
           refine hK.out _ _ trivial (fun hHeld => ?_)
           clear hK K
           refine no (some 4) ?_
           exact nb (hJ2_5_15 (gb128) _ ⟨(bk BK115), (bk BK128), GW128.out, GE128.out, NB115_128.out, NB128_115.out, (b_w HB)⟩)
         skip
         rintro gb128 w34 ⟨h0_, h1_, h2_, h3_, h4_, h5_, h6_⟩
         have n0_ : Aside0 (w34.heap[gb115]? = some (.cells #[.int .u64 0, .int .u64 0, .int .i64 0, .int .i64 0, .slice none 0 0] 106 (0, 0))) := ⟨h0_⟩
         have n1_ : Aside0 (w34.heap[gb128]? = some (.cells #[.int .u64 0, .int .u64 0, .int .i64 0, .int .i64 0, .slice none 0 0] 106 (0, 0))) := ⟨h1_⟩
         have n2_ : Aside0 (w.heap.size ≤ gb128) := ⟨h2_⟩
         have n3_ : Aside0 (w.heap.size ≤ gb128) := ⟨h3_⟩
         have n4_ : Aside0 (gb115 ≠ gb128) := ⟨h4_⟩
         have n5_ : Aside0 (gb128 ≠ gb115) := ⟨h5_⟩
         have n6_ : Aside0 (Below w.heap.size w w34) := ⟨h6_⟩
         clear BK115
         clear HB
         clear h0_ h1_ h2_ h3_ h4_ h5_ h6_
         have BK115 := n0_
         have BK128 := n1_
         have GW128 := n2_
         have GE128 := n3_
         have NB115_128 := n4_
         have NB128_115 := n5_
         have HB := n6_
         clear n0_ n1_ n2_ n3_ n4_ n5_ n6_
         have hHeld := trivial
         refine na ?_
         refine pn 8 (some 28) (bm 17 36351) (fun K hK => ?_)
         refine goes_ Try.func87 (by kernel_rfl) rfl #[.slice A31 ((l0.take 18).drop 16).length (c0 - 16)] (by rfl) rfl rfl (aw (ln od (q := (18 : Int) ≤ (l0.length : Int)) : ((l0.take 18).drop 16).length = (18 - 16))) ?_
         with_reducible refine (cell_number.calls kj1 _ _ ((l0.take 18).drop 16) t125 _ ?side1 ?side2 A22.out).mono ?_
         (case side1 => exact kc HR124 HB)
         (case side2 => exact HC124.out)
         rintro e w' ⟨rfl, ⟨nd, rfl⟩⟩
         refine ⟨_, rfl, ?_⟩
         refine hK.out _ _ trivial (fun hHeld => ?_)
         clear hK K
         refine no (some 28) ?_
         refine pu 9 (some 29) (bm 17 36863) ?_
         exact nb (hJ2_5_8_15 (gb128) _ ⟨(bk BK115), (bk BK128), GW128.out, GE128.out, NB115_128.out, NB128_115.out, (b_w HB)⟩)
       skip
       rintro _ w33 ⟨h0_, h1_⟩
       have n0_ : Aside0 (w33.heap[gb115]? = some (.cells #[.int .u64 0, .int .u64 0, .int .i64 0, .int .i64 0, .slice none 0 0] 106 (0, 0))) := ⟨h0_⟩
       have n1_ : Aside0 (Below w.heap.size w w33) := ⟨h1_⟩
       clear BK115
       clear HB
       clear h0_ h1_
       have BK115 := n0_
       have HB := n1_
       clear n0_ n1_
       have hHeld := trivial
       refine na ?_
       refine pw 12 15 (some 32) (some 4) (bm 17 8191) (bm 17 36863) (fun K hK => ?_) (fun K hK => ?_)
       · skip
         refine goes_ Try.func87 (by kernel_rfl) rfl #[.slice A32 ((l0.take 20).drop 18).length (c0 - 18)] (by rfl) rfl rfl (aw (ln od (q := (20 : Int) ≤ (l0.length : Int)) : ((l0.take 20).drop 18).length = (20 - 18))) ?_
         with_reducible refine (cell_number.calls kj1 _ _ ((l0.take 20).drop 18) t127 _ ?side1 ?side2 A25.out).mono ?_
         (case side1 => exact kc HR126 HB)
         (case side2 => exact HC126.out)
         rintro e w' ⟨rfl, ⟨nd, rfl⟩⟩
         refine ⟨_, rfl, ?_⟩
         refine hK.out _ _ trivial (fun hHeld => ?_)
         clear hK K
         refine no (some 32) ?_
         refine pu 13 (some 33) (bm 17 16383) ?_
         refine pu 14 (some 34) (bm 17 32767) ?_
         exact nb (hJ2_5_8_12 () _ ⟨(bk BK115), (b_w HB)⟩)
       skip
       refine box_step ?hg (N := 4) ?hd (cs := #[.int .u64 0, .int .u64 0, .int .i64 0, .int .i64 0, .slice none 0 0]) (t := 106) ?hr ?_; (case hd => rfl); (case hg => rfl); (case hr => first | (go_simp; done) | (go_simp; rfl))
       intro gb128 hg w34 hbox hb
       have BK128 := Aside0.mk (hbox)
       have GW128 := gs HB hg
       have GE128 := gs HB hg
       replace HB := bs HB hb
       have NB115_128 := nl BK115 hg
       have NB128_115 := ng BK115 hg
       replace BK115 := bb BK115 hb
       clear hb hbox hg
       refine hK.out _ _ trivial (fun hHeld => ?_)
       clear hK K
       refine no (some 4) ?_
       exact nb (hJ2_5_8_15 (gb128) _ ⟨(bk BK115), (bk BK128), GW128.out, GE128.out, NB115_128.out, NB128_115.out, (b_w HB)⟩)
     skip
     rintro gb128 w34 ⟨h0_, h1_, h2_, h3_, h4_, h5_, h6_⟩
     have n0_ : Aside0 (w34.heap[gb115]? = some (.cells #[.int .u64 0, .int .u64 0, .int .i64 0, .int .i64 0, .slice none 0 0] 106 (0, 0))) := ⟨h0_⟩
     have n1_ : Aside0 (w34.heap[gb128]? = some (.cells #[.int .u64 0, .int .u64 0, .int .i64 0, .int .i64 0, .slice none 0 0] 106 (0, 0))) := ⟨h1_⟩
     have n2_ : Aside0 (w.heap.size ≤ gb128) := ⟨h2_⟩
     have n3_ : Aside0 (w.heap.size ≤ gb128) := ⟨h3_⟩
     have n4_ : Aside0 (gb115 ≠ gb128) := ⟨h4_⟩
     have n5_ : Aside0 (gb128 ≠ gb115) := ⟨h5_⟩
     have n6_ : Aside0 (Below w.heap.size w w34) := ⟨h6_⟩
     clear BK115
     clear HB
     clear h0_ h1_ h2_ h3_ h4_ h5_ h6_
     have BK115 := n0_
     have BK128 := n1_
     have GW128 := n2_
     have GE128 := n3_
     have NB115_128 := n4_
     have NB128_115 := n5_
     have HB := n6_
     clear n0_ n1_ n2_ n3_ n4_ n5_ n6_
     have hHeld := trivial
     refine na ?_
     refine pn 12 (some 32) (bm 17 40959) (fun K hK => ?_)
     refine goes_ Try.func87 (by kernel_rfl) rfl #[.slice A32 ((l0.take 20).drop 18).length (c0 - 18)] (by rfl) rfl rfl (aw (ln od (q := (20 : Int) ≤ (l0.length : Int)) : ((l0.take 20).drop 18).length = (20 - 18))) ?_
     with_reducible refine (cell_number.calls kj1 _ _ ((l0.take 20).drop 18) t127 _ ?side1 ?side2 A25.out).mono ?_
     (case side1 => exact kc HR126 HB)
     (case side2 => exact HC126.out)
     rintro e w' ⟨rfl, ⟨nd, rfl⟩⟩
     refine ⟨_, rfl, ?_⟩
     refine hK.out _ _ trivial (fun hHeld => ?_)
     clear hK K
     refine no (some 32) ?_
     refine pu 13 (some 33) (bm 17 49151) ?_
     refine pu 14 (some 34) (bm 17 65535) ?_
     exact nb (hJ2_5_8_12_15 (gb128) _ ⟨(bk BK115), (bk BK128), GW128.out, GE128.out, NB115_128.out, NB128_115.out, (b_w HB)⟩)
   skip
   rintro _ w33 ⟨h0_, h1_⟩
   have n0_ : Aside0 (w33.heap[gb115]? = some (.cells #[.int .u64 0, .int .u64 0, .int .i64 0, .int .i64 0, .slice none 0 0] 106 (0, 0))) := ⟨h0_⟩
   have n1_ : Aside0 (Below w.heap.size w w33) := ⟨h1_⟩
   clear BK115
   clear HB
   clear h0_ h1_
   have BK115 := n0_
   have HB := n1_
   clear n0_ n1_
   have hHeld := trivial
   refine na ?_
   refine pn 15 (some 4) (bm 17 65535) (fun K hK => ?_)
   refine box_step ?hg (N := 4) ?hd (cs := #[.int .u64 0, .int .u64 0, .int .i64 0, .int .i64 0, .slice none 0 0]) (t := 106) ?hr ?_; (case hd => rfl); (case hg => rfl); (case hr => first | (go_simp; done) | (go_simp; rfl))
   intro gb128 hg w34 hbox hb
   have BK128 := Aside0.mk (hbox)
   have GW128 := gs HB hg
   have GE128 := gs HB hg
   replace HB := bs HB hb
   have NB115_128 := nl BK115 hg
   have NB128_115 := ng BK115 hg
   replace BK115 := bb BK115 hb
   clear hb hbox hg
   refine hK.out _ _ trivial (fun hHeld => ?_)
   clear hK K
   refine no (some 4) ?_
   exact nb (hJ2_5_8_12_15 (gb128) _ ⟨(bk BK115), (bk BK128), GW128.out, GE128.out, NB115_128.out, NB128_115.out, (b_w HB)⟩)
 rintro gb128 w34 ⟨h0_, h1_, h2_, h3_, h4_, h5_, h6_⟩
 have n0_ : Aside0 (w34.heap[gb115]? = some (.cells #[.int .u64 0, .int .u64 0, .int .i64 0, .int .i64 0, .slice none 0 0] 106 (0, 0))) := ⟨h0_⟩
 have n1_ : Aside0 (w34.heap[gb128]? = some (.cells #[.int .u64 0, .int .u64 0, .int .i64 0, .int .i64 0, .slice none 0 0] 106 (0, 0))) := ⟨h1_⟩
 have n2_ : Aside0 (w.heap.size ≤ gb128) := ⟨h2_⟩
 have n3_ : Aside0 (w.heap.size ≤ gb128) := ⟨h3_⟩
 have n4_ : Aside0 (gb115 ≠ gb128) := ⟨h4_⟩
 have n5_ : Aside0 (gb128 ≠ gb115) := ⟨h5_⟩
 have n6_ : Aside0 (Below w.heap.size w w34) := ⟨h6_⟩
 clear BK115
 clear HB
 clear h0_ h1_ h2_ h3_ h4_ h5_ h6_
 have BK115 := n0_
 have BK128 := n1_
 have GW128 := n2_
 have GE128 := n3_
 have NB115_128 := n4_
 have NB128_115 := n5_
 have HB := n6_
 clear n0_ n1_ n2_ n3_ n4_ n5_ n6_
 have hHeld := trivial
 refine na ?_
 refine pn 16 none (bm 17 131071) (fun K hK => ?_)
 have hs35 : w34.cell? ⟨gb128, 0, none⟩ = some (.int .u64 0) := (blk_cell BK128.out 0).trans rfl
 have hfs35 := blk_frozen BK128.out 0
 have hns35_0 := NB115_128.out
 have hms35_0 := NB128_115.out
 have hs36 : w34.cell? ⟨gb128, 1, none⟩ = some (.int .u64 0) := (blk_cell BK128.out 1).trans rfl
 have hfs36 := blk_frozen BK128.out 1
 have hns36_0 := NB115_128.out
 have hms36_0 := NB128_115.out
 have hs37 : w34.cell? ⟨gb128, 2, none⟩ = some (.int .i64 0) := (blk_cell BK128.out 2).trans rfl
 have hfs37 := blk_frozen BK128.out 2
 have hns37_0 := NB115_128.out
 have hms37_0 := NB128_115.out
 have hs38 : w34.cell? ⟨gb128, 3, none⟩ = some (.int .i64 0) := (blk_cell BK128.out 3).trans rfl
 have hfs38 := blk_frozen BK128.out 3
 have hns38_0 := NB115_128.out
 have hms38_0 := NB128_115.out
 have hs39 : w34.cell? ⟨gb128, 4, none⟩ = some (.slice none 0 0) := (blk_cell BK128.out 4).trans rfl
 have hfs39 := blk_frozen BK128.out 4
 have hns39_0 := NB115_128.out
 have hms39_0 := NB128_115.out
 refine skip_ (w1 := ?_) (by rfl) rfl ?_ ?_
 rotate_left
 · go_simp
   rfl
 refine hK.out _ _ trivial (fun hHeld => ?_)
 clear hK K
 refine done_ (done_of HT_.out (by kernel_rfl)) ?_
 have p129 : 0 ≤ (20 : Int) := (by omega)
 have q129 : 20 < (l0.length : Int) := od
 obtain ⟨ad129, e129, hx129_0⟩ := Kd.at_int HR0.out 20 p129 q129
 cases e129
 (try simp only [show (20 : Int).toNat = 20 from rfl, Nat.reduceMul, Nat.reduceEqDiff, Go.Addr.add, ↓reduceIte] at hx129_0)
 have qi129 : (20 < l0.length) = True := eq_true (by omega)
 (try rw [show ((20 : Int)).toNat = 20 from rfl] at hx129_0)
 have hn129_0 : ad129.block ≠ gb128 := Nat.ne_of_lt (Nat.lt_of_lt_of_le (by have := World.block_lt_of_cell? _ _ hx129_0; first | rwa [add_block] at this | exact this) GW128.out)
 have hn129_1 : ad129.block ≠ gb128 := Nat.ne_of_lt (Nat.lt_of_lt_of_le (by have := World.block_lt_of_cell? _ _ hx129_0; first | rwa [add_block] at this | exact this) GW128.out)
 have hn129_2 : ad129.block ≠ gb128 := Nat.ne_of_lt (Nat.lt_of_lt_of_le (by have := World.block_lt_of_cell? _ _ hx129_0; first | rwa [add_block] at this | exact this) GW128.out)
 have hn129_3 : ad129.block ≠ gb128 := Nat.ne_of_lt (Nat.lt_of_lt_of_le (by have := World.block_lt_of_cell? _ _ hx129_0; first | rwa [add_block] at this | exact this) GW128.out)
 have hn129_4 : ad129.block ≠ gb128 := Nat.ne_of_lt (Nat.lt_of_lt_of_le (by have := World.block_lt_of_cell? _ _ hx129_0; first | rwa [add_block] at this | exact this) GW128.out)
 replace hx129_0 := xb HB hx129_0
 replace hx129_0 := (cell_far (p := ⟨gb128, 0, none⟩) (by first | (rw [add_block]; exact hn129_0) | (show (Addr.add _ _).block ≠ _; rw [add_block]; exact hn129_0) | exact hn129_0) (.int .u64 t121)).trans hx129_0
 replace hx129_0 := (cell_far (p := ⟨gb128, 1, none⟩) (by first | (rw [add_block]; exact hn129_1) | (show (Addr.add _ _).block ≠ _; rw [add_block]; exact hn129_1) | exact hn129_1) (.int .u64 t123)).trans hx129_0
 replace hx129_0 := (cell_far (p := ⟨gb128, 2, none⟩) (by first | (rw [add_block]; exact hn129_2) | (show (Addr.add _ _).block ≠ _; rw [add_block]; exact hn129_2) | exact hn129_2) (.int .i64 (wrap64 (t125)))).trans hx129_0
 replace hx129_0 := (cell_far (p := ⟨gb128, 3, none⟩) (by first | (rw [add_block]; exact hn129_3) | (show (Addr.add _ _).block ≠ _; rw [add_block]; exact hn129_3) | exact hn129_3) (.int .i64 (wrap64 (t127)))).trans hx129_0
 replace hx129_0 := (cell_far (p := ⟨gb128, 4, none⟩) (by first | (rw [add_block]; exact hn129_4) | (show (Addr.add _ _).block ≠ _; rw [add_block]; exact hn129_4) | exact hn129_4) (.slice none 0 0)).trans hx129_0
 clear hn129_0
 clear hn129_1
 clear hn129_2
 clear hn129_3
 clear hn129_4
 replace p129 := eq_true p129
 replace q129 := eq_true q129
 go_upto_region 5 with (fail)
 go_cut [54] (fun v54 wc => ∃ (kq : Nat) (x54_26 : Bool), v54 = .bool x54_26 ∧ Aside0 (cell_Decode.j1 kq l0 (wrap64 (rd l0 20)) x54_26 t121 t123 (wrap64 (t125)) (wrap64 (t127)) = some (r1, r2, r3, r4, r5, r6)) ∧ Aside0 (kq ≤ kj1) ∧ Aside0 (wc.heap[gb115]? = some (.cells #[.int .u64 0, .int .u64 0, .int .i64 0, .int .i64 0, (.slice none 0 0)] 106 (0, 0))) ∧ Aside0 (wc.heap[gb128]? = some (.cells #[.int .u64 t121, .int .u64 t123, .int .i64 (wrap64 (t125)), .int .i64 (wrap64 (t127)), (.slice none 0 0)] 106 (0, 0))) ∧ Aside0 (Below w.heap.size w wc))
 case first =>
  have H := HC27.out
  clear HC27
  by_cases c40 : (wrap64 (t125)) ≥ (wrap64 (t127))
  · rw [if_pos c40] at H
    have c40b0 := decide_eq_true c40
    clear c40
    (first | rw [c40b0] | (simp only [i64_w, i32_w]; rw [c40b0]) | skip)
    have H' := Aside0.mk H
    clear H
    have hnb41 := NB128_115.out
    have hnc41 := NB115_128.out
    obtain ⟨_,_,_,_,_,_,_,_,_,_⟩ := cz5 BK128.out
    go_wp2
    go_meet
    case rel => exact ⟨_, (true), sm, H', ⟨by have := HJ1.out; first | omega | exact Nat.le_refl _⟩, ⟨bp BK115⟩, ⟨bp BK128⟩, ⟨b_w HB⟩⟩
  rw [if_neg c40] at H
  have c40b0 := decide_eq_false c40
  clear c40
  (first | rw [c40b0] | (simp only [i64_w, i32_w]; rw [c40b0]) | skip)
  by_cases c43 : (wrap64 (rd l0 20)) > 39
  · rw [if_pos c43] at H
    have c43b0 := decide_eq_true c43
    clear c43
    have H' := Aside0.mk H
    clear H
    have hnb44 := NB128_115.out
    have hnc44 := NB115_128.out
    obtain ⟨_,_,_,_,_,_,_,_,_,_⟩ := cz5 BK128.out
    go_wp2
    go_meet
    case rel => exact ⟨_, (true), sm, H', ⟨by have := HJ1.out; first | omega | exact Nat.le_refl _⟩, ⟨bp BK115⟩, ⟨bp BK128⟩, ⟨b_w HB⟩⟩
  rw [if_neg c43] at H
  have c43b0 := decide_eq_false c43
  clear c43
  obtain ⟨ji46, hji46⟩ : ∃ j_ : Int, (wrap64 (21 + (wrap64 (rd l0 20)))) = j_ := ⟨_, rfl⟩
  replace H : (if 0 ≤ (ji46) then (if (ji46) ≤ 60 then (if 60 ≤ (l0.length : Int) then ((slices_ContainsFunc_byte_byte.f ((l0.take 60).drop ((ji46) : Int).toNat)).bind fun t131 => (cell_Decode.j1 kj1 l0 (wrap64 (rd l0 20)) t131 t121 t123 (wrap64 (t125)) (wrap64 (t127)))) else (none)) else (none)) else (none)) = some (r1, r2, r3, r4, r5, r6) := by first | (rw [hji46] at H; exact H) | (simp only [hji46] at H ⊢; exact H)
  have hji46w : (IntKind.i64.wrap (21 + (wrap64 (rd l0 20)))) = ji46 := (i64_w _).trans hji46
  obtain ⟨c47, H⟩ := ifN H
  have c47b0 := eq_true c47
  have c47b1 := decide_eq_true c47
  clear c47
  obtain ⟨c48, H⟩ := ifN H
  have c48b0 := eq_true c48
  have c48b1 := decide_eq_true c48
  clear c48
  obtain ⟨c49, H⟩ := ifN H
  have c49b0 := eq_true c49
  have c49b1 := decide_eq_true c49
  clear c49
  obtain ⟨t131, A50, H⟩ := bnd H
  have H' := Aside0.mk H
  clear H
  have hnb51 := NB128_115.out
  have hnc51 := NB115_128.out
  obtain ⟨_,_,_,_,_,_,_,_,_,_⟩ := cz5 BK128.out
  obtain ⟨i053, hi053, _, hsz53, _⟩ := info_parts info5
  obtain ⟨A53, hcut53, hA53, hC53⟩ := print_mid_of (P := Try.prog) (Value.int .u8) 0 27 5 .i64 .i64 Try.underlying27 hi053 hsz53 (some ad129) c0 l0 (ji46) 60 (od) (by first | omega | exact od) (od) HC0.out
  have HR130 := Aside0.mk (Kd.C_of_reads (h1 := fun _ => rfl) (hA53 _ (Kd.reads_of_C HR0.out)))
  have HC130 := Aside0.mk hC53
  clear hA53 hC53 hi053 hsz53
  go_wp2_with (first | (go_at_call 88; refine calls_of_args (args' := #[.slice A53 ((l0.take 60).drop ((ji46) : Int).toNat).length (c0 - (ji46).toNat), (.func (.func 89) #[] #[])]) (by first | rfl | (simp only [List.length_drop, List.length_take]; done) | (simp only [List.length_drop, List.length_take]; rfl)) ?_; (with_reducible refine (slices_ContainsFunc_byte_byte.calls _ _ ((l0.take 60).drop ((ji46) : Int).toNat) t131 _ ?side1 ?side2 A50.out).mono ?_); (case side1 => exact Kd.C_below HR130.out (b_w HB)); (case side2 => exact HC130.out); rintro e w' ⟨rfl, ⟨nd, rfl⟩⟩))
  go_meet
  case rel => exact ⟨_, (t131), sm, H', ⟨by have := HJ1.out; first | omega | exact Nat.le_refl _⟩, ⟨bp BK115⟩, ⟨bp BK128⟩, ⟨b_w HB⟩⟩
 clear HC27
 try clear p1
 try clear q1
 try clear hx1
 try clear qi1
 try clear p2
 try clear c4
 try clear c5
 try clear p6
 try clear c8
 try clear p12
 try clear q12
 try clear hx12
 try clear qi12
 try clear c40
 try clear c40b0
 try clear c41
 try clear c43
 try clear c43b0
 try clear c44
 try clear c47
 try clear c47b0
 try clear c47b1
 try clear c48
 try clear c48b0
 try clear c48b1
 try clear c49
 try clear c49b0
 try clear c49b1
 try clear c51
 try clear hx129_0
 try clear p129
 try clear q129
 obtain ⟨kq, x54_26, rfl, HA, HJ26, BK115, BK128, HB⟩ := hcut
 cases kq with
 | zero => exact absurd HA.out (by simp [cell_Decode.j1])
 | succ kj26 => ?_
 have H := HA.out
 clear HA
 simp only [cell_Decode.j1] at H
 by_cases c54 : x54_26 = true
 · subst c54
   replace H := it H
   simp only [Option.some.injEq, Prod.mk.injEq] at H
   obtain ⟨rfl, rfl, rfl, rfl, rfl, rfl⟩ := H
   have hnb55 := NB115_128.out
   have hnc55 := NB128_115.out
   obtain ⟨_,_,_,_,_,_,_,_,_,_⟩ := cz5 BK115.out
   go_wp2
   refine bodyPost_ret (results_ct rfl _ _ gb115 106 #[.int .u64 0, .int .u64 0, .int .i64 0, .int .i64 0, .slice none 0 0] (0, 0) _ rfl (bp BK115) Try.underlying106 rfl (by kernel_rfl)) rfl ?_
   exact ⟨_, er, rn, b_w HB⟩
 replace c54 := Bool.eq_false_iff.mpr c54
 subst c54
 replace H := fi H
 obtain ⟨c57, H⟩ := ifN H
 have c57b0 := eq_true c57
 have c57b1 := decide_eq_true c57
 obtain ⟨c58, H⟩ := ifN H
 have c58b0 := eq_true c58
 have c58b1 := decide_eq_true c58
 obtain ⟨t133, A59, H⟩ := bnd H
 simp only [Option.some.injEq, Prod.mk.injEq] at H
 obtain ⟨rfl, rfl, rfl, rfl, rfl, rfl⟩ := H
 obtain ⟨i060, hi060, _, hsz60, _⟩ := info_parts info5
 obtain ⟨A60, hcut60, hA60, hC60⟩ := print_mid_of (P := Try.prog) (Value.int .u8) 0 27 5 .i64 .i64 Try.underlying27 hi060 hsz60 (some ad129) c0 l0 21 (wrap64 (21 + (wrap64 (rd l0 20)))) (by omega) (by first | omega | exact od) (od) HC0.out
 have HR132 := Aside0.mk (Kd.C_of_reads (h1 := fun _ => rfl) (hA60 _ (Kd.reads_of_C HR0.out)))
 have HC132 := Aside0.mk hC60
 clear hA60 hC60 hi060 hsz60
 go_wp2_with (first | ((with_reducible refine gate_callee (f := 72) rfl ?_); refine goesL_ (some 60) rfl rfl Try.func72 (by kernel_rfl) rfl #[.slice A60 ((l0.take ((wrap64 (21 + (wrap64 (rd l0 20)))) : Int).toNat).drop 21).length (c0 - 21)] rfl (aw (ln od (q := ((wrap64 (21 + (wrap64 (rd l0 20)))) : Int) ≤ (l0.length : Int)) : ((l0.take ((wrap64 (21 + (wrap64 (rd l0 20)))) : Int).toNat).drop 21).length = ((wrap64 (21 + (wrap64 (rd l0 20)))).toNat - 21))) ?_; (with_reducible refine (slices_Clone_byte_byte.calls _ _ ((l0.take ((wrap64 (21 + (wrap64 (rd l0 20)))) : Int).toNat).drop 21) t133 _ ?side1 ?side2 A59.out).mono ?_); (case side1 => exact kc HR132 HB); (case side2 => exact HC132.out); rintro e w61 ⟨v134, rfl, ho0, hb⟩; refine ⟨_, rfl, ?_⟩; have HO135 := Aside0.mk (Kd.R_lower ho0 (below_size (b_w HB))); replace BK115 := bb BK115 hb; replace BK128 := bb BK128 hb; replace HB := bs HB hb; clear hb; (try clear ho0); obtain ⟨Ao62, co62, eo62⟩ := Kd.R_slice HO135.out; subst eo62; have hnb63 := NB128_115.out; have hnc63 := NB115_128.out; obtain ⟨_,_,_,_,_,_,_,_,_,_⟩ := cz5 BK128.out; obtain ⟨_,_,_,_,_,_,_,_,_,_⟩ := cz5 BK115.out))
 refine bodyPost_ret (results_ct rfl _ _ gb115 106 #[.int .u64 t121, .int .u64 t123, .int .i64 (wrap64 (t125)), .int .i64 (wrap64 (t127)), .slice Ao62 t133.length co62] (0, 0) _ rfl (bp BK115) Try.underlying106 rfl (by kernel_rfl)) rfl ?_
 exact ⟨_, er, rR (Kd.R_mono (fR5 (fR1 (tR2 HO135 BK128 BK115) (fun _ hk => hk.1.2)) (fun _ hk => hk.2)) (fun _ hk => trivial)), b_w HB⟩
end Go.Proofs.Ytepipgneefcoiaa.D
namespace Go.Proofs.Ytepipgneefcoiaa.D
open Go.RowKit Go.Proofs.YtepipgneefcoiaaW.PrintWords Go.Proofs.YtepipgneefcoiaaW.PrintLast Go.Proofs.YtepipgneefcoiaaW.PrintMore
def wal_cells.l0 : Nat → List (S106) → List (List Int) → Int → Int → Option ((List (S106)))
  | 0, _, _, _, _ => none
  | k + 1, x3, x8, x9, x10 => if x10 < x9 then (if 0 ≤ x10 then (if x10 < (x8.length : Int) then ((cell_Decode.f k (rd_L3 x8 x10)).bind fun bt137 => (if x3.length < 2513169434916 then (wal_cells.l0 k (x3 ++ [(⟨bt137.1, bt137.2.1, bt137.2.2.1, bt137.2.2.2.1, bt137.2.2.2.2.1⟩ : S106)]) x8 x9 (wrap64 (x10 + 1))) else (none))) else (none)) else (none)) else (some x3)
def wal_cells.f (k : Nat) (l0 : List (List Int)) : Option ((List (S106))) := wal_cells.l0 k ([] : List (S106)) l0 (l0.length : Int) 0
set_option maxHeartbeats 8000000 in
set_option maxRecDepth 100000 in
theorem wal_cells.calls (k : Nat) (A0 : Option Addr) (c0 : Nat) (l0 : List (List Int)) (r : List (S106)) (w : World) (hr0 : Kd.C (Kd.slice 5 (Kd.int .u8)) w A0 l0.length l0) (hc0 : l0.length ≤ c0) (h : wal_cells.f k l0 = some r) :
    Calls Try.prog 67 #[.slice A0 l0.length c0] w fun e w' => ∃ v0_ : Value, e = .returned (v0_) ∧ Kd.S k106 106 w' w.heap.size (fun _ => True) v0_ r ∧ Below w.heap.size w w' := by
 have hu106 := Try.underlying106
 have HR0 := Aside0.mk hr0
 have HC0 := Aside0.mk hc0
 clear hr0 hc0
 have HB := Aside0.mk (Below.refl w.heap.size w)
 have H : (wal_cells.l0 k ([] : List (S106)) l0 (l0.length : Int) 0) = some r := h
 clear h
 have H' := Aside0.mk H
 clear H
 go_enter Try.func67, Try.ntmps67
 go_wp2
 go_loopg [3, 10] k (fun kq v3 v10 w' => ∃ (x3_1 : List (S106)) (x10_1 : Int), v10 = .int .i64 x10_1 ∧ Aside0 (wal_cells.l0 kq x3_1 l0 (l0.length : Int) x10_1 = some r) ∧ Aside0 (kq ≤ k) ∧ Aside0 (Kd.S k106 106 w' w.heap.size (fun _ => True) v3 x3_1) ∧ Aside0 (Below w.heap.size w w'))
 case atStart => exact ⟨(([] : List (S106))), (0), sm, H', ⟨Nat.le_refl _⟩, ⟨rn⟩, ⟨b_w HB⟩⟩
 clear H'
 obtain ⟨x3_1, x10_1, rfl, HA, HK1, HO_3, HB⟩ := hrel
 cases gk with
 | zero => exact absurd HA.out (by simp [wal_cells.l0])
 | succ k1 => ?_
 have H := HA.out
 clear HA
 simp only [wal_cells.l0] at H
 by_cases c2 : x10_1 < (l0.length : Int)
 rotate_left
 · rw [if_neg c2] at H
   have c2b0 := decide_eq_false c2
   clear c2
   obtain rfl := Option.some.inj H
   go_wp2
   go_ret
   exact ⟨_, er, kS' HO_3, b_w HB⟩
 rw [if_pos c2] at H
 have c2b0 := decide_eq_true c2
 clear c2
 obtain ⟨c3, H⟩ := ifN H
 have c3b0 := decide_eq_true c3
 clear c3
 obtain ⟨c4, H⟩ := ifN H
 have c4b0 := decide_eq_true c4
 clear c4
 replace H := Option.bind_eq_some_iff.mp H
 obtain ⟨⟨t137, t138, t139, t140, t141, t144⟩, A50, H⟩ := H
 replace H : (if x3_1.length < 2513169434916 then (wal_cells.l0 k1 (x3_1 ++ [(⟨t137, t138, t139, t140, t141⟩ : S106)]) l0 (l0.length : Int) (wrap64 (x10_1 + 1))) else (none)) = some r := H
 have A5 := Aside0.mk A50
 clear A50
 obtain ⟨c6, H⟩ := ifN H
 have LMc6 := Aside0.mk c6
 clear c6
 obtain ⟨y146, Ny146⟩ := yy ((x3_1 ++ [(⟨t137, t138, t139, t140, t141⟩ : S106)]) : List (S106))
 replace H : (wal_cells.l0 k1 y146 l0 (l0.length : Int) (wrap64 (x10_1 + 1))) = some r := yx Ny146 H
 have H' := Aside0.mk H
 clear H
 have p136 : 0 ≤ (x10_1 : Int) := od
 have q136 : x10_1 < (l0.length : Int) := od
 obtain ⟨ad136, A136_0, c136_0, e136, hx136_0, hl136_0, hi136_0⟩ := at_L3 HR0.out x10_1 p136 q136
 cases e136
 replace hx136_0 := xb HB hx136_0
 have HR136_0 := Aside0.mk hi136_0
 have HC136_0 := Aside0.mk hl136_0
 clear hi136_0 hl136_0
 replace p136 := eq_true p136
 replace q136 := eq_true q136
 go_wp2_with (first | ((with_reducible refine gate_callee (f := 79) rfl ?_); refine gl 16 Try.func79 #[.slice A136_0 (rd_L3 l0 x10_1).length c136_0] ?_; (with_reducible refine (cell_Decode.calls k1 _ _ (rd_L3 l0 x10_1) t137 t138 t139 t140 t141 t144 _ ?side1 ?side2 A5.out).mono ?_); (case side1 => exact kc HR136_0 HB); (case side2 => exact HC136_0.out); rintro e w7 ⟨v142, rfl, ho0, hb⟩; refine ⟨_, rfl, ?_⟩; replace HO_3 := Aside0.mk (Kd.S_elder' (kS' HO_3) (Kd.R_base ho0) hb); have HO143 := Aside0.mk (Kd.R_lower ho0 (below_size (b_w HB))); replace HB := bs HB hb; clear hb; (try clear ho0)) | ((with_reducible refine gate_dst (N := 6) rfl ?_); refine bx 6 #[.int .u64 0, .int .u64 0, .int .i64 0, .int .i64 0, .slice none 0 0] 106 ?_; intro gb145 hg w8 hbox hb; replace HO_3 := Aside0.mk (Kd.S_below (Kd.S_elderB (kS' HO_3) gb145 (Nat.le_of_eq hg.symm)) hb); replace HO143 := Aside0.mk (Kd.R_below (kR' HO143) hb); have BK145 := Aside0.mk (hbox); have GW145 := gs HB hg; have GE145 := gs HB hg; replace HB := bs HB hb; clear hb hbox hg; obtain ⟨_,_,_,_,_,_,_,_,_,_⟩ := cz5 BK145.out; obtain ⟨Ao10, co10, eo10⟩ := Kd.R_slice HO143.out; subst eo10) | ((with_reducible refine gate_store (t := 106) (p := 6) rfl ?_); refine store_event (t := 106) (p := 6) (v := ?vo_w11) (w1 := (((((w8.setCell ⟨gb145, 0, none⟩ (.int .u64 t137)).setCell ⟨gb145, 1, none⟩ (.int .u64 t138)).setCell ⟨gb145, 2, none⟩ (.int .i64 t139)).setCell ⟨gb145, 3, none⟩ (.int .i64 t140)).setCell ⟨gb145, 4, none⟩ (.slice Ao10 t141.length co10))) ?hg ?ho ?hn ?hr ?_; (case ho => rfl); (case hg => rfl); (case hn => rfl); (case hr => first | (go_simp; done) | (go_simp; rfl)); intro w11 hw; have n0_ : Aside0 (Kd.S k106 106 w11 w.heap.size (fun k_ => some k_ ≠ (.slice Ao10 t141.length co10 : Value).ownBlock ∧ k_ ≠ gb145) u3 x3_1) := ⟨(by rw [hw]; exact (by (with_reducible repeat (first | apply Kd.S_alloc | apply Kd.S_drewN | apply Kd.S_drew)); exact Kd.S_mono (Kd.S_far (p := ⟨gb145, 4, none⟩) (Kd.S_far (p := ⟨gb145, 3, none⟩) (Kd.S_far (p := ⟨gb145, 2, none⟩) (Kd.S_far (p := ⟨gb145, 1, none⟩) (Kd.S_far (p := ⟨gb145, 0, none⟩) (Kd.S_mono HO_3.out (fun k_ hk => (⟨hk, hk.2⟩ : _ ∧ k_ ≠ gb145))) (fun _ hk => hk.2) (.int .u64 t137)) (fun _ hk => hk.2) (.int .u64 t138)) (fun _ hk => hk.2) (.int .i64 t139)) (fun _ hk => hk.2) (.int .i64 t140)) (fun _ hk => hk.2) (.slice Ao10 t141.length co10)) (fun _ hk => ⟨hk.1.1.2, hk.1.2⟩)))⟩; have n1_ : Aside0 (Kd.R (Kd.int .u8) 5 w11 w.heap.size (fun _ => True) (.slice Ao10 t141.length co10) t141) := ⟨(by rw [hw]; exact (rR (Kd.R_mono (fR5 (tR HO143 BK145) (fun _ hk => hk.2)) (fun _ hk => trivial))))⟩; have n2_ : Aside0 (w11.heap[gb145]? = some (.cells #[.int .u64 t137, .int .u64 t138, .int .i64 t139, .int .i64 t140, .slice Ao10 t141.length co10] 106 (0, 0))) := ⟨(by rw [hw]; exact (bp BK145))⟩; have n3_ : Aside0 (Below w.heap.size w w11) := ⟨(by rw [hw]; exact (b_w HB))⟩; clear hw; clear HO_3; clear HO143; clear BK145; clear HB; have HO_3 := n0_; have HO143 := n1_; have BK145 := n2_; have HB := n3_; clear n0_ n1_ n2_ n3_; obtain ⟨_,_,_,_,_,_,_,_,_,_⟩ := cz5 BK145.out) | ((with_reducible refine gate_builtin (b := .append) (xs := #[.tmp 19, .tmp 21]) rfl ?_); at_builtin; refine Kd.S_append k106 (w0 := w) w.heap.size rfl (.tmp 19) (.tmp 21) 62 106 (.agg #[(.int .u64 0), (.int .u64 0), (.int .i64 0), (.int .i64 0), (.slice none 0 0)]) 56 rfl Try.underlying62 info106 rfl (by decide) (by omega) u3 x3_1 (⟨t137, t138, t139, t140, t141⟩ : S106) [.int .u64 t137, .int .u64 t138, .int .i64 t139, .int .i64 t140, .slice Ao10 t141.length co10] (fun k_ => k_ ≠ gb145) (fun k_ => some k_ = (.slice Ao10 t141.length co10 : Value).ownBlock) rfl rfl ?aP (fun k_ hk_ => ((Kd.R_mono (ok' := fun k_ => ((fun k_ => k_ ≠ gb145)) k_ ∧ some k_ ≠ (u3 : Value).ownBlock) (Kd.R_types (Kd.R_apart' (HO143.out) (Kd.S_typed HO_3.out) (by decide)) BK145.out (by decide)) (fun k_ hk => ⟨hk.2, hk.1.2⟩))).1 k_ hk_.symm) ?aF ?aO ?aB ?aS ?aL ?_; (case aP => exact k106_mkM _ _ _ (⟨t137, t138, t139, t140, t141⟩ : S106) (Kd.R_mono (Kd.R_tight rfl (Kd.R_mono (ok' := fun k_ => ((fun k_ => k_ ≠ gb145)) k_ ∧ some k_ ≠ (u3 : Value).ownBlock) (Kd.R_types (Kd.R_apart' (HO143.out) (Kd.S_typed HO_3.out) (by decide)) BK145.out (by decide)) (fun k_ hk => ⟨hk.2, hk.1.2⟩))) (fun _ h_ => h_))); (case aB => exact (b_w HB)); (case aF => exact (fun k_ hk => Kd.freshB (g := gb145) (o := .cells #[.int .u64 t137, .int .u64 t138, .int .i64 t139, .int .i64 t140, .slice Ao10 t141.length co10] 106 (0, 0)) (bk BK145) k_ hk)); (case aO => exact (by (with_reducible repeat (first | apply Kd.S_alloc | apply Kd.S_drewN | apply Kd.S_drew)); exact Kd.S_mono HO_3.out (fun k_ hk => ⟨hk.2, fun e_ => hk.1 e_⟩))); (case aS => exact (below_size (b_w HB))); (case aL => have := LMc6.out; omega); intro v147 w13 ho hb hg hat; rw [← Ny146.out] at ho; replace BK145 := Aside0.mk (blk_grown (g := gb145) (o := .cells #[.int .u64 t137, .int .u64 t138, .int .i64 t139, .int .i64 t140, .slice Ao10 t141.length co10] 106 (0, 0)) (bk BK145) hg (Kd.S_away HO_3.out (fun _ hk => hk.2))); replace HB := Aside0.mk (hb); have HO148 := Aside0.mk (ho); clear HO_3 HO143; clear ho hb hg hat))
 go_roundg k1
 case measure => have := HK1.out; omega
 case rel => exact ⟨(y146), (wrap64 (x10_1 + 1)), sm, H', ⟨by have := HK1.out; omega⟩, ⟨rS (Kd.S_mono (HO148.out) (fun _ hk => trivial))⟩, ⟨b_w HB⟩⟩
end Go.Proofs.Ytepipgneefcoiaa.D
namespace Go.Proofs.Ytepipgneefcoiaa.D
open Go.RowKit Go.Proofs.YtepipgneefcoiaaW.PrintWords Go.Proofs.YtepipgneefcoiaaW.PrintLast Go.Proofs.YtepipgneefcoiaaW.PrintMore
def cell_goesOn.f (a0_0 : Int) (a0_1 : Int) (a0_2 : Int) (a0_3 : Int) (l0_4 : List Int) (a1_0 : Int) (a1_1 : Int) (a1_2 : Int) (a1_3 : Int) (l1_4 : List Int) (a2 : Int) (a3 : Int) : Option (Bool) := if a2 = (wrap64 (a3 - 1)) then (if a0_0 = a1_0 then (if a0_1 = a1_1 then (if a0_2 = a2 then (if a0_3 = a3 then (some true) else (some false)) else (some false)) else (some false)) else (some false)) else (if a0_0 = a1_0 then (if a0_1 = a1_1 then (if a0_2 = a2 then (if a0_3 = a3 then (some ((l0_4.length : Int) == 39)) else (some false)) else (some false)) else (some false)) else (some false))
set_option maxHeartbeats 8000000 in
set_option maxRecDepth 100000 in
theorem cell_goesOn.calls (a0_0 : Int) (a0_1 : Int) (a0_2 : Int) (a0_3 : Int) (A0_4 : Option Addr) (c0_4 : Nat) (l0_4 : List Int) (a1_0 : Int) (a1_1 : Int) (a1_2 : Int) (a1_3 : Int) (A1_4 : Option Addr) (c1_4 : Nat) (l1_4 : List Int) (a2 : Int) (a3 : Int) (r : Bool) (w : World) (hr0_4 : Kd.C (Kd.int .u8) w A0_4 l0_4.length l0_4) (hc0_4 : l0_4.length ≤ c0_4) (hr1_4 : Kd.C (Kd.int .u8) w A1_4 l1_4.length l1_4) (hc1_4 : l1_4.length ≤ c1_4) (h : cell_goesOn.f a0_0 a0_1 a0_2 a0_3 l0_4 a1_0 a1_1 a1_2 a1_3 l1_4 a2 a3 = some r) :
    Calls Try.prog 90 #[.agg #[.int .u64 a0_0, .int .u64 a0_1, .int .i64 a0_2, .int .i64 a0_3, .slice A0_4 l0_4.length c0_4], .agg #[.int .u64 a1_0, .int .u64 a1_1, .int .i64 a1_2, .int .i64 a1_3, .slice A1_4 l1_4.length c1_4], .int .i64 a2, .int .i64 a3] w fun e w' => e = .returned (.bool r) ∧ Below w.heap.size w w' := by
 have hu106 := Try.underlying106
 have HR0_4 := Aside0.mk hr0_4
 have HC0_4 := Aside0.mk hc0_4
 clear hr0_4 hc0_4
 have HR1_4 := Aside0.mk hr1_4
 have HC1_4 := Aside0.mk hc1_4
 clear hr1_4 hc1_4
 have HB := Aside0.mk (Below.refl w.heap.size w)
 have H : (if a2 = (wrap64 (a3 - 1)) then (if a0_0 = a1_0 then (if a0_1 = a1_1 then (if a0_2 = a2 then (if a0_3 = a3 then (some true) else (some false)) else (some false)) else (some false)) else (some false)) else (if a0_0 = a1_0 then (if a0_1 = a1_1 then (if a0_2 = a2 then (if a0_3 = a3 then (some ((l0_4.length : Int) == 39)) else (some false)) else (some false)) else (some false)) else (some false))) = some r := h
 clear h
 by_cases c5 : a2 = (wrap64 (a3 - 1))
 · rw [if_pos c5] at H
   have c5b0 := beq_iff_eq.mpr c5
   have c5b1 := bne_eq_false_iff_eq.mpr c5
   clear c5
   by_cases c6 : a0_0 = a1_0
   rotate_left
   · rw [if_neg c6] at H
     have c6b0 := beq_eq_false_iff_ne.mpr c6
     have c6b1 := bne_iff_ne.mpr c6
     obtain rfl := Option.some.inj H
     go_enter Try.func90, Try.ntmps90
     go_wp2_with (first | ((with_reducible refine gate_dst (N := 4) rfl ?_); (try (refine gate_guard (by rfl) ?_; dsimp only)); refine bx 4 #[.int .u64 a0_0, .int .u64 a0_1, .int .i64 a0_2, .int .i64 a0_3, .slice A0_4 l0_4.length c0_4] 106 ?_; intro gb149 hg w30 hbox hb; have BK149 := Aside0.mk (hbox); have GW149 := gs HB hg; have GE149 := gs HB hg; replace HB := bs HB hb; clear hb hbox hg) | ((with_reducible refine gate_dst (N := 5) rfl ?_); (try (refine gate_guard (by rfl) ?_; dsimp only)); refine bx 5 #[.int .u64 a1_0, .int .u64 a1_1, .int .i64 a1_2, .int .i64 a1_3, .slice A1_4 l1_4.length c1_4] 106 ?_; intro gb150 hg w31 hbox hb; have BK150 := Aside0.mk (hbox); have GW150 := gs HB hg; have GE150 := gs HB hg; replace HB := bs HB hb; have NB149_150 := nl BK149 hg; have NB150_149 := ng BK149 hg; replace BK149 := bb BK149 hb; clear hb hbox hg; have hnb32 := NB149_150.out; have hnc32 := NB150_149.out; obtain ⟨_,_,_,_,_,_,_,_,_,_⟩ := cz5 BK149.out; obtain ⟨_,_,_,_,_,_,_,_,_,_⟩ := cz5 BK150.out))
     go_ret
     exact ⟨er, b_w HB⟩
   rw [if_pos c6] at H
   have c6b0 := beq_iff_eq.mpr c6
   have c6b1 := bne_eq_false_iff_eq.mpr c6
   clear c6
   by_cases c7 : a0_1 = a1_1
   rotate_left
   · rw [if_neg c7] at H
     have c7b0 := beq_eq_false_iff_ne.mpr c7
     have c7b1 := bne_iff_ne.mpr c7
     obtain rfl := Option.some.inj H
     go_enter Try.func90, Try.ntmps90
     go_wp2_with (first | ((with_reducible refine gate_dst (N := 4) rfl ?_); (try (refine gate_guard (by rfl) ?_; dsimp only)); refine bx 4 #[.int .u64 a0_0, .int .u64 a0_1, .int .i64 a0_2, .int .i64 a0_3, .slice A0_4 l0_4.length c0_4] 106 ?_; intro gb149 hg w25 hbox hb; have BK149 := Aside0.mk (hbox); have GW149 := gs HB hg; have GE149 := gs HB hg; replace HB := bs HB hb; clear hb hbox hg) | ((with_reducible refine gate_dst (N := 5) rfl ?_); (try (refine gate_guard (by rfl) ?_; dsimp only)); refine bx 5 #[.int .u64 a1_0, .int .u64 a1_1, .int .i64 a1_2, .int .i64 a1_3, .slice A1_4 l1_4.length c1_4] 106 ?_; intro gb150 hg w26 hbox hb; have BK150 := Aside0.mk (hbox); have GW150 := gs HB hg; have GE150 := gs HB hg; replace HB := bs HB hb; have NB149_150 := nl BK149 hg; have NB150_149 := ng BK149 hg; replace BK149 := bb BK149 hb; clear hb hbox hg; have hnb27 := NB149_150.out; have hnc27 := NB150_149.out; obtain ⟨_,_,_,_,_,_,_,_,_,_⟩ := cz5 BK149.out; obtain ⟨_,_,_,_,_,_,_,_,_,_⟩ := cz5 BK150.out))
     go_ret
     exact ⟨er, b_w HB⟩
   rw [if_pos c7] at H
   have c7b0 := beq_iff_eq.mpr c7
   have c7b1 := bne_eq_false_iff_eq.mpr c7
   clear c7
   by_cases c8 : a0_2 = a2
   rotate_left
   · rw [if_neg c8] at H
     have c8b0 := beq_eq_false_iff_ne.mpr c8
     have c8b1 := bne_iff_ne.mpr c8
     obtain rfl := Option.some.inj H
     go_enter Try.func90, Try.ntmps90
     go_wp2_with (first | ((with_reducible refine gate_dst (N := 4) rfl ?_); (try (refine gate_guard (by rfl) ?_; dsimp only)); refine bx 4 #[.int .u64 a0_0, .int .u64 a0_1, .int .i64 a0_2, .int .i64 a0_3, .slice A0_4 l0_4.length c0_4] 106 ?_; intro gb149 hg w20 hbox hb; have BK149 := Aside0.mk (hbox); have GW149 := gs HB hg; have GE149 := gs HB hg; replace HB := bs HB hb; clear hb hbox hg) | ((with_reducible refine gate_dst (N := 5) rfl ?_); (try (refine gate_guard (by rfl) ?_; dsimp only)); refine bx 5 #[.int .u64 a1_0, .int .u64 a1_1, .int .i64 a1_2, .int .i64 a1_3, .slice A1_4 l1_4.length c1_4] 106 ?_; intro gb150 hg w21 hbox hb; have BK150 := Aside0.mk (hbox); have GW150 := gs HB hg; have GE150 := gs HB hg; replace HB := bs HB hb; have NB149_150 := nl BK149 hg; have NB150_149 := ng BK149 hg; replace BK149 := bb BK149 hb; clear hb hbox hg; have hnb22 := NB149_150.out; have hnc22 := NB150_149.out; obtain ⟨_,_,_,_,_,_,_,_,_,_⟩ := cz5 BK149.out; obtain ⟨_,_,_,_,_,_,_,_,_,_⟩ := cz5 BK150.out))
     go_ret
     exact ⟨er, b_w HB⟩
   rw [if_pos c8] at H
   have c8b0 := beq_iff_eq.mpr c8
   have c8b1 := bne_eq_false_iff_eq.mpr c8
   clear c8
   by_cases c9 : a0_3 = a3
   rotate_left
   · rw [if_neg c9] at H
     have c9b0 := beq_eq_false_iff_ne.mpr c9
     have c9b1 := bne_iff_ne.mpr c9
     obtain rfl := Option.some.inj H
     go_enter Try.func90, Try.ntmps90
     go_wp2_with (first | ((with_reducible refine gate_dst (N := 4) rfl ?_); (try (refine gate_guard (by rfl) ?_; dsimp only)); refine bx 4 #[.int .u64 a0_0, .int .u64 a0_1, .int .i64 a0_2, .int .i64 a0_3, .slice A0_4 l0_4.length c0_4] 106 ?_; intro gb149 hg w15 hbox hb; have BK149 := Aside0.mk (hbox); have GW149 := gs HB hg; have GE149 := gs HB hg; replace HB := bs HB hb; clear hb hbox hg) | ((with_reducible refine gate_dst (N := 5) rfl ?_); (try (refine gate_guard (by rfl) ?_; dsimp only)); refine bx 5 #[.int .u64 a1_0, .int .u64 a1_1, .int .i64 a1_2, .int .i64 a1_3, .slice A1_4 l1_4.length c1_4] 106 ?_; intro gb150 hg w16 hbox hb; have BK150 := Aside0.mk (hbox); have GW150 := gs HB hg; have GE150 := gs HB hg; replace HB := bs HB hb; have NB149_150 := nl BK149 hg; have NB150_149 := ng BK149 hg; replace BK149 := bb BK149 hb; clear hb hbox hg; have hnb17 := NB149_150.out; have hnc17 := NB150_149.out; obtain ⟨_,_,_,_,_,_,_,_,_,_⟩ := cz5 BK149.out; obtain ⟨_,_,_,_,_,_,_,_,_,_⟩ := cz5 BK150.out))
     go_ret
     exact ⟨er, b_w HB⟩
   rw [if_pos c9] at H
   have c9b0 := beq_iff_eq.mpr c9
   have c9b1 := bne_eq_false_iff_eq.mpr c9
   clear c9
   obtain rfl := Option.some.inj H
   go_enter Try.func90, Try.ntmps90
   go_wp2_with (first | ((with_reducible refine gate_dst (N := 4) rfl ?_); (try (refine gate_guard (by rfl) ?_; dsimp only)); refine bx 4 #[.int .u64 a0_0, .int .u64 a0_1, .int .i64 a0_2, .int .i64 a0_3, .slice A0_4 l0_4.length c0_4] 106 ?_; intro gb149 hg w10 hbox hb; have BK149 := Aside0.mk (hbox); have GW149 := gs HB hg; have GE149 := gs HB hg; replace HB := bs HB hb; clear hb hbox hg) | ((with_reducible refine gate_dst (N := 5) rfl ?_); (try (refine gate_guard (by rfl) ?_; dsimp only)); refine bx 5 #[.int .u64 a1_0, .int .u64 a1_1, .int .i64 a1_2, .int .i64 a1_3, .slice A1_4 l1_4.length c1_4] 106 ?_; intro gb150 hg w11 hbox hb; have BK150 := Aside0.mk (hbox); have GW150 := gs HB hg; have GE150 := gs HB hg; replace HB := bs HB hb; have NB149_150 := nl BK149 hg; have NB150_149 := ng BK149 hg; replace BK149 := bb BK149 hb; clear hb hbox hg; have hnb12 := NB149_150.out; have hnc12 := NB150_149.out; obtain ⟨_,_,_,_,_,_,_,_,_,_⟩ := cz5 BK149.out; obtain ⟨_,_,_,_,_,_,_,_,_,_⟩ := cz5 BK150.out))
   go_ret
   exact ⟨er, b_w HB⟩
 rw [if_neg c5] at H
 have c5b0 := beq_eq_false_iff_ne.mpr c5
 have c5b1 := bne_iff_ne.mpr c5
 by_cases c35 : a0_0 = a1_0
 rotate_left
 · rw [if_neg c35] at H
   have c35b0 := beq_eq_false_iff_ne.mpr c35
   have c35b1 := bne_iff_ne.mpr c35
   obtain rfl := Option.some.inj H
   go_enter Try.func90, Try.ntmps90
   go_wp2_with (first | ((with_reducible refine gate_dst (N := 4) rfl ?_); (try (refine gate_guard (by rfl) ?_; dsimp only)); refine bx 4 #[.int .u64 a0_0, .int .u64 a0_1, .int .i64 a0_2, .int .i64 a0_3, .slice A0_4 l0_4.length c0_4] 106 ?_; intro gb149 hg w59 hbox hb; have BK149 := Aside0.mk (hbox); have GW149 := gs HB hg; have GE149 := gs HB hg; replace HB := bs HB hb; clear hb hbox hg) | ((with_reducible refine gate_dst (N := 5) rfl ?_); (try (refine gate_guard (by rfl) ?_; dsimp only)); refine bx 5 #[.int .u64 a1_0, .int .u64 a1_1, .int .i64 a1_2, .int .i64 a1_3, .slice A1_4 l1_4.length c1_4] 106 ?_; intro gb150 hg w60 hbox hb; have BK150 := Aside0.mk (hbox); have GW150 := gs HB hg; have GE150 := gs HB hg; replace HB := bs HB hb; have NB149_150 := nl BK149 hg; have NB150_149 := ng BK149 hg; replace BK149 := bb BK149 hb; clear hb hbox hg; have hnb61 := NB149_150.out; have hnc61 := NB150_149.out; obtain ⟨_,_,_,_,_,_,_,_,_,_⟩ := cz5 BK149.out; obtain ⟨_,_,_,_,_,_,_,_,_,_⟩ := cz5 BK150.out))
   go_ret
   exact ⟨er, b_w HB⟩
 rw [if_pos c35] at H
 have c35b0 := beq_iff_eq.mpr c35
 have c35b1 := bne_eq_false_iff_eq.mpr c35
 clear c35
 by_cases c36 : a0_1 = a1_1
 rotate_left
 · rw [if_neg c36] at H
   have c36b0 := beq_eq_false_iff_ne.mpr c36
   have c36b1 := bne_iff_ne.mpr c36
   obtain rfl := Option.some.inj H
   go_enter Try.func90, Try.ntmps90
   go_wp2_with (first | ((with_reducible refine gate_dst (N := 4) rfl ?_); (try (refine gate_guard (by rfl) ?_; dsimp only)); refine bx 4 #[.int .u64 a0_0, .int .u64 a0_1, .int .i64 a0_2, .int .i64 a0_3, .slice A0_4 l0_4.length c0_4] 106 ?_; intro gb149 hg w54 hbox hb; have BK149 := Aside0.mk (hbox); have GW149 := gs HB hg; have GE149 := gs HB hg; replace HB := bs HB hb; clear hb hbox hg) | ((with_reducible refine gate_dst (N := 5) rfl ?_); (try (refine gate_guard (by rfl) ?_; dsimp only)); refine bx 5 #[.int .u64 a1_0, .int .u64 a1_1, .int .i64 a1_2, .int .i64 a1_3, .slice A1_4 l1_4.length c1_4] 106 ?_; intro gb150 hg w55 hbox hb; have BK150 := Aside0.mk (hbox); have GW150 := gs HB hg; have GE150 := gs HB hg; replace HB := bs HB hb; have NB149_150 := nl BK149 hg; have NB150_149 := ng BK149 hg; replace BK149 := bb BK149 hb; clear hb hbox hg; have hnb56 := NB149_150.out; have hnc56 := NB150_149.out; obtain ⟨_,_,_,_,_,_,_,_,_,_⟩ := cz5 BK149.out; obtain ⟨_,_,_,_,_,_,_,_,_,_⟩ := cz5 BK150.out))
   go_ret
   exact ⟨er, b_w HB⟩
 rw [if_pos c36] at H
 have c36b0 := beq_iff_eq.mpr c36
 have c36b1 := bne_eq_false_iff_eq.mpr c36
 clear c36
 by_cases c37 : a0_2 = a2
 rotate_left
 · rw [if_neg c37] at H
   have c37b0 := beq_eq_false_iff_ne.mpr c37
   have c37b1 := bne_iff_ne.mpr c37
   obtain rfl := Option.some.inj H
   go_enter Try.func90, Try.ntmps90
   go_wp2_with (first | ((with_reducible refine gate_dst (N := 4) rfl ?_); (try (refine gate_guard (by rfl) ?_; dsimp only)); refine bx 4 #[.int .u64 a0_0, .int .u64 a0_1, .int .i64 a0_2, .int .i64 a0_3, .slice A0_4 l0_4.length c0_4] 106 ?_; intro gb149 hg w49 hbox hb; have BK149 := Aside0.mk (hbox); have GW149 := gs HB hg; have GE149 := gs HB hg; replace HB := bs HB hb; clear hb hbox hg) | ((with_reducible refine gate_dst (N := 5) rfl ?_); (try (refine gate_guard (by rfl) ?_; dsimp only)); refine bx 5 #[.int .u64 a1_0, .int .u64 a1_1, .int .i64 a1_2, .int .i64 a1_3, .slice A1_4 l1_4.length c1_4] 106 ?_; intro gb150 hg w50 hbox hb; have BK150 := Aside0.mk (hbox); have GW150 := gs HB hg; have GE150 := gs HB hg; replace HB := bs HB hb; have NB149_150 := nl BK149 hg; have NB150_149 := ng BK149 hg; replace BK149 := bb BK149 hb; clear hb hbox hg; have hnb51 := NB149_150.out; have hnc51 := NB150_149.out; obtain ⟨_,_,_,_,_,_,_,_,_,_⟩ := cz5 BK149.out; obtain ⟨_,_,_,_,_,_,_,_,_,_⟩ := cz5 BK150.out))
   go_ret
   exact ⟨er, b_w HB⟩
 rw [if_pos c37] at H
 have c37b0 := beq_iff_eq.mpr c37
 have c37b1 := bne_eq_false_iff_eq.mpr c37
 clear c37
 by_cases c38 : a0_3 = a3
 rotate_left
 · rw [if_neg c38] at H
   have c38b0 := beq_eq_false_iff_ne.mpr c38
   have c38b1 := bne_iff_ne.mpr c38
   obtain rfl := Option.some.inj H
   go_enter Try.func90, Try.ntmps90
   go_wp2_with (first | ((with_reducible refine gate_dst (N := 4) rfl ?_); (try (refine gate_guard (by rfl) ?_; dsimp only)); refine bx 4 #[.int .u64 a0_0, .int .u64 a0_1, .int .i64 a0_2, .int .i64 a0_3, .slice A0_4 l0_4.length c0_4] 106 ?_; intro gb149 hg w44 hbox hb; have BK149 := Aside0.mk (hbox); have GW149 := gs HB hg; have GE149 := gs HB hg; replace HB := bs HB hb; clear hb hbox hg) | ((with_reducible refine gate_dst (N := 5) rfl ?_); (try (refine gate_guard (by rfl) ?_; dsimp only)); refine bx 5 #[.int .u64 a1_0, .int .u64 a1_1, .int .i64 a1_2, .int .i64 a1_3, .slice A1_4 l1_4.length c1_4] 106 ?_; intro gb150 hg w45 hbox hb; have BK150 := Aside0.mk (hbox); have GW150 := gs HB hg; have GE150 := gs HB hg; replace HB := bs HB hb; have NB149_150 := nl BK149 hg; have NB150_149 := ng BK149 hg; replace BK149 := bb BK149 hb; clear hb hbox hg; have hnb46 := NB149_150.out; have hnc46 := NB150_149.out; obtain ⟨_,_,_,_,_,_,_,_,_,_⟩ := cz5 BK149.out; obtain ⟨_,_,_,_,_,_,_,_,_,_⟩ := cz5 BK150.out))
   go_ret
   exact ⟨er, b_w HB⟩
 rw [if_pos c38] at H
 have c38b0 := beq_iff_eq.mpr c38
 have c38b1 := bne_eq_false_iff_eq.mpr c38
 clear c38
 obtain rfl := Option.some.inj H
 go_enter Try.func90, Try.ntmps90
 go_wp2_with (first | ((with_reducible refine gate_dst (N := 4) rfl ?_); (try (refine gate_guard (by rfl) ?_; dsimp only)); refine bx 4 #[.int .u64 a0_0, .int .u64 a0_1, .int .i64 a0_2, .int .i64 a0_3, .slice A0_4 l0_4.length c0_4] 106 ?_; intro gb149 hg w39 hbox hb; have BK149 := Aside0.mk (hbox); have GW149 := gs HB hg; have GE149 := gs HB hg; replace HB := bs HB hb; clear hb hbox hg) | ((with_reducible refine gate_dst (N := 5) rfl ?_); (try (refine gate_guard (by rfl) ?_; dsimp only)); refine bx 5 #[.int .u64 a1_0, .int .u64 a1_1, .int .i64 a1_2, .int .i64 a1_3, .slice A1_4 l1_4.length c1_4] 106 ?_; intro gb150 hg w40 hbox hb; have BK150 := Aside0.mk (hbox); have GW150 := gs HB hg; have GE150 := gs HB hg; replace HB := bs HB hb; have NB149_150 := nl BK149 hg; have NB150_149 := ng BK149 hg; replace BK149 := bb BK149 hb; clear hb hbox hg; have hnb41 := NB149_150.out; have hnc41 := NB150_149.out; obtain ⟨_,_,_,_,_,_,_,_,_,_⟩ := cz5 BK149.out; obtain ⟨_,_,_,_,_,_,_,_,_,_⟩ := cz5 BK150.out))
 go_ret
 exact ⟨er, b_w HB⟩
end Go.Proofs.Ytepipgneefcoiaa.D
