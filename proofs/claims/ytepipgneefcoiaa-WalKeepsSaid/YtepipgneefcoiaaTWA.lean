/- The functions of the program that these laws reach, each as a plain Lean function, and the proof that the machine's call comes to it; no condition beyond those that each theorem names. Made by wip/xprint.py. -/
import Derived.Test.YtepipgneefcoiaaDf15
import Derived.Test.YtepipgneefcoiaaDx0
namespace Go.Proofs.Ytepipgneefcoiaa.D
open Go.RowKit Go.Proofs.YtepipgneefcoiaaW.PrintWords Go.Proofs.YtepipgneefcoiaaW.PrintLast Go.Proofs.YtepipgneefcoiaaW.PrintMore
attribute [local go_sem] max2_int min2_int max_two min_two max_three min_three max_four min_four
set_option linter.unusedVariables false
set_option linter.unusedSimpArgs false
/- A disk, wherever it lies, away from blocks that are protected. -/
def JO (w0 w : World) (p : Nat) (s : Dk) (O : Nat → Prop) : Prop := ∃ a b v, dm w0.heap.size w p a b v s ∧ Below w0.heap.size w0 w ∧ ∀ k, O k → k < w.heap.size ∧ ¬ dS p a b v k
def kO (O : Nat → Prop) (w w' : World) : Prop := w.heap.size ≤ w'.heap.size ∧ ∀ k, O k → w'.heap[k]? = w.heap[k]?
theorem kO_refl (O : Nat → Prop) (w : World) : kO O w w := ⟨Nat.le_refl _, fun _ _ => rfl⟩
theorem kO_trans {O : Nat → Prop} {w w1 w2 : World} (h : kO O w w1) (k : kO O w1 w2) : kO O w w2 := ⟨Nat.le_trans h.1 k.1, fun i hi => (k.2 i hi).trans (h.2 i hi)⟩
theorem kO_mono {O O' : Nat → Prop} {w w' : World} (h : kO O w w') (ho : ∀ k, O' k → O k) : kO O' w w' := ⟨h.1, fun k hk => h.2 k (ho k hk)⟩
theorem JO_J {w0 w : World} {p : Nat} {s : Dk} {O : Nat → Prop} (h : JO w0 w p s O) : J w0 w p s := by obtain ⟨a, b, v, h1, h2, _⟩ := h; exact ⟨a, b, v, h1, h2⟩
theorem J_JO {w0 w : World} {p : Nat} {s : Dk} (h : J w0 w p s) : JO w0 w p s (fun _ => False) := by obtain ⟨a, b, v, h1, h2⟩ := h; exact ⟨a, b, v, h1, h2, fun _ hk => hk.elim⟩
theorem JO_below {w0 w : World} {p : Nat} {s : Dk} {O : Nat → Prop} (h : JO w0 w p s O) : Below w0.heap.size w0 w := J_below (JO_J h)
theorem JO_O {w0 w : World} {p : Nat} {s : Dk} {O : Nat → Prop} (h : JO w0 w p s O) {k : Nat} (hk : O k) : k < w.heap.size := by obtain ⟨a, b, v, _, _, h⟩ := h; exact (h k hk).1
theorem JO_mono {w0 w : World} {p : Nat} {s : Dk} {O O' : Nat → Prop} (h : JO w0 w p s O) (ho : ∀ k, O' k → O k) : JO w0 w p s O' := by
  obtain ⟨a, b, v, h1, h2, h3⟩ := h
  exact ⟨a, b, v, h1, h2, fun k hk => h3 k (ho k hk)⟩
theorem dS_lt {base p n f : Nat} {w : World} {vP : Value} {s : Dk} (h : dm base w p n f vP s) {k : Nat} (hk : dS p n f vP k) : k < w.heap.size := by
  rcases hk with e | e | e | e
  · rw [e]; exact blk_lt h.box
  · rw [e]; exact blk_lt h.now
  · rw [e]; exact blk_lt h.safe
  · obtain ⟨cc, hc⟩ := Kd.R_typed h.pend k e.symm; exact blk_lt hc
theorem JO_deep {w0 w w' : World} {p : Nat} {s : Dk} {O : Nat → Prop} (h : JO w0 w p s O) (b : Below w.heap.size w w') : JO w0 w' p s (fun k => O k ∨ (w.heap.size ≤ k ∧ k < w'.heap.size)) := by
  obtain ⟨a, b', v, h1, h2, h3⟩ := h
  refine ⟨a, b', v, dm_below h1 b, below_step h2 b, fun k hk => ?_⟩
  rcases hk with hk | hk
  · exact ⟨Nat.lt_of_lt_of_le (h3 k hk).1 b.size, (h3 k hk).2⟩
  · exact ⟨hk.2, fun e => by have := dS_lt h1 e; omega⟩
theorem JO_step {w0 w w' : World} {p : Nat} {s : Dk} {O : Nat → Prop} (h : JO w0 w p s O) (b : Below w.heap.size w w') : JO w0 w' p s O := JO_mono (JO_deep h b) (fun _ hk => .inl hk)
theorem kO_below {w0 w w' : World} {p : Nat} {s : Dk} {O : Nat → Prop} (h : JO w0 w p s O) (b : Below w.heap.size w w') : kO O w w' := ⟨b.size, fun k hk => b.block k (JO_O h hk)⟩
theorem JO_write {w0 w : World} {p g j : Nat} {s : Dk} {O : Nat → Prop} (h : JO w0 w p s O) (hO : O g) (hg : w0.heap.size ≤ g) (u : Value) : JO w0 (w.setCell ⟨g, j, none⟩ u) p s O := by
  obtain ⟨a, b, v, h1, h2, h3⟩ := h
  have hn := (h3 g hO).2
  have far : ∀ k, k ≠ g → (w.setCell ⟨g, j, none⟩ u).heap[k]? = w.heap[k]? := fun k hk => Below.heap_setCell w ⟨g, j, none⟩ u k hk
  refine ⟨a, b, v, ⟨(far p (fun e => hn (.inl e.symm))).trans h1.box, (far a (fun e => hn (.inr (.inl e.symm)))).trans h1.now, (far b (fun e => hn (.inr (.inr (.inl e.symm))))).trans h1.safe, Kd.R_mono (Kd.R_move (Kd.R_tight rfl h1.pend) (fun k hk => far k (fun e => hn (by rw [← e]; exact .inr (.inr (.inr hk)))))) (fun _ _ => trivial), h1.ne, h1.hp, h1.hn, h1.hf, h1.ok⟩, below_set h2 hg, fun k hk => ⟨by simpa using (h3 k hk).1, (h3 k hk).2⟩⟩
theorem JO_act {w0 w w' : World} {p a b : Nat} {v v' : Value} {s s' : Dk} {O : Nat → Prop} {S : Nat → Prop} (h : dm w0.heap.size w p a b v s) (hB : Below w0.heap.size w0 w) (hO : ∀ k, O k → k < w.heap.size ∧ ¬ dS p a b v k) (h' : dm w0.heap.size w' p a b v' s') (hn : newer w v v') (hk : skp S w w') (hS : ∀ i, S i → dS p a b v i) : JO w0 w' p s' O ∧ kO O w w' := by
  refine ⟨⟨a, b, v', h', skp_below hB hk (fun i e => dS_base h i (hS i e)), fun k hkk => ⟨Nat.lt_of_lt_of_le (hO k hkk).1 hk.2.2.2.1, fun e => ?_⟩⟩, hk.2.2.2.1, fun k hkk => hk.2.2.2.2 k (hO k hkk).1 (fun e => (hO k hkk).2 (hS k e))⟩
  rcases e with e | e | e | e
  · exact (hO k hkk).2 (.inl e)
  · exact (hO k hkk).2 (.inr (.inl e))
  · exact (hO k hkk).2 (.inr (.inr (.inl e)))
  · have h1 := (hO k hkk).1
    have h2 := (hO k hkk).2
    unfold newer at hn
    rcases hn with hn | hn | ⟨q, hq, hl⟩
    · rw [hn] at e; cases e
    · exact h2 (.inr (.inr (.inr (e.trans hn))))
    · have : some k = some q := e.trans hq
      injection this with this
      omega
theorem newer_refl (w : World) (v : Value) : newer w v v := .inr (.inl rfl)
theorem JO_Read {w0 w : World} {p : Nat} {s : Dk} {O : Nat → Prop} (h : JO w0 w p s O) (i : Int) (l : List Int) (e' : Int) (hx : rdx s i = (l, e')) :
    Calls Try.prog 16 #[.pointer (some ⟨p, 0, none⟩), .int .i64 i] w fun e w' => ∃ v, e = .returned (.tuple #[v, .int .i64 e']) ∧ frs w w' v l ∧ Below w.heap.size w w' := by
  refine (J_Read (JO_J h) i l e' hx).mono ?_
  rintro e w' ⟨v, rfl, hf, _, hb⟩
  exact ⟨v, rfl, hf, hb⟩
theorem JO_Blocks {w0 w : World} {p : Nat} {s : Dk} {O : Nat → Prop} (h : JO w0 w p s O) : Calls Try.prog 17 #[.pointer (some ⟨p, 0, none⟩)] w fun e w' => e = .returned (.int .i64 (s.nb : Int)) ∧ Below w.heap.size w w' := by
  refine (J_Blocks (JO_J h)).mono ?_
  rintro e w' ⟨rfl, _, hb⟩
  exact ⟨rfl, hb⟩
theorem JO_Write {w0 w : World} {p : Nat} {s : Dk} {O : Nat → Prop} (h : JO w0 w p s O) (hl : s.pend.length ≤ 100000) (i : Int) (A : Option Addr) (c : Nat) (b : List Int) (hb : b.length = 256) (hc : 256 ≤ c) (hR : ∀ W, kO O w W → Kd.C (Kd.int .u8) W A 256 b) (s' : Dk) (e' : Int) (hx : wrx s i b = (s', e')) :
    Calls Try.prog 22 #[.pointer (some ⟨p, 0, none⟩), .int .i64 i, .slice A 256 c] w fun e w' => e = .returned (.int .i64 e') ∧ JO w0 w' p s' O ∧ kO O w w' := by
  obtain ⟨a, b', v, h1, h2, h3⟩ := id h
  unfold wrx at hx
  by_cases c0 : hasB s i = true
  · rw [if_pos ⟨c0, hb⟩] at hx
    obtain ⟨k, rfl, hk⟩ := hasB_nat c0
    obtain ⟨⟨s1, d⟩, hp⟩ : ∃ q, q = pwx s := ⟨_, rfl⟩
    rw [← hp] at hx
    cases d with
    | true =>
      rw [if_pos rfl] at hx
      injection hx with e1 e2
      subst e1 e2
      refine (dk_Write h1 h2.size k hk A c b hb hp.symm hl hc (fun W hW => hR W ⟨hW.2.2.2.1, fun k hkk => hW.2.2.2.2 k (h3 k hkk).1 (h3 k hkk).2⟩)).mono ?_
      rintro e w' ⟨rfl, v', hd, hn, hk2⟩
      rw [Int.toNat_natCast]
      exact ⟨rfl, JO_act h1 h2 h3 hd hn hk2 (fun i e => e)⟩
    | false =>
      rw [if_neg (by simp)] at hx
      injection hx with e1 e2
      subst e1 e2
      refine (dk_WriteDown h1 (k : Int) A c c0 hp.symm).mono ?_
      rintro e w' ⟨rfl, hd, hk2⟩
      exact ⟨rfl, JO_act h1 h2 h3 hd (newer_refl w v) hk2 (fun i e => .inl e)⟩
  · rw [if_neg (fun hh => c0 hh.1)] at hx
    injection hx with e1 e2
    subst e1 e2
    refine (dk_WriteArg h1 i A 256 c (.inl (by simpa using c0))).mono ?_
    rintro e w' ⟨rfl, hd⟩
    exact ⟨rfl, JO_step h (drawn_below hd), kO_below h (drawn_below hd)⟩
theorem JO_Flush {w0 w : World} {p : Nat} {s : Dk} {O : Nat → Prop} (h : JO w0 w p s O) (hl : s.pend.length ≤ 100000) (s' : Dk) (e' : Int) (hx : flx s = (s', e')) :
    Calls Try.prog 24 #[.pointer (some ⟨p, 0, none⟩)] w fun e w' => e = .returned (.int .i64 e') ∧ JO w0 w' p s' O ∧ kO O w w' := by
  obtain ⟨a, b, v, h1, h2, h3⟩ := id h
  refine (dk_Flush h1 h2.size hl s' e' hx).mono ?_
  rintro e w' ⟨rfl, v', hd, hn, hk⟩
  exact ⟨rfl, JO_act h1 h2 h3 hd hn hk (fun i e => e)⟩
theorem JO_Fuse {w0 w : World} {p : Nat} {s : Dk} {O : Nat → Prop} (h : JO w0 w p s O) (k : Int) :
    Calls Try.prog 26 #[.pointer (some ⟨p, 0, none⟩), .int .i64 k] w fun e w' => e = .returned (.tuple #[]) ∧ JO w0 w' p (fzx s k) O ∧ kO O w w' := by
  obtain ⟨a, b, v, h1, h2, h3⟩ := id h
  refine (dk_Fuse h1 k).mono ?_
  rintro e w' ⟨rfl, hd, hk⟩
  exact ⟨rfl, JO_act h1 h2 h3 hd (newer_refl w v) hk (fun i e => .inl e)⟩
theorem JO_Crash {w0 w : World} {p : Nat} {s : Dk} {O : Nat → Prop} (h : JO w0 w p s O) (hl : s.pend.length ≤ 100000) (A : Option Addr) (c : Nat) (keep : List Bool) (hk : ∀ W, Below w0.heap.size w0 W → Kd.C Kd.bool W A keep.length keep) :
    Calls Try.prog 21 #[.pointer (some ⟨p, 0, none⟩), .slice A keep.length c] w fun e w' => e = .returned (.tuple #[]) ∧ JO w0 w' p (crx s keep) O ∧ kO O w w' := by
  obtain ⟨a, b, v, h1, h2, h3⟩ := id h
  refine (dk_Crash h1 h2.size hl A c keep (fun W hW => hk W (skp_below h2 hW (fun i e => dS_base h1 i e)))).mono ?_
  rintro e w' ⟨rfl, hd, hk⟩
  exact ⟨rfl, JO_act h1 h2 h3 hd (.inl rfl) hk (fun i e => e)⟩
theorem JO_Dump {w0 w : World} {p : Nat} {s : Dk} {O : Nat → Prop} (h : JO w0 w p s O) :
    Calls Try.prog 27 #[.pointer (some ⟨p, 0, none⟩)] w fun e w' => ∃ v, e = .returned v ∧ Kd.R (Kd.int .u8) 5 w' w.heap.size (fun _ => True) v s.now ∧ Below w.heap.size w w' := by
  refine (J_Dump (JO_J h)).mono ?_
  rintro e w' ⟨v, rfl, hR, _, hb⟩
  exact ⟨v, rfl, hR, hb⟩
/- A log's state, and the log in memory beside its disk. -/
structure Wl where
  fi : Nat
  si : Nat
  ep : Int
  li : Int
  en : Nat
  rs : List (List Int)
  br : Bool
  X : Nat → Prop
def kL : Kd (List Int) := Kd.slice 5 (Kd.int .u8)
def lgc (q : Nat) (l : Wl) (v : Value) : Array Value := #[.pointer (some ⟨q, 0, none⟩), .int .i64 (l.fi : Int), .int .i64 (l.si : Int), .int .u64 l.ep, .int .u64 l.li, .int .i64 (l.en : Int), v, .bool l.br]
structure LX (w0 : World) (p q : Nat) (l : Wl) (s : Dk) (A : Option Addr) (n c : Nat) (O OV : Nat → Prop) (w : World) : Prop where
  d : JO w0 w q s O
  box : w.heap[p]? = some (.cells (lgc q l (.slice A n c)) 115 (0, 0))
  op : O p
  lp : w0.heap.size ≤ p
  ov : ∀ k, OV k → O k ∧ k ≠ p ∧ ¬ l.X k
  v : Kd.V kL 27 w 0 OV (.slice A n c) l.rs
  hn : n = l.rs.length
  xo : ∀ k, l.X k → O k
def LG (w0 : World) (p q : Nat) (l : Wl) (s : Dk) (O : Nat → Prop) (w : World) : Prop := ∃ A n c OV, LX w0 p q l s A n c O OV w
section
variable {w0 w w' : World} {p q n c : Nat} {l l' : Wl} {s s' : Dk} {A : Option Addr} {O OV O' : Nat → Prop}
theorem LX_cells (h : LX w0 p q l s A n c O OV w) : w.cell? ⟨p, 0, none⟩ = some (.pointer (some ⟨q, 0, none⟩)) ∧ w.cell? ⟨p, 1, none⟩ = some (.int .i64 (l.fi : Int)) ∧ w.cell? ⟨p, 2, none⟩ = some (.int .i64 (l.si : Int)) ∧ w.cell? ⟨p, 3, none⟩ = some (.int .u64 l.ep) ∧ w.cell? ⟨p, 4, none⟩ = some (.int .u64 l.li) ∧ w.cell? ⟨p, 5, none⟩ = some (.int .i64 (l.en : Int)) ∧ w.cell? ⟨p, 6, none⟩ = some (.slice A n c) ∧ w.cell? ⟨p, 7, none⟩ = some (.bool l.br) :=
  ⟨(blk_cell h.box 0).trans rfl, (blk_cell h.box 1).trans rfl, (blk_cell h.box 2).trans rfl, (blk_cell h.box 3).trans rfl, (blk_cell h.box 4).trans rfl, (blk_cell h.box 5).trans rfl, (blk_cell h.box 6).trans rfl, (blk_cell h.box 7).trans rfl⟩
theorem LX_act (h : LX w0 p q l s A n c O OV w) (hj : JO w0 w' q s' O) (hk : kO O w w') : LX w0 p q l s' A n c O OV w' :=
  ⟨hj, (hk.2 p h.op).trans h.box, h.op, h.lp, h.ov, Kd.V_step h.v (fun k hk2 _ => hk.2 k (h.ov k hk2).1), h.hn, h.xo⟩
theorem LX_step (h : LX w0 p q l s A n c O OV w) (hb : Below w.heap.size w w') : LX w0 p q l s A n c O OV w' := LX_act h (JO_step h.d hb) (kO_below h.d hb)
theorem LX_deep (h : LX w0 p q l s A n c O OV w) (hb : Below w.heap.size w w') : LX w0 p q l s A n c (fun k => O k ∨ (w.heap.size ≤ k ∧ k < w'.heap.size)) OV w' := by
  have h1 := LX_step h hb
  exact ⟨JO_deep h.d hb, h1.box, .inl h.op, h.lp, fun k hk => ⟨.inl (h.ov k hk).1, (h.ov k hk).2⟩, h1.v, h.hn, fun k hk => .inl (h.xo k hk)⟩
theorem LX_mono (h : LX w0 p q l s A n c O OV w) (ho : ∀ k, O' k → O k) (hp : O' p) (hv : ∀ k, OV k → O' k) (hx : ∀ k, l.X k → O' k) : LX w0 p q l s A n c O' OV w := ⟨JO_mono h.d ho, h.box, hp, h.lp, fun k hk => ⟨hv k hk, (h.ov k hk).2⟩, h.v, h.hn, hx⟩
/- A number of the log is written. -/
theorem LX_set (h : LX w0 p q l s A n c O OV w) (j : Nat) (u : Value) (hl : (lgc q l (.slice A n c)).setIfInBounds j u = lgc q l' (.slice A n c)) (hr : l'.rs = l.rs) (hx : l'.X = l.X := by rfl) : LX w0 p q l' s A n c O OV (w.setCell ⟨p, j, none⟩ u) :=
  ⟨JO_write h.d h.op h.lp u, blk_put h.box j u hl, h.op, h.lp, by rw [hx]; exact h.ov, by rw [hr]; exact Kd.V_step h.v (fun k hk _ => Below.heap_setCell w ⟨p, j, none⟩ u k (h.ov k hk).2.1), by rw [hr]; exact h.hn, by rw [hx]; exact h.xo⟩
theorem LX_below (h : LX w0 p q l s A n c O OV w) : Below w0.heap.size w0 w := JO_below h.d
theorem LG_step (h : LG w0 p q l s O w) (hb : Below w.heap.size w w') : LG w0 p q l s O w' := by
  obtain ⟨A, n, c, OV, h⟩ := h
  exact ⟨A, n, c, OV, LX_step h hb⟩
theorem LG_act (h : LG w0 p q l s O w) (hj : JO w0 w' q s' O) (hk : kO O w w') : LG w0 p q l s' O w' := by
  obtain ⟨A, n, c, OV, h⟩ := h
  exact ⟨A, n, c, OV, LX_act h hj hk⟩
theorem LG_d (h : LG w0 p q l s O w) : JO w0 w q s O := by
  obtain ⟨A, n, c, OV, h⟩ := h
  exact h.d
theorem LG_below (h : LG w0 p q l s O w) : Below w0.heap.size w0 w := JO_below (LG_d h)
theorem L_Life (h : LG w0 p q l s O w) : Calls Try.prog 42 #[.pointer (some ⟨p, 0, none⟩)] w fun e w' => e = .returned (.int .u64 l.li) ∧ w = w' := by
  obtain ⟨A, n, c, OV, h⟩ := h
  obtain ⟨y0, y1, y2, y3, y4, y5, y6, y7⟩ := LX_cells h
  clear h y0 y1 y2 y3 y5 y6 y7
  go_enter Try.func42, Try.ntmps42
  go_wp2
  go_ret
  exact ⟨rfl, rfl⟩
theorem L_Epoch (h : LG w0 p q l s O w) : Calls Try.prog 43 #[.pointer (some ⟨p, 0, none⟩)] w fun e w' => e = .returned (.int .u64 l.ep) ∧ w = w' := by
  obtain ⟨A, n, c, OV, h⟩ := h
  obtain ⟨y0, y1, y2, y3, y4, y5, y6, y7⟩ := LX_cells h
  clear h y0 y1 y2 y4 y5 y6 y7
  go_enter Try.func43, Try.ntmps43
  go_wp2
  go_ret
  exact ⟨rfl, rfl⟩
theorem LG_X (h : LG w0 p q l s O w) (X' : Nat → Prop) (h1 : ∀ k, X' k → l.X k ∨ ¬ O k) (h2 : ∀ k, X' k → O' k) (h3 : ∀ k, O k → O' k) (hj : JO w0 w q s O') : LG w0 p q {l with X := X'} s O' w := by
  obtain ⟨A, n, c, OV, h⟩ := h
  exact ⟨A, n, c, OV, hj, h.box, h3 p h.op, h.lp, fun k hk => ⟨h3 k (h.ov k hk).1, (h.ov k hk).2.1, fun hx => (h1 k hx).elim (h.ov k hk).2.2 (fun hn => hn (h.ov k hk).1)⟩, h.v, h.hn, h2⟩
/- A block that the log's own rows stay away from is written. -/
theorem LG_out (h : LG w0 p q l s O w) {g : Nat} (hg : l.X g) (hp : g ≠ p) (hw : ∀ k, k ≠ g → w'.heap[k]? = w.heap[k]?) (hj : JO w0 w' q s O) : LG w0 p q l s O w' := by
  obtain ⟨A, n, c, OV, h⟩ := h
  exact ⟨A, n, c, OV, hj, (hw p (Ne.symm hp)).trans h.box, h.op, h.lp, h.ov, Kd.V_step h.v (fun k hk _ => hw k (fun e => (h.ov k hk).2.2 (by rw [e]; exact hg))), h.hn, h.xo⟩
/- What Sync and Reset make of a log. -/
def syx (l : Wl) (s : Dk) : Wl × Dk × Int := if l.br = true then (l, s, 9) else ({l with br := (flx s).2 != 0}, (flx s).1, (flx s).2)
def rex (l : Wl) (e : Int) : Wl × Int := if l.br = true then (l, 9) else if e ≤ l.ep then (l, 1) else ({l with ep := e, en := 0, rs := []}, 0)
theorem L_Sync (h : LG w0 p q l s O w) (hl : s.pend.length ≤ 100000) (l' : Wl) (s' : Dk) (r : Int) (hx : syx l s = (l', s', r)) : Calls Try.prog 46 #[.pointer (some ⟨p, 0, none⟩)] w fun e w' => e = .returned (.int .i64 r) ∧ LG w0 p q l' s' O w' ∧ ∀ k, O k → k ≠ p → w'.heap[k]? = w.heap[k]? := by
  obtain ⟨A, n, c, OV, h⟩ := h
  obtain ⟨y0, y1, y2, y3, y4, y5, y6, y7⟩ := LX_cells h
  unfold syx at hx
  obtain ⟨b, hb⟩ : ∃ b, b = l.br := ⟨_, rfl⟩
  rw [← hb] at hx y7
  cases b with
  | true =>
    rw [if_pos rfl] at hx
    have H := Aside0.mk h
    have HX := Aside0.mk hx
    clear h hx hb y0 y1 y2 y3 y4 y5 y6
    go_enter Try.func46, Try.ntmps46
    go_wp2
    go_ret
    have hx := HX.out
    injection hx with e1 e2
    injection e2 with e2 e3
    subst e1 e2 e3
    exact ⟨rfl, ⟨A, n, c, OV, H.out⟩, fun _ _ _ => rfl⟩
  | false =>
    rw [if_neg (by decide)] at hx
    injection hx with e1 e2
    injection e2 with e2 e3
    subst e1
    obtain ⟨⟨s2, r2⟩, hf⟩ : ∃ x, flx s = x := ⟨_, rfl⟩
    rw [hf] at e2 e3
    dsimp only at e2 e3
    subst e2 e3
    have H := Aside0.mk h
    have HF := Aside0.mk hf
    have HL := Aside0.mk hl
    have HB := Aside0.mk hb
    rw [hf]
    clear h hf hb hl y1 y2 y3 y4 y5 y6
    go_enter Try.func46, Try.ntmps46
    go_upto_region 6 with (go_at_call 24; refine (JO_Flush H.out.d HL.out s2 r2 HF.out).mono ?_; rintro e w1 ⟨rfl, hj, hk⟩; have X1 := Aside0.mk (LX_act H.out hj hk); have K1 := Aside0.mk hk; clear hj hk y0 y7)
    obtain ⟨y0, y1, y2, y3, y4, y5, y6, y7⟩ := LX_cells X1.out
    have fz := blk_frozen X1.out.box 7
    clear y0 y1 y2 y3 y4 y5 y6
    go_wp2
    go_ret
    refine ⟨rfl, ⟨A, n, c, OV, LX_set X1.out 7 (.bool (r2 != 0)) rfl rfl⟩, fun k hk hkp => (Below.heap_setCell w1 ⟨p, 7, none⟩ _ k hkp).trans (K1.out.2 k hk)⟩
end
section
variable {w0 w w' : World} {p q n c : Nat} {l l' : Wl} {s s' : Dk} {A : Option Addr} {O OV O' : Nat → Prop}
theorem L_Reset (h : LG w0 p q l s O w) (e : Int) (l' : Wl) (r : Int) (hx : rex l e = (l', r)) : Calls Try.prog 47 #[.pointer (some ⟨p, 0, none⟩), .int .u64 e] w fun e w' => e = .returned (.int .i64 r) ∧ LG w0 p q l' s O w' ∧ ∀ k, O k → k ≠ p → w'.heap[k]? = w.heap[k]? := by
  obtain ⟨A, n, c, OV, h⟩ := h
  obtain ⟨y0, y1, y2, y3, y4, y5, y6, y7⟩ := LX_cells h
  unfold rex at hx
  obtain ⟨b, hb⟩ : ∃ b, b = l.br := ⟨_, rfl⟩
  rw [← hb] at hx y7
  cases b with
  | true =>
    rw [if_pos rfl] at hx
    have H := Aside0.mk h
    have HX := Aside0.mk hx
    clear h hx hb y0 y1 y2 y3 y4 y5 y6
    go_enter Try.func47, Try.ntmps47
    go_wp2
    go_ret
    have hx := HX.out
    injection hx with e1 e2
    subst e1 e2
    exact ⟨rfl, ⟨A, n, c, OV, H.out⟩, fun _ _ _ => rfl⟩
  | false =>
    rw [if_neg (by decide)] at hx
    obtain ⟨ep, hep⟩ : ∃ ep, ep = l.ep := ⟨_, rfl⟩
    rw [← hep] at hx y3
    by_cases d : e ≤ ep
    · rw [if_pos d] at hx
      have db : decide (e ≤ ep) = true := decide_eq_true d
      have H := Aside0.mk h
      have HX := Aside0.mk hx
      clear h hx hb hep y0 y1 y2 y4 y5 y6 d
      go_enter Try.func47, Try.ntmps47
      go_wp2
      go_ret
      have hx := HX.out
      injection hx with e1 e2
      subst e1 e2
      exact ⟨rfl, ⟨A, n, c, OV, H.out⟩, fun _ _ _ => rfl⟩
    · rw [if_neg d] at hx
      have db : decide (e ≤ ep) = false := decide_eq_false d
      have H := Aside0.mk h
      have HX := Aside0.mk hx
      have HB := Aside0.mk hb
      have fz := fun i => blk_frozen h.box i
      obtain ⟨w1, hw1⟩ : ∃ w1, w1 = ((w.setCell ⟨p, 3, none⟩ (.int .u64 e)).setCell ⟨p, 5, none⟩ (.int .i64 0)).setCell ⟨p, 6, none⟩ (.slice none 0 0) := ⟨_, rfl⟩
      have W1 := Aside0.mk hw1
      clear h hx hb hep d hw1
      go_enter Try.func47, Try.ntmps47
      go_wp2
      go_ret
      have hx := HX.out
      injection hx with e1 e2
      subst e1 e2
      have far : ∀ k, k ≠ p → (((w.setCell ⟨p, 3, none⟩ (.int .u64 e)).setCell ⟨p, 5, none⟩ (.int .i64 0)).setCell ⟨p, 6, none⟩ (.slice none 0 0)).heap[k]? = w.heap[k]? := fun k hk => (Below.heap_setCell _ ⟨p, 6, none⟩ _ k hk).trans ((Below.heap_setCell _ ⟨p, 5, none⟩ _ k hk).trans (Below.heap_setCell w ⟨p, 3, none⟩ _ k hk))
      refine ⟨rfl, ⟨none, 0, 0, fun _ => False, JO_write (JO_write (JO_write H.out.d H.out.op H.out.lp _) H.out.op H.out.lp _) H.out.op H.out.lp _, ?_, H.out.op, H.out.lp, fun _ hk => hk.elim, Kd.V_mk (Nat.le_refl _) (Kd.F_nil _ _ _), rfl, H.out.xo⟩, fun k _ hkp => far k hkp⟩
      exact blk_put (blk_put (blk_put H.out.box 3 _ rfl) 5 _ rfl) 6 _ (by unfold lgc; rw [← HB.out]; rfl)
def rmx (l : Wl) : Int := if l.br = true then 0 else mn (((l.si : Int) * 4 - (l.en : Int)) * 39) 6000
theorem L_Room (h : LG w0 p q l s O w) (hs : l.si ≤ 4096) (he : l.en ≤ l.si * 4) (r : Int) (hr : rmx l = r) : Calls Try.prog 40 #[.pointer (some ⟨p, 0, none⟩)] w fun e w' => e = .returned (.int .i64 r) ∧ Below w.heap.size w w' := by
  obtain ⟨A, n, c, OV, h⟩ := h
  obtain ⟨y0, y1, y2, y3, y4, y5, y6, y7⟩ := LX_cells h
  unfold rmx at hr
  obtain ⟨b, hb⟩ : ∃ b, b = l.br := ⟨_, rfl⟩
  rw [← hb] at hr y7
  cases b with
  | true =>
    rw [if_pos rfl] at hr
    subst hr
    clear h hb y0 y1 y2 y3 y4 y5 y6 hs he
    go_enter Try.func40, Try.ntmps40
    go_wp2
    go_ret
    exact ⟨rfl, Below.refl _ _⟩
  | false =>
    rw [if_neg (by decide)] at hr
    obtain ⟨si, hsi⟩ : ∃ si, si = l.si := ⟨_, rfl⟩
    obtain ⟨en, hen⟩ : ∃ en, en = l.en := ⟨_, rfl⟩
    rw [← hsi] at hr y2 hs he
    rw [← hen] at hr y5 he
    have HR := Aside0.mk hr
    have f1 : wrap64 ((si : Int) * 4) = (si : Int) * 4 := by unfold wrap64; omega
    have f2 : wrap64 ((si : Int) * 4 - (en : Int)) = (si : Int) * 4 - (en : Int) := by unfold wrap64; omega
    have f3 : wrap64 (((si : Int) * 4 - (en : Int)) * 39) = ((si : Int) * 4 - (en : Int)) * 39 := by unfold wrap64; omega
    clear h hb hsi hen hr hs he y0 y1 y3 y4 y6
    go_enter Try.func40, Try.ntmps40
    go_upto_region 3 with (fail)
    refine start_ (n := 13) (S := fun w' => w'.cell? ⟨p, 2, none⟩ = some (.int .i64 (si : Int)) ∧ w'.cell? ⟨p, 5, none⟩ = some (.int .i64 (en : Int))) (ds := []) #[false, false, false, false, false, false, false, false, false, false, false, false, false] (by kernel_rfl) rfl rfl ⟨y2, y5⟩ (fun hHeld => ?_)
    refine pure_ (i := 0) (N := some 11) (v := ?_) (a' := ?_) #[true, false, false, false, false, false, false, false, false, false, false, false, false] rfl rfl (by kernel_rfl) (fun _ _ _ h => h) (Or.inl ⟨by rfl, ?_⟩) ?_ ?_
    rotate_left
    · intro w'
      go_simp
      with_reducible rfl
    rotate_left
    · simp only [Act.put, List.setIfInBounds_toArray, List.set_cons_zero, List.set_cons_succ, i64_w, i32_w]
      rfl
    refine pure_ (i := 1) (N := some 12) (v := ?_) (a' := ?_) #[true, true, false, false, false, false, false, false, false, false, false, false, false] rfl rfl (by kernel_rfl) (fun _ _ _ h => h) (Or.inl ⟨by rfl, ?_⟩) ?_ ?_
    rotate_left
    · intro w'
      go_simp
      with_reducible rfl
    rotate_left
    · simp only [Act.put, List.setIfInBounds_toArray, List.set_cons_zero, List.set_cons_succ, i64_w, i32_w]
      rfl
    refine pure_ (i := 2) (N := some 13) (v := ?_) (a' := ?_) #[true, true, true, false, false, false, false, false, false, false, false, false, false] rfl rfl (by kernel_rfl) (fun _ _ _ h => h) (Or.inl ⟨by rfl, ?_⟩) ?_ ?_
    rotate_left
    · intro w'
      go_simp
      with_reducible rfl
    rotate_left
    · simp only [Act.put, List.setIfInBounds_toArray, List.set_cons_zero, List.set_cons_succ, i64_w, i32_w]
      rfl
    refine pure_ (i := 5) (N := some 16) (v := ?_) (a' := ?_) #[true, true, true, false, false, true, false, false, false, false, false, false, false] rfl rfl (by kernel_rfl) (fun _ _ _ h => h) (Or.inl ⟨by rfl, ?_⟩) ?_ ?_
    rotate_left
    · intro w'
      go_simp
      with_reducible rfl
    rotate_left
    · simp only [Act.put, List.setIfInBounds_toArray, List.set_cons_zero, List.set_cons_succ, i64_w, i32_w]
      rfl
    refine pure_ (i := 6) (N := some 17) (v := ?_) (a' := ?_) #[true, true, true, false, false, true, true, false, false, false, false, false, false] rfl rfl (by kernel_rfl) (fun _ _ _ h => h) (Or.inl ⟨by rfl, ?_⟩) ?_ ?_
    rotate_left
    · intro w'
      go_simp
      with_reducible rfl
    rotate_left
    · simp only [Act.put, List.setIfInBounds_toArray, List.set_cons_zero, List.set_cons_succ, i64_w, i32_w]
      rfl
    refine pure_ (i := 7) (N := some 18) (v := ?_) (a' := ?_) #[true, true, true, false, false, true, true, true, false, false, false, false, false] rfl rfl (by kernel_rfl) (fun _ _ _ h => h) (Or.inl ⟨by rfl, ?_⟩) ?_ ?_
    rotate_left
    · intro w'
      go_simp
      with_reducible rfl
    rotate_left
    · simp only [Act.put, List.setIfInBounds_toArray, List.set_cons_zero, List.set_cons_succ, i64_w, i32_w]
      rfl
    refine take_ (i := 3) (N := some 14) (v := ?_) (a' := ?_) #[true, true, true, true, false, true, true, true, false, false, false, false, false] rfl rfl (by kernel_rfl) (fun _ _ _ h => h) (Or.inl ⟨by rfl, ?_⟩) hHeld ?_ ?_
    rotate_left
    · rintro w' ⟨s0, s1⟩
      go_simp
      with_reducible rfl
    rotate_left
    · simp only [Act.put, List.setIfInBounds_toArray, List.set_cons_zero, List.set_cons_succ, i64_w, i32_w]
      rfl
    refine pure_ (i := 4) (N := some 15) (v := ?_) (a' := ?_) #[true, true, true, true, true, true, true, true, false, false, false, false, false] rfl rfl (by kernel_rfl) (fun _ _ _ h => h) (Or.inl ⟨by rfl, ?_⟩) ?_ ?_
    rotate_left
    · intro w'
      go_simp
      with_reducible rfl
    rotate_left
    · simp only [Act.put, List.setIfInBounds_toArray, List.set_cons_zero, List.set_cons_succ, i64_w, i32_w]
      rfl
    refine take_ (i := 8) (N := some 19) (v := ?_) (a' := ?_) #[true, true, true, true, true, true, true, true, true, false, false, false, false] rfl rfl (by kernel_rfl) (fun _ _ _ h => h) (Or.inl ⟨by rfl, ?_⟩) hHeld ?_ ?_
    rotate_left
    · rintro w' ⟨s0, s1⟩
      go_simp
      with_reducible rfl
    rotate_left
    · simp only [Act.put, List.setIfInBounds_toArray, List.set_cons_zero, List.set_cons_succ, i64_w, i32_w]
      rfl
    refine pure_ (i := 9) (N := some 20) (v := ?_) (a' := ?_) #[true, true, true, true, true, true, true, true, true, true, false, false, false] rfl rfl (by kernel_rfl) (fun _ _ _ h => h) (Or.inl ⟨by rfl, ?_⟩) ?_ ?_
    rotate_left
    · intro w'
      go_simp
      with_reducible rfl
    rotate_left
    · simp only [Act.put, List.setIfInBounds_toArray, List.set_cons_zero, List.set_cons_succ, i64_w, i32_w]
      rfl
    refine pure_ (i := 10) (N := some 21) (v := ?_) (a' := ?_) #[true, true, true, true, true, true, true, true, true, true, true, false, false] rfl rfl (by kernel_rfl) (fun _ _ _ h => h) (Or.inl ⟨by rfl, ?_⟩) ?_ ?_
    rotate_left
    · intro w'
      go_simp
      with_reducible rfl
    rotate_left
    · simp only [Act.put, List.setIfInBounds_toArray, List.set_cons_zero, List.set_cons_succ, i64_w, i32_w]
      rfl
    refine pure_ (i := 11) (N := some 22) (v := ?_) (a' := ?_) #[true, true, true, true, true, true, true, true, true, true, true, true, false] rfl rfl (by kernel_rfl) (fun _ _ _ h => h) (Or.inl ⟨by rfl, ?_⟩) ?_ ?_
    rotate_left
    · intro w'
      go_simp
      with_reducible rfl
    rotate_left
    · simp only [Act.put, List.setIfInBounds_toArray, List.set_cons_zero, List.set_cons_succ, i64_w, i32_w]
      rfl
    refine pure_ (i := 12) (N := some 2) (v := ?_) (a' := ?_) #[true, true, true, true, true, true, true, true, true, true, true, true, true] rfl rfl (by kernel_rfl) (fun _ _ _ h => h) (Or.inl ⟨by rfl, ?_⟩) ?_ ?_
    rotate_left
    · intro w'
      go_simp
      with_reducible rfl
    rotate_left
    · simp only [Act.put, List.setIfInBounds_toArray, List.set_cons_zero, List.set_cons_succ, i64_w, i32_w]
      rfl
    refine done_ (by kernel_rfl) ?_
    go_wp2
    all_goals
      go_ret
      exact ⟨by rw [← HR.out]; unfold mn; first | rfl | (split <;> first | rfl | (exfalso; omega)), below_drew (Below.refl _ _)⟩
end
/- All sectors of a region. -/
def secL (L : List Int) (o m : Nat) : List (List Int) := (List.range m).map fun i => cut8 L ((o + i) * 64) 64
theorem secL_len (L : List Int) (o m : Nat) : (secL L o m).length = m := by simp [secL]
theorem secL_succ (L : List Int) (o m : Nat) : secL L o (m + 1) = secL L o m ++ [cut8 L ((o + m) * 64) 64] := by simp [secL, List.range_succ]
theorem cut_cut {L : List Int} {a b o n : Nat} (h : o + n ≤ b) : cut8 (cut8 L a b) o n = cut8 L (a + o) n := by
  apply List.ext_getElem?
  intro i
  unfold cut8
  by_cases c : i < n
  · rw [List.getElem?_take_of_lt c, List.getElem?_take_of_lt c, List.getElem?_drop, List.getElem?_take_of_lt (by omega), List.getElem?_drop, List.getElem?_drop, Nat.add_assoc]
  · rw [List.getElem?_eq_none (by rw [List.length_take]; omega), List.getElem?_eq_none (by rw [List.length_take]; omega)]
theorem FK_cut {W : World} {g o m c : Nat} {L : List Int} (h : W.heap[g]? = some (.cells (by8 L).toArray 96 (0, 0))) (hf : o + m ≤ L.length) (hm : m ≤ 1000000000) (hc : m ≤ c) : Kd.FK kL W (fun k => k = g) (cut8 L o m) [.slice (some ⟨g, o, none⟩) m c] := by
  intro W' hW
  have hb := (hW g rfl (blk_lt h)).trans h
  have hC := C_blk (o := o) (m := m) hb hf hm
  have hl := cut8_len (L := L) (o := o) (n := m) hf
  exact ⟨some ⟨g, o, none⟩, c, by rw [hl], by rw [hl]; exact hc, by rw [hl]; exact hC⟩
theorem rdx_in {s : Dk} (ho : s.of = false) {i : Nat} (hi : i < s.nb) : rdx s (i : Int) = (cut8 s.now (i * 256) 256, 0) := by
  have h1 : hasB s (i : Int) = true := by unfold hasB; rw [decide_eq_true (by omega), decide_eq_true (by omega)]; rfl
  unfold rdx
  rw [if_pos h1, ho, if_neg (by decide), Int.toNat_natCast]
theorem rdx_off {s : Dk} (ho : s.of = true) {i : Nat} (hi : i < s.nb) : rdx s (i : Int) = ([], 9) := by
  have h1 : hasB s (i : Int) = true := by unfold hasB; rw [decide_eq_true (by omega), decide_eq_true (by omega)]; rfl
  unfold rdx
  rw [if_pos h1, ho, if_pos rfl]
theorem JO_ReadIn {w0 w : World} {p : Nat} {s : Dk} {O : Nat → Prop} (h : JO w0 w p s O) (ho : s.of = false) (i : Nat) (hi : i < s.nb) (m : Int) (hm : m = (i : Int)) :
    Calls Try.prog 16 #[.pointer (some ⟨p, 0, none⟩), .int .i64 m] w fun e w' => ∃ g, e = .returned (.tuple #[.slice (some ⟨g, 0, none⟩) 256 256, .int .i64 0]) ∧ w.heap.size ≤ g ∧ w'.heap[g]? = some (.cells (by8 (cut8 s.now (i * 256) 256)).toArray 96 (0, 0)) ∧ Below w.heap.size w w' := by
  subst hm
  obtain ⟨a, b, v, h1, h2, h3⟩ := h
  exact dk_Read h1 i hi ho
theorem info27w : (Try.prog.info? 27).map (fun i => (i.zero, i.size, i.bytes)) = some (some (.slice none 0 0), 1, 24) := by kernel_rfl
set_option maxRecDepth 20000 in
set_option maxHeartbeats 16000000 in
theorem L_read {w0 w : World} {q : Nat} {s : Dk} {O : Nat → Prop} (h : JO w0 w q s O) (ho : s.of = false) (fi si : Nat) (hf : fi + si ≤ s.nb) (hn : s.nb ≤ 4096) (hL : s.now.length = s.nb * 256) :
    Calls Try.prog 66 #[.pointer (some ⟨q, 0, none⟩), .int .i64 (fi : Int), .int .i64 (si : Int)] w fun e w' => ∃ A m c, e = .returned (.tuple #[.slice A m c, .int .i64 0]) ∧ m = si * 4 ∧ Kd.V kL 27 w' 0 (fun k => w.heap.size ≤ k) (.slice A m c) (secL s.now (fi * 4) (si * 4)) ∧ Below w.heap.size w w' := by
  have H := Aside0.mk h
  have HO := Aside0.mk ho
  have HF := Aside0.mk hf
  have HN := Aside0.mk hn
  have HL := Aside0.mk hL
  clear h ho hL
  go_enter Try.func66, Try.ntmps66
  go_wp2
  go_loopw [8, 9, 10, 11, 12, 14] (fun v8 v9 v10 v11 v12 v14 wr => ∃ (i m : Nat) (A : Option Addr) (c : Nat), v14 = .int .i64 (i : Int) ∧ v8 = .slice A m c ∧ i ≤ si ∧ Aside0 (m = i * 4) ∧ Aside0 (Below w.heap.size w wr) ∧ Aside0 (Kd.N kL 27 wr w.heap.size (fun k => w.heap.size ≤ k) (.slice A m c) (secL s.now (fi * 4) (i * 4)))) (fun v8 v9 v10 v11 v12 v14 _ => si - (intOf v14).toNat)
  case atStart => exact ⟨0, 0, none, 0, rfl, rfl, Nat.zero_le _, ⟨rfl⟩, ⟨Below.refl _ _⟩, ⟨Kd.N_nil _ _ _ _ _⟩⟩
  case round =>
    obtain ⟨i, m, A, c, rfl, rfl, hi, HM, HB, HR⟩ := hrel
    by_cases d : i < si
    · have d1 : (i : Int) < (si : Int) := by omega
      have db : decide (i < si) = true := decide_eq_true d
      have DD := Aside0.mk d
      have FI := Aside0.mk (show fi + i < s.nb by omega)
      have wf : wrap64 ((fi : Int) + (i : Int)) = (fi : Int) + (i : Int) := by unfold wrap64; omega
      clear d
      go_upto_region 6 with (go_at_call 16; refine (JO_ReadIn (JO_step H.out HB.out) HO.out (fi + i) FI.out _ (by push_cast; rfl)).mono ?_; rintro e w2 ⟨g, rfl, hg, hb, hB⟩; have G2 := Aside0.mk (show w.heap.size ≤ g from Nat.le_trans HB.out.size hg); have BK := Aside0.mk hb; have B2 := Aside0.mk (below_step HB.out hB); have R2 := Aside0.mk (Kd.N_below HR.out hB); clear hg hb hB HR HB)
      go_wp2
      go_loopw [8, 12] (fun v8 v12 wr => ∃ (j m : Nat) (A : Option Addr) (c : Nat), v12 = .int .i64 ((j : Int) * 64) ∧ v8 = .slice A m c ∧ j ≤ 4 ∧ Aside0 (m = i * 4 + j) ∧ Aside0 (Below w.heap.size w wr) ∧ Aside0 (wr.heap[g]? = some (.cells (by8 (cut8 s.now ((fi + i) * 256) 256)).toArray 96 (0, 0))) ∧ Aside0 (Kd.N kL 27 wr w.heap.size (fun k => w.heap.size ≤ k) (.slice A m c) (secL s.now (fi * 4) (i * 4 + j)))) (fun v8 v12 _ => 256 - (intOf v12).toNat)
      case atStart => exact ⟨0, m, A, c, rfl, rfl, by omega, HM, B2, BK, R2⟩
      case round =>
        clear R2 B2 BK HM
        obtain ⟨j, m, A, c, rfl, rfl, hj, HM, HB, BK, HR⟩ := hrel
        by_cases f : j < 4
        · have f1 : (j : Int) * 64 < 256 := by omega
          have fb : decide ((j : Int) * 64 < 256) = true := decide_eq_true f1
          have FF := Aside0.mk f
          have wj : wrap64 ((j : Int) * 64 + 64) = (j : Int) * 64 + 64 := by unfold wrap64; omega
          have ME := Aside0.mk (show m ≤ 16384 by have h1 := HM.out; have h2 := HN.out; have h3 := HF.out; have h4 := DD.out; omega)
          have CL := Aside0.mk (show (cut8 s.now ((fi + i) * 256) 256).length = 256 from cut8_len (by rw [HL.out]; have h1 := FI.out; omega))
          have CC := Aside0.mk (show cut8 (cut8 s.now ((fi + i) * 256) 256) (j * 64) 64 = cut8 s.now ((fi * 4 + (i * 4 + j)) * 64) 64 by rw [cut_cut (by omega)]; congr 1; omega)
          have FKj := Aside0.mk (FK_cut (o := j * 64) (m := 64) (c := 256 - j * 64) BK.out (by rw [CL.out]; omega) (by decide) (by omega))
          rw [CC.out] at FKj
          obtain ⟨x, hx⟩ : ∃ x, x = cut8 s.now ((fi * 4 + (i * 4 + j)) * 64) 64 := ⟨_, rfl⟩
          have SX := Aside0.mk (secL_succ s.now (fi * 4) (i * 4 + j))
          rw [← hx] at FKj SX
          obtain ⟨xs, hxs⟩ : ∃ xs, xs = secL s.now (fi * 4) (i * 4 + j) := ⟨_, rfl⟩
          have XL := Aside0.mk (show xs.length = m by rw [hxs, secL_len]; exact HM.out.symm)
          rw [← hxs] at HR SX
          have NG := Aside0.mk (fun (e : some g = (Value.slice A m c).ownBlock) => (by obtain ⟨cc, hc⟩ := Kd.N_typed HR.out g e.symm; exact absurd rfl (blk_ne BK.out hc (by decide)) : False))
          clear hx hxs CC CL f
          go_wp2_with ((with_reducible refine gate_builtin (b := .append) (xs := #[.tmp 34, .tmp 40]) rfl ?_); at_builtin; refine Kd.N_append kL (w0 := w) w.heap.size rfl (.tmp 34) (.tmp 40) 46 27 (.slice none 0 0) 24 rfl Try.underlying46 info27w rfl (by decide) (by omega) (.slice A m c) xs x _ (fun k => w.heap.size ≤ k) (fun k => k = g) rfl rfl (Kd.FK_below FKj.out (Below.refl _ _)) ?aK ?aF HR.out HB.out HB.out.size ?aL ?_; (case aK => exact fun k hk => ⟨by rw [hk]; exact G2.out, fun e => by rw [hk] at e; exact NG.out e⟩); (case aF => exact fun k hk => Nat.le_trans HB.out.size hk); (case aL => have h1 := XL.out; have h2 := ME.out; omega); intro v9 w5 hN hb hg hat; have N5 := Aside0.mk hN; have B5 := Aside0.mk hb; have K5 := Aside0.mk (blk_grown BK.out hg (fun e => NG.out e)); obtain ⟨A9, c9, e9⟩ := Kd.N_slice hN; obtain ⟨m9, hm9⟩ : ∃ m9, m9 = (xs ++ [x]).length := ⟨_, rfl⟩; have M9 := Aside0.mk hm9; rw [← hm9] at e9; subst e9; clear hN hb hg hat hm9)
          go_roundw
          case rel => exact ⟨j + 1, m9, A9, c9, by first | rfl | (congr 1; omega) | (simp; omega), rfl, by have := FF.out; omega, ⟨by rw [M9.out, List.length_append, XL.out, HM.out]; simp; omega⟩, B5, K5, ⟨by have := N5.out; rw [← SX.out] at this; exact this⟩⟩
          case measure => have := FF.out; simp [intOf]; omega
        · have f1 : ¬ (j : Int) * 64 < 256 := by omega
          have fb : decide ((j : Int) * 64 < 256) = false := decide_eq_false f1
          obtain rfl : j = 4 := by omega
          have NX := Aside0.mk HM.out
          go_wp2
          go_roundw
          case rel => exact ⟨i + 1, m, A, c, by go_num, rfl, DD.out, ⟨by rw [NX.out]; omega⟩, HB, ⟨by have := HR.out; rw [show i * 4 + 4 = (i + 1) * 4 by omega] at this; exact this⟩⟩
          case measure => have := DD.out; simp [intOf]; omega
    · have d1 : ¬ (i : Int) < (si : Int) := by omega
      have db : decide (i < si) = false := decide_eq_false d
      obtain rfl : i = si := by omega
      go_wp2
      go_ret2
      exact ⟨A, m, c, rfl, HM.out, Kd.N_V HR.out, HB.out⟩
theorem L_readOff {w0 w : World} {q : Nat} {s : Dk} {O : Nat → Prop} (h : JO w0 w q s O) (ho : s.of = true) (fi si : Nat) (hs : 1 ≤ si) (hf : fi + si ≤ s.nb) (hn : s.nb ≤ 4096) :
    Calls Try.prog 66 #[.pointer (some ⟨q, 0, none⟩), .int .i64 (fi : Int), .int .i64 (si : Int)] w fun e w' => e = .returned (.tuple #[.slice none 0 0, .int .i64 9]) ∧ Below w.heap.size w w' := by
  have H := Aside0.mk h
  have HX := Aside0.mk (rdx_off ho (i := fi) (by omega))
  have s1 : (0 : Int) < (si : Int) := by omega
  have wf : wrap64 ((fi : Int) + 0) = (fi : Int) := by unfold wrap64; omega
  clear h ho
  go_enter Try.func66, Try.ntmps66
  go_wp2
  go_loopw [8, 9, 10, 11, 12, 14] (fun v8 v9 v10 v11 v12 v14 wr => v14 = .int .i64 0 ∧ wr = w) (fun v8 v9 v10 v11 v12 v14 _ => 0)
  case atStart => exact ⟨rfl, rfl⟩
  case round =>
    obtain ⟨rfl, rfl⟩ := hrel
    go_wp2_with (go_at_call 16; refine (JO_Read H.out (fi : Int) [] 9 HX.out).mono ?_; rintro e w2 ⟨v, rfl, hf, hB⟩; have B2 := Aside0.mk hB; clear hf hB)
    go_ret2
    exact ⟨rfl, B2.out⟩
end Go.Proofs.Ytepipgneefcoiaa.D
