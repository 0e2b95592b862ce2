/- The functions of the program that these laws reach, each as a plain Lean function, and the proof that the machine's call comes to it; no condition beyond those that each theorem names. Made by wip/xprint.py. -/
import Derived.Test.YtepipgneefcoiaaDf15
import Derived.Test.YtepipgneefcoiaaDx0
namespace Go.Proofs.Ytepipgneefcoiaa.D
open Go.RowKit Go.Proofs.YtepipgneefcoiaaW.PrintWords Go.Proofs.YtepipgneefcoiaaW.PrintLast Go.Proofs.YtepipgneefcoiaaW.PrintMore
attribute [local go_sem] max2_int min2_int max_two min_two max_three min_three max_four min_four
set_option linter.unusedVariables false
set_option linter.unusedSimpArgs false
/- A disk, wherever it lies, away from blocks that are protected. -/
def JO (w0 w : World) (p : Nat) (s : Dk) (O : Nat → Prop) : Prop := ∃ a b v, dm w0.heap.size w p a b v s ∧ Below w0.heap.size w0 w ∧ ∀ k, O k → k < w.heap.size ∧ ¬ dS p a b v k
def kO (O : Nat → Prop) (w w' : World) : Prop := w.heap.size ≤ w'.heap.size ∧ ∀ k, O k → w'.heap[k]? = w.heap[k]?
theorem kO_refl (O : Nat → Prop) (w : World) : kO O w w := ⟨Nat.le_refl _, fun _ _ => rfl⟩
theorem kO_trans {O : Nat → Prop} {w w1 w2 : World} (h : kO O w w1) (k : kO O w1 w2) : kO O w w2 := ⟨Nat.le_trans h.1 k.1, fun i hi => (k.2 i hi).trans (h.2 i hi)⟩
theorem kO_mono {O O' : Nat → Prop} {w w' : World} (h : kO O w w') (ho : ∀ k, O' k → O k) : kO O' w w' := ⟨h.1, fun k hk => h.2 k (ho k hk)⟩
theorem JO_J {w0 w : World} {p : Nat} {s : Dk} {O : Nat → Prop} (h : JO w0 w p s O) : J w0 w p s := by obtain ⟨a, b, v, h1, h2, _⟩ := h; exact ⟨a, b, v, h1, h2⟩
theorem J_JO {w0 w : World} {p : Nat} {s : Dk} (h : J w0 w p s) : JO w0 w p s (fun _ => False) := by obtain ⟨a, b, v, h1, h2⟩ := h; exact ⟨a, b, v, h1, h2, fun _ hk => hk.elim⟩
theorem JO_below {w0 w : World} {p : Nat} {s : Dk} {O : Nat → Prop} (h : JO w0 w p s O) : Below w0.heap.size w0 w := J_below (JO_J h)
theorem JO_O {w0 w : World} {p : Nat} {s : Dk} {O : Nat → Prop} (h : JO w0 w p s O) {k : Nat} (hk : O k) : k < w.heap.size := by obtain ⟨a, b, v, _, _, h⟩ := h; exact (h k hk).1
theorem JO_mono {w0 w : World} {p : Nat} {s : Dk} {O O' : Nat → Prop} (h : JO w0 w p s O) (ho : ∀ k, O' k → O k) : JO w0 w p s O' := by
  obtain ⟨a, b, v, h1, h2, h3⟩ := h
  exact ⟨a, b, v, h1, h2, fun k hk => h3 k (ho k hk)⟩
theorem dS_lt {base p n f : Nat} {w : World} {vP : Value} {s : Dk} (h : dm base w p n f vP s) {k : Nat} (hk : dS p n f vP k) : k < w.heap.size := by
  rcases hk with e | e | e | e
  · rw [e]; exact blk_lt h.box
  · rw [e]; exact blk_lt h.now
  · rw [e]; exact blk_lt h.safe
  · obtain ⟨cc, hc⟩ := Kd.R_typed h.pend k e.symm; exact blk_lt hc
theorem JO_deep {w0 w w' : World} {p : Nat} {s : Dk} {O : Nat → Prop} (h : JO w0 w p s O) (b : Below w.heap.size w w') : JO w0 w' p s (fun k => O k ∨ (w.heap.size ≤ k ∧ k < w'.heap.size)) := by
  obtain ⟨a, b', v, h1, h2, h3⟩ := h
  refine ⟨a, b', v, dm_below h1 b, below_step h2 b, fun k hk => ?_⟩
  rcases hk with hk | hk
  · exact ⟨Nat.lt_of_lt_of_le (h3 k hk).1 b.size, (h3 k hk).2⟩
  · exact ⟨hk.2, fun e => by have := dS_lt h1 e; omega⟩
theorem JO_step {w0 w w' : World} {p : Nat} {s : Dk} {O : Nat → Prop} (h : JO w0 w p s O) (b : Below w.heap.size w w') : JO w0 w' p s O := JO_mono (JO_deep h b) (fun _ hk => .inl hk)
theorem kO_below {w0 w w' : World} {p : Nat} {s : Dk} {O : Nat → Prop} (h : JO w0 w p s O) (b : Below w.heap.size w w') : kO O w w' := ⟨b.size, fun k hk => b.block k (JO_O h hk)⟩
theorem JO_write {w0 w : World} {p g j : Nat} {s : Dk} {O : Nat → Prop} (h : JO w0 w p s O) (hO : O g) (hg : w0.heap.size ≤ g) (u : Value) : JO w0 (w.setCell ⟨g, j, none⟩ u) p s O := by
  obtain ⟨a, b, v, h1, h2, h3⟩ := h
  have hn := (h3 g hO).2
  have far : ∀ k, k ≠ g → (w.setCell ⟨g, j, none⟩ u).heap[k]? = w.heap[k]? := fun k hk => Below.heap_setCell w ⟨g, j, none⟩ u k hk
  refine ⟨a, b, v, ⟨(far p (fun e => hn (.inl e.symm))).trans h1.box, (far a (fun e => hn (.inr (.inl e.symm)))).trans h1.now, (far b (fun e => hn (.inr (.inr (.inl e.symm))))).trans h1.safe, Kd.R_mono (Kd.R_move (Kd.R_tight rfl h1.pend) (fun k hk => far k (fun e => hn (by rw [← e]; exact .inr (.inr (.inr hk)))))) (fun _ _ => trivial), h1.ne, h1.hp, h1.hn, h1.hf, h1.ok⟩, below_set h2 hg, fun k hk => ⟨by simpa using (h3 k hk).1, (h3 k hk).2⟩⟩
theorem JO_act {w0 w w' : World} {p a b : Nat} {v v' : Value} {s s' : Dk} {O : Nat → Prop} {S : Nat → Prop} (h : dm w0.heap.size w p a b v s) (hB : Below w0.heap.size w0 w) (hO : ∀ k, O k → k < w.heap.size ∧ ¬ dS p a b v k) (h' : dm w0.heap.size w' p a b v' s') (hn : newer w v v') (hk : skp S w w') (hS : ∀ i, S i → dS p a b v i) : JO w0 w' p s' O ∧ kO O w w' := by
  refine ⟨⟨a, b, v', h', skp_below hB hk (fun i e => dS_base h i (hS i e)), fun k hkk => ⟨Nat.lt_of_lt_of_le (hO k hkk).1 hk.2.2.2.1, fun e => ?_⟩⟩, hk.2.2.2.1, fun k hkk => hk.2.2.2.2 k (hO k hkk).1 (fun e => (hO k hkk).2 (hS k e))⟩
  rcases e with e | e | e | e
  · exact (hO k hkk).2 (.inl e)
  · exact (hO k hkk).2 (.inr (.inl e))
  · exact (hO k hkk).2 (.inr (.inr (.inl e)))
  · have h1 := (hO k hkk).1
    have h2 := (hO k hkk).2
    unfold newer at hn
    rcases hn with hn | hn | ⟨q, hq, hl⟩
    · rw [hn] at e; cases e
    · exact h2 (.inr (.inr (.inr (e.trans hn))))
    · have : some k = some q := e.trans hq
      injection this with this
      omega
theorem newer_refl (w : World) (v : Value) : newer w v v := .inr (.inl rfl)
theorem JO_Read {w0 w : World} {p : Nat} {s : Dk} {O : Nat → Prop} (h : JO w0 w p s O) (i : Int) (l : List Int) (e' : Int) (hx : rdx s i = (l, e')) :
    Calls Try.prog 16 #[.pointer (some ⟨p, 0, none⟩), .int .i64 i] w fun e w' => ∃ v, e = .returned (.tuple #[v, .int .i64 e']) ∧ frs w w' v l ∧ Below w.heap.size w w' := by
  refine (J_Read (JO_J h) i l e' hx).mono ?_
  rintro e w' ⟨v, rfl, hf, _, hb⟩
  exact ⟨v, rfl, hf, hb⟩
theorem JO_Blocks {w0 w : World} {p : Nat} {s : Dk} {O : Nat → Prop} (h : JO w0 w p s O) : Calls Try.prog 17 #[.pointer (some ⟨p, 0, none⟩)] w fun e w' => e = .returned (.int .i64 (s.nb : Int)) ∧ Below w.heap.size w w' := by
  refine (J_Blocks (JO_J h)).mono ?_
  rintro e w' ⟨rfl, _, hb⟩
  exact ⟨rfl, hb⟩
theorem JO_Write {w0 w : World} {p : Nat} {s : Dk} {O : Nat → Prop} (h : JO w0 w p s O) (hl : s.pend.length ≤ 100000) (i : Int) (A : Option Addr) (c : Nat) (b : List Int) (hb : b.length = 256) (hc : 256 ≤ c) (hR : ∀ W, kO O w W → Kd.C (Kd.int .u8) W A 256 b) (s' : Dk) (e' : Int) (hx : wrx s i b = (s', e')) :
    Calls Try.prog 22 #[.pointer (some ⟨p, 0, none⟩), .int .i64 i, .slice A 256 c] w fun e w' => e = .returned (.int .i64 e') ∧ JO w0 w' p s' O ∧ kO O w w' := by
  obtain ⟨a, b', v, h1, h2, h3⟩ := id h
  unfold wrx at hx
  by_cases c0 : hasB s i = true
  · rw [if_pos ⟨c0, hb⟩] at hx
    obtain ⟨k, rfl, hk⟩ := hasB_nat c0
    obtain ⟨⟨s1, d⟩, hp⟩ : ∃ q, q = pwx s := ⟨_, rfl⟩
    rw [← hp] at hx
    cases d with
    | true =>
      rw [if_pos rfl] at hx
      injection hx with e1 e2
      subst e1 e2
      refine (dk_Write h1 h2.size k hk A c b hb hp.symm hl hc (fun W hW => hR W ⟨hW.2.2.2.1, fun k hkk => hW.2.2.2.2 k (h3 k hkk).1 (h3 k hkk).2⟩)).mono ?_
      rintro e w' ⟨rfl, v', hd, hn, hk2⟩
      rw [Int.toNat_natCast]
      exact ⟨rfl, JO_act h1 h2 h3 hd hn hk2 (fun i e => e)⟩
    | false =>
      rw [if_neg (by simp)] at hx
      injection hx with e1 e2
      subst e1 e2
      refine (dk_WriteDown h1 (k : Int) A c c0 hp.symm).mono ?_
      rintro e w' ⟨rfl, hd, hk2⟩
      exact ⟨rfl, JO_act h1 h2 h3 hd (newer_refl w v) hk2 (fun i e => .inl e)⟩
  · rw [if_neg (fun hh => c0 hh.1)] at hx
    injection hx with e1 e2
    subst e1 e2
    refine (dk_WriteArg h1 i A 256 c (.inl (by simpa using c0))).mono ?_
    rintro e w' ⟨rfl, hd⟩
    exact ⟨rfl, JO_step h (drawn_below hd), kO_below h (drawn_below hd)⟩
theorem JO_Flush {w0 w : World} {p : Nat} {s : Dk} {O : Nat → Prop} (h : JO w0 w p s O) (hl : s.pend.length ≤ 100000) (s' : Dk) (e' : Int) (hx : flx s = (s', e')) :
    Calls Try.prog 24 #[.pointer (some ⟨p, 0, none⟩)] w fun e w' => e = .returned (.int .i64 e') ∧ JO w0 w' p s' O ∧ kO O w w' := by
  obtain ⟨a, b, v, h1, h2, h3⟩ := id h
  refine (dk_Flush h1 h2.size hl s' e' hx).mono ?_
  rintro e w' ⟨rfl, v', hd, hn, hk⟩
  exact ⟨rfl, JO_act h1 h2 h3 hd hn hk (fun i e => e)⟩
theorem JO_Fuse {w0 w : World} {p : Nat} {s : Dk} {O : Nat → Prop} (h : JO w0 w p s O) (k : Int) :
    Calls Try.prog 26 #[.pointer (some ⟨p, 0, none⟩), .int .i64 k] w fun e w' => e = .returned (.tuple #[]) ∧ JO w0 w' p (fzx s k) O ∧ kO O w w' := by
  obtain ⟨a, b, v, h1, h2, h3⟩ := id h
  refine (dk_Fuse h1 k).mono ?_
  rintro e w' ⟨rfl, hd, hk⟩
  exact ⟨rfl, JO_act h1 h2 h3 hd (newer_refl w v) hk (fun i e => .inl e)⟩
theorem JO_Crash {w0 w : World} {p : Nat} {s : Dk} {O : Nat → Prop} (h : JO w0 w p s O) (hl : s.pend.length ≤ 100000) (A : Option Addr) (c : Nat) (keep : List Bool) (hk : ∀ W, Below w0.heap.size w0 W → Kd.C Kd.bool W A keep.length keep) :
    Calls Try.prog 21 #[.pointer (some ⟨p, 0, none⟩), .slice A keep.length c] w fun e w' => e = .returned (.tuple #[]) ∧ JO w0 w' p (crx s keep) O ∧ kO O w w' := by
  obtain ⟨a, b, v, h1, h2, h3⟩ := id h
  refine (dk_Crash h1 h2.size hl A c keep (fun W hW => hk W (skp_below h2 hW (fun i e => dS_base h1 i e)))).mono ?_
  rintro e w' ⟨rfl, hd, hk⟩
  exact ⟨rfl, JO_act h1 h2 h3 hd (.inl rfl) hk (fun i e => e)⟩
theorem JO_Dump {w0 w : World} {p : Nat} {s : Dk} {O : Nat → Prop} (h : JO w0 w p s O) :
    Calls Try.prog 27 #[.pointer (some ⟨p, 0, none⟩)] w fun e w' => ∃ v, e = .returned v ∧ Kd.R (Kd.int .u8) 5 w' w.heap.size (fun _ => True) v s.now ∧ Below w.heap.size w w' := by
  refine (J_Dump (JO_J h)).mono ?_
  rintro e w' ⟨v, rfl, hR, _, hb⟩
  exact ⟨v, rfl, hR, hb⟩
end Go.Proofs.Ytepipgneefcoiaa.D
