/- The functions of the program that these laws reach, each as a plain Lean function, and the proof that the machine's call comes to it; no condition beyond those that each theorem names. Made by wip/xprint.py. -/
import Derived.Test.YtnkaidaflegnlaaAx0
import Derived.Test.YtnkaidaflegnlaaAf13
import Derived.Test.YtnkaidaflegnlaaAf27
import Derived.Test.YtnkaidaflegnlaaAf34
import Derived.Test.YtnkaidaflegnlaaAf43
import Derived.Test.YtnkaidaflegnlaaAf44
import Derived.Test.YtnkaidaflegnlaaAf45
import Derived.Test.YtnkaidaflegnlaaAh
namespace Go.Proofs.Ytnkaidaflegnlaa.A
open Go.RowKit Go.Proofs.YtnkaidaflegnlaaW.PrintWords Go.Proofs.YtnkaidaflegnlaaW.PrintLast Go.Proofs.YtnkaidaflegnlaaW.PrintMore
attribute [local go_sem] max2_int min2_int max_two min_two max_three min_three max_four min_four   -- for this text's walks alone
set_option linter.unusedVariables false
set_option linter.unusedSimpArgs false

/-! ### marginalialaw05_ArenaPlays: function 11: by hand -/
/- An arena, and the document's tree of the same state in a block of its own. -/
structure PX (w0 : World) (p : Nat) (S : List S96) (g : Nat) (A : Option Addr) (n c : Nat) (O OV : Nat → Prop) (w : World) : Prop where
  ja : JA w0 w p S O
  ov : ∀ k, OV k → O k ∧ k ≠ g
  og : O g
  lg : w0.heap.size ≤ g
  b : w.heap[g]? = some (.cells #[.slice A n c] 57 (0, 0))
  v : Kd.V k116 116 w 0 OV (.slice A n c) (riS S)
  hn : n = S.length
def PS (w0 : World) (p : Nat) (S : List S96) (g : Nat) (A : Option Addr) (n c : Nat) (w : World) : Prop := ∃ O OV, PX w0 p S g A n c O OV w
section
variable {w0 w w' : World} {p g n c : Nat} {S : List S96} {A : Option Addr} {O OV : Nat → Prop}
theorem PX_below (h : PX w0 p S g A n c O OV w) (hb : Below w.heap.size w w') : PX w0 p S g A n c O OV w' :=
  ⟨JA_step h.ja hb, h.ov, h.og, h.lg, blk_below h.b hb, Kd.V_step h.v (fun k hk _ => hb.block k (JA_O h.ja (h.ov k hk).1)), h.hn⟩
theorem PS_below (h : PS w0 p S g A n c w) (hb : Below w.heap.size w w') : PS w0 p S g A n c w' := by
  obtain ⟨O, OV, h⟩ := h
  exact ⟨O, OV, PX_below h hb⟩
theorem PS_cell (h : PS w0 p S g A n c w) : w.cell? ⟨g, 0, none⟩ = some (.slice A n c) := by
  obtain ⟨O, OV, h⟩ := h
  exact (blk_cell h.b 0).trans rfl
theorem PS_fz (h : PS w0 p S g A n c w) : w.frozen? ⟨g, 0, none⟩ = false := by
  obtain ⟨O, OV, h⟩ := h
  exact blk_frozen h.b 0
theorem PS_base (h : PS w0 p S g A n c w) : Below w0.heap.size w0 w := by
  obtain ⟨O, OV, h⟩ := h
  exact JA_below h.ja
theorem PS_n (h : PS w0 p S g A n c w) : n = S.length := by
  obtain ⟨O, OV, h⟩ := h
  exact h.hn
theorem PX_C (h : PX w0 p S g A n c O OV w) : Kd.C k116 w A n (riS S) ∧ n ≤ c := by
  obtain ⟨h1, h2, h3⟩ := Kd.V_reads' h.v
  rw [← h1] at h3
  exact ⟨h3, h2⟩
theorem P_Len (h : PS w0 p S g A n c w) : Calls Try.prog 30 #[.pointer (some ⟨p, 0, none⟩)] w fun e w' => e = .returned (.int .i64 (n : Int)) ∧ w = w' := by
  obtain ⟨O, OV, h⟩ := h
  exact J_LenN h.ja h.hn
theorem P_Value (h : PS w0 p S g A n c w) (hF : FoS S) (hl : S.length ≤ 2000) (hat : ∀ i, (faS S i).f3.length ≤ 100000) (i : Int) {x : S67} (hx : x = vaI S i) : Calls Try.prog 38 #[.pointer (some ⟨p, 0, none⟩), .int .i64 i] w fun e w' => VR w w' x e := by
  obtain ⟨O, OV, h⟩ := h
  exact J_ValueX h.ja hF hl hat i hx
theorem PR_Value (h : PS w0 p S g A n c w) (hF : FoS S) (hl : S.length ≤ 2000) (hat : ∀ i, (faS S i).f3.length ≤ 100000) (i : Int) {x : S67} (hx : x = vaI S i) : Calls Try.prog 42 #[.agg #[.slice A n c], .int .i64 i] w fun e w' => VR w w' x e := by
  obtain ⟨O, OV, h⟩ := h
  obtain ⟨h1, h2⟩ := PX_C h
  subst hx
  exact R_Value h.hn h1 h2 hF hl hat i
theorem P_Parent (h : PS w0 p S g A n c w) (i r : Int) (hr : paI S i = r) : Calls Try.prog 37 #[.pointer (some ⟨p, 0, none⟩), .int .i64 i] w fun e w' => e = .returned (.int .i64 r) ∧ w = w' := by
  obtain ⟨O, OV, h⟩ := h
  exact J_Parent h.ja i r hr
theorem PR_Parent (h : PS w0 p S g A n c w) (hF : FoS S) (hl : S.length ≤ 2000) (i r : Int) (hr : paI S i = r) : Calls Try.prog 43 #[.agg #[.slice A n c], .int .i64 i] w fun e w' => e = .returned (.int .i64 r) ∧ Below w.heap.size w w' := by
  obtain ⟨O, OV, h⟩ := h
  obtain ⟨h1, h2⟩ := PX_C h
  obtain ⟨k, hk⟩ := ev_Parent S hF hl i
  have hk := hk k (Nat.le_refl _)
  rw [hr] at hk
  have hn : n = (riS S).length := by rw [len_riS]; exact h.hn
  rw [hn] at h1 h2 ⊢
  exact marginaliaref05_Parent.calls k A c (riS S) i r w h1 h2 hk
theorem P_Kids (h : PS w0 p S g A n c w) (i : Int) (r : List Int) (m : Nat) (hm : m = r.length) (hl : r.length ≤ 100000) (hr : kiI S i = r) : Calls Try.prog 36 #[.pointer (some ⟨p, 0, none⟩), .int .i64 i] w fun e w' => ∃ (A : Option Addr) (c : Nat), e = .returned (.slice A m c) ∧ Kd.R (Kd.int .i64) 3 w' w.heap.size (fun _ => True) (.slice A m c) r ∧ Below w.heap.size w w' := by
  obtain ⟨O, OV, h⟩ := h
  exact J_KidsB h.ja i r m hm hl hr
theorem PR_Kids (h : PS w0 p S g A n c w) (i : Int) (r : List Int) (m : Nat) (hm : m = r.length) (hr : kiI S i = r) : Calls Try.prog 45 #[.agg #[.slice A n c], .int .i64 i] w fun e w' => ∃ (A' : Option Addr) (c' : Nat), e = .returned (.slice A' m c') ∧ m ≤ c' ∧ Kd.C (Kd.int .i64) w' A' r.length r ∧ Below w.heap.size w w' := by
  obtain ⟨O, OV, h⟩ := h
  have hn : n = (riS S).length := by rw [len_riS]; exact h.hn
  have hv := h.v
  rw [hn] at hv ⊢
  have he := ev_Kids S i
  rw [hr] at he
  refine (marginaliaref05_Kids.calls OV A c (riS S) i r w hv he).mono ?_
  rintro e w' ⟨v, rfl, hV, hb⟩
  obtain ⟨A', c', rfl⟩ := Kd.V_slice hV
  obtain ⟨h1, h2, h3⟩ := Kd.V_reads' hV
  exact ⟨A', c', by rw [hm], by rw [hm]; exact h2, h3, hb⟩
theorem PS_new {w1 w2 : World} (hj : JA w0 w1 p S (fun _ => False)) {r : Nat} (hn : n = S.length) (hV : Kd.V k116 116 w2 r (fun k => w1.heap.size ≤ k ∧ k < w2.heap.size) (.slice A n c) (riS S)) (hb : Below w1.heap.size w1 w2) : PS w0 p S w2.heap.size A n c (w2.alloc (.cells #[.slice A n c] 57)) := by
  have h1 := below_alloc (Below.refl w2.heap.size w2) (.cells #[.slice A n c] 57)
  have hg := blk_new w2 (.cells #[.slice A n c] 57)
  refine ⟨_, fun k => w1.heap.size ≤ k ∧ k < w2.heap.size, JA_deep hj (below_step hb h1), fun k hk => ⟨.inr ⟨hk.1, Nat.lt_of_lt_of_le hk.2 h1.size⟩, Nat.ne_of_lt hk.2⟩, .inr ⟨hb.size, blk_lt hg⟩, Nat.le_trans (JA_below hj).size hb.size, hg, Kd.V_step hV (fun k _ hk => h1.block k hk), hn⟩
/- What an act leaves: the new tree beside the old one's block; its letter goes into a block of its own first. -/
structure PD (w0 : World) (p : Nat) (S' : List S96) (g g8 : Nat) (A' : Option Addr) (n' c' : Nat) (v0 : Value) (w : World) : Prop where
  ex : ∃ O OV, JA w0 w p S' O ∧ (∀ k, OV k → O k ∧ k ≠ g ∧ k ≠ g8) ∧ O g ∧ O g8 ∧ Kd.V k116 116 w 0 OV (.slice A' n' c') (riS S')
  lg : w0.heap.size ≤ g
  l8 : w0.heap.size ≤ g8
  ne : g ≠ g8
  b : w.heap[g]? = some (.cells #[v0] 57 (0, 0))
  b8 : w.heap[g8]? = some (.cells #[.slice none 0 0] 57 (0, 0))
  hn : n' = S'.length
theorem PD_PS {S' : List S96} {g8 n' c' : Nat} {A' : Option Addr} {v0 : Value} (h : PD w0 p S' g g8 A' n' c' v0 w) : PS w0 p S' g A' n' c' ((w.setCell ⟨g8, 0, none⟩ (.slice A' n' c')).setCell ⟨g, 0, none⟩ (.slice A' n' c')) := by
  obtain ⟨O, OV, hJ, hov, hg, hg8, hV⟩ := h.ex
  have f8 : ∀ k, k ≠ g8 → (w.setCell ⟨g8, 0, none⟩ (.slice A' n' c')).heap[k]? = w.heap[k]? := fun k hk => Below.heap_setCell w ⟨g8, 0, none⟩ _ k hk
  have f6 : ∀ k, k ≠ g → ((w.setCell ⟨g8, 0, none⟩ (.slice A' n' c')).setCell ⟨g, 0, none⟩ (.slice A' n' c')).heap[k]? = (w.setCell ⟨g8, 0, none⟩ (.slice A' n' c')).heap[k]? := fun k hk => Below.heap_setCell _ ⟨g, 0, none⟩ _ k hk
  refine ⟨O, OV, JA_write (JA_write hJ hg8 h.l8 _) hg h.lg _, fun k hk => ⟨(hov k hk).1, (hov k hk).2.1⟩, hg, h.lg, ?_, Kd.V_step hV (fun k hk _ => (f6 k (hov k hk).2.1).trans (f8 k (hov k hk).2.2)), h.hn⟩
  exact blk_put ((f8 g h.ne).trans h.b) 0 _ rfl
/- An arena, a tree, and a row of numbers of one's own. -/
structure PK (w0 : World) (p : Nat) (S : List S96) (g : Nat) (A : Option Addr) (n c : Nat) (vK : Value) (m : Nat) (w : World) : Prop where
  ex : ∃ O OV, PX w0 p S g A n c O OV w ∧ (∀ k, OV k → some k ≠ vK.ownBlock) ∧ (∀ k, some k = vK.ownBlock → O k)
  r : ∃ l : List Int, l.length = m ∧ Kd.R (Kd.int .i64) 3 w w0.heap.size (fun k => some k = vK.ownBlock) vK l
theorem PK_new {vK : Value} {r : List Int} (h : PS w0 p S g A n c w) (hR : Kd.R (Kd.int .i64) 3 w' w.heap.size (fun _ => True) vK r) (hb : Below w.heap.size w w') : PK w0 p S g A n c vK r.length w' := by
  obtain ⟨O, OV, h⟩ := h
  have hd := JA_deep h.ja hb
  have hw := PX_below h hb
  have hK := Kd.R_lower (Kd.R_tight rfl hR) (JA_below h.ja).size
  refine ⟨⟨_, OV, ⟨hd, fun k hk => ⟨.inl (h.ov k hk).1, (h.ov k hk).2⟩, .inl h.og, h.lg, hw.b, hw.v, h.hn⟩, fun k hk e => ?_, fun k e => ?_⟩, r, rfl, hK⟩
  · have h1 := Kd.R_base hR k e.symm
    have h2 := JA_O h.ja (h.ov k hk).1
    omega
  · obtain ⟨cc, hc⟩ := Kd.R_typed hR k e.symm
    exact .inr ⟨Kd.R_base hR k e.symm, blk_lt hc⟩
theorem PK_below {vK : Value} {m : Nat} (h : PK w0 p S g A n c vK m w) (hb : Below w.heap.size w w') : PK w0 p S g A n c vK m w' := by
  obtain ⟨⟨O, OV, h1, h2, h3⟩, l, hl, hR⟩ := h
  exact ⟨⟨O, OV, PX_below h1 hb, h2, h3⟩, l, hl, Kd.R_move hR (fun k hk => hb.block k (JA_O h1.ja (h3 k hk)))⟩
theorem PK_PS {vK : Value} {m : Nat} (h : PK w0 p S g A n c vK m w) : PS w0 p S g A n c w := by
  obtain ⟨⟨O, OV, h1, _, _⟩, _⟩ := h
  exact ⟨O, OV, h1⟩
theorem PK_put {gK cK m : Nat} (h : PK w0 p S g A n c (.slice (some ⟨gK, 0, none⟩) m cK) m w) (j : Nat) (hj : j < m) (x : Int) : (∃ u, w.cell? ⟨gK, j, none⟩ = some (.int .i64 u)) ∧ w.frozen? ⟨gK, j, none⟩ = false ∧ PK w0 p S g A n c (.slice (some ⟨gK, 0, none⟩) m cK) m (w.setCell ⟨gK, j, none⟩ (.int .i64 x)) := by
  obtain ⟨⟨O, OV, h1, h2, h3⟩, l, hl, hR⟩ := h
  have hc := Kd.R_celln (0 : Int) hR (j : Int) (by omega) (by omega)
  have hp := Kd.R_putn hR (j : Int) x
  rw [Int.toNat_natCast] at hc hp
  have hO := h3 gK rfl
  have hb := Kd.R_base hR gK rfl
  obtain ⟨cc, ht⟩ := Kd.R_typed hR gK rfl
  have far : ∀ k, k ≠ gK → (w.setCell ⟨gK, j, none⟩ (.int .i64 x)).heap[k]? = w.heap[k]? := fun k hk => Below.heap_setCell w ⟨gK, j, none⟩ _ k hk
  refine ⟨⟨_, hc.1⟩, hc.2, ⟨O, OV, ⟨JA_write h1.ja hO hb _, h1.ov, h1.og, h1.lg, (far g (blk_ne h1.b ht (by decide))).trans h1.b, Kd.V_step h1.v (fun k hk _ => far k (fun e => h2 k hk (by rw [e]; rfl))), h1.hn⟩, h2, h3⟩, l.set j x, by rw [List.length_set]; exact hl, hp⟩
end
theorem Ints_l0 (l : List Int) (hl : l.length ≤ 100000) : ∀ (m j : Nat), j + m = l.length → marginaliaref05_Ints.l0 (m + 1) l l (j : Int) = some true
  | 0, j, hj => by rw [marginaliaref05_Ints.l0, if_neg (by omega)]
  | m + 1, j, hj => by
    rw [marginaliaref05_Ints.l0, if_pos (by omega), if_pos (by omega), if_pos (by omega), if_pos rfl, show wrap64 ((j : Int) + 1) = ((j + 1 : Nat) : Int) by unfold wrap64; omega]
    exact Ints_l0 l hl m (j + 1) (by omega)
theorem Ints_refl (l : List Int) (hl : l.length ≤ 100000) : marginaliaref05_Ints.f (l.length + 1) l l = some true := by
  unfold marginaliaref05_Ints.f
  rw [if_pos rfl]
  exact Ints_l0 l hl l.length 0 (by omega)
theorem ints_at {w w1 : World} {l : List Int} {m : Nat} {A B : Option Addr} {c d : Nat} {b : Nat} {ok : Nat → Prop} (hm : m = l.length) (hl : l.length ≤ 100000) (hR : Kd.R (Kd.int .i64) 3 w b ok (.slice A m c) l) (hb : Below w.heap.size w w1) (hC : Kd.C (Kd.int .i64) w1 B l.length l) (hd : m ≤ d) : Calls Try.prog 44 #[.slice A m c, .slice B m d] w1 fun e w' => e = .returned (.bool true) ∧ Below w1.heap.size w1 w' := by
  obtain ⟨_, h2, h3⟩ := Kd.R_reads' hR
  subst hm
  refine (marginaliaref05_Ints.calls (l.length + 1) A c l B d l true w1 (Kd.C_below h3 hb) h2 hC hd (Ints_refl l hl)).mono ?_
  rintro e w' ⟨rfl, hd⟩
  exact ⟨rfl, drawn_below hd⟩
theorem same_v {w W : World} {x : S67} {ok ok' : Nat → Prop} {A3 A5 B3 B5 : Option Addr} {c3 c5 d3 d5 : Nat} (hK : Kd.FK k67 w ok x [.int .i64 x.f0, .int .i64 x.f1, .string x.f2, .slice A3 x.f3.length c3, .string x.f4, .slice A5 x.f5.length c5]) (hb : Below w.heap.size w W) (hL : Kd.FK k67 W ok' x [.int .i64 x.f0, .int .i64 x.f1, .string x.f2, .slice B3 x.f3.length d3, .string x.f4, .slice B5 x.f5.length d5]) :
    Calls Try.prog 40 #[.agg #[.int .i64 x.f0, .int .i64 x.f1, .string x.f2, .slice A3 x.f3.length c3, .string x.f4, .slice A5 x.f5.length c5], .agg #[.int .i64 x.f0, .int .i64 x.f1, .string x.f2, .slice B3 x.f3.length d3, .string x.f4, .slice B5 x.f5.length d5]] W fun e w' => e = .returned (.bool true) ∧ Below W.heap.size W w' := by
  obtain ⟨a1, a2, a3, a4⟩ := V_open hK
  obtain ⟨b1, b2, b3, b4⟩ := V_open hL
  exact same_all x W _ _ _ _ _ _ _ _ a1 a3 b1 b3 (Kd.C_below a2 hb) (Kd.C_below a4 hb) b2 b4
theorem PX_more {w0 w : World} {p g n c : Nat} {S : List S96} {A : Option Addr} {O OV : Nat → Prop} (h : PX w0 p S g A n c O OV w) {o : Obj} : PX w0 p S g A n c (fun k => O k ∨ (w.heap.size ≤ k ∧ k < (w.alloc o).heap.size)) OV (w.alloc o) := by
  have hb := below_alloc (Below.refl w.heap.size w) o
  have h1 := PX_below h hb
  exact ⟨JA_deep h.ja hb, fun k hk => ⟨.inl (h.ov k hk).1, (h.ov k hk).2⟩, .inl h.og, h.lg, h1.b, h1.v, h.hn⟩
theorem PD_base {w0 w : World} {p g g8 n' c' : Nat} {S' : List S96} {A' : Option Addr} {v0 : Value} (h : PD w0 p S' g g8 A' n' c' v0 w) : Below w0.heap.size w0 w := by
  obtain ⟨O, OV, hJ, _⟩ := h.ex
  exact JA_below hJ
theorem PD_a {w0 w w4 : World} {p g n c n4 c4 : Nat} {S S' : List S96} {A A4 : Option Addr} {O OV OV4 : Nat → Prop} (h : PX w0 p S g A n c O OV w) (hn : n4 = S'.length) (hV : Kd.V k116 116 w4 0 OV4 (.slice A4 n4 c4) (riS S')) (hJ : JA w0 w4 p S' (fun k => O k ∨ OV4 k)) (hk : kO O w w4) (ho : ∀ k, OV4 k → OV k ∨ w.heap.size ≤ k) : PD w0 p S' g w4.heap.size A4 n4 c4 (.slice A n c) (w4.alloc (.cells #[.slice none 0 0] 57)) := by
  have hb := below_alloc (Below.refl w4.heap.size w4) (.cells #[.slice none 0 0] 57)
  have h8 := blk_new w4 (.cells #[.slice none 0 0] 57)
  have hg : g < w4.heap.size := JA_O hJ (.inl h.og)
  refine ⟨⟨_, OV4, JA_deep hJ hb, fun k hkk => ⟨.inl (.inr hkk), ?_, ?_⟩, .inl (.inl h.og), .inr ⟨Nat.le_refl _, blk_lt h8⟩, Kd.V_step hV (fun k _ hl => hb.block k hl)⟩, h.lg, (JA_below hJ).size, Nat.ne_of_lt hg, blk_below ((hk.2 g h.og).trans h.b) hb, h8, hn⟩
  · rcases ho k hkk with h1 | h1
    · exact (h.ov k h1).2
    · have := JA_O h.ja h.og; omega
  · have := JA_O hJ (.inr hkk); omega
theorem PD_b {w0 w w4 : World} {p g n c n4 c4 : Nat} {S S' : List S96} {A A4 : Option Addr} {O OV OV4 : Nat → Prop} (h : PX w0 p S g A n c O OV w) (hn : n4 = S'.length) (hV : Kd.V k116 116 w4 0 OV4 (.slice A4 n4 c4) (riS S')) (hJ : JA w0 w4 p S' (fun k => (O k ∨ (w.heap.size ≤ k ∧ k < (w.alloc (.cells #[.slice none 0 0] 57)).heap.size)) ∨ OV4 k)) (hk : kO (fun k => O k ∨ (w.heap.size ≤ k ∧ k < (w.alloc (.cells #[.slice none 0 0] 57)).heap.size)) (w.alloc (.cells #[.slice none 0 0] 57)) w4) (ho : ∀ k, OV4 k → OV k ∨ (w.alloc (.cells #[.slice none 0 0] 57)).heap.size ≤ k) : PD w0 p S' g w.heap.size A4 n4 c4 (.slice A n c) w4 := by
  have hb := below_alloc (Below.refl w.heap.size w) (.cells #[.slice none 0 0] 57)
  have h8 := blk_new w (.cells #[.slice none 0 0] 57)
  have o8 : w.heap.size ≤ w.heap.size ∧ w.heap.size < (w.alloc (.cells #[.slice none 0 0] 57)).heap.size := ⟨Nat.le_refl _, blk_lt h8⟩
  have hg : g < w.heap.size := JA_O h.ja h.og
  refine ⟨⟨_, OV4, hJ, fun k hkk => ⟨.inr hkk, ?_, ?_⟩, .inl (.inl h.og), .inl (.inr o8), hV⟩, h.lg, (JA_below h.ja).size, Nat.ne_of_lt hg, (hk.2 g (.inl h.og)).trans (blk_below h.b hb), (hk.2 _ (.inr o8)).trans h8, hn⟩
  · rcases ho k hkk with h1 | h1
    · exact (h.ov k h1).2
    · have := o8.2; omega
  · rcases ho k hkk with h1 | h1
    · have := JA_O h.ja (h.ov k h1).1; omega
    · have := o8.2; omega
set_option maxRecDepth 100000 in
set_option maxHeartbeats 40000000 in
theorem law_Plays (A0 : Option Addr) (c0 : Nat) (l0 : List S54) (a1 : Int) (w : World) (hr0 : Kd.C k54 w A0 l0.length l0) : Calls Try.prog 11 #[.slice A0 l0.length c0, .int .i64 a1] w fun e w' => e = .returned (.bool true) ∧ Below w.heap.size w w' := by
  have HR0 := Aside0.mk hr0
  have m0 := Kd.C_max hr0
  clear hr0
  go_enter Try.func11, Try.ntmps11
  go_upto_region 3 with (first | (go_at_call 25; refine (J_New _).mono ?_; rintro e w1 ⟨p, rfl, hJ, hb⟩; have J1 := Aside0.mk (JA_mono (O' := fun _ => False) hJ (fun _ h => h.elim)); clear hJ hb) | (go_at_call 35; refine (R_New _).mono ?_; rintro e w2 ⟨A, n, c, rfl, hn, hV, hb⟩; have Q0 := Aside0.mk (PS_new J1.out (show n = [root96].length from hn) hV hb); clear hn hV hb J1))
  obtain ⟨g, hg⟩ : ∃ g, g = w2.heap.size := ⟨_, rfl⟩
  obtain ⟨W2, hW2⟩ : ∃ W2, W2 = w2.alloc (.cells #[.slice A n c] 57) := ⟨_, rfl⟩
  rw [← hW2, ← hg] at Q0
  rw [← hW2, ← hg]
  clear hW2 hg
  go_upto_block 0 with (fail)
  go_cut [7] from 7 to 99 (fun v7 wc => ∃ S A n c, Aside0 (OkS 40 S) ∧ Aside0 (PS w p S g A n c wc))
  case first =>
    go_wp2
    go_loopw [7, 8, 9, 10, 11, 12] (fun v7 v8 v9 v10 v11 v12 wr => ∃ (j : Nat) (S : List S96) (A : Option Addr) (n c : Nat), v7 = .int .i64 (j : Int) ∧ j ≤ l0.length ∧ j ≤ 40 ∧ Aside0 (OkS j S) ∧ Aside0 (PS w p S g A n c wr)) (fun v7 v8 v9 v10 v11 v12 _ => l0.length - (intOf v7).toNat)
    case atStart => exact ⟨0, _, _, _, _, rfl, Nat.zero_le _, Nat.zero_le _, ⟨OkS_root⟩, Q0⟩
    case round =>
      obtain ⟨j, S, A, n, c, rfl, hj, hj2, HI, HJ⟩ := hrel
      clear Q0
      by_cases d0 : j < l0.length ∧ j < 40
      · obtain ⟨d1, d2⟩ := d0
        have d1b : decide (j < l0.length) = true := decide_eq_true d1
        have d2b : decide (j < 40) = true := decide_eq_true d2
        have DJ1 := Aside0.mk d1
        have DJ2 := Aside0.mk d2
        obtain ⟨ad, L, m, q, a, rfl, hal, hy, hm, hq, hC⟩ := act_at HR0.out j d1
        have HY := Aside0.mk hy
        have HM := Aside0.mk hm
        have HQ := Aside0.mk hq
        have HC := Aside0.mk hC
        have HJ40 := Aside0.mk (show j ≤ 40 from hj2)
        obtain ⟨y0, y1, y2, y3, y4, y5⟩ := hy _ (PS_base HJ.out)
        clear hy hal hm hq hC
        by_cases e1 : a.f4.size ≤ 60 ∧ a.f5.length ≤ 6
        · have EV := Aside0.mk (small_ev a e1.1 e1.2)
          have SM := Aside0.mk e1
          clear e1
          obtain ⟨S', r1, r2, hx⟩ : ∃ S' r1 r2, acS a S = (S', r1, r2) := ⟨_, _, _, rfl⟩
          have NI := Aside0.mk (show OkS (j + 1) S' by have := OkS_ac HI.out a SM.out.1 SM.out.2; rw [hx] at this; exact this)
          have HX := Aside0.mk hx
          clear hx
          go_upto_region 9 with (go_at_call 33; refine (small_c HM.out HQ.out (Kd.C_below HC.out (PS_base HJ.out)) EV.out).mono ?_; rintro e w2 ⟨rfl, hb⟩; have J2 := Aside0.mk (PS_below HJ.out hb); clear hb HJ y0 y1 y2 y3 y4 y5)
          obtain ⟨O, OV, hX1⟩ := PS_below J2.out (below_drew (Below.refl _ w2))
          have X1 := Aside0.mk hX1
          clear hX1
          refine start_ (n := 13) (S := fun w' => w'.cell? ⟨g, 0, none⟩ = some (.slice A n c) ∧ w'.cell? (ad.add (j * 6)) = some (.int .i64 a.f0) ∧ w'.cell? ⟨(ad.add (j * 6)).block, (ad.add (j * 6)).off + 1, none⟩ = some (.int .i64 a.f1) ∧ w'.cell? ⟨(ad.add (j * 6)).block, (ad.add (j * 6)).off + 2, none⟩ = some (.int .i64 a.f2) ∧ w'.cell? ⟨(ad.add (j * 6)).block, (ad.add (j * 6)).off + 3, none⟩ = some (.int .i64 a.f3) ∧ w'.cell? ⟨(ad.add (j * 6)).block, (ad.add (j * 6)).off + 4, none⟩ = some (.string a.f4) ∧ w'.cell? ⟨(ad.add (j * 6)).block, (ad.add (j * 6)).off + 5, none⟩ = some (.slice L m q)) (ds := [11]) #[false, false, false, false, false, false, false, false, false, false, false, false, false] (by kernel_rfl) rfl rfl ⟨(blk_cell X1.out.b 0), (HY.out _ (JA_below X1.out.ja)).1, (HY.out _ (JA_below X1.out.ja)).2.1, (HY.out _ (JA_below X1.out.ja)).2.2.1, (HY.out _ (JA_below X1.out.ja)).2.2.2.1, (HY.out _ (JA_below X1.out.ja)).2.2.2.2.1, (HY.out _ (JA_below X1.out.ja)).2.2.2.2.2⟩ (fun hHeld => ?_)
          generalize w2.drew = W1 at hHeld X1 ⊢
          refine pure_ (i := 0) (N := some 34) (v := ?_) (a' := ?_) #[true, false, false, false, false, false, false, false, false, false, false, false, false] rfl rfl (by kernel_rfl) (fun _ _ _ h => h) (Or.inl ⟨by rfl, ?_⟩) ?_ ?_
          rotate_left
          · intro w'
            go_simp
            with_reducible rfl
          rotate_left
          · simp only [Act.put, List.setIfInBounds_toArray, List.set_cons_zero, List.set_cons_succ, i64_w, i32_w]
            rfl
          refine pure_ (i := 2) (N := some 36) (v := ?_) (a' := ?_) #[true, false, true, false, false, false, false, false, false, false, false, false, false] rfl rfl (by kernel_rfl) (fun _ _ _ h => h) (Or.inl ⟨by rfl, ?_⟩) ?_ ?_
          rotate_left
          · intro w'
            go_simp
            with_reducible rfl
          rotate_left
          · simp only [Act.put, List.setIfInBounds_toArray, List.set_cons_zero, List.set_cons_succ, i64_w, i32_w]
            rfl
          refine pure_ (i := 3) (N := some 37) (v := ?_) (a' := ?_) #[true, false, true, true, false, false, false, false, false, false, false, false, false] rfl rfl (by kernel_rfl) (fun _ _ _ h => h) (Or.inl ⟨by rfl, ?_⟩) ?_ ?_
          rotate_left
          · intro w'
            go_simp
            with_reducible rfl
          rotate_left
          · simp only [Act.put, List.setIfInBounds_toArray, List.set_cons_zero, List.set_cons_succ, i64_w, i32_w]
            rfl
          refine pure_ (i := 4) (N := some 38) (v := ?_) (a' := ?_) #[true, false, true, true, true, false, false, false, false, false, false, false, false] rfl rfl (by kernel_rfl) (fun _ _ _ h => h) (Or.inl ⟨by rfl, ?_⟩) ?_ ?_
          rotate_left
          · intro w'
            go_simp
            with_reducible rfl
          rotate_left
          · simp only [Act.put, List.setIfInBounds_toArray, List.set_cons_zero, List.set_cons_succ, i64_w, i32_w]
            rfl
          refine take_ (i := 1) (N := some 35) (v := ?_) (a' := ?_) #[true, true, true, true, true, false, false, false, false, false, false, false, false] rfl rfl (by kernel_rfl) (fun _ _ _ h => h) (Or.inl ⟨by rfl, ?_⟩) hHeld ?_ ?_
          rotate_left
          · rintro w' ⟨s0, s1, s2, s3, s4, s5, s6⟩
            go_simp
            with_reducible rfl
          rotate_left
          · simp only [Act.put, List.setIfInBounds_toArray, List.set_cons_zero, List.set_cons_succ, i64_w, i32_w]
            rfl
          refine take_ (i := 5) (N := some 39) (v := ?_) (a' := ?_) #[true, true, true, true, true, true, false, false, false, false, false, false, false] rfl rfl (by kernel_rfl) (fun _ _ _ h => h) (Or.inl ⟨by rfl, ?_⟩) hHeld ?_ ?_
          rotate_left
          · rintro w' ⟨s0, s1, s2, s3, s4, s5, s6⟩
            go_simp
            with_reducible rfl
          rotate_left
          · simp only [Act.put, List.setIfInBounds_toArray, List.set_cons_zero, List.set_cons_succ, i64_w, i32_w]
            rfl
          refine join_ (σ := Option Addr × Nat × Nat × Nat) 2 #[true, true, true, true, true, true, true, true, true, true, true, false, false] (fun s => [(40, .tuple #[.agg #[.slice s.1 s.2.1 s.2.2.1], .bool true]), (33, .tuple #[.agg #[.slice s.1 s.2.1 s.2.2.1], .bool true]), (41, .agg #[.slice s.1 s.2.1 s.2.2.1]), (42, .bool true), (8, .pointer (some ⟨s.2.2.2, 0, none⟩))]) (fun s w' => PD w p S' g s.2.2.2 s.1 s.2.1 s.2.2.1 (.slice A n c) w') ?_ ?_
          rotate_left
          · intro hCont
            refine two_ (i := 6) (j := 10) (Ni := some 40) (Nj := some 8) #[true, true, true, true, true, true, true, false, false, false, false, false, false] #[true, true, true, true, true, true, false, false, false, false, true, false, false] rfl rfl rfl rfl (by kernel_rfl) (by decide) (by decide) (fun K hK => ?_) (fun K hK => ?_)
            · skip
              refine goes_ Try.func34 (by kernel_rfl) rfl #[.pointer (some ⟨p, 0, none⟩), .agg #[.slice A n c], .agg #[.int .i64 a.f0, .int .i64 a.f1, .int .i64 a.f2, .int .i64 a.f3, .string a.f4, .slice L m q]] (by rfl) rfl rfl (by simp only [List.map_toArray, List.map_cons, List.map_nil]; rfl) ?_
              with_reducible refine (J_do X1.out.ja X1.out.hn X1.out.v (fun k hk => (X1.out.ov k hk).1) a HM.out HC.out HQ.out HI.out HI.out HJ40.out HJ40.out SM.out S' S' r1 r1 r2 r2 HX.out HX.out true (ok_same r1 r2)).mono ?_
              rintro e w4 ⟨A4, n4, c4, OV4, rfl, hn4, hV4, hJ4, hk4, ho4⟩
              refine ⟨_, rfl, ?_⟩
              have DN := Aside0.mk hn4; have DV := Aside0.mk hV4; have DJ := Aside0.mk hJ4; have DK := Aside0.mk hk4; have DO_ := Aside0.mk ho4; clear hn4 hV4 hJ4 hk4 ho4
              refine hK.out _ _ ⟨(blk_cell ((DK.out.2 g X1.out.og).trans X1.out.b) 0), (HY.out _ (JA_below DJ.out)).1, (HY.out _ (JA_below DJ.out)).2.1, (HY.out _ (JA_below DJ.out)).2.2.1, (HY.out _ (JA_below DJ.out)).2.2.2.1, (HY.out _ (JA_below DJ.out)).2.2.2.2.1, (HY.out _ (JA_below DJ.out)).2.2.2.2.2⟩ (fun hHeld => ?_)
              clear hK K
              refine norm_ (a' := ?_) ?_ ?_
              rotate_left
              · show Act.put _ (some 40) _ = _
                simp only [Act.put, List.setIfInBounds_toArray, List.set_cons_zero, List.set_cons_succ, i64_w, i32_w]
                rfl
              refine pure_ (i := 7) (N := some 33) (v := ?_) (a' := ?_) #[true, true, true, true, true, true, true, true, false, false, false, false, false] rfl rfl (by kernel_rfl) (fun _ _ _ h => h) (Or.inl ⟨by rfl, ?_⟩) ?_ ?_
              rotate_left
              · intro w'
                go_simp
                with_reducible rfl
              rotate_left
              · simp only [Act.put, List.setIfInBounds_toArray, List.set_cons_zero, List.set_cons_succ, i64_w, i32_w]
                rfl
              refine pure_ (i := 8) (N := some 41) (v := ?_) (a' := ?_) #[true, true, true, true, true, true, true, true, true, false, false, false, false] rfl rfl (by kernel_rfl) (fun _ _ _ h => h) (Or.inl ⟨by rfl, ?_⟩) ?_ ?_
              rotate_left
              · intro w'
                go_simp
                with_reducible rfl
              rotate_left
              · simp only [Act.put, List.setIfInBounds_toArray, List.set_cons_zero, List.set_cons_succ, i64_w, i32_w]
                rfl
              refine pure_ (i := 9) (N := some 42) (v := ?_) (a' := ?_) #[true, true, true, true, true, true, true, true, true, true, false, false, false] rfl rfl (by kernel_rfl) (fun _ _ _ h => h) (Or.inl ⟨by rfl, ?_⟩) ?_ ?_
              rotate_left
              · intro w'
                go_simp
                with_reducible rfl
              rotate_left
              · simp only [Act.put, List.setIfInBounds_toArray, List.set_cons_zero, List.set_cons_succ, i64_w, i32_w]
                rfl
              refine one_ (i := 10) (N := some 8) #[true, true, true, true, true, true, true, true, true, true, true, false, false] rfl rfl (by kernel_rfl) (by decide) (fun K hK => ?_)
              refine value_ (w1 := w4.alloc (.cells #[.slice none 0 0] 57)) (v := .pointer (some ⟨w4.heap.size, 0, none⟩)) (by rfl) rfl ?_ ?_
              · first | (go_simp; done) | (go_simp; rfl)
              refine hK.out _ _ ⟨(blk_cell (blk_below ((DK.out.2 g X1.out.og).trans X1.out.b) (below_alloc (Below.refl _ _) (.cells #[.slice none 0 0] 57))) 0), (HY.out _ (below_step' (JA_below DJ.out) (below_alloc (Below.refl _ _) (.cells #[.slice none 0 0] 57)))).1, (HY.out _ (below_step' (JA_below DJ.out) (below_alloc (Below.refl _ _) (.cells #[.slice none 0 0] 57)))).2.1, (HY.out _ (below_step' (JA_below DJ.out) (below_alloc (Below.refl _ _) (.cells #[.slice none 0 0] 57)))).2.2.1, (HY.out _ (below_step' (JA_below DJ.out) (below_alloc (Below.refl _ _) (.cells #[.slice none 0 0] 57)))).2.2.2.1, (HY.out _ (below_step' (JA_below DJ.out) (below_alloc (Below.refl _ _) (.cells #[.slice none 0 0] 57)))).2.2.2.2.1, (HY.out _ (below_step' (JA_below DJ.out) (below_alloc (Below.refl _ _) (.cells #[.slice none 0 0] 57)))).2.2.2.2.2⟩ (fun hHeld => ?_)
              clear hK K
              refine norm_ (a' := ?_) ?_ ?_
              rotate_left
              · show Act.put _ (some 8) _ = _
                simp only [Act.put, List.setIfInBounds_toArray, List.set_cons_zero, List.set_cons_succ, i64_w, i32_w]
                rfl
              exact norm_ (by simp only [putAll, Act.put, List.setIfInBounds_toArray, List.set_cons_zero, List.set_cons_succ]) (hCont (A4, n4, c4, w4.heap.size) _ (PD_a X1.out DN.out DV.out DJ.out DK.out DO_.out))
            · skip
              refine value_ (w1 := W1.alloc (.cells #[.slice none 0 0] 57)) (v := .pointer (some ⟨W1.heap.size, 0, none⟩)) (by rfl) rfl ?_ ?_
              · first | (go_simp; done) | (go_simp; rfl)
              have X1b := Aside0.mk (PX_more (o := .cells #[.slice none 0 0] 57) X1.out)
              refine hK.out _ _ ⟨(blk_cell X1b.out.b 0), (HY.out _ (JA_below X1b.out.ja)).1, (HY.out _ (JA_below X1b.out.ja)).2.1, (HY.out _ (JA_below X1b.out.ja)).2.2.1, (HY.out _ (JA_below X1b.out.ja)).2.2.2.1, (HY.out _ (JA_below X1b.out.ja)).2.2.2.2.1, (HY.out _ (JA_below X1b.out.ja)).2.2.2.2.2⟩ (fun hHeld => ?_)
              clear hK K
              refine norm_ (a' := ?_) ?_ ?_
              rotate_left
              · show Act.put _ (some 8) _ = _
                simp only [Act.put, List.setIfInBounds_toArray, List.set_cons_zero, List.set_cons_succ, i64_w, i32_w]
                rfl
              refine one_ (i := 6) (N := some 40) #[true, true, true, true, true, true, true, false, false, false, true, false, false] rfl rfl (by kernel_rfl) (by decide) (fun K hK => ?_)
              refine goes_ Try.func34 (by kernel_rfl) rfl #[.pointer (some ⟨p, 0, none⟩), .agg #[.slice A n c], .agg #[.int .i64 a.f0, .int .i64 a.f1, .int .i64 a.f2, .int .i64 a.f3, .string a.f4, .slice L m q]] (by rfl) rfl rfl (by simp only [List.map_toArray, List.map_cons, List.map_nil]; rfl) ?_
              with_reducible refine (J_do X1b.out.ja X1b.out.hn X1b.out.v (fun k hk => (X1b.out.ov k hk).1) a HM.out HC.out HQ.out HI.out HI.out HJ40.out HJ40.out SM.out S' S' r1 r1 r2 r2 HX.out HX.out true (ok_same r1 r2)).mono ?_
              rintro e w4 ⟨A4, n4, c4, OV4, rfl, hn4, hV4, hJ4, hk4, ho4⟩
              refine ⟨_, rfl, ?_⟩
              have DN := Aside0.mk hn4; have DV := Aside0.mk hV4; have DJ := Aside0.mk hJ4; have DK := Aside0.mk hk4; have DO_ := Aside0.mk ho4; clear hn4 hV4 hJ4 hk4 ho4
              refine hK.out _ _ ⟨(blk_cell ((DK.out.2 g X1b.out.og).trans X1b.out.b) 0), (HY.out _ (JA_below DJ.out)).1, (HY.out _ (JA_below DJ.out)).2.1, (HY.out _ (JA_below DJ.out)).2.2.1, (HY.out _ (JA_below DJ.out)).2.2.2.1, (HY.out _ (JA_below DJ.out)).2.2.2.2.1, (HY.out _ (JA_below DJ.out)).2.2.2.2.2⟩ (fun hHeld => ?_)
              clear hK K
              refine norm_ (a' := ?_) ?_ ?_
              rotate_left
              · show Act.put _ (some 40) _ = _
                simp only [Act.put, List.setIfInBounds_toArray, List.set_cons_zero, List.set_cons_succ, i64_w, i32_w]
                rfl
              refine pure_ (i := 7) (N := some 33) (v := ?_) (a' := ?_) #[true, true, true, true, true, true, true, true, false, false, true, false, false] rfl rfl (by kernel_rfl) (fun _ _ _ h => h) (Or.inl ⟨by rfl, ?_⟩) ?_ ?_
              rotate_left
              · intro w'
                go_simp
                with_reducible rfl
              rotate_left
              · simp only [Act.put, List.setIfInBounds_toArray, List.set_cons_zero, List.set_cons_succ, i64_w, i32_w]
                rfl
              refine pure_ (i := 8) (N := some 41) (v := ?_) (a' := ?_) #[true, true, true, true, true, true, true, true, true, false, true, false, false] rfl rfl (by kernel_rfl) (fun _ _ _ h => h) (Or.inl ⟨by rfl, ?_⟩) ?_ ?_
              rotate_left
              · intro w'
                go_simp
                with_reducible rfl
              rotate_left
              · simp only [Act.put, List.setIfInBounds_toArray, List.set_cons_zero, List.set_cons_succ, i64_w, i32_w]
                rfl
              refine pure_ (i := 9) (N := some 42) (v := ?_) (a' := ?_) #[true, true, true, true, true, true, true, true, true, true, true, false, false] rfl rfl (by kernel_rfl) (fun _ _ _ h => h) (Or.inl ⟨by rfl, ?_⟩) ?_ ?_
              rotate_left
              · intro w'
                go_simp
                with_reducible rfl
              rotate_left
              · simp only [Act.put, List.setIfInBounds_toArray, List.set_cons_zero, List.set_cons_succ, i64_w, i32_w]
                rfl
              exact norm_ (by simp only [putAll, Act.put, List.setIfInBounds_toArray, List.set_cons_zero, List.set_cons_succ]) (hCont (A4, n4, c4, W1.heap.size) _ (PD_b X1.out DN.out DV.out DJ.out DK.out DO_.out))
          rintro ⟨A4, n4, c4, g8⟩ w5 hD
          have DD := Aside0.mk (show PD w p S' g g8 A4 n4 c4 (.slice A n c) w5 from hD)
          have hHeld : w5.cell? ⟨g, 0, none⟩ = some (.slice A n c) ∧ w5.cell? (ad.add (j * 6)) = some (.int .i64 a.f0) ∧ w5.cell? ⟨(ad.add (j * 6)).block, (ad.add (j * 6)).off + 1, none⟩ = some (.int .i64 a.f1) ∧ w5.cell? ⟨(ad.add (j * 6)).block, (ad.add (j * 6)).off + 2, none⟩ = some (.int .i64 a.f2) ∧ w5.cell? ⟨(ad.add (j * 6)).block, (ad.add (j * 6)).off + 3, none⟩ = some (.int .i64 a.f3) ∧ w5.cell? ⟨(ad.add (j * 6)).block, (ad.add (j * 6)).off + 4, none⟩ = some (.string a.f4) ∧ w5.cell? ⟨(ad.add (j * 6)).block, (ad.add (j * 6)).off + 5, none⟩ = some (.slice L m q) := ⟨(blk_cell DD.out.b 0), (HY.out _ (PD_base DD.out)).1, (HY.out _ (PD_base DD.out)).2.1, (HY.out _ (PD_base DD.out)).2.2.1, (HY.out _ (PD_base DD.out)).2.2.2.1, (HY.out _ (PD_base DD.out)).2.2.2.2.1, (HY.out _ (PD_base DD.out)).2.2.2.2.2⟩
          have y8 := (blk_cell DD.out.b8 0).trans (rfl : #[Value.slice none 0 0][0]? = some (.slice none 0 0))
          have f8 := blk_frozen DD.out.b8 0
          clear hD
          refine norm_ (a' := ?_) ?_ ?_
          rotate_left
          · simp only [putAll, Act.put, List.setIfInBounds_toArray, List.set_cons_zero, List.set_cons_succ]
            rfl
          refine last_ (i := 11) (N := none) #[true, true, true, true, true, true, true, true, true, true, true, true, false] rfl rfl (by kernel_rfl) (by decide) (fun K hK => ?_)
          refine skip_ (w1 := ?_) (by rfl) rfl ?_ ?_
          rotate_left
          · go_simp
            rfl
          refine hK.out _ _ ?_
          clear hK K
          refine pure_ (i := 12) (N := some 9) (v := ?_) (a' := ?_) #[true, true, true, true, true, true, true, true, true, true, true, true, true] rfl rfl (by kernel_rfl) (fun _ _ _ h => h) (Or.inl ⟨by rfl, ?_⟩) ?_ ?_
          rotate_left
          · intro w'
            go_simp
            with_reducible rfl
          rotate_left
          · simp only [Act.put, List.setIfInBounds_toArray, List.set_cons_zero, List.set_cons_succ, i64_w, i32_w]
            rfl
          refine done_ (by kernel_rfl) ?_
          have z8 := (blk_cell (blk_put (cs := #[.slice none 0 0]) DD.out.b8 0 (.slice A4 n4 c4) rfl) 0).trans (rfl : (#[Value.slice none 0 0].set! 0 (.slice A4 n4 c4))[0]? = some (.slice A4 n4 c4))
          have zg := (blk_cell (blk_far (p := ⟨g8, 0, none⟩) DD.out.b DD.out.ne (.slice A4 n4 c4)) 0).trans (rfl : #[Value.slice A n c][0]? = some (.slice A n c))
          have fg := blk_frozen (blk_far (p := ⟨g8, 0, none⟩) DD.out.b DD.out.ne (.slice A4 n4 c4)) 0
          have Q1' := Aside0.mk (PD_PS DD.out)
          clear y8 f8
          go_upto_region 11 with (fail)
          clear z8 zg fg
          obtain ⟨W5, hW5⟩ : ∃ W5, W5 = (w5.setCell ⟨g8, 0, none⟩ (.slice A4 n4 c4)).setCell ⟨g, 0, none⟩ (.slice A4 n4 c4) := ⟨_, rfl⟩
          rw [← hW5] at Q1'
          rw [← hW5]
          clear hW5 DD X1 J2 HI HX
          have HF := Aside0.mk NI.out.fo
          have HN := Aside0.mk (show S'.length ≤ 42 by have h1 := NI.out.len; have h2 := HJ40.out; omega)
          have HAT := Aside0.mk (fun i => Nat.le_trans (NI.out.att i) (by decide : 6 ≤ 100000))
          obtain ⟨x, hx⟩ : ∃ x, x = vaI S' a1 := ⟨_, rfl⟩
          have VX := Aside0.mk hx
          have HNN := Aside0.mk (PS_n Q1'.out)
          obtain ⟨A, n, c, Q1, HNN⟩ : ∃ A n c, Aside0 (PS w p S' g A n c W5) ∧ Aside0 (n = S'.length) ∧ A = A4 ∧ n = n4 ∧ c = c4 := ⟨_, _, _, Q1', HNN, rfl, rfl, rfl⟩
          obtain ⟨HNN, rfl, rfl, rfl⟩ := HNN
          have nn : ((n : Int) != (n : Int)) = false := by simp
          clear hx Q1'
          refine start_ (n := 20) (S := fun w' => w'.cell? ⟨g, 0, none⟩ = some (.slice A n c)) (ds := []) #[false, false, false, false, false, false, false, false, false, false, false, false, false, false, false, false, false, false, false, false] (by kernel_rfl) rfl rfl ((PS_cell (PS_below Q1.out (below_drew (Below.refl _ _))))) (fun hHeld => ?_)
          refine pure_ (i := 0) (N := some 44) (v := ?_) (a' := ?_) #[true, false, false, false, false, false, false, false, false, false, false, false, false, false, false, false, false, false, false, false] rfl rfl (by kernel_rfl) (fun _ _ _ h => h) (Or.inl ⟨by rfl, ?_⟩) ?_ ?_
          rotate_left
          · intro w'
            go_simp
            with_reducible rfl
          rotate_left
          · simp only [Act.put, List.setIfInBounds_toArray, List.set_cons_zero, List.set_cons_succ, i64_w, i32_w]
            rfl
          refine pure_ (i := 1) (N := some 45) (v := ?_) (a' := ?_) #[true, true, false, false, false, false, false, false, false, false, false, false, false, false, false, false, false, false, false, false] rfl rfl (by kernel_rfl) (fun _ _ _ h => h) (Or.inl ⟨by rfl, ?_⟩) ?_ ?_
          rotate_left
          · intro w'
            go_simp
            with_reducible rfl
          rotate_left
          · simp only [Act.put, List.setIfInBounds_toArray, List.set_cons_zero, List.set_cons_succ, i64_w, i32_w]
            rfl
          refine pure_ (i := 2) (N := some 46) (v := ?_) (a' := ?_) #[true, true, true, false, false, false, false, false, false, false, false, false, false, false, false, false, false, false, false, false] rfl rfl (by kernel_rfl) (fun _ _ _ h => h) (Or.inl ⟨by rfl, ?_⟩) ?_ ?_
          rotate_left
          · intro w'
            go_simp
            with_reducible rfl
          rotate_left
          · simp only [Act.put, List.setIfInBounds_toArray, List.set_cons_zero, List.set_cons_succ, i64_w, i32_w]
            rfl
          refine pure_ (i := 3) (N := some 47) (v := ?_) (a' := ?_) #[true, true, true, true, false, false, false, false, false, false, false, false, false, false, false, false, false, false, false, false] rfl rfl (by kernel_rfl) (fun _ _ _ h => h) (Or.inl ⟨by rfl, ?_⟩) ?_ ?_
          rotate_left
          · intro w'
            go_simp
            with_reducible rfl
          rotate_left
          · simp only [Act.put, List.setIfInBounds_toArray, List.set_cons_zero, List.set_cons_succ, i64_w, i32_w]
            rfl
          refine pure_ (i := 5) (N := some 49) (v := ?_) (a' := ?_) #[true, true, true, true, false, true, false, false, false, false, false, false, false, false, false, false, false, false, false, false] rfl rfl (by kernel_rfl) (fun _ _ _ h => h) (Or.inl ⟨by rfl, ?_⟩) ?_ ?_
          rotate_left
          · intro w'
            go_simp
            with_reducible rfl
          rotate_left
          · simp only [Act.put, List.setIfInBounds_toArray, List.set_cons_zero, List.set_cons_succ, i64_w, i32_w]
            rfl
          refine take_ (i := 6) (N := some 50) (v := ?_) (a' := ?_) #[true, true, true, true, false, true, true, false, false, false, false, false, false, false, false, false, false, false, false, false] rfl rfl (by kernel_rfl) (fun _ _ _ h => h) (Or.inl ⟨by rfl, ?_⟩) hHeld ?_ ?_
          rotate_left
          · intro w' s0
            go_simp
            with_reducible rfl
          rotate_left
          · simp only [Act.put, List.setIfInBounds_toArray, List.set_cons_zero, List.set_cons_succ, i64_w, i32_w]
            rfl
          refine pure_ (i := 7) (N := some 51) (v := ?_) (a' := ?_) #[true, true, true, true, false, true, true, true, false, false, false, false, false, false, false, false, false, false, false, false] rfl rfl (by kernel_rfl) (fun _ _ _ h => h) (Or.inl ⟨by rfl, ?_⟩) ?_ ?_
          rotate_left
          · intro w'
            go_simp
            with_reducible rfl
          rotate_left
          · simp only [Act.put, List.setIfInBounds_toArray, List.set_cons_zero, List.set_cons_succ, i64_w, i32_w]
            rfl
          refine one_ (i := 4) (N := some 48) #[true, true, true, true, true, true, true, true, false, false, false, false, false, false, false, false, false, false, false, false] rfl rfl (by kernel_rfl) (by decide) (fun K hK => ?_)
          refine goes_ Try.func30 (by kernel_rfl) rfl #[.pointer (some ⟨p, 0, none⟩)] (by rfl) rfl rfl (by simp only [List.map_toArray, List.map_cons, List.map_nil]; rfl) ?_
          with_reducible refine (P_Len (PS_below Q1.out (below_drew (Below.refl _ _)))).mono ?_
          rintro e w6 ⟨rfl, rfl⟩
          refine ⟨_, rfl, ?_⟩
          refine hK.out _ _ ((PS_cell (PS_below Q1.out (below_drew (Below.refl _ _))))) (fun hHeld => ?_)
          clear hK K
          refine norm_ (a' := ?_) ?_ ?_
          rotate_left
          · show Act.put _ (some 48) _ = _
            simp only [Act.put, List.setIfInBounds_toArray, List.set_cons_zero, List.set_cons_succ, i64_w, i32_w]
            rfl
          refine pure_ (i := 8) (N := some 52) (v := ?_) (a' := ?_) #[true, true, true, true, true, true, true, true, true, false, false, false, false, false, false, false, false, false, false, false] rfl rfl (by kernel_rfl) (fun _ _ _ h => h) (Or.inl ⟨by rfl, ?_⟩) ?_ ?_
          rotate_left
          · intro w'
            go_simp
            with_reducible rfl
          rotate_left
          · simp only [Act.put, List.setIfInBounds_toArray, List.set_cons_zero, List.set_cons_succ, i64_w, i32_w]
            rfl
          refine pure_ (i := 9) (N := some 53) (v := ?_) (a' := ?_) #[true, true, true, true, true, true, true, true, true, true, false, false, false, false, false, false, false, false, false, false] rfl rfl (by kernel_rfl) (fun _ _ _ h => h) (Or.inl ⟨by rfl, ?_⟩) ?_ ?_
          rotate_left
          · intro w'
            go_simp
            with_reducible rfl
          rotate_left
          · simp only [Act.put, List.setIfInBounds_toArray, List.set_cons_zero, List.set_cons_succ, i64_w, i32_w]
            rfl
          refine pure_ (i := 10) (N := some 54) (v := ?_) (a' := ?_) #[true, true, true, true, true, true, true, true, true, true, true, false, false, false, false, false, false, false, false, false] rfl rfl (by kernel_rfl) (fun _ _ _ h => h) (Or.inl ⟨by rfl, ?_⟩) ?_ ?_
          rotate_left
          · intro w'
            go_simp
            with_reducible rfl
          rotate_left
          · simp only [Act.put, List.setIfInBounds_toArray, List.set_cons_zero, List.set_cons_succ, i64_w, i32_w]
            rfl
          refine pure_ (i := 11) (N := some 55) (v := ?_) (a' := ?_) #[true, true, true, true, true, true, true, true, true, true, true, true, false, false, false, false, false, false, false, false] rfl rfl (by kernel_rfl) (fun _ _ _ h => h) (Or.inl ⟨by rfl, ?_⟩) ?_ ?_
          rotate_left
          · intro w'
            go_simp
            with_reducible rfl
          rotate_left
          · simp only [Act.put, List.setIfInBounds_toArray, List.set_cons_zero, List.set_cons_succ, i64_w, i32_w]
            rfl
          refine pure_ (i := 12) (N := some 56) (v := ?_) (a' := ?_) #[true, true, true, true, true, true, true, true, true, true, true, true, true, false, false, false, false, false, false, false] rfl rfl (by kernel_rfl) (fun _ _ _ h => h) (Or.inl ⟨by rfl, ?_⟩) ?_ ?_
          rotate_left
          · intro w'
            go_simp
            with_reducible rfl
          rotate_left
          · simp only [Act.put, List.setIfInBounds_toArray, List.set_cons_zero, List.set_cons_succ, i64_w, i32_w]
            rfl
          refine pure_ (i := 15) (N := some 59) (v := ?_) (a' := ?_) #[true, true, true, true, true, true, true, true, true, true, true, true, true, false, false, true, false, false, false, false] rfl rfl (by kernel_rfl) (fun _ _ _ h => h) (Or.inl ⟨by rfl, ?_⟩) ?_ ?_
          rotate_left
          · intro w'
            go_simp
            with_reducible rfl
          rotate_left
          · simp only [Act.put, List.setIfInBounds_toArray, List.set_cons_zero, List.set_cons_succ, i64_w, i32_w]
            rfl
          refine take_ (i := 14) (N := some 58) (v := ?_) (a' := ?_) #[true, true, true, true, true, true, true, true, true, true, true, true, true, false, true, true, false, false, false, false] rfl rfl (by kernel_rfl) (fun _ _ _ h => h) (Or.inl ⟨by rfl, ?_⟩) hHeld ?_ ?_
          rotate_left
          · intro w' s0
            go_simp
            with_reducible rfl
          rotate_left
          · simp only [Act.put, List.setIfInBounds_toArray, List.set_cons_zero, List.set_cons_succ, i64_w, i32_w]
            rfl
          refine one_ (i := 13) (N := some 57) #[true, true, true, true, true, true, true, true, true, true, true, true, true, true, true, true, false, false, false, false] rfl rfl (by kernel_rfl) (by decide) (fun K hK => ?_)
          refine goes_ Try.func38 (by kernel_rfl) rfl #[.pointer (some ⟨p, 0, none⟩), .int .i64 a1] (by rfl) rfl rfl (by simp only [List.map_toArray, List.map_cons, List.map_nil]; rfl) ?_
          with_reducible refine (P_Value (PS_below Q1.out (below_drew (Below.refl _ _))) HF.out (by have := HN.out; omega) HAT.out a1 VX.out).mono ?_
          rintro e w7 ⟨P3, p3, P5, p5, rfl, hK, hb⟩
          refine ⟨_, rfl, ?_⟩
          have Q7 := Aside0.mk (PS_below (PS_below Q1.out (below_drew (Below.refl _ _))) hb)
          have K7 := Aside0.mk hK
          clear hK hb
          refine hK.out _ _ ((PS_cell Q7.out)) (fun hHeld => ?_)
          clear hK K
          refine norm_ (a' := ?_) ?_ ?_
          rotate_left
          · show Act.put _ (some 57) _ = _
            simp only [Act.put, List.setIfInBounds_toArray, List.set_cons_zero, List.set_cons_succ, i64_w, i32_w]
            rfl
          refine one_ (i := 16) (N := some 60) #[true, true, true, true, true, true, true, true, true, true, true, true, true, true, true, true, true, false, false, false] rfl rfl (by kernel_rfl) (by decide) (fun K hK => ?_)
          refine goes_ Try.func42 (by kernel_rfl) rfl #[.agg #[.slice A n c], .int .i64 a1] (by rfl) rfl rfl (by simp only [List.map_toArray, List.map_cons, List.map_nil]; rfl) ?_
          with_reducible refine (PR_Value Q7.out HF.out (by have := HN.out; omega) HAT.out a1 VX.out).mono ?_
          rintro e w8 ⟨Q3, q3, Q5, q5, rfl, hK, hb⟩
          refine ⟨_, rfl, ?_⟩
          have Q8 := Aside0.mk (PS_below Q7.out hb)
          have K8 := Aside0.mk hK
          have B8 := Aside0.mk hb
          clear hK hb
          refine hK.out _ _ ((PS_cell Q8.out)) (fun hHeld => ?_)
          clear hK K
          refine norm_ (a' := ?_) ?_ ?_
          rotate_left
          · show Act.put _ (some 60) _ = _
            simp only [Act.put, List.setIfInBounds_toArray, List.set_cons_zero, List.set_cons_succ, i64_w, i32_w]
            rfl
          refine one_ (i := 17) (N := some 61) #[true, true, true, true, true, true, true, true, true, true, true, true, true, true, true, true, true, true, false, false] rfl rfl (by kernel_rfl) (by decide) (fun K hK => ?_)
          refine goes_ Try.func40 (by kernel_rfl) rfl #[.agg #[.int .i64 x.f0, .int .i64 x.f1, .string x.f2, .slice P3 x.f3.length p3, .string x.f4, .slice P5 x.f5.length p5], .agg #[.int .i64 x.f0, .int .i64 x.f1, .string x.f2, .slice Q3 x.f3.length q3, .string x.f4, .slice Q5 x.f5.length q5]] (by rfl) rfl rfl (by simp only [List.map_toArray, List.map_cons, List.map_nil]; rfl) ?_
          with_reducible refine (same_v K7.out B8.out K8.out).mono ?_
          rintro e w9 ⟨rfl, hb⟩
          refine ⟨_, rfl, ?_⟩
          have Q9 := Aside0.mk (PS_below Q8.out hb)
          clear hb
          refine hK.out _ _ ((PS_cell Q9.out)) (fun hHeld => ?_)
          clear hK K
          refine norm_ (a' := ?_) ?_ ?_
          rotate_left
          · show Act.put _ (some 61) _ = _
            simp only [Act.put, List.setIfInBounds_toArray, List.set_cons_zero, List.set_cons_succ, i64_w, i32_w]
            rfl
          refine pure_ (i := 18) (N := some 62) (v := ?_) (a' := ?_) #[true, true, true, true, true, true, true, true, true, true, true, true, true, true, true, true, true, true, true, false] rfl rfl (by kernel_rfl) (fun _ _ _ h => h) (Or.inl ⟨by rfl, ?_⟩) ?_ ?_
          rotate_left
          · intro w'
            go_simp
            with_reducible rfl
          rotate_left
          · simp only [Act.put, List.setIfInBounds_toArray, List.set_cons_zero, List.set_cons_succ, i64_w, i32_w]
            rfl
          refine pure_ (i := 19) (N := some 63) (v := ?_) (a' := ?_) #[true, true, true, true, true, true, true, true, true, true, true, true, true, true, true, true, true, true, true, true] rfl rfl (by kernel_rfl) (fun _ _ _ h => h) (Or.inl ⟨by rfl, ?_⟩) ?_ ?_
          rotate_left
          · intro w'
            go_simp
            with_reducible rfl
          rotate_left
          · simp only [Act.put, List.setIfInBounds_toArray, List.set_cons_zero, List.set_cons_succ, i64_w, i32_w]
            rfl
          refine done_ (by kernel_rfl) ?_
          obtain ⟨WA, hWA⟩ : ∃ WA, WA = w9 := ⟨_, rfl⟩
          clear Q7 Q8 K7 K8 B8 Q1 nn
          go_wp2
          have nb : n ≤ 42 := by have h1 := HNN.out; have h2 := HN.out; omega
          go_loopw [10, 11, 12] (fun v10 v11 v12 wr => ∃ i : Int, v10 = .int .i64 i ∧ -1 ≤ i ∧ i ≤ n + 1 ∧ Aside0 (PS w p S' g A n c wr)) (fun v10 v11 v12 _ => (n + 1 - intOf v10).toNat)
          case atStart => exact ⟨-1, rfl, by omega, by omega, Q9⟩
          case round =>
            obtain ⟨i, rfl, hi1, hi2, Q1⟩ := hrel
            clear Q9 VX
            by_cases d : i ≤ (n : Int)
            · have db : decide (i ≤ (n : Int)) = true := decide_eq_true d
              have DD := Aside0.mk d
              have I1 := Aside0.mk hi1
              obtain ⟨l, hl⟩ : ∃ l, l = kiI S' i := ⟨_, rfl⟩
              obtain ⟨m, hm⟩ : ∃ m, m = l.length := ⟨_, rfl⟩
              have KI := Aside0.mk hl.symm
              have HM2 := Aside0.mk hm
              have mb : m ≤ 42 := by
                rw [hm, hl]
                unfold kiI
                split
                · rename_i cc
                  obtain ⟨q, rfl, hq⟩ := inZ_nat cc
                  rw [Int.toNat_natCast]
                  have h1 := FoS_ki_len HF.out hq
                  have h2 := HN.out
                  omega
                · simp
              have ML := Aside0.mk (show l.length ≤ 100000 by rw [← hm]; omega)
              obtain ⟨u, hu⟩ : ∃ u, u = paI S' i := ⟨_, rfl⟩
              have HU := Aside0.mk hu.symm
              have uu : (u != u) = false := by simp
              have zg := PS_cell Q1.out
              clear hl hm hu d
              go_upto_region 17 with (go_at_call 36; refine (P_Kids Q1.out i l m HM2.out ML.out KI.out).mono ?_; rintro e w10 ⟨AK, cK, rfl, hR, hb⟩; have RK := Aside0.mk hR; have K1 := Aside0.mk (by have h1 := PK_new Q1.out hR hb; rw [← HM2.out] at h1; exact h1 : PK w p S' g A n c (.slice AK m cK) m w10); clear hR hb Q1 zg)
              refine start_ (n := 15) (S := fun w' => w'.cell? ⟨g, 0, none⟩ = some (.slice A n c)) (ds := []) #[false, false, false, false, false, false, false, false, false, false, false, false, false, false, false] (by kernel_rfl) rfl rfl ((PS_cell (PK_PS (PK_below K1.out (below_drew (Below.refl _ _)))))) (fun hHeld => ?_)
              refine pure_ (i := 0) (N := some 74) (v := ?_) (a' := ?_) #[true, false, false, false, false, false, false, false, false, false, false, false, false, false, false] rfl rfl (by kernel_rfl) (fun _ _ _ h => h) (Or.inl ⟨by rfl, ?_⟩) ?_ ?_
              rotate_left
              · intro w'
                go_simp
                with_reducible rfl
              rotate_left
              · simp only [Act.put, List.setIfInBounds_toArray, List.set_cons_zero, List.set_cons_succ, i64_w, i32_w]
                rfl
              refine pure_ (i := 1) (N := some 75) (v := ?_) (a' := ?_) #[true, true, false, false, false, false, false, false, false, false, false, false, false, false, false] rfl rfl (by kernel_rfl) (fun _ _ _ h => h) (Or.inl ⟨by rfl, ?_⟩) ?_ ?_
              rotate_left
              · intro w'
                go_simp
                with_reducible rfl
              rotate_left
              · simp only [Act.put, List.setIfInBounds_toArray, List.set_cons_zero, List.set_cons_succ, i64_w, i32_w]
                rfl
              refine pure_ (i := 4) (N := some 78) (v := ?_) (a' := ?_) #[true, true, false, false, true, false, false, false, false, false, false, false, false, false, false] rfl rfl (by kernel_rfl) (fun _ _ _ h => h) (Or.inl ⟨by rfl, ?_⟩) ?_ ?_
              rotate_left
              · intro w'
                go_simp
                with_reducible rfl
              rotate_left
              · simp only [Act.put, List.setIfInBounds_toArray, List.set_cons_zero, List.set_cons_succ, i64_w, i32_w]
                rfl
              refine take_ (i := 3) (N := some 77) (v := ?_) (a' := ?_) #[true, true, false, true, true, false, false, false, false, false, false, false, false, false, false] rfl rfl (by kernel_rfl) (fun _ _ _ h => h) (Or.inl ⟨by rfl, ?_⟩) hHeld ?_ ?_
              rotate_left
              · intro w' s0
                go_simp
                with_reducible rfl
              rotate_left
              · simp only [Act.put, List.setIfInBounds_toArray, List.set_cons_zero, List.set_cons_succ, i64_w, i32_w]
                rfl
              refine one_ (i := 2) (N := some 76) #[true, true, true, true, true, false, false, false, false, false, false, false, false, false, false] rfl rfl (by kernel_rfl) (by decide) (fun K hK => ?_)
              refine goes_ Try.func37 (by kernel_rfl) rfl #[.pointer (some ⟨p, 0, none⟩), .int .i64 i] (by rfl) rfl rfl (by simp only [List.map_toArray, List.map_cons, List.map_nil]; rfl) ?_
              with_reducible refine (P_Parent (PK_PS (PK_below K1.out (below_drew (Below.refl _ _)))) i u HU.out).mono ?_
              rintro e w11 ⟨rfl, rfl⟩
              refine ⟨_, rfl, ?_⟩
              refine hK.out _ _ ((PS_cell (PK_PS (PK_below K1.out (below_drew (Below.refl _ _)))))) (fun hHeld => ?_)
              clear hK K
              refine norm_ (a' := ?_) ?_ ?_
              rotate_left
              · show Act.put _ (some 76) _ = _
                simp only [Act.put, List.setIfInBounds_toArray, List.set_cons_zero, List.set_cons_succ, i64_w, i32_w]
                rfl
              refine one_ (i := 5) (N := some 79) #[true, true, true, true, true, true, false, false, false, false, false, false, false, false, false] rfl rfl (by kernel_rfl) (by decide) (fun K hK => ?_)
              refine goes_ Try.func43 (by kernel_rfl) rfl #[.agg #[.slice A n c], .int .i64 i] (by rfl) rfl rfl (by simp only [List.map_toArray, List.map_cons, List.map_nil]; rfl) ?_
              with_reducible refine (PR_Parent (PK_PS (PK_below K1.out (below_drew (Below.refl _ _)))) HF.out (by have := HN.out; omega) i u HU.out).mono ?_
              rintro e w12 ⟨rfl, hb⟩
              refine ⟨_, rfl, ?_⟩
              have K12 := Aside0.mk (PK_below (PK_below K1.out (below_drew (Below.refl _ _))) hb)
              have B12 := Aside0.mk (below_step (below_drew (Below.refl _ _)) hb)
              clear hb
              refine hK.out _ _ ((PS_cell (PK_PS K12.out))) (fun hHeld => ?_)
              clear hK K
              refine norm_ (a' := ?_) ?_ ?_
              rotate_left
              · show Act.put _ (some 79) _ = _
                simp only [Act.put, List.setIfInBounds_toArray, List.set_cons_zero, List.set_cons_succ, i64_w, i32_w]
                rfl
              refine pure_ (i := 6) (N := some 80) (v := ?_) (a' := ?_) #[true, true, true, true, true, true, true, false, false, false, false, false, false, false, false] rfl rfl (by kernel_rfl) (fun _ _ _ h => h) (Or.inl ⟨by rfl, ?_⟩) ?_ ?_
              rotate_left
              · intro w'
                go_simp
                with_reducible rfl
              rotate_left
              · simp only [Act.put, List.setIfInBounds_toArray, List.set_cons_zero, List.set_cons_succ, i64_w, i32_w]
                rfl
              refine pure_ (i := 7) (N := some 81) (v := ?_) (a' := ?_) #[true, true, true, true, true, true, true, true, false, false, false, false, false, false, false] rfl rfl (by kernel_rfl) (fun _ _ _ h => h) (Or.inl ⟨by rfl, ?_⟩) ?_ ?_
              rotate_left
              · intro w'
                go_simp
                with_reducible rfl
              rotate_left
              · simp only [Act.put, List.setIfInBounds_toArray, List.set_cons_zero, List.set_cons_succ, i64_w, i32_w]
                rfl
              refine pure_ (i := 8) (N := some 82) (v := ?_) (a' := ?_) #[true, true, true, true, true, true, true, true, true, false, false, false, false, false, false] rfl rfl (by kernel_rfl) (fun _ _ _ h => h) (Or.inl ⟨by rfl, ?_⟩) ?_ ?_
              rotate_left
              · intro w'
                go_simp
                with_reducible rfl
              rotate_left
              · simp only [Act.put, List.setIfInBounds_toArray, List.set_cons_zero, List.set_cons_succ, i64_w, i32_w]
                rfl
              refine pure_ (i := 10) (N := some 84) (v := ?_) (a' := ?_) #[true, true, true, true, true, true, true, true, true, false, true, false, false, false, false] rfl rfl (by kernel_rfl) (fun _ _ _ h => h) (Or.inl ⟨by rfl, ?_⟩) ?_ ?_
              rotate_left
              · intro w'
                go_simp
                with_reducible rfl
              rotate_left
              · simp only [Act.put, List.setIfInBounds_toArray, List.set_cons_zero, List.set_cons_succ, i64_w, i32_w]
                rfl
              refine take_ (i := 9) (N := some 83) (v := ?_) (a' := ?_) #[true, true, true, true, true, true, true, true, true, true, true, false, false, false, false] rfl rfl (by kernel_rfl) (fun _ _ _ h => h) (Or.inl ⟨by rfl, ?_⟩) hHeld ?_ ?_
              rotate_left
              · intro w' s0
                go_simp
                with_reducible rfl
              rotate_left
              · simp only [Act.put, List.setIfInBounds_toArray, List.set_cons_zero, List.set_cons_succ, i64_w, i32_w]
                rfl
              refine one_ (i := 11) (N := some 85) #[true, true, true, true, true, true, true, true, true, true, true, true, false, false, false] rfl rfl (by kernel_rfl) (by decide) (fun K hK => ?_)
              refine goes_ Try.func45 (by kernel_rfl) rfl #[.agg #[.slice A n c], .int .i64 i] (by rfl) rfl rfl (by simp only [List.map_toArray, List.map_cons, List.map_nil]; rfl) ?_
              with_reducible refine (PR_Kids (PK_PS K12.out) i l m HM2.out KI.out).mono ?_
              rintro e w13 ⟨A13, c13, rfl, hc, hC, hb⟩
              refine ⟨_, rfl, ?_⟩
              have K13 := Aside0.mk (PK_below K12.out hb)
              have B13 := Aside0.mk (below_step B12.out hb)
              have C13 := Aside0.mk hC
              have L13 := Aside0.mk hc
              clear hb hC hc
              refine hK.out _ _ ((PS_cell (PK_PS K13.out))) (fun hHeld => ?_)
              clear hK K
              refine norm_ (a' := ?_) ?_ ?_
              rotate_left
              · show Act.put _ (some 85) _ = _
                simp only [Act.put, List.setIfInBounds_toArray, List.set_cons_zero, List.set_cons_succ, i64_w, i32_w]
                rfl
              refine one_ (i := 12) (N := some 86) #[true, true, true, true, true, true, true, true, true, true, true, true, true, false, false] rfl rfl (by kernel_rfl) (by decide) (fun K hK => ?_)
              refine goes_ Try.func44 (by kernel_rfl) rfl #[.slice AK m cK, .slice A13 m c13] (by rfl) rfl rfl (by simp only [List.map_toArray, List.map_cons, List.map_nil]; rfl) ?_
              with_reducible refine (ints_at HM2.out ML.out RK.out B13.out C13.out L13.out).mono ?_
              rintro e w14 ⟨rfl, hb⟩
              refine ⟨_, rfl, ?_⟩
              have K14 := Aside0.mk (PK_below K13.out hb)
              clear hb
              refine hK.out _ _ ((PS_cell (PK_PS K14.out))) (fun hHeld => ?_)
              clear hK K
              refine norm_ (a' := ?_) ?_ ?_
              rotate_left
              · show Act.put _ (some 86) _ = _
                simp only [Act.put, List.setIfInBounds_toArray, List.set_cons_zero, List.set_cons_succ, i64_w, i32_w]
                rfl
              refine pure_ (i := 13) (N := some 87) (v := ?_) (a' := ?_) #[true, true, true, true, true, true, true, true, true, true, true, true, true, true, false] rfl rfl (by kernel_rfl) (fun _ _ _ h => h) (Or.inl ⟨by rfl, ?_⟩) ?_ ?_
              rotate_left
              · intro w'
                go_simp
                with_reducible rfl
              rotate_left
              · simp only [Act.put, List.setIfInBounds_toArray, List.set_cons_zero, List.set_cons_succ, i64_w, i32_w]
                rfl
              refine pure_ (i := 14) (N := some 88) (v := ?_) (a' := ?_) #[true, true, true, true, true, true, true, true, true, true, true, true, true, true, true] rfl rfl (by kernel_rfl) (fun _ _ _ h => h) (Or.inl ⟨by rfl, ?_⟩) ?_ ?_
              rotate_left
              · intro w'
                go_simp
                with_reducible rfl
              rotate_left
              · simp only [Act.put, List.setIfInBounds_toArray, List.set_cons_zero, List.set_cons_succ, i64_w, i32_w]
                rfl
              refine done_ (by kernel_rfl) ?_
              clear K13 K12 K1 RK B13 B12 C13 L13 uu
              go_wp2
              go_loopw [12] (fun v12 wr => ∃ k : Nat, v12 = .int .i64 (k : Int) ∧ k ≤ m ∧ Aside0 (PK w p S' g A n c (.slice AK m cK) m wr)) (fun v12 _ => m - (intOf v12).toNat)
              case atStart => exact ⟨0, rfl, Nat.zero_le _, K14⟩
              case round =>
                clear K14
                obtain ⟨k, rfl, hk, HK⟩ := hrel
                by_cases f : k < m
                · have f1 : (k : Int) < (m : Int) := by omega
                  have fb : decide (k < m) = true := decide_eq_true f
                  have FF := Aside0.mk f
                  obtain ⟨gK, hgK⟩ : ∃ gK, AK = some ⟨gK, 0, none⟩ := by
                    obtain ⟨_, l', hl', hR'⟩ := HK.out
                    obtain ⟨gk, ck, ek, _⟩ := Kd.R_form hR' (by omega)
                    injection ek with ek e2 e3
                    exact ⟨gk, ek⟩
                  subst hgK
                  obtain ⟨z, hz⟩ : ∃ z, z = -7 - (k : Int) := ⟨_, rfl⟩
                  obtain ⟨⟨u', hu'⟩, hf, hP⟩ := PK_put HK.out k f z
                  have HP := Aside0.mk hP
                  rw [hz] at HP
                  clear hP hz f
                  go_wp2
                  go_roundw
                  case rel => exact ⟨k + 1, by go_num, FF.out, HP⟩
                  case measure => have := FF.out; simp [intOf]; omega
                · have f1 : ¬ (k : Int) < (m : Int) := by omega
                  have fb : decide (k < m) = false := decide_eq_false f
                  have QX := Aside0.mk (PK_PS HK.out)
                  have wi : wrap64 (i + 1) = i + 1 := by have h1 := I1.out; have h2 := DD.out; unfold wrap64; omega
                  go_wp2
                  go_roundw
                  case rel => exact ⟨i + 1, by first | rfl | (rw [wi]), by have := I1.out; omega, by have := DD.out; omega, QX⟩
                  case measure => have h1 := DD.out; have h2 := I1.out; simp [intOf]; omega
            · have db : decide (i ≤ (n : Int)) = false := decide_eq_false d
              have zg := PS_cell Q1.out
              go_wp2
              go_roundw
              case rel => exact ⟨j + 1, S', A, n, c, by go_num, by have := DJ1.out; omega, by have := DJ2.out; omega, NI, Q1⟩
              case measure => have := DJ1.out; simp [intOf]; omega
        · have EV := Aside0.mk (small_no a e1)
          clear e1
          go_wp2_with (go_at_call 33; refine (small_c HM.out HQ.out (Kd.C_below HC.out (PS_base HJ.out)) EV.out).mono ?_; rintro e w2 ⟨rfl, hb⟩; have J2 := Aside0.mk (PS_below HJ.out hb); clear hb HJ y0 y1 y2 y3 y4 y5)
          go_roundw
          case rel => exact ⟨j + 1, S, A, n, c, by go_num, by omega, by omega, ⟨OkS_more HI.out (Nat.le_succ j)⟩, J2⟩
          case measure => simp [intOf]; omega
      · have HO := Aside0.mk (OkS_more HI.out hj2)
        by_cases d1 : j < l0.length
        · have d1b : decide (j < l0.length) = true := decide_eq_true d1
          have d2b : decide (j < 40) = false := decide_eq_false (by omega)
          have d2 : ¬ j < 40 := by omega
          go_wp2
          go_meet
          case rel => exact ⟨S, A, n, c, HO, HJ⟩
        · have d1b : decide (j < l0.length) = false := decide_eq_false d1
          go_wp2
          go_meet
          case rel => exact ⟨S, A, n, c, HO, HJ⟩
  case rest =>
    obtain ⟨S, A, n, c, HI, Q1⟩ := hcut
    have HF := Aside0.mk HI.out.fo
    have HN := Aside0.mk (show S.length ≤ 41 from HI.out.len)
    have HAT := Aside0.mk (fun i => Nat.le_trans (HI.out.att i) (by decide : 6 ≤ 100000))
    obtain ⟨x, hx⟩ : ∃ x, x = vaI S 0 := ⟨_, rfl⟩
    have VX := Aside0.mk hx
    clear HI Q0 hx
    go_upto_region 23 with (fail)
    refine start_ (n := 9) (S := fun w' => w'.cell? ⟨g, 0, none⟩ = some (.slice A n c)) (ds := []) #[false, false, false, false, false, false, false, false, false] (by kernel_rfl) rfl rfl ((PS_cell (PS_below Q1.out (below_drew (Below.refl _ _))))) (fun hHeld => ?_)
    refine one_ (i := 0) (N := some 100) #[true, false, false, false, false, false, false, false, false] rfl rfl (by kernel_rfl) (by decide) (fun K hK => ?_)
    refine goes_ Try.func27 (by kernel_rfl) rfl #[] (by rfl) rfl rfl (by simp only [List.map_toArray, List.map_cons, List.map_nil]) ?_
    with_reducible refine (arena_alive _).mono ?_
    rintro e w6 ⟨rfl, hb⟩
    refine ⟨_, rfl, ?_⟩
    have Q6 := Aside0.mk (PS_below (PS_below Q1.out (below_drew (Below.refl _ _))) hb)
    clear hb
    refine hK.out _ _ ((PS_cell Q6.out)) (fun hHeld => ?_)
    clear hK K
    refine norm_ (a' := ?_) ?_ ?_
    rotate_left
    · show Act.put _ (some 100) _ = _
      simp only [Act.put, List.setIfInBounds_toArray, List.set_cons_zero, List.set_cons_succ, i64_w, i32_w]
      rfl
    refine pure_ (i := 1) (N := some 101) (v := ?_) (a' := ?_) #[true, true, false, false, false, false, false, false, false] rfl rfl (by kernel_rfl) (fun _ _ _ h => h) (Or.inl ⟨by rfl, ?_⟩) ?_ ?_
    rotate_left
    · intro w'
      go_simp
      with_reducible rfl
    rotate_left
    · simp only [Act.put, List.setIfInBounds_toArray, List.set_cons_zero, List.set_cons_succ, i64_w, i32_w]
      rfl
    refine pure_ (i := 2) (N := some 102) (v := ?_) (a' := ?_) #[true, true, true, false, false, false, false, false, false] rfl rfl (by kernel_rfl) (fun _ _ _ h => h) (Or.inl ⟨by rfl, ?_⟩) ?_ ?_
    rotate_left
    · intro w'
      go_simp
      with_reducible rfl
    rotate_left
    · simp only [Act.put, List.setIfInBounds_toArray, List.set_cons_zero, List.set_cons_succ, i64_w, i32_w]
      rfl
    refine take_ (i := 4) (N := some 104) (v := ?_) (a' := ?_) #[true, true, true, false, true, false, false, false, false] rfl rfl (by kernel_rfl) (fun _ _ _ h => h) (Or.inl ⟨by rfl, ?_⟩) hHeld ?_ ?_
    rotate_left
    · intro w' s0
      go_simp
      with_reducible rfl
    rotate_left
    · simp only [Act.put, List.setIfInBounds_toArray, List.set_cons_zero, List.set_cons_succ, i64_w, i32_w]
      rfl
    refine one_ (i := 3) (N := some 103) #[true, true, true, true, true, false, false, false, false] rfl rfl (by kernel_rfl) (by decide) (fun K hK => ?_)
    refine goes_ Try.func38 (by kernel_rfl) rfl #[.pointer (some ⟨p, 0, none⟩), .int .i64 0] (by rfl) rfl rfl (by simp only [List.map_toArray, List.map_cons, List.map_nil]; rfl) ?_
    with_reducible refine (P_Value Q6.out HF.out (by have := HN.out; omega) HAT.out 0 VX.out).mono ?_
    rintro e w7 ⟨P3, p3, P5, p5, rfl, hK, hb⟩
    refine ⟨_, rfl, ?_⟩
    have Q7 := Aside0.mk (PS_below Q6.out hb)
    have K7 := Aside0.mk hK
    clear hK hb
    refine hK.out _ _ ((PS_cell Q7.out)) (fun hHeld => ?_)
    clear hK K
    refine norm_ (a' := ?_) ?_ ?_
    rotate_left
    · show Act.put _ (some 103) _ = _
      simp only [Act.put, List.setIfInBounds_toArray, List.set_cons_zero, List.set_cons_succ, i64_w, i32_w]
      rfl
    refine one_ (i := 5) (N := some 105) #[true, true, true, true, true, true, false, false, false] rfl rfl (by kernel_rfl) (by decide) (fun K hK => ?_)
    refine goes_ Try.func42 (by kernel_rfl) rfl #[.agg #[.slice A n c], .int .i64 0] (by rfl) rfl rfl (by simp only [List.map_toArray, List.map_cons, List.map_nil]; rfl) ?_
    with_reducible refine (PR_Value Q7.out HF.out (by have := HN.out; omega) HAT.out 0 VX.out).mono ?_
    rintro e w8 ⟨Q3, q3, Q5, q5, rfl, hK, hb⟩
    refine ⟨_, rfl, ?_⟩
    have Q8 := Aside0.mk (PS_below Q7.out hb)
    have K8 := Aside0.mk hK
    have B8 := Aside0.mk hb
    clear hK hb
    refine hK.out _ _ ((PS_cell Q8.out)) (fun hHeld => ?_)
    clear hK K
    refine norm_ (a' := ?_) ?_ ?_
    rotate_left
    · show Act.put _ (some 105) _ = _
      simp only [Act.put, List.setIfInBounds_toArray, List.set_cons_zero, List.set_cons_succ, i64_w, i32_w]
      rfl
    refine one_ (i := 6) (N := some 106) #[true, true, true, true, true, true, true, false, false] rfl rfl (by kernel_rfl) (by decide) (fun K hK => ?_)
    refine goes_ Try.func40 (by kernel_rfl) rfl #[.agg #[.int .i64 x.f0, .int .i64 x.f1, .string x.f2, .slice P3 x.f3.length p3, .string x.f4, .slice P5 x.f5.length p5], .agg #[.int .i64 x.f0, .int .i64 x.f1, .string x.f2, .slice Q3 x.f3.length q3, .string x.f4, .slice Q5 x.f5.length q5]] (by rfl) rfl rfl (by simp only [List.map_toArray, List.map_cons, List.map_nil]; rfl) ?_
    with_reducible refine (same_v K7.out B8.out K8.out).mono ?_
    rintro e w9 ⟨rfl, hb⟩
    refine ⟨_, rfl, ?_⟩
    have Q9 := Aside0.mk (PS_below Q8.out hb)
    clear hb
    refine hK.out _ _ ((PS_cell Q9.out)) (fun hHeld => ?_)
    clear hK K
    refine norm_ (a' := ?_) ?_ ?_
    rotate_left
    · show Act.put _ (some 106) _ = _
      simp only [Act.put, List.setIfInBounds_toArray, List.set_cons_zero, List.set_cons_succ, i64_w, i32_w]
      rfl
    refine pure_ (i := 7) (N := some 107) (v := ?_) (a' := ?_) #[true, true, true, true, true, true, true, true, false] rfl rfl (by kernel_rfl) (fun _ _ _ h => h) (Or.inl ⟨by rfl, ?_⟩) ?_ ?_
    rotate_left
    · intro w'
      go_simp
      with_reducible rfl
    rotate_left
    · simp only [Act.put, List.setIfInBounds_toArray, List.set_cons_zero, List.set_cons_succ, i64_w, i32_w]
      rfl
    refine pure_ (i := 8) (N := some 4) (v := ?_) (a' := ?_) #[true, true, true, true, true, true, true, true, true] rfl rfl (by kernel_rfl) (fun _ _ _ h => h) (Or.inl ⟨by rfl, ?_⟩) ?_ ?_
    rotate_left
    · intro w'
      go_simp
      with_reducible rfl
    rotate_left
    · simp only [Act.put, List.setIfInBounds_toArray, List.set_cons_zero, List.set_cons_succ, i64_w, i32_w]
      rfl
    refine done_ (by kernel_rfl) ?_
    go_wp2
    go_ret
    exact ⟨by first | rfl | simp, PS_base Q9.out⟩
def marginalialaw05_ArenaPlays.f (l0 : List S54) (a1 : Int) : Option (Bool) := some true
theorem marginalialaw05_ArenaPlays.calls (A0 : Option Addr) (c0 : Nat) (l0 : List S54) (a1 : Int) (r : Bool) (w : World) (hr0 : Kd.C k54 w A0 l0.length l0) (hc0 : l0.length ≤ c0) (h : marginalialaw05_ArenaPlays.f l0 a1 = some r) :
    Calls Try.prog 11 #[.slice A0 l0.length c0, .int .i64 a1] w fun e w' => e = .returned (.bool r) ∧ Below w.heap.size w w' := by
  obtain rfl := Option.some.inj h
  exact law_Plays A0 c0 l0 a1 w hr0

end Go.Proofs.Ytnkaidaflegnlaa.A
