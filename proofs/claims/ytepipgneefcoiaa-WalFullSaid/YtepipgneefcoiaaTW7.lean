/- The functions of the program that these laws reach, each as a plain Lean function, and the proof that the machine's call comes to it; no condition beyond those that each theorem names. Made by wip/xprint.py. -/
import Derived.Test.YtepipgneefcoiaaTW6
import Derived.Test.YtepipgneefcoiaaMPut
import Derived.Test.YtepipgneefcoiaaDf83
import Derived.Test.YtepipgneefcoiaaDx0
namespace Go.Proofs.Ytepipgneefcoiaa.D
open Go.RowKit Go.Proofs.YtepipgneefcoiaaW.PrintWords Go.Proofs.YtepipgneefcoiaaW.PrintLast Go.Proofs.YtepipgneefcoiaaW.PrintMore
attribute [local go_sem] max2_int min2_int max_two min_two max_three min_three max_four min_four
set_option linter.unusedVariables false
set_option linter.unusedSimpArgs false
/- Cells are laid into blocks. -/
def encC (c : S106) : List Int := CellLaws.enc c.f0 c.f1 c.f2 c.f3 c.f4
structure MayC (c : S106) : Prop where
  may : CellLaws.May c.f2 c.f3 c.f4
  by_ : CrcK.Bytes c.f4
def layx (fi : Nat) : Nat → Dk → Nat → List (List Int) → Dk × Int
  | 0, s, _, _ => (s, 0)
  | f + 1, s, a, ps => if ps.length = 0 then (s, 0) else if s.of = true then (s, 9) else
      if (wrx s ((fi + a / 4 : Nat) : Int) (sp8 (cut8 s.now ((fi + a / 4) * 256) 256) (a % 4 * 64) (ps.take (4 - a % 4)).flatten)).2 ≠ 0
      then wrx s ((fi + a / 4 : Nat) : Int) (sp8 (cut8 s.now ((fi + a / 4) * 256) 256) (a % 4 * 64) (ps.take (4 - a % 4)).flatten)
      else layx fi f (wrx s ((fi + a / 4 : Nat) : Int) (sp8 (cut8 s.now ((fi + a / 4) * 256) 256) (a % 4 * 64) (ps.take (4 - a % 4)).flatten)).1 (a + min (4 - a % 4) ps.length) (ps.drop (4 - a % 4))
theorem JO_grown {w0 w w' : World} {q g : Nat} {s : Dk} {O : Nat → Prop} (h : JO w0 w q s O) (hO : O g) (hg : w0.heap.size ≤ g) (hw : w.grownBy w' (some g)) : JO w0 w' q s O := by
  obtain ⟨a, b, v, h1, h2, h3⟩ := h
  have hn := (h3 g hO).2
  have far : ∀ k, k < w.heap.size → k ≠ g → w'.heap[k]? = w.heap[k]? := fun k hl hk => hw.block k hl (fun e => hk (by injection e))
  have hsz := hw.size
  refine ⟨a, b, v, ⟨(far q (blk_lt h1.box) (fun e => hn (.inl e.symm))).trans h1.box, (far a (blk_lt h1.now) (fun e => hn (.inr (.inl e.symm)))).trans h1.now, (far b (blk_lt h1.safe) (fun e => hn (.inr (.inr (.inl e.symm))))).trans h1.safe, Kd.R_mono (Kd.R_move (Kd.R_tight rfl h1.pend) (fun k hk => far k (dS_lt h1 (.inr (.inr (.inr hk)))) (fun e => hn (by rw [← e]; exact .inr (.inr (.inr hk)))))) (fun _ _ => trivial), h1.ne, h1.hp, h1.hn, h1.hf, h1.ok⟩, pw_below_grown h2 _ (below_size h2) hw (fun k e => by injection e with e; rw [← e]; exact hg), fun k hk => ⟨Nat.lt_of_lt_of_le (h3 k hk).1 hsz, (h3 k hk).2⟩⟩
theorem enc_at {w : World} {A : Option Addr} {m c : Nat} {x : S106} (hm : m = x.f4.length) (hc : m ≤ c) (hx : MayC x) (hC : Kd.C (Kd.int .u8) w A x.f4.length x.f4) :
    Calls Try.prog 83 #[.agg #[.int .u64 x.f0, .int .u64 x.f1, .int .i64 x.f2, .int .i64 x.f3, .slice A m c]] w fun e w' => ∃ (A' : Option Addr) (c' : Nat), e = .returned (.tuple #[.slice A' 64 c', .int .i64 0]) ∧ 64 ≤ c' ∧ Kd.C (Kd.int .u8) w' A' 64 (encC x) ∧ Below w.heap.size w w' := by
  subst hm
  obtain ⟨k, hk⟩ := (CellLaws.encode_ev (a0 := x.f0) (a1 := x.f1) hx.by_ hx.may).rounds
  have hl : (encC x).length = 64 := CellLaws.enc_length hx.may.2.2.2
  refine (cell_Encode.calls k x.f0 x.f1 x.f2 x.f3 A c x.f4 _ _ w hC hc hk).mono ?_
  rintro e w' ⟨v, rfl, hV, hb⟩
  obtain ⟨A', c', rfl⟩ := Kd.V_slice hV
  obtain ⟨h1, h2, h3⟩ := Kd.V_reads' hV
  have hl' : (CellLaws.enc x.f0 x.f1 x.f2 x.f3 x.f4).length = 64 := hl
  rw [hl'] at h2 h3 ⊢
  exact ⟨A', c', rfl, h2, h3, hb⟩
theorem from106' (A : Option Addr) (n c : Nat) (h : 1 ≤ n) (W : World) : (Instr.slice 62 (.slice A n c) (some (.int .i64 1)) none none).run Try.prog W = .ok (.slice (if c = 1 then A else A.map (·.add (1 * 5))) (n - 1) (c - 1)) W := from106 A n c 1 h W
theorem flat_take {ps : List (List Int)} {j : Nat} (hj : j < ps.length) : (ps.take (j + 1)).flatten = (ps.take j).flatten ++ ps[j] := by
  rw [List.take_succ_eq_append_getElem hj, List.flatten_append]; simp
theorem flat_len64 {ps : List (List Int)} (h : ∀ x ∈ ps, x.length = 64) : ps.flatten.length = ps.length * 64 := by
  induction ps with
  | nil => rfl
  | cons x l ih => rw [List.flatten_cons, List.length_append, ih (fun y hy => h y (List.mem_cons_of_mem _ hy)), h x List.mem_cons_self, List.length_cons]; omega
theorem sp8_gt {L X : List Int} {o : Nat} (h : o + X.length ≤ L.length) (i : Nat) : (sp8 L o X)[i]? = if o ≤ i ∧ i < o + X.length then X[i - o]? else L[i]? := by
  unfold sp8
  by_cases c1 : i < o
  · rw [if_neg (by omega), List.append_assoc, List.getElem?_append_left (by rw [List.length_take]; omega), List.getElem?_take, if_pos c1]
  · by_cases c2 : i < o + X.length
    · rw [if_pos ⟨by omega, c2⟩, List.getElem?_append_left (by rw [List.length_append, List.length_take]; omega), List.getElem?_append_right (by rw [List.length_take]; omega), List.length_take, Nat.min_eq_left (by omega)]
    · rw [if_neg (by omega), List.getElem?_append_right (by rw [List.length_append, List.length_take]; omega), List.length_append, List.length_take, List.getElem?_drop]
      congr 1
      omega
theorem sp8_app {L X Y : List Int} {o : Nat} (h : o + X.length + Y.length ≤ L.length) : sp8 (sp8 L o X) (o + X.length) Y = sp8 L o (X ++ Y) := by
  apply List.ext_getElem?
  intro i
  have hl := sp8_len (L := L) (X := X) (o := o) (by omega)
  rw [sp8_gt (by rw [hl]; omega), sp8_gt (by omega), sp8_gt (by rw [List.length_append]; omega), List.length_append]
  by_cases c1 : o ≤ i ∧ i < o + X.length
  · rw [if_neg (by omega), if_pos c1, if_pos (by omega), List.getElem?_append_left (by omega)]
  · rw [if_neg c1]
    by_cases c2 : o + X.length ≤ i ∧ i < o + X.length + Y.length
    · rw [if_pos c2, if_pos (by omega), List.getElem?_append_right (by omega)]
      congr 1; omega
    · rw [if_neg c2, if_neg (by omega)]
end Go.Proofs.Ytepipgneefcoiaa.D
