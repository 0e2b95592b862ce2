/- The check sum of the program and of the document, as a run of a register of 32 bits; no condition beyond those that each theorem names. -/
import Derived.Test.YtepipgneefcoiaaDf78
import Derived.Test.YtepipgneefcoiaaDf85
import Derived.Test.YtepipgneefcoiaaDf86
import Derived.Test.YtepipgneefcoiaaDf93
import Derived.Test.YtepipgneefcoiaaDf94
import Derived.Test.YtepipgneefcoiaaDx0
import Derived.Laws.BitsAllLaws
import Derived.OpenShut
import Derived.Laws.DeepBits32
namespace Go.Proofs.Ytepipgneefcoiaa
open Go.RowKit Go.Proofs.Ytepipgneefcoiaa.D Go.Proofs.YtepipgneefcoiaaW.PrintWords Go.Proofs.YtepipgneefcoiaaW.PrintLast
set_option linter.unusedVariables false
namespace CrcK
def Pl : BitVec 32 := 0xEDB88320#32
def Pm : BitVec 32 := 0x04C11DB7#32
def step (s : BitVec 32) : BitVec 32 := (s >>> 1) ^^^ (if s.getLsbD 0 then Pl else 0#32)
def steps : Nat → BitVec 32 → BitVec 32
  | 0, s => s
  | n + 1, s => steps n (step s)
def byt (s c : BitVec 32) : BitVec 32 := steps 8 (s ^^^ c)
theorem step_xor (a b : BitVec 32) : step (a ^^^ b) = step a ^^^ step b := by
  unfold step
  rw [BitVec.ushiftRight_xor_distrib, BitVec.getLsbD_xor]
  have hP : ∀ x y : BitVec 32, x ^^^ y = x ^^^ Pl ^^^ (y ^^^ Pl) := fun x y => by
    rw [show x ^^^ Pl ^^^ (y ^^^ Pl) = x ^^^ y ^^^ (Pl ^^^ Pl) from by ac_rfl, BitVec.xor_self, BitVec.xor_zero]
  cases a.getLsbD 0 <;> cases b.getLsbD 0 <;> simp
  · ac_rfl
  · ac_rfl
  · exact hP _ _
theorem steps_xor (n : Nat) (a b : BitVec 32) : steps n (a ^^^ b) = steps n a ^^^ steps n b := by
  induction n generalizing a b with
  | zero => rfl
  | succ n ih => simp only [steps]; rw [step_xor, ih]
theorem step_top (s : BitVec 32) : (step s).getLsbD 31 = s.getLsbD 0 := by
  unfold step
  rw [BitVec.getLsbD_xor, BitVec.getLsbD_ushiftRight, BitVec.getLsbD_of_ge s (1 + 31) (by decide)]
  cases s.getLsbD 0 <;> simp [Pl]
theorem step_inj {a b : BitVec 32} (h : step a = step b) : a = b := by
  have h0 : a.getLsbD 0 = b.getLsbD 0 := by rw [← step_top, ← step_top, h]
  have h1 : a >>> 1 = b >>> 1 := by
    unfold step at h
    rw [h0] at h
    exact (BitVec.xor_left_inj _).1 h
  apply BitVec.eq_of_getLsbD_eq
  intro i hi
  cases i with
  | zero => exact h0
  | succ i =>
    have := congrArg (fun x => x.getLsbD i) h1
    simp only [BitVec.getLsbD_ushiftRight] at this
    rwa [Nat.add_comm] at this
theorem steps_inj {n : Nat} {a b : BitVec 32} (h : steps n a = steps n b) : a = b := by
  induction n generalizing a b with
  | zero => exact h
  | succ n ih => exact step_inj (ih h)
/-- a text's whole way through the register -/
def run (s : BitVec 32) : List (BitVec 32) → BitVec 32
  | [] => s
  | c :: l => run (byt s c) l
theorem run_append (s : BitVec 32) (a b : List (BitVec 32)) : run s (a ++ b) = run (run s a) b := by
  induction a generalizing s with
  | nil => rfl
  | cons c a ih => exact ih _
theorem run_inj {s t : BitVec 32} {l : List (BitVec 32)} (h : run s l = run t l) : s = t := by
  induction l generalizing s t with
  | nil => exact h
  | cons c l ih => exact (BitVec.xor_left_inj c).1 (steps_inj (ih h))
theorem run_set {s : BitVec 32} {l : List (BitVec 32)} {i : Nat} (hi : i < l.length) {c : BitVec 32} (h : run s (l.set i c) = run s l) : c = l[i] := by
  induction l generalizing s i with
  | nil => exact absurd hi (by simp)
  | cons d l ih =>
    cases i with
    | zero =>
      have := run_inj (l := l) h
      exact (BitVec.xor_right_inj s).1 (steps_inj this)
    | succ i => exact ih (by simpa using hi) h
theorem run_xor3 (s t u : BitVec 32) (a b c : List (BitVec 32)) (h1 : a.length = b.length) (h2 : a.length = c.length) :
    run (s ^^^ t ^^^ u) (a.zipWith (· ^^^ ·) (b.zipWith (· ^^^ ·) c)) = run s a ^^^ run t b ^^^ run u c := by
  induction a generalizing s t u b c with
  | nil => cases b <;> cases c <;> simp_all [run]
  | cons x a ih =>
    cases b with
    | nil => simp at h1
    | cons y b =>
      cases c with
      | nil => simp at h2
      | cons z c =>
        simp only [List.zipWith_cons_cons, run]
        rw [← ih _ _ _ _ _ (by simpa using h1) (by simpa using h2)]
        congr 1
        unfold byt
        rw [← steps_xor, ← steps_xor]
        congr 1
        ac_rfl
/-! the document's way: the other way round, a bit of the byte at a time -/
def rstep (x : BitVec 32) (b : Bool) : BitVec 32 := (x <<< 1) ^^^ (if (x.getLsbD 31) != b then Pm else 0#32)
def rsteps : Nat → BitVec 32 → BitVec 32 → BitVec 32
  | 0, x, _ => x
  | n + 1, x, c => rsteps n (rstep x (c.getLsbD 0)) (c >>> 1)
theorem rev_get (x : BitVec 32) (i : Nat) (h : i < 32) : x.reverse.getLsbD i = x.getLsbD (31 - i) := by
  rw [BitVec.getLsbD_reverse, BitVec.getMsbD_eq_getLsbD]
  simp [h]
theorem rev_xor (x y : BitVec 32) : (x ^^^ y).reverse = x.reverse ^^^ y.reverse := by
  apply BitVec.eq_of_getLsbD_eq
  intro i hi
  rw [BitVec.getLsbD_xor, rev_get _ _ hi, rev_get _ _ hi, rev_get _ _ hi, BitVec.getLsbD_xor]
theorem rev_rev (x : BitVec 32) : x.reverse.reverse = x := by
  apply BitVec.eq_of_getLsbD_eq
  intro i hi
  rw [rev_get _ _ hi, rev_get _ _ (by omega)]
  congr 1; omega
theorem rev_shr (x : BitVec 32) : (x >>> 1).reverse = x.reverse <<< 1 := by
  apply BitVec.eq_of_getLsbD_eq
  intro i hi
  rw [rev_get _ _ hi, BitVec.getLsbD_ushiftRight, BitVec.getLsbD_shiftLeft]
  cases i with
  | zero => simp
  | succ i => 
    rw [rev_get _ _ (by omega)]
    simp [hi]
    congr 1; omega
theorem rev_P : Pl.reverse = Pm := by decide +kernel
theorem rev_0 : (0#32).reverse = 0#32 := by decide +kernel
theorem tstep (t d : BitVec 32) : (step (t ^^^ d)).reverse = rstep t.reverse (d.getLsbD 0) ^^^ (d >>> 1).reverse := by
  unfold step rstep
  rw [BitVec.ushiftRight_xor_distrib, rev_xor, rev_xor, rev_shr t, BitVec.getLsbD_xor, rev_get _ _ (by decide)]
  simp only [Nat.sub_self]
  cases t.getLsbD 0 <;> cases d.getLsbD 0 <;> simp [rev_P, rev_0] <;> ac_rfl
theorem tsteps (n : Nat) (t d : BitVec 32) : (steps n (t ^^^ d)).reverse = rsteps n t.reverse d ^^^ (d >>> n).reverse := by
  induction n generalizing t d with
  | zero => simp [steps, rsteps, rev_xor]
  | succ n ih =>
    simp only [steps, rsteps]
    have h : step (t ^^^ d) = (rstep t.reverse (d.getLsbD 0)).reverse ^^^ (d >>> 1) := by
      rw [← rev_rev (step (t ^^^ d)), tstep, rev_xor, rev_rev]
    rw [h, ih, rev_rev, ← BitVec.shiftRight_add, Nat.add_comm 1 n]
theorem byt_rev (s c : BitVec 32) (h : c.toNat < 256) : (byt s c).reverse = rsteps 8 s.reverse c := by
  unfold byt
  rw [tsteps]
  have : c >>> 8 = 0#32 := by
    apply BitVec.eq_of_toNat_eq
    rw [BitVec.toNat_ushiftRight, Nat.shiftRight_eq_div_pow]
    simp; omega
  rw [this, rev_0, BitVec.xor_zero]
end CrcK
namespace CrcK
def u32 (s : BitVec 32) : Int := (s.toNat : Int)
def bv (x : Int) : BitVec 32 := BitVec.ofInt 32 x
theorem u32_lt (s : BitVec 32) : 0 ≤ u32 s ∧ u32 s < 4294967296 := by
  have := s.isLt
  unfold u32
  omega
theorem u32_inj {s t : BitVec 32} (h : u32 s = u32 t) : s = t := by
  unfold u32 at h
  exact BitVec.eq_of_toNat_eq (by omega)
theorem u32_bv (x : Int) (h0 : 0 ≤ x) (h1 : x < 4294967296) : u32 (bv x) = x := by
  unfold u32 bv
  rw [BitVec.toNat_ofInt]
  omega
theorem xor_u32 (s t : BitVec 32) : Go.bits .xor .u32 (u32 s) (u32 t) = u32 (s ^^^ t) := by
  unfold u32
  rw [u32_xor_nat _ _ s.isLt t.isLt, BitVec.toNat_xor]
theorem u32_ones : (4294967295 : Int) = u32 (BitVec.allOnes 32) := by decide +kernel
theorem u32_P : (3988292384 : Int) = u32 Pl := by decide +kernel
theorem u32_Q : (79764919 : Int) = u32 Pm := by decide +kernel
theorem not_u32 (s : BitVec 32) : Go.bits .xor .u32 4294967295 (u32 s) = u32 (~~~ s) := by
  rw [u32_ones, xor_u32, BitVec.allOnes_xor]
theorem not_u32' (s : BitVec 32) : Go.bits .xor .u32 (u32 s) 4294967295 = u32 (~~~ s) := by
  rw [u32_ones, xor_u32, BitVec.xor_allOnes]
theorem half_u32 (s : BitVec 32) : u32 s / (2 : Int) = u32 (s >>> 1) := by
  unfold u32
  rw [BitVec.toNat_ushiftRight, Nat.shiftRight_eq_div_pow]
  omega
theorem twice_u32 (s : BitVec 32) : (u32 s * (2 : Int)) % (4294967296 : Int) = u32 (s <<< 1) := by
  unfold u32
  rw [BitVec.toNat_shiftLeft, Nat.shiftLeft_eq]
  omega
theorem low_nat (s : BitVec 32) : s.getLsbD 0 = decide (s.toNat % 2 = 1) := by
  rw [BitVec.getLsbD, Nat.testBit_zero]
theorem and_one (s : BitVec 32) : (Go.bits .and .u32 (u32 s) 1 = 0) ↔ s.getLsbD 0 = false := by
  have h : Go.bits .and .u32 (u32 s) 1 = ((s.toNat &&& 1 : Nat) : Int) := u32_and_nat s.toNat 1 s.isLt (by decide)
  rw [h, Nat.and_one_is_mod, low_nat]
  simp
  omega
theorem top_nat (s : BitVec 32) : s.getLsbD 31 = decide (u32 s ≥ 2147483648) := by
  have := s.isLt
  unfold u32
  rw [BitVec.getLsbD, Nat.testBit_eq_decide_div_mod_eq]
  congr 1
  apply propext
  omega

theorem wrap_small {i : Int} (h0 : 0 ≤ i) (h1 : i < 9223372036854775807) : wrap64 (i + 1) = i + 1 := by
  unfold wrap64
  omega
def Bytes (l : List Int) : Prop := ∀ x ∈ l, 0 ≤ x ∧ x ≤ 255
theorem bytes_wf {l : List Int} (h : ∀ x ∈ l, (Lit.int .u8 x).wf = true) : Bytes l := fun x hx => bounds_u8 (h x hx)
theorem bytes_rd {l : List Int} (h : Bytes l) (i : Int) (h0 : 0 ≤ i) (h1 : i < (l.length : Int)) : 0 ≤ rd l i ∧ rd l i ≤ 255 := by
  unfold rd
  rw [List.getD_eq_getElem?_getD, List.getElem?_eq_getElem (show i.toNat < l.length by omega)]
  exact h _ (List.getElem_mem _)
def bl (l : List Int) : List (BitVec 32) := l.map bv
theorem more_l1 {l : List Int} {len i r : Int} (n : Nat) : ∀ (s : BitVec 32), n ≤ 8 → Ev (fun k => crc_More.l0 k (u32 (steps n s)) l len (wrap64 (i + 1))) r → Ev (fun k => crc_More.l1 k (u32 s) l len i (8 - (n : Int))) r := by
  induction n with
  | zero =>
    intro s _ h
    refine Ev.step (f := fun k => crc_More.l0 k (u32 s) l len (wrap64 (i + 1))) (fun k => ?_) h
    rw [crc_More.l1, if_neg (by omega)]
  | succ n ih =>
    intro s hn h
    refine Ev.step (f := fun k => crc_More.l1 k (u32 (step s)) l len i (8 - (n : Int))) (fun k => ?_) (ih (step s) (by omega) h)
    rw [crc_More.l1, if_pos (by omega)]
    have e : wrap64 (8 - ((n + 1 : Nat) : Int) + 1) = 8 - (n : Int) := by unfold wrap64; omega
    rw [e]
    unfold step
    by_cases hb : s.getLsbD 0 = true
    · rw [if_neg (by rw [and_one, hb]; simp), if_pos hb, half_u32, u32_P, xor_u32]
    · rw [if_pos ((and_one s).2 (by simpa using hb)), if_neg hb, half_u32, BitVec.xor_zero]
theorem more_l0 {l : List Int} (hb : Bytes l) (hl : l.length ≤ 140737488355328) (n : Nat) : ∀ (s : BitVec 32) (j : Nat), j + n = l.length →
    Ev (fun k => crc_More.l0 k (u32 s) l (l.length : Int) (j : Int)) (u32 (~~~ (run s (bl (l.drop j))))) := by
  induction n with
  | zero =>
    intro s j hj
    refine Ev.step (f := fun _ => some _) (fun k => ?_) (Ev.now _)
    rw [crc_More.l0, if_neg (by omega), List.drop_of_length_le (by omega), not_u32]
    rfl
  | succ n ih =>
    intro s j hj
    have hjl : j < l.length := by omega
    have hr := bytes_rd hb (j : Int) (by omega) (by omega)
    have e : rd l (j : Int) % 4294967296 = u32 (bv (rd l (j : Int))) := by rw [u32_bv _ hr.1 (by omega)]; omega
    have ed : bl (l.drop j) = bv (rd l (j : Int)) :: bl (l.drop (j + 1)) := by
      rw [List.drop_eq_getElem_cons hjl]
      simp only [bl, List.map_cons, rd, Int.toNat_natCast, List.getD_eq_getElem?_getD, List.getElem?_eq_getElem hjl, Option.getD_some]
    rw [ed]
    refine Ev.step (f := fun k => crc_More.l1 k (u32 (s ^^^ bv (rd l (j : Int)))) l (l.length : Int) (j : Int) (8 - ((8 : Nat) : Int))) (fun k => ?_) ?_
    · rw [crc_More.l0, if_pos (by omega), if_pos (by omega), if_pos (by omega), e, xor_u32]
      rfl
    · refine more_l1 8 _ (by omega) ?_
      rw [wrap_small (by omega) (by omega)]
      exact ih _ (j + 1) (by omega)
/-- The sum as the program makes it. -/
def more (s : BitVec 32) (l : List Int) : BitVec 32 := ~~~ (run (~~~ s) (bl l))
theorem more_ev (s : BitVec 32) {l : List Int} (hb : Bytes l) (hl : l.length ≤ 140737488355328) : Ev (fun k => crc_More.f k (u32 s) l) (u32 (more s l)) := by
  have := more_l0 hb hl l.length (~~~ s) 0 (by omega)
  refine Ev.congr (fun k => ?_) this
  rw [crc_More.f, not_u32]
  rfl
theorem u32_zero : (0 : Int) = u32 0#32 := by decide
theorem sum_ev {l : List Int} (hb : Bytes l) (hl : l.length ≤ 140737488355328) : Ev (fun k => crc_Sum.f k l) (u32 (more 0#32 l)) := by
  have := more_ev 0#32 hb hl
  rw [← u32_zero] at this
  exact Ev.congr (fun k => rfl) (Ev.bind this (Ev.now _))
/-! the document's sum -/
def revn (n : Nat) (x y : BitVec 32) : BitVec 32 :=
  match n with
  | 0 => y
  | n + 1 => revn n (x >>> 1) ((y <<< 1) ||| (x &&& 1#32))
theorem revn_get (n : Nat) : ∀ (x y : BitVec 32) (i : Nat), i < 32 → (revn n x y).getLsbD i = if i < n then x.getLsbD (n - 1 - i) else y.getLsbD (i - n) := by
  induction n with
  | zero => intro x y i hi; simp [revn]
  | succ n ih =>
    intro x y i hi
    rw [revn, ih _ _ _ hi]
    by_cases h1 : i < n
    · rw [if_pos h1, if_pos (by omega), BitVec.getLsbD_ushiftRight]
      congr 1; omega
    · rw [if_neg h1]
      by_cases h2 : i = n
      · subst h2
        rw [if_pos (by omega)]
        simp
      · rw [if_neg (by omega)]
        have hq : i - n ≠ 0 := by omega
        have : (x &&& 1#32).getLsbD (i - n) = false := by
          rw [BitVec.getLsbD_and, BitVec.getLsbD_one]
          simp [hq]
        rw [BitVec.getLsbD_or, this, BitVec.getLsbD_shiftLeft]
        have e : i - n - 1 = i - (n + 1) := by omega
        rw [e]
        simp [show i - n < 32 by omega, hq]
theorem revn_all (x : BitVec 32) : revn 32 x 0#32 = x.reverse := by
  apply BitVec.eq_of_getLsbD_eq
  intro i hi
  rw [revn_get _ _ _ _ hi, if_pos hi, rev_get _ _ hi]

theorem half_td (s : BitVec 32) : (Int.tdiv (u32 s) (2 : Int)) % (4294967296 : Int) = u32 (s >>> 1) := by
  have h := u32_lt s
  rw [Int.tdiv_eq_ediv_of_nonneg h.1, half_u32]
  have := u32_lt (s >>> 1)
  omega
theorem low_tm (s : BitVec 32) : Int.tmod (u32 s) (2 : Int) = u32 (s &&& 1#32) := by
  have h := u32_lt s
  rw [Int.tmod_eq_emod_of_nonneg h.1]
  unfold u32
  rw [BitVec.toNat_and, show (1#32).toNat = 1 from rfl, Nat.and_one_is_mod]
  omega
theorem revn_step (x y : BitVec 32) : ((u32 y * (2 : Int)) % (4294967296 : Int) + Int.tmod (u32 x) (2 : Int)) % (4294967296 : Int) = u32 ((y <<< 1) ||| (x &&& 1#32)) := by
  rw [twice_u32, low_tm]
  have h1 : (y <<< 1).toNat % 2 = 0 := by
    rw [BitVec.toNat_shiftLeft, Nat.shiftLeft_eq]
    omega
  have h2 : (x &&& 1#32).toNat ≤ 1 := by
    rw [BitVec.toNat_and, show (1#32).toNat = 1 from rfl, Nat.and_one_is_mod]
    omega
  have h3 := (y <<< 1).isLt
  unfold u32
  rw [BitVec.toNat_or, or_bit _ _ h1 h2]
  omega
theorem turned_ev (x : BitVec 32) : Ev (fun k => marginaliaref15_turned.f k (u32 x)) (u32 x.reverse) := by
  have h : ∀ (n : Nat) (x y : BitVec 32), n ≤ 32 → Ev (fun k => marginaliaref15_turned.l0 k (u32 x) (u32 y) (32 - (n : Int))) (u32 (revn n x y)) := by
    intro n
    induction n with
    | zero =>
      intro x y _
      refine Ev.step (f := fun _ => some _) (fun k => ?_) (Ev.now _)
      rw [marginaliaref15_turned.l0, if_neg (by omega)]
      rfl
    | succ n ih =>
      intro x y hn
      refine Ev.step (f := fun k => marginaliaref15_turned.l0 k (u32 (x >>> 1)) (u32 ((y <<< 1) ||| (x &&& 1#32))) (32 - (n : Int))) (fun k => ?_) (ih _ _ (by omega))
      rw [marginaliaref15_turned.l0, if_pos (by omega), half_td, revn_step]
      have e : wrap64 (32 - ((n + 1 : Nat) : Int) + 1) = 32 - (n : Int) := by unfold wrap64; omega
      rw [e]
  have := h 32 x 0#32 (by omega)
  rw [revn_all] at this
  exact Ev.congr (fun k => rfl) this
theorem ref_l1 {l : List Int} {i r : Int} (n : Nat) : ∀ (x c : BitVec 32), n ≤ 8 → c.toNat < 256 → Ev (fun k => marginaliaref15_More.l0 k l (u32 (rsteps n x c)) (wrap64 (i + 1))) r → Ev (fun k => marginaliaref15_More.l1 k l (u32 x) i (u32 c) (8 - (n : Int))) r := by
  induction n with
  | zero =>
    intro x c _ _ h
    refine Ev.step (f := fun k => marginaliaref15_More.l0 k l (u32 x) (wrap64 (i + 1))) (fun k => ?_) h
    rw [marginaliaref15_More.l1, if_neg (by omega)]
  | succ n ih =>
    intro x c hn hc h
    have hc1 : (c >>> 1).toNat < 256 := by
      rw [BitVec.toNat_ushiftRight, Nat.shiftRight_eq_div_pow]
      omega
    refine Ev.step (f := fun k => marginaliaref15_More.l1 k l (u32 (rstep x (c.getLsbD 0))) i (u32 (c >>> 1)) (8 - (n : Int))) (fun k => ?_) (ih _ _ (by omega) hc1 h)
    have e : wrap64 (8 - ((n + 1 : Nat) : Int) + 1) = 8 - (n : Int) := by unfold wrap64; omega
    have ec : (Int.tdiv (u32 c) (2 : Int)) % (256 : Int) = u32 (c >>> 1) := by
      have h := u32_lt c
      rw [Int.tdiv_eq_ediv_of_nonneg h.1, half_u32]
      unfold u32
      omega
    have et : (Int.tmod (u32 c) (2 : Int) == 1) = c.getLsbD 0 := by
      have h := u32_lt c
      rw [Int.tmod_eq_emod_of_nonneg h.1, low_nat, Bool.eq_iff_iff, beq_iff_eq, decide_eq_true_iff]
      unfold u32
      omega
    rw [marginaliaref15_More.l1, if_pos (by omega), e, ec, et, ← top_nat, twice_u32]
    unfold rstep
    by_cases hb : (x.getLsbD 31 != c.getLsbD 0) = true
    · rw [if_pos hb, if_pos hb, u32_Q, xor_u32]
    · rw [if_neg hb, if_neg hb, BitVec.xor_zero]
theorem bv_lt {x : Int} (h0 : 0 ≤ x) (h1 : x ≤ 255) : (bv x).toNat < 256 := by
  have := u32_bv x h0 (by omega)
  unfold u32 at this
  omega
theorem ref_l0 {l : List Int} (hb : Bytes l) (hl : l.length ≤ 140737488355328) (n : Nat) : ∀ (s : BitVec 32) (j : Nat), j + n = l.length →
    Ev (fun k => marginaliaref15_More.l0 k l (u32 s.reverse) (j : Int)) (u32 (~~~ (run s (bl (l.drop j))))) := by
  induction n with
  | zero =>
    intro s j hj
    have h := turned_ev s.reverse
    rw [rev_rev] at h
    refine Ev.step (f := fun k => (marginaliaref15_turned.f k (u32 s.reverse)).bind fun t => some (Go.bits .xor .u32 t 4294967295)) (fun k => ?_) (Ev.bind h ?_)
    · rw [marginaliaref15_More.l0, if_neg (by omega)]
    · rw [not_u32', List.drop_of_length_le (by omega)]
      exact Ev.now _
  | succ n ih =>
    intro s j hj
    have hjl : j < l.length := by omega
    have hr := bytes_rd hb (j : Int) (by omega) (by omega)
    have e : rd l (j : Int) = u32 (bv (rd l (j : Int))) := by rw [u32_bv _ hr.1 (by omega)]
    have ed : bl (l.drop j) = bv (rd l (j : Int)) :: bl (l.drop (j + 1)) := by
      rw [List.drop_eq_getElem_cons hjl]
      simp only [bl, List.map_cons, rd, Int.toNat_natCast, List.getD_eq_getElem?_getD, List.getElem?_eq_getElem hjl, Option.getD_some]
    rw [ed]
    refine Ev.step (f := fun k => marginaliaref15_More.l1 k l (u32 s.reverse) (j : Int) (u32 (bv (rd l (j : Int)))) (8 - ((8 : Nat) : Int))) (fun k => ?_) ?_
    · rw [marginaliaref15_More.l0, if_pos (by omega), if_pos (by omega), ← e]
      rfl
    · have hlt := bv_lt hr.1 hr.2
      refine ref_l1 8 _ _ (by omega) hlt ?_
      rw [wrap_small (by omega) (by omega), ← byt_rev _ _ hlt]
      exact ih _ (j + 1) (by omega)
theorem refmore_ev (s : BitVec 32) {l : List Int} (hb : Bytes l) (hl : l.length ≤ 140737488355328) : Ev (fun k => marginaliaref15_More.f k (u32 s) l) (u32 (more s l)) := by
  have h := turned_ev (~~~ s)
  rw [← not_u32'] at h
  exact Ev.bind h (ref_l0 hb hl l.length (~~~ s) 0 (by omega))
theorem refsum_ev {l : List Int} (hb : Bytes l) (hl : l.length ≤ 140737488355328) : Ev (fun k => marginaliaref15_Sum.f k l) (u32 (more 0#32 l)) := by
  have := refmore_ev 0#32 hb hl
  rw [← u32_zero] at this
  exact Ev.congr (fun k => rfl) (Ev.bind this (Ev.now _))
theorem wf_u32 {x : Int} (h : (Lit.int .u32 x).wf = true) : 0 ≤ x ∧ x < 4294967296 := by
  simp [Lit.wf, IntKind.min, IntKind.max, IntKind.signed, IntKind.bits] at h
  omega
end CrcK
end Go.Proofs.Ytepipgneefcoiaa
