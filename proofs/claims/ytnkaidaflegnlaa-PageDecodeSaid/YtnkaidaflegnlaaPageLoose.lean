/- What the document's reading of a page's bytes tells: loosely, and right if it is written so. No condition beyond those that each theorem names. -/
import Derived.Test.YtnkaidaflegnlaaPageInv
import Derived.Test.YtnkaidaflegnlaaPageEncRef
import Derived.Test.YtnkaidaflegnlaaGf23
namespace Go.Proofs.Ytnkaidaflegnlaa.PageLaws
open Go.RowKit Go.Proofs.Ytnkaidaflegnlaa Go.Proofs.Ytnkaidaflegnlaa.G Go.Proofs.YtnkaidaflegnlaaW.PrintWords Go.Proofs.YtnkaidaflegnlaaW.PrintLast Go.Proofs.YtnkaidaflegnlaaW.PrintMore
set_option linter.unusedVariables false
theorem ba_loop (b : ByteArray) (n : Nat) : ∀ (i : Nat) (r : List UInt8), b.size - i = n → ByteArray.toList.loop b i r = r.reverse ++ b.data.toList.drop i := by
  have hs : b.size = b.data.toList.length := by rw [Array.length_toList]; rfl
  induction n with
  | zero =>
    intro i r h
    rw [ByteArray.toList.loop, if_neg (by omega), List.drop_of_length_le (by omega), List.append_nil]
  | succ n ih =>
    intro i r h
    have hi : i < b.data.toList.length := by omega
    rw [ByteArray.toList.loop, if_pos (by omega), ih (i + 1) _ (by omega), List.drop_eq_getElem_cons hi, List.reverse_cons, List.append_assoc]
    have hg : b.get! i = b.data.toList[i] := by
      have hi' : i < b.data.size := by simpa using hi
      unfold ByteArray.get!
      simp only [Array.getElem_toList]
      exact getElem!_pos b.data i hi'
    rw [hg]
    rfl
theorem ba_toList (b : ByteArray) : b.toList = b.data.toList := by
  unfold ByteArray.toList
  rw [ba_loop b _ 0 [] rfl]
  simp
theorem strs_eq {a b : List Int} (ha : Bs a) (hb : Bs b) (h : (strOfNums a).toList = (strOfNums b).toList) : a = b := by
  rw [ba_toList, ba_toList] at h
  have h : a.map (fun n => UInt8.ofNat n.toNat) = b.map (fun n => UInt8.ofNat n.toNat) := h
  have e : ∀ (l : List Int), Bs l → (l.map (fun n => UInt8.ofNat n.toNat)).map (fun c => (c.toNat : Int)) = l := fun l hl => by
    rw [List.map_map]
    conv => rhs; rw [← List.map_id l]
    refine List.map_congr_left fun x hx => ?_
    have := hl x hx
    simp only [Function.comp, id, UInt8.toNat_ofNat']
    omega
  rw [← e a ha, ← e b hb, h]
theorem rd_byte {b : List Int} (hb : Bs b) (i : Int) : 0 ≤ rd b i ∧ rd b i < 256 := by
  unfold rd
  rw [List.getD_eq_getElem?_getD]
  cases h : b[i.toNat]? with
  | none => simp
  | some x => exact hb x (List.mem_of_getElem? h)
theorem num_step {b : List Int} (hb : Bs b) (hbl : b.length ≤ 1000) {at_ long n i : Int} {r : Int} (h1 : i < at_ + long) (h2 : at_ + long ≤ 10000) (i0 : 0 ≤ i) (n0 : 0 ≤ n) (n1 : n < 1099511627776) (hat : 0 ≤ at_) (hlo : 0 ≤ long)
    (h : Ev (fun k => marginaliaref20_number.l0 k b at_ long (n * 256 + rd b i) (i + 1)) r) : Ev (fun k => marginaliaref20_number.l0 k b at_ long n i) r := by
  obtain ⟨b0, b1⟩ := rd_byte hb i
  refine Ev.step (fun k => ?_) h
  show marginaliaref20_number.l0 (k + 1) b at_ long n i = marginaliaref20_number.l0 k b at_ long (n * 256 + rd b i) (i + 1)
  rw [marginaliaref20_number.l0, w64 (by omega) (by omega), if_pos h1, u64_id (n := n * 256) (by omega) (by omega), u64_id (n := rd b i) b0 (by omega), w64 (n := i + 1) (by omega) (by omega)]
  by_cases c : i < (b.length : Int)
  · rw [if_pos c, if_pos i0, u64_id (by omega) (by omega)]
  · rw [if_neg c]
    have : rd b i = 0 := by
      unfold rd
      rw [List.getD_eq_getElem?_getD, List.getElem?_eq_none (by omega)]
      rfl
    rw [this, Int.add_zero]
theorem num_end {b : List Int} {at_ long n i : Int} (h1 : at_ + long = i) (h2 : at_ + long ≤ 10000) (hat : 0 ≤ at_) (hlo : 0 ≤ long) (n0 : 0 ≤ n) (n1 : n < 1099511627776) : Ev (fun k => marginaliaref20_number.l0 k b at_ long n i) n :=
  ⟨1, fun k hk => by
    obtain ⟨k, rfl⟩ : ∃ m, k = m + 1 := ⟨k - 1, by omega⟩
    show marginaliaref20_number.l0 (k + 1) b at_ long n i = some n
    rw [marginaliaref20_number.l0, w64 (by omega) (by omega), if_neg (by omega), if_neg (by omega), w64 (by omega) (by omega)]⟩
def n2 (b : List Int) (i : Int) : Int := (0 * 256 + rd b i) * 256 + rd b (i + 1)
def n4 (b : List Int) (i : Int) : Int := (n2 b i * 256 + rd b (i + 1 + 1)) * 256 + rd b (i + 1 + 1 + 1)
theorem n2_b {b : List Int} (hb : Bs b) (i : Int) : 0 ≤ n2 b i ∧ n2 b i < 65536 := by
  have h1 := rd_byte hb i
  have h2 := rd_byte hb (i + 1)
  unfold n2
  omega
theorem n4_b {b : List Int} (hb : Bs b) (i : Int) : 0 ≤ n4 b i ∧ n4 b i < 4294967296 := by
  have h0 := n2_b hb i
  have h1 := rd_byte hb (i + 1 + 1)
  have h2 := rd_byte hb (i + 1 + 1 + 1)
  unfold n4
  omega
theorem number2 {b : List Int} (hb : Bs b) (hbl : b.length ≤ 1000) {i : Int} (i0 : 0 ≤ i) (i1 : i ≤ 5000) : Ev (fun k => marginaliaref20_number.f k b i 2) (n2 b i) := by
  have h1 := rd_byte hb i
  refine num_step hb hbl (by omega) (by omega) i0 (by omega) (by omega) i0 (by omega) ?_
  refine num_step hb hbl (by omega) (by omega) (by omega) (by omega) (by omega) i0 (by omega) ?_
  have := n2_b hb i
  exact num_end (by omega) (by omega) i0 (by omega) this.1 (by have := this.2; unfold n2 at this; omega)
theorem number4 {b : List Int} (hb : Bs b) (hbl : b.length ≤ 1000) {i : Int} (i0 : 0 ≤ i) (i1 : i ≤ 5000) : Ev (fun k => marginaliaref20_number.f k b i 4) (n4 b i) := by
  have h1 := rd_byte hb i
  have h2 := n2_b hb i
  have h3 := rd_byte hb (i + 1 + 1)
  have h4 := n4_b hb i
  refine num_step hb hbl (by omega) (by omega) i0 (by omega) (by omega) i0 (by omega) ?_
  refine num_step hb hbl (by omega) (by omega) (by omega) (by omega) (by omega) i0 (by omega) ?_
  show Ev (fun k => marginaliaref20_number.l0 k b i 4 (n2 b i) (i + 1 + 1)) (n4 b i)
  refine num_step hb hbl (by omega) (by omega) (by omega) (by omega) (by omega) i0 (by omega) ?_
  refine num_step hb hbl (by omega) (by omega) (by omega) (by omega) (by omega) i0 (by omega) ?_
  exact num_end (by omega) (by omega) i0 (by omega) h4.1 (by have := h4.2; unfold n4 at this; omega)
/-- Eight bytes, the highest first. -/
theorem number8 {o : List Int} (ho : Bs o) (hl : o.length = 8) : Ev (fun k => marginaliaref16_Number.f k o) (page_num o) := by
  have key : ∀ (n j : Nat), j + n = 8 → Ev (fun k => marginaliaref16_Number.l0 k o (page_num (o.take j)) (j : Int)) (page_num o) := by
    intro n
    induction n with
    | zero =>
      intro j hj
      refine ⟨1, fun k hk => ?_⟩
      obtain ⟨k, rfl⟩ : ∃ m, k = m + 1 := ⟨k - 1, by omega⟩
      show marginaliaref16_Number.l0 (k + 1) o _ _ = _
      rw [marginaliaref16_Number.l0, if_neg (by omega), List.take_of_length_le (by omega)]
    | succ n ih =>
      intro j hj
      refine Ev.step (fun k => ?_) (ih (j + 1) (by omega))
      show marginaliaref16_Number.l0 (k + 1) o _ _ = marginaliaref16_Number.l0 k o _ _
      rw [marginaliaref16_Number.l0, if_pos (by omega), if_pos (by omega), w64 (by omega) (by omega)]
      have hb := rd_byte ho (j : Int)
      have hp : 0 ≤ page_num (o.take j) ∧ page_num (o.take j) < 72057594037927936 := by
        have : ∀ m : Nat, m ≤ 7 → 0 ≤ page_num (o.take m) ∧ page_num (o.take m) < 256 ^ m := by
          intro m
          induction m with
          | zero => intro _; exact ⟨by rw [List.take_zero]; decide, by rw [List.take_zero]; decide⟩
          | succ m ihm =>
            intro hm
            obtain ⟨q0, q1⟩ := ihm (by omega)
            have hq : (256 : Int) ^ m ≤ 281474976710656 := by
              have : m ≤ 6 := by omega
              have hh : (256 : Nat) ^ m ≤ 256 ^ 6 := Nat.pow_le_pow_right (by decide) this
              have : ((256 ^ m : Nat) : Int) ≤ ((256 ^ 6 : Nat) : Int) := by exact_mod_cast hh
              simpa using this
            have hc := rd_byte ho (m : Int)
            rw [page_num_take (by omega), step_is q0 (by omega) hc.1 hc.2, Int.pow_succ]
            omega
        have h7 := this j (by omega)
        refine ⟨h7.1, Int.lt_of_lt_of_le h7.2 ?_⟩
        have hh : (256 : Nat) ^ j ≤ 256 ^ 7 := Nat.pow_le_pow_right (by decide) (by omega)
        have : ((256 ^ j : Nat) : Int) ≤ ((256 ^ 7 : Nat) : Int) := by exact_mod_cast hh
        simpa using this
      rw [page_num_take (by omega), step_is hp.1 hp.2 hb.1 hb.2, u64_id (n := page_num (o.take j) * 256) (by omega) (by omega), u64_id (n := rd o (j : Int)) hb.1 (by omega), u64_id (by omega) (by omega)]
      rw [show ((j : Int) + 1) = ((j + 1 : Nat) : Int) by omega]
  exact key 8 0 rfl
def lp (b : List Int) (p q : Int) : List Int := (b.take q.toNat).drop p.toNat
theorem lp_Bs {b : List Int} (hb : Bs b) (p q : Int) : Bs (lp b p q) := fun x hx => hb x (List.mem_of_mem_take (List.mem_of_mem_drop hx))
/-- An item as it is read at a place, and where the next one begins. -/
def lit (b : List Int) (leaf : Bool) (p : Int) : S39 × Int :=
  if leaf = true then
    (if n4 b (p + 8) ≤ 40 then (⟨page_num (lp b p (p + 8)), n4 b (p + 8), lp b (p + 8 + 4) (mn (p + 8 + 4 + n4 b (p + 8)) (b.length : Int)), 0⟩, mn (p + 8 + 4 + n4 b (p + 8)) (b.length : Int))
    else (⟨page_num (lp b p (p + 8)), n4 b (p + 8), [], n4 b (p + 8 + 4)⟩, p + 8 + 4 + 4))
  else (⟨page_num (lp b p (p + 8)), 0, [], n4 b (p + 8)⟩, p + 8 + 4)
def lloop (b : List Int) (leaf : Bool) : Nat → Int → Int → List S39 → List S39
  | 0, _, _, acc => acc
  | f + 1, p, i, acc => if i < n2 b 1 ∧ p + 12 ≤ (b.length : Int) then lloop b leaf f (lit b leaf p).2 (i + 1) (acc ++ [(lit b leaf p).1]) else acc
theorem mn_b (a c : Int) : mn a c ≤ c ∧ mn a c ≤ a ∧ (mn a c = a ∨ mn a c = c) := by
  unfold mn
  split <;> omega
theorem lit_b {b : List Int} (hb : Bs b) (hl : b.length = 256) (leaf : Bool) {p : Int} (h0 : 3 ≤ p) (h1 : p + 12 ≤ 256) : p + 12 ≤ (lit b leaf p).2 ∧ (lit b leaf p).2 ≤ 260 ∧ (0 ≤ (lit b leaf p).1.f0 ∧ (lit b leaf p).1.f0 < 18446744073709551616) ∧ Bs (lit b leaf p).1.f2 := by
  have h8 : 0 ≤ page_num (lp b p (p + 8)) ∧ page_num (lp b p (p + 8)) < 18446744073709551616 := by
    have := bytes8 (o := lp b p (p + 8)) (lp_Bs hb _ _) (by unfold lp; rw [List.length_drop, List.length_take]; omega)
    exact ⟨this.1, this.2.1⟩
  have h4 := n4_b hb (p + 8)
  have hm := mn_b (p + 8 + 4 + n4 b (p + 8)) (b.length : Int)
  unfold lit
  split
  · split
    · exact ⟨by show _ ≤ mn _ _; omega, by show mn _ _ ≤ _; omega, h8, lp_Bs hb _ _⟩
    · exact ⟨by show _ ≤ p + 8 + 4 + 4; omega, by show p + 8 + 4 + 4 ≤ _; omega, h8, fun x hx => by cases hx⟩
  · exact ⟨by show _ ≤ p + 8 + 4; omega, by show p + 8 + 4 ≤ _; omega, h8, fun x hx => by cases hx⟩
theorem lloop_ok {b : List Int} (hb : Bs b) (hl : b.length = 256) (leaf : Bool) : ∀ (f : Nat) (p i : Int) (acc : List S39), 3 ≤ p → (∀ z ∈ acc, (0 ≤ z.f0 ∧ z.f0 < 18446744073709551616) ∧ Bs z.f2) → (lloop b leaf f p i acc).length ≤ acc.length + f ∧ ∀ z ∈ lloop b leaf f p i acc, (0 ≤ z.f0 ∧ z.f0 < 18446744073709551616) ∧ Bs z.f2
  | 0, p, i, acc, hp, ha => ⟨by rw [lloop]; omega, by rw [lloop]; exact ha⟩
  | f + 1, p, i, acc, hp, ha => by
    rw [lloop]
    split
    · rename_i c
      have h := lit_b hb hl leaf hp (by omega)
      have q := lloop_ok hb hl leaf f (lit b leaf p).2 (i + 1) (acc ++ [(lit b leaf p).1]) (by omega) (fun z hz => by
        rcases List.mem_append.1 hz with hz | hz
        · exact ha z hz
        · rw [List.mem_singleton.1 hz]; exact ⟨h.2.2.1, h.2.2.2⟩)
      rw [List.length_append, List.length_singleton] at q
      exact ⟨by omega, q.2⟩
    · exact ⟨by omega, ha⟩
theorem j1_false (b : List Int) (leaf : Bool) (acc : List S39) (p i : Int) : Ev (fun k => marginaliaref20_items.j1 k b leaf acc p i false) acc :=
  ⟨1, fun k hk => by
    obtain ⟨k, rfl⟩ : ∃ m, k = m + 1 := ⟨k - 1, by omega⟩
    show marginaliaref20_items.j1 (k + 1) b leaf acc p i false = _
    rw [marginaliaref20_items.j1, if_neg (by decide)]⟩
theorem items_step {b : List Int} (hb : Bs b) (hl : b.length = 256) (leaf : Bool) {p i : Int} {acc : List S39} (hp : 3 ≤ p) (hp1 : p + 12 ≤ 256) (i0 : 0 ≤ i) (i1 : i ≤ 100000) (ha : acc.length ≤ 100000) {r : List S39}
    (h : Ev (fun k => marginaliaref20_items.l0 k b leaf (acc ++ [(lit b leaf p).1]) (lit b leaf p).2 (i + 1)) r) : Ev (fun k => marginaliaref20_items.j1 k b leaf acc p i true) r := by
  have hw : wrap64 (p + 8) = p + 8 := w64 (by omega) (by omega)
  have hw4 : wrap64 (p + 8 + 4) = p + 8 + 4 := w64 (by omega) (by omega)
  have hwi : wrap64 (i + 1) = i + 1 := w64 (by omega) (by omega)
  have h4 := n4_b hb (p + 8)
  have b8 := number8 (o := (b.take (p + 8).toNat).drop p.toNat) (lp_Bs hb p (p + 8)) (by rw [List.length_drop, List.length_take]; omega)
  have m4 := number4 hb (by omega) (i := p + 8) (by omega) (by omega)
  have m44 := number4 hb (by omega) (i := p + 8 + 4) (by omega) (by omega)
  cases leaf with
  | true =>
    refine Ev.step (f := fun k => (marginaliaref16_Number.f k ((b.take (p + 8).toNat).drop p.toNat)).bind fun t259 => (marginaliaref20_number.f k b (p + 8) 4).bind fun t261 => marginaliaref20_items.j2 k b true acc (p + 8 + 4) i t259 t261 0) (fun k => ?_) (Ev.bind b8 (Ev.bind m4 ?_))
    · show marginaliaref20_items.j1 (k + 1) b true acc p i true = _
      rw [marginaliaref20_items.j1, if_pos rfl, hw, hw4, if_pos (by omega), if_pos (by omega), if_pos (by omega)]
      simp only [if_pos]
    · by_cases c : n4 b (p + 8) ≤ 40
      · have hm := mn_b (p + 8 + 4 + n4 b (p + 8)) (b.length : Int)
        have e : lit b true p = (⟨page_num (lp b p (p + 8)), n4 b (p + 8), lp b (p + 8 + 4) (mn (p + 8 + 4 + n4 b (p + 8)) (b.length : Int)), 0⟩, mn (p + 8 + 4 + n4 b (p + 8)) (b.length : Int)) := by unfold lit; rw [if_pos rfl, if_pos c]
        rw [e] at h
        refine Ev.step (fun k => ?_) h
        show marginaliaref20_items.j2 (k + 1) b true acc (p + 8 + 4) i _ _ 0 = _
        rw [marginaliaref20_items.j2, if_pos rfl, if_pos c, Option.bind_some, w64 (n := p + 8 + 4 + n4 b (p + 8)) (by omega) (by omega), if_pos (by omega), if_pos (by omega), if_pos (by omega), if_pos (by rw [List.length_nil, List.length_drop, List.length_take]; omega), if_pos (by omega), hwi, List.nil_append]
        rfl
      · have e : lit b true p = (⟨page_num (lp b p (p + 8)), n4 b (p + 8), [], n4 b (p + 8 + 4)⟩, p + 8 + 4 + 4) := by unfold lit; rw [if_pos rfl, if_neg c]
        rw [e] at h
        refine Ev.step (f := fun k => (marginaliaref20_number.f k b (p + 8 + 4) 4).bind fun t272 => marginaliaref20_items.l0 k b true (acc ++ [(⟨page_num (lp b p (p + 8)), n4 b (p + 8), [], t272⟩ : S39)]) (p + 8 + 4 + 4) (i + 1)) (fun k => ?_) (Ev.bind m44 h)
        show marginaliaref20_items.j2 (k + 1) b true acc (p + 8 + 4) i _ _ 0 = _
        rw [marginaliaref20_items.j2, if_pos rfl, if_neg c, w64 (n := p + 8 + 4 + 4) (by omega) (by omega), hwi]
        simp only [if_pos (show acc.length < 2932031007402 by omega)]
        rfl
  | false =>
    refine Ev.step (f := fun k => (marginaliaref16_Number.f k ((b.take (p + 8).toNat).drop p.toNat)).bind fun t259 => marginaliaref20_items.j2 k b false acc (p + 8) i t259 0 0) (fun k => ?_) (Ev.bind b8 ?_)
    · show marginaliaref20_items.j1 (k + 1) b false acc p i true = _
      rw [marginaliaref20_items.j1, if_pos rfl, hw, if_pos (by omega), if_pos (by omega), if_pos (by omega)]
      simp only [if_neg (show ¬ (false = true) by decide)]
    · have e : lit b false p = (⟨page_num (lp b p (p + 8)), 0, [], n4 b (p + 8)⟩, p + 8 + 4) := by unfold lit; rw [if_neg (by decide)]
      rw [e] at h
      refine Ev.step (f := fun k => (marginaliaref20_number.f k b (p + 8) 4).bind fun t276 => marginaliaref20_items.l0 k b false (acc ++ [(⟨page_num (lp b p (p + 8)), 0, [], t276⟩ : S39)]) (p + 8 + 4) (i + 1)) (fun k => ?_) (Ev.bind m4 h)
      show marginaliaref20_items.j2 (k + 1) b false acc (p + 8) i _ _ 0 = _
      rw [marginaliaref20_items.j2, if_neg (by decide), hw4, hwi]
      simp only [if_pos (show acc.length < 2932031007402 by omega)]
      rfl
theorem items_ev {b : List Int} (hb : Bs b) (hl : b.length = 256) (leaf : Bool) : ∀ (f : Nat) (p i : Int) (acc : List S39), 3 ≤ p → p ≤ 260 → 256 - p < 12 * (f : Int) + 12 → 0 ≤ i → i + f ≤ 10000 → acc.length + f ≤ 10000 →
    Ev (fun k => marginaliaref20_items.l0 k b leaf acc p i) (lloop b leaf f p i acc) := by
  have m2 := number2 hb (by omega) (i := 1) (by omega) (by omega)
  intro f
  induction f with
  | zero =>
    intro p i acc hp hp2 hm i0 i1 ha
    refine Ev.step (f := fun k => (marginaliaref20_number.f k b 1 2).bind fun t257 => (if i < t257 then (marginaliaref20_items.j1 k b leaf acc p i (decide ((wrap64 (p + 12)) ≤ (b.length : Int)))) else (marginaliaref20_items.j1 k b leaf acc p i false))) (fun k => ?_) (Ev.bind m2 ?_)
    · show marginaliaref20_items.l0 (k + 1) b leaf acc p i = _
      rw [marginaliaref20_items.l0]
    · have : decide ((wrap64 (p + 12)) ≤ (b.length : Int)) = false := decide_eq_false (by rw [w64 (by omega) (by omega)]; omega)
      simp only [this, ite_self]
      exact j1_false b leaf acc p i
  | succ f ih =>
    intro p i acc hp hp2 hm i0 i1 ha
    refine Ev.step (f := fun k => (marginaliaref20_number.f k b 1 2).bind fun t257 => (if i < t257 then (marginaliaref20_items.j1 k b leaf acc p i (decide ((wrap64 (p + 12)) ≤ (b.length : Int)))) else (marginaliaref20_items.j1 k b leaf acc p i false))) (fun k => ?_) (Ev.bind m2 ?_)
    · show marginaliaref20_items.l0 (k + 1) b leaf acc p i = _
      rw [marginaliaref20_items.l0]
    · rw [lloop, w64 (n := p + 12) (by omega) (by omega)]
      by_cases c1 : i < n2 b 1
      · simp only [if_pos c1]
        by_cases c2 : p + 12 ≤ (b.length : Int)
        · rw [if_pos ⟨c1, c2⟩, decide_eq_true c2]
          have h := lit_b hb hl leaf hp (by omega)
          exact items_step hb hl leaf hp (by omega) i0 (by omega) (by omega) (ih _ _ _ (by omega) (by omega) (by omega) (by omega) (by omega) (by rw [List.length_append, List.length_singleton]; omega))
        · rw [if_neg (fun h => c2 h.2), decide_eq_false c2]
          exact j1_false b leaf acc p i
      · simp only [if_neg c1]
        rw [if_neg (fun h => c1 h.1)]
        exact j1_false b leaf acc p i
theorem rd_app (pre v : List Int) (i : Int) (j : Nat) (h : i = (pre.length : Int) + j) : rd (pre ++ v) i = rd v (j : Int) := by
  subst h
  unfold rd
  rw [List.getD_eq_getElem?_getD, List.getD_eq_getElem?_getD, List.getElem?_append_right (by omega)]
  congr 2
  omega
theorem n2_at {pre post : List Int} {n i : Int} (h0 : 0 ≤ n) (h1 : n < 65536) (hi : i = (pre.length : Int)) : n2 (pre ++ (pb n 2 ++ post)) i = n := by
  unfold n2
  rw [rd_app _ _ i 0 (by omega), rd_app _ _ (i + 1) 1 (by omega), pb2]
  show (0 * 256 + n / 256 % 256) * 256 + n % 256 = n
  omega
theorem n4_at {pre post : List Int} {n i : Int} (h0 : 0 ≤ n) (h1 : n < 4294967296) (hi : i = (pre.length : Int)) : n4 (pre ++ (pb n 4 ++ post)) i = n := by
  unfold n4 n2
  rw [rd_app _ _ i 0 (by omega), rd_app _ _ (i + 1) 1 (by omega), rd_app _ _ (i + 1 + 1) 2 (by omega), rd_app _ _ (i + 1 + 1 + 1) 3 (by omega), pb4]
  show (((0 * 256 + n / 16777216 % 256) * 256 + n / 65536 % 256) * 256 + n / 256 % 256) * 256 + n % 256 = n
  omega
theorem lp_at {pre u post : List Int} {p q : Int} (hp : p = (pre.length : Int)) (hq : q = (pre.length : Int) + (u.length : Int)) : lp (pre ++ (u ++ post)) p q = u := by
  subst hp hq
  unfold lp
  rw [Int.toNat_natCast, show ((pre.length : Int) + (u.length : Int)).toNat = pre.length + u.length by omega, ← List.append_assoc, show pre.length + u.length = (pre ++ u).length by rw [List.length_append], List.take_left, List.drop_left]
theorem it_facts {a : Int} {x : S39} (h : it a x = true) : (a = 2 → x.f1 = 0 ∧ x.f2 = [] ∧ 0 ≤ x.f3 ∧ x.f3 < 4096) ∧ (a ≠ 2 → 0 ≤ x.f1 ∧ x.f1 ≤ 6000 ∧ (x.f1 ≤ 40 → (x.f2.length : Int) = x.f1 ∧ x.f3 = 0) ∧ (¬ x.f1 ≤ 40 → x.f2 = [] ∧ 0 ≤ x.f3 ∧ x.f3 < 4096)) := by
  have hlk : ∀ n : Int, lk n = true → 0 ≤ n ∧ n < 4096 := fun n hn => by unfold lk at hn; simpa using hn
  unfold it at h
  refine ⟨fun c => ?_, fun c => ?_⟩
  · rw [if_pos c] at h
    by_cases d1 : x.f1 = 0
    · rw [if_pos d1] at h
      by_cases d2 : ((x.f2.length : Nat) : Int) = 0
      · rw [if_pos d2] at h
        exact ⟨d1, List.eq_nil_of_length_eq_zero (by omega), hlk _ h⟩
      · rw [if_neg d2] at h; cases h
    · rw [if_neg d1] at h; cases h
  · rw [if_neg c] at h
    by_cases d0 : x.f1 < 0
    · rw [if_pos d0] at h; cases h
    · rw [if_neg d0] at h
      by_cases d1 : x.f1 > 6000
      · rw [if_pos d1] at h; cases h
      · rw [if_neg d1] at h
        refine ⟨by omega, by omega, fun d2 => ?_, fun d2 => ?_⟩
        · rw [if_pos d2] at h
          by_cases d3 : ((x.f2.length : Nat) : Int) = x.f1
          · rw [if_pos d3] at h
            exact ⟨d3, by simpa using h⟩
          · rw [if_neg d3] at h; cases h
        · rw [if_neg d2] at h
          by_cases d3 : ((x.f2.length : Nat) : Int) = 0
          · rw [if_pos d3] at h
            exact ⟨List.eq_nil_of_length_eq_zero (by omega), hlk _ h⟩
          · rw [if_neg d3] at h; cases h
/-- An item's own bytes are read as that item. -/
theorem lit_enc {a : Int} (ha : a = 1 ∨ a = 2) {x : S39} (h : it a x = true) (h0 : 0 ≤ x.f0) (h1 : x.f0 < 18446744073709551616) (pre post b : List Int) (e : b = pre ++ (eb a x ++ post)) : lit b (a == 1) (pre.length : Int) = (x, (pre.length : Int) + ((eb a x).length : Int)) := by
  obtain ⟨f0, f1, f2, f3⟩ := x
  have hf := it_facts h
  dsimp only at hf h0 h1
  have e8 := num_pb8 (n := f0) h0 h1
  have l8 : (pb f0 8).length = 8 := pb_len _ _
  by_cases c : a = 2
  · obtain ⟨rfl, rfl, g0, g1⟩ := hf.1 c
    have c1 : ¬ a = 1 := by omega
    have ee : b = pre ++ (pb f0 8 ++ (pb f3 4 ++ post)) := by rw [e]; unfold eb; rw [if_neg c1, u64_id g0 (by omega)]; simp only [List.append_assoc]
    have ee2 : b = (pre ++ pb f0 8) ++ (pb f3 4 ++ post) := by rw [ee, List.append_assoc]
    have q1 : lp b (pre.length : Int) ((pre.length : Int) + 8) = pb f0 8 := by rw [ee]; exact lp_at rfl (by rw [l8]; rfl)
    have q2 : n4 b ((pre.length : Int) + 8) = f3 := by rw [ee2]; exact n4_at g0 (by omega) (by rw [List.length_append, l8]; omega)
    unfold lit
    rw [if_neg (by simp [c1]), q1, q2, e8]
    have : ((eb a (⟨f0, 0, [], f3⟩ : S39)).length : Int) = 12 := by unfold eb; rw [if_neg c1, List.length_append, pb_len, pb_len]; rfl
    rw [this]
    congr 1
  · have c1 : a = 1 := ha.resolve_right c
    obtain ⟨g0, g1, g2, g3⟩ := hf.2 c
    by_cases d : f1 ≤ 40
    · obtain ⟨hl2, rfl⟩ := g2 d
      have ee : b = pre ++ (pb f0 8 ++ (pb f1 4 ++ (f2 ++ post))) := by rw [e]; unfold eb; rw [if_pos c1, if_pos d, u64_id g0 (by omega)]; simp only [List.append_assoc]
      have ee2 : b = (pre ++ pb f0 8) ++ (pb f1 4 ++ (f2 ++ post)) := by rw [ee, List.append_assoc]
      have ee3 : b = ((pre ++ pb f0 8) ++ pb f1 4) ++ (f2 ++ post) := by rw [ee2, ← List.append_assoc]
      have q1 : lp b (pre.length : Int) ((pre.length : Int) + 8) = pb f0 8 := by rw [ee]; exact lp_at rfl (by rw [l8]; rfl)
      have q2 : n4 b ((pre.length : Int) + 8) = f1 := by rw [ee2]; exact n4_at g0 (by omega) (by rw [List.length_append, l8]; omega)
      have hbl : (b.length : Int) = (pre.length : Int) + 8 + 4 + (f2.length : Int) + (post.length : Int) := by rw [ee3]; simp only [List.length_append, pb_len]; omega
      have hm : mn ((pre.length : Int) + 8 + 4 + f1) (b.length : Int) = (pre.length : Int) + 8 + 4 + f1 := by
        have := mn_b ((pre.length : Int) + 8 + 4 + f1) (b.length : Int)
        omega
      have q3 : lp b ((pre.length : Int) + 8 + 4) ((pre.length : Int) + 8 + 4 + f1) = f2 := by rw [ee3]; exact lp_at (by simp only [List.length_append, pb_len]; omega) (by simp only [List.length_append, pb_len]; omega)
      unfold lit
      rw [if_pos (by simp [c1]), q1, q2, e8, if_pos d, hm, q3]
      have : ((eb a (⟨f0, f1, f2, 0⟩ : S39)).length : Int) = 12 + f1 := by unfold eb; rw [if_pos c1, if_pos d, List.length_append, List.length_append, pb_len, pb_len]; dsimp only; omega
      rw [this]
      congr 1
      omega
    · obtain ⟨rfl, k0, k1⟩ := g3 d
      have ee : b = pre ++ (pb f0 8 ++ (pb f1 4 ++ (pb f3 4 ++ post))) := by rw [e]; unfold eb; rw [if_pos c1, if_neg d, u64_id g0 (by omega), u64_id k0 (by omega)]; simp only [List.append_assoc]
      have ee2 : b = (pre ++ pb f0 8) ++ (pb f1 4 ++ (pb f3 4 ++ post)) := by rw [ee, List.append_assoc]
      have ee3 : b = ((pre ++ pb f0 8) ++ pb f1 4) ++ (pb f3 4 ++ post) := by rw [ee2, ← List.append_assoc]
      have q1 : lp b (pre.length : Int) ((pre.length : Int) + 8) = pb f0 8 := by rw [ee]; exact lp_at rfl (by rw [l8]; rfl)
      have q2 : n4 b ((pre.length : Int) + 8) = f1 := by rw [ee2]; exact n4_at g0 (by omega) (by rw [List.length_append, l8]; omega)
      have q3 : n4 b ((pre.length : Int) + 8 + 4) = f3 := by rw [ee3]; exact n4_at k0 (by omega) (by simp only [List.length_append, pb_len]; omega)
      unfold lit
      rw [if_pos (by simp [c1]), q1, q2, e8, if_neg d, q3]
      have : ((eb a (⟨f0, f1, [], f3⟩ : S39)).length : Int) = 16 := by unfold eb; rw [if_pos c1, if_neg d, List.length_append, List.length_append, pb_len, pb_len, pb_len]; rfl
      rw [this]
      congr 1
theorem lloop_enc {a : Int} (ha : a = 1 ∨ a = 2) {b : List Int} : ∀ (xs : List S39) (pre post : List Int) (i : Int) (acc : List S39) (f : Nat), (∀ z ∈ xs, it a z = true ∧ 0 ≤ z.f0 ∧ z.f0 < 18446744073709551616) → b = pre ++ (xs.flatMap (eb a) ++ post) → i + (xs.length : Int) = n2 b 1 → xs.length ≤ f → lloop b (a == 1) f (pre.length : Int) i acc = acc ++ xs
  | [], pre, post, i, acc, f, hz, e, hn, hf => by
    rw [List.append_nil]
    cases f with
    | zero => rw [lloop]
    | succ f => rw [lloop, if_neg (fun h => by have := h.1; simp at hn; omega)]
  | z :: zs, pre, post, i, acc, f, hz, e, hn, hf => by
    obtain ⟨f, rfl⟩ : ∃ m, f = m + 1 := ⟨f - 1, by simp at hf; omega⟩
    have e2 : b = pre ++ (eb a z ++ (zs.flatMap (eb a) ++ post)) := by rw [e, List.flatMap_cons, List.append_assoc]
    obtain ⟨z1, z2, z3⟩ := hz z List.mem_cons_self
    have hl := lit_enc ha z1 z2 z3 pre _ b e2
    have hge := eb_ge a z
    have hbl : (b.length : Int) = (pre.length : Int) + ((eb a z).length : Int) + ((zs.flatMap (eb a) ++ post).length : Int) := by rw [e2]; simp only [List.length_append]; omega
    rw [List.length_cons] at hn
    rw [lloop, if_pos ⟨by omega, by omega⟩, hl]
    have := lloop_enc (b := b) ha zs (pre ++ eb a z) post (i + 1) (acc ++ [z]) f (fun y hy => hz y (List.mem_cons_of_mem _ hy)) (by rw [e2, List.append_assoc]) (by omega) (by simp at hf; omega)
    rw [List.length_append, Int.natCast_add] at this
    show lloop b (a == 1) f ((pre.length : Int) + ((eb a z).length : Int)) (i + 1) (acc ++ [z]) = _
    rw [this, List.append_assoc]
    rfl
/-- A page as it is read. -/
def la (b : List Int) : Int := rd b 0
def lx (b : List Int) : List S39 := if rd b 0 = 3 then [] else lloop b (rd b 0 == 1) 30 3 0 []
def ly (b : List Int) : Int := if rd b 0 = 3 then n4 b 1 - 1 else 0
def ld (b : List Int) : List Int := if rd b 0 = 3 then lp b 7 (mn (7 + n2 b 5) (b.length : Int)) else []
theorem pb_Bs (n : Int) : ∀ m, Bs (pb n m)
  | 0 => fun x hx => by rw [pb] at hx; cases hx
  | m + 1 => fun x hx => by
    rw [pb] at hx
    rcases List.mem_cons.1 hx with e | hx
    · rw [e]; omega
    · exact pb_Bs n m x hx
theorem Bs_app {a b : List Int} (ha : Bs a) (hb : Bs b) : Bs (a ++ b) := fun x hx => (List.mem_append.1 hx).elim (ha x) (hb x)
theorem eb_Bs {a : Int} {x : S39} (h : Bs x.f2) : Bs (eb a x) := by
  unfold eb
  refine Bs_app (pb_Bs _ _) ?_
  split
  · refine Bs_app (pb_Bs _ _) ?_
    split
    · exact h
    · exact pb_Bs _ _
  · exact pb_Bs _ _
theorem enc_Bs {a : Int} {x : List S39} {y : Int} {d : List Int} (hx : ∀ z ∈ x, Bs z.f2) (hd_ : Bs d) : Bs (enc a x y d) := by
  unfold enc fin hd
  refine Bs_app (Bs_app (Bs_app (fun z hz => by rw [List.mem_singleton.1 hz]; omega) ?_) ?_) (fun z hz => by rw [(List.mem_replicate.1 hz).2]; decide)
  · split
    · exact Bs_app (Bs_app (pb_Bs _ _) (pb_Bs _ _)) hd_
    · exact pb_Bs _ _
  · rw [ebs_flat a x x.length 0 (by omega), List.drop_zero]
    intro z hz
    obtain ⟨q, hq, hz⟩ := List.mem_flatMap.1 hz
    exact eb_Bs (hx q hq) z hz
theorem lx_ok {b : List Int} (hb : Bs b) (hl : b.length = 256) : (lx b).length ≤ 30 ∧ ∀ z ∈ lx b, (0 ≤ z.f0 ∧ z.f0 < 18446744073709551616) ∧ Bs z.f2 := by
  unfold lx
  split
  · exact ⟨by simp, fun z hz => by cases hz⟩
  · have := lloop_ok hb hl (rd b 0 == 1) 30 3 0 [] (by omega) (fun z hz => by cases hz)
    simpa using this
theorem ld_ok {b : List Int} (hb : Bs b) (hl : b.length = 256) : (ld b).length ≤ 256 ∧ Bs (ld b) := by
  unfold ld
  split
  · exact ⟨by unfold lp; rw [List.length_drop, List.length_take]; omega, lp_Bs hb _ _⟩
  · exact ⟨by simp, fun z hz => by cases hz⟩
theorem refDec_ev {b : List Int} (hb : Bs b) (hl : b.length = 256) : Ev (fun k => marginaliaref20_Decode.f k b) (if chk (la b) (lx b) (ly b) (ld b) = 0 ∧ enc (la b) (lx b) (ly b) (ld b) = b then (la b, lx b, ly b, ld b, 0) else (0, [], 0, [], 8)) := by
  have hx := lx_ok hb hl
  have hdd := ld_ok hb hl
  have h0 := rd_byte hb 0
  have hw : wrap64 (rd b 0) = rd b 0 := w64 (by omega) (by omega)
  have key : Ev (fun k => marginaliaref20_Decode.j0 k b (la b) (lx b) (ly b) (ld b)) (if chk (la b) (lx b) (ly b) (ld b) = 0 ∧ enc (la b) (lx b) (ly b) (ld b) = b then (la b, lx b, ly b, ld b, 0) else (0, [], 0, [], 8)) := by
    refine Ev.step (f := fun k => (marginaliaref20_Encode.f k (la b) (lx b) (ly b) (ld b)).bind fun bt295 => (if bt295.2 = 0 then (if (strOfNums bt295.1).toList = (strOfNums b).toList then (some (la b, lx b, ly b, ld b, 0)) else (some (0, ([] : List (S39)), 0, ([] : List Int), 8))) else (some (0, ([] : List (S39)), 0, ([] : List Int), 8)))) (fun k => ?_) (Ev.bind (refEncode_ev (by omega) (by omega)) ?_)
    · show marginaliaref20_Decode.j0 (k + 1) b _ _ _ _ = _
      rw [marginaliaref20_Decode.j0]
    · refine ⟨0, fun k _ => ?_⟩
      by_cases c : chk (la b) (lx b) (ly b) (ld b) = 0
      · simp only [if_pos c]
        by_cases c2 : enc (la b) (lx b) (ly b) (ld b) = b
        · have hc : chk (la b) (lx b) (ly b) (ld b) = 0 ∧ enc (la b) (lx b) (ly b) (ld b) = b := ⟨c, c2⟩
          rw [if_pos hc, c2]
          simp
        · have hc : ¬ (chk (la b) (lx b) (ly b) (ld b) = 0 ∧ enc (la b) (lx b) (ly b) (ld b) = b) := fun h => c2 h.2
          have hs : ¬ (strOfNums (enc (la b) (lx b) (ly b) (ld b))).toList = (strOfNums b).toList := fun h => c2 (strs_eq (enc_Bs (fun z hz => (hx.2 z hz).2) hdd.2) hb h)
          rw [if_neg hc]
          simp [hs]
      · simp only [if_neg c]
        have hc : ¬ (chk (la b) (lx b) (ly b) (ld b) = 0 ∧ enc (la b) (lx b) (ly b) (ld b) = b) := fun h => c h.1
        rw [if_neg hc]
  by_cases c : rd b 0 = 3
  · have m4 := number4 hb (by omega) (i := 1) (by omega) (by omega)
    have m2 := number2 hb (by omega) (i := 5) (by omega) (by omega)
    have b4 := n4_b hb 1
    have b2 := n2_b hb 5
    have hm := mn_b (7 + n2 b 5) (b.length : Int)
    have ex : lx b = [] := by unfold lx; rw [if_pos c]
    have ey : ly b = n4 b 1 - 1 := by unfold ly; rw [if_pos c]
    have ed : ld b = lp b 7 (mn (7 + n2 b 5) (b.length : Int)) := by unfold ld; rw [if_pos c]
    refine Ev.congr (f := fun k => (marginaliaref20_number.f k b 1 4).bind fun t283 => (marginaliaref20_number.f k b 5 2).bind fun t284 => (if 7 ≤ (mn (wrap64 (7 + t284)) (b.length : Int)) then (if (mn (wrap64 (7 + t284)) (b.length : Int)) ≤ (b.length : Int) then (if (([] : List Int).length + ((b.take ((mn (wrap64 (7 + t284)) (b.length : Int)) : Int).toNat).drop 7).length < 140737488355328) then (marginaliaref20_Decode.j0 k b (la b) ([] : List (S39)) (wrap64 (t283 - 1)) (([] : List Int) ++ ((b.take ((mn (wrap64 (7 + t284)) (b.length : Int)) : Int).toNat).drop 7))) else (none)) else (none)) else (none))) (fun k => ?_) (Ev.bind m4 (Ev.bind m2 ?_))
    · rw [marginaliaref20_Decode.f, if_pos (by omega), if_pos (by omega), hw, if_pos c]
      rfl
    · refine Ev.congr (fun k => ?_) key
      rw [w64 (n := 7 + n2 b 5) (by omega) (by omega), w64 (n := n4 b 1 - 1) (by omega) (by omega), if_pos (by omega), if_pos (by omega), if_pos (by rw [List.length_nil, List.length_drop, List.length_take]; omega), ex, ey, ed, List.nil_append]
      rfl
  · have ex : lx b = lloop b (rd b 0 == 1) 30 3 0 [] := by unfold lx; rw [if_neg c]
    have ey : ly b = 0 := by unfold ly; rw [if_neg c]
    have ed : ld b = [] := by unfold ld; rw [if_neg c]
    have hit := items_ev hb hl (rd b 0 == 1) 30 3 0 [] (by omega) (by omega) (by omega) (by omega) (by omega) (by simp)
    rw [← ex] at hit
    refine Ev.congr (f := fun k => (marginaliaref20_items.f k b (rd b 0 == 1)).bind fun t292 => marginaliaref20_Decode.j0 k b (la b) t292 0 []) (fun k => ?_) (Ev.bind hit ?_)
    · rw [marginaliaref20_Decode.f, if_pos (by omega), if_pos (by omega), hw, if_neg c]
      rfl
    · refine Ev.congr (fun k => ?_) key
      rw [ey, ed]
/-- A page's own bytes are read as that page. -/
theorem loose_enc {a : Int} {x : List S39} {y : Int} {d b : List Int} (h : chk a x y d = 0) (hk : ∀ z ∈ x, 0 ≤ z.f0 ∧ z.f0 < 18446744073709551616) (e : enc a x y d = b) : la b = a ∧ lx b = x ∧ ly b = y ∧ ld b = d := by
  obtain ⟨hm, hs⟩ := chk_zero h
  have hl := enc_len h
  have hbl := body_len h
  obtain ⟨n, hn⟩ : ∃ n, n = 256 - (hd a x y d ++ ebs a x 0 x.length).length := ⟨_, rfl⟩
  rw [e] at hl
  unfold enc fin at e
  rw [← hn] at e
  by_cases c : a = 3
  · subst c
    obtain ⟨rfl, hy, hd0, hd1⟩ := may_over hm
    have hyb : 0 ≤ y + 1 ∧ y + 1 < 4097 := by
      rcases hy with hy | hy
      · omega
      · unfold lk at hy; simp at hy; omega
    have e1 : b = [3] ++ (pb (y + 1) 4 ++ (pb (d.length : Int) 2 ++ (d ++ List.replicate n 0))) := by
      rw [← e]; unfold hd; rw [if_pos rfl, w64 (by omega) (by omega), u64_id (by omega) (by omega), u64_id (by omega) (by omega)]; simp only [List.append_assoc, ebs, List.length_nil, List.nil_append]; rfl
    have e2 : b = ([3] ++ pb (y + 1) 4) ++ (pb (d.length : Int) 2 ++ (d ++ List.replicate n 0)) := by rw [e1, List.append_assoc]
    have e3 : b = (([3] ++ pb (y + 1) 4) ++ pb (d.length : Int) 2) ++ (d ++ List.replicate n 0) := by rw [e2, ← List.append_assoc]
    have r0 : rd b 0 = 3 := by rw [e1]; rfl
    have q1 : n4 b 1 = y + 1 := by rw [e1]; exact n4_at hyb.1 (by omega) rfl
    have q2 : n2 b 5 = (d.length : Int) := by rw [e2]; exact n2_at (by omega) (by omega) (by simp only [List.length_append, pb_len, List.length_singleton]; rfl)
    have hmn := mn_b (7 + (d.length : Int)) (b.length : Int)
    have hb7 : (b.length : Int) = 7 + (d.length : Int) + (n : Int) := by rw [e3]; simp only [List.length_append, pb_len, List.length_singleton, List.length_replicate]; omega
    refine ⟨r0, by unfold lx; rw [if_pos r0], by unfold ly; rw [if_pos r0, q1]; omega, ?_⟩
    unfold ld
    rw [if_pos r0, q2, show mn (7 + (d.length : Int)) (b.length : Int) = 7 + (d.length : Int) by omega, e3]
    exact lp_at (by simp only [List.length_append, pb_len, List.length_singleton]; rfl) (by simp only [List.length_append, pb_len, List.length_singleton]; omega)
  · obtain ⟨ha, hx0, hd0, hy0, hall⟩ := may_all hm c
    have hit : ∀ i, i < x.length → it a (rd_T39 x (i : Int)) = true := fun i hi => qt_it (allf_at x.length 0 hall i (by omega) (by omega))
    have hz : ∀ z ∈ x, it a z = true ∧ 0 ≤ z.f0 ∧ z.f0 < 18446744073709551616 := fun z hz => by
      obtain ⟨i, hi, rfl⟩ := List.getElem_of_mem hz
      exact ⟨by have := hit i hi; rwa [rd39_at hi] at this, hk _ (List.getElem_mem _)⟩
    have hd' : d = [] := List.eq_nil_of_length_eq_zero hd0
    subst hd' hy0
    have hfl := flat_ge a x
    have hlen : x.length ≤ 30 := by
      unfold sz at hbl
      rw [List.length_append, ebs_flat a x x.length 0 (by omega), List.drop_zero, if_neg c] at hbl
      unfold sz at hs
      rw [if_neg c] at hs
      omega
    have e1 : b = [a] ++ (pb (x.length : Int) 2 ++ (x.flatMap (eb a) ++ List.replicate n 0)) := by
      rw [← e]; unfold hd; rw [if_neg c, u64_id (by omega) (by omega), ebs_flat a x x.length 0 (by omega), List.drop_zero, show a % 256 = a by omega]; simp only [List.append_assoc]
    have e2 : b = ([a] ++ pb (x.length : Int) 2) ++ (x.flatMap (eb a) ++ List.replicate n 0) := by rw [e1, List.append_assoc]
    have r0 : rd b 0 = a := by rw [e1]; rfl
    have q2 : n2 b 1 = (x.length : Int) := by rw [e1]; exact n2_at (by omega) (by omega) rfl
    have hc : ¬ rd b 0 = 3 := by rw [r0]; exact c
    refine ⟨r0, ?_, by unfold ly; rw [if_neg hc], by unfold ld; rw [if_neg hc]⟩
    unfold lx
    rw [if_neg hc, r0]
    have := lloop_enc ha x ([a] ++ pb (x.length : Int) 2) (List.replicate n 0) 0 [] 30 hz e2 (by rw [q2]; omega) (by omega)
    rw [List.nil_append] at this
    exact this
theorem refDec_bad {b : List Int} (h : b.length ≠ 256) (k : Nat) : marginaliaref20_Decode.f k b = some (0, [], 0, [], 8) := by
  rw [marginaliaref20_Decode.f, if_neg (by omega)]
/-- The program's reading and the document's. -/
theorem decodes {b : List Int} (hb : Bs b) : ∃ r, Ev (fun k => page_Decode.f k b) r ∧ Ev (fun k => marginaliaref20_Decode.f k b) r ∧ r.2.1.length ≤ 1000 := by
  by_cases hl : b.length = 256
  · have hr := refDec_ev hb hl
    by_cases c : chk (la b) (lx b) (ly b) (ld b) = 0 ∧ enc (la b) (lx b) (ly b) (ld b) = b
    · rw [if_pos c] at hr
      have hx := lx_ok hb hl
      have hdd := ld_ok hb hl
      refine ⟨_, ?_, hr, by show (lx b).length ≤ 1000; omega⟩
      obtain ⟨K, q⟩ := check_ev (a := la b) (x := lx b) (y := ly b) (d := ld b) (by omega) (by omega)
      refine ⟨K, fun k hk => ?_⟩
      have q1 : page_Check.f k (la b) (lx b) (ly b) (ld b) = some 0 := by have := q k hk; rw [c.1] at this; exact this
      have := decode_enc (by omega) c.1 (fun z hz => (hx.2 z hz).1) q1
      rw [c.2] at this
      exact this
    · rw [if_neg c] at hr
      obtain ⟨⟨a, x, y, d, e⟩, hq, hre⟩ := decode_ev hb
      by_cases ce : e = 0
      · subst ce
        obtain ⟨K, q⟩ := hq
        obtain ⟨h1, h2, h3, h4, h5, h6⟩ := decode_inv hb (q K (Nat.le_refl _))
        obtain ⟨g1, g2, g3, g4⟩ := loose_enc h2 h6 h3
        exact absurd ⟨by rw [g1, g2, g3, g4]; exact h2, by rw [g1, g2, g3, g4]; exact h3⟩ c
      · have hbad := hre.resolve_right ce
        rw [hbad] at hq
        exact ⟨_, hq, hr, by simp⟩
  · exact ⟨_, ⟨0, fun k _ => decode_bad hl k⟩, ⟨0, fun k _ => refDec_bad hl k⟩, by simp⟩
end Go.Proofs.Ytnkaidaflegnlaa.PageLaws
