/- CellOnly: a cell's bytes are what it is encoded as, and with one byte another one they are none of any cell. No condition beyond those that each theorem names. -/
import Derived.Test.YtnmopjmlilekjaaCellPut
import Derived.Test.YtnmopjmlilekjaaKf12
import Derived.Test.YtnmopjmlilekjaaKf19
import Derived.Test.YtnmopjmlilekjaaKf20
import Derived.Test.YtnmopjmlilekjaaKf29
namespace Go.Proofs.Ytnmopjmlilekjaa.CellLaws
open Go.RowKit Go.Proofs.Ytnmopjmlilekjaa Go.Proofs.Ytnmopjmlilekjaa.K Go.Proofs.YtnmopjmlilekjaaW.PrintWords Go.Proofs.YtnmopjmlilekjaaW.PrintLast Go.Proofs.YtnmopjmlilekjaaW.PrintMore
open Go.Proofs.Ytnmopjmlilekjaa.CrcK (Bytes u32 more sum_ev refsum_ev bytes_rd u32_lt bytes_wf bv bl run run_set u32_bv u32_inj)
set_option linter.unusedVariables false
theorem xor_u8 (a b : Int) (ha : 0 ≤ a ∧ a ≤ 255) (hb : 0 ≤ b ∧ b ≤ 255) : 0 ≤ Go.bits .xor .u8 a b ∧ Go.bits .xor .u8 a b ≤ 255 ∧ bv (Go.bits .xor .u8 a b) = bv a ^^^ bv b := by
  obtain ⟨a, rfl⟩ := Int.eq_ofNat_of_zero_le ha.1
  obtain ⟨b, rfl⟩ := Int.eq_ofNat_of_zero_le hb.1
  have h1 : a < 2 ^ 8 := by omega
  have h2 : b < 2 ^ 8 := by omega
  have h3 := Nat.xor_lt_two_pow h1 h2
  have e : Go.bits .xor .u8 (a : Int) (b : Int) = ((a ^^^ b : Nat) : Int) := u8_xor_nat a b (by omega) (by omega)
  rw [e]
  refine ⟨by omega, by omega, ?_⟩
  unfold bv
  rw [BitVec.ofInt_natCast, BitVec.ofInt_natCast, BitVec.ofInt_natCast]
  apply BitVec.eq_of_toNat_eq
  rw [BitVec.toNat_xor, BitVec.toNat_ofNat, BitVec.toNat_ofNat, BitVec.toNat_ofNat, Nat.mod_eq_of_lt (by omega), Nat.mod_eq_of_lt (by omega), Nat.mod_eq_of_lt (by omega)]
theorem bv_inj {x y : Int} (hx : 0 ≤ x ∧ x ≤ 255) (hy : 0 ≤ y ∧ y ≤ 255) (h : bv x = bv y) : x = y := by
  rw [← u32_bv x hx.1 (by omega), ← u32_bv y hy.1 (by omega), h]
theorem more_inj {s : BitVec 32} {l l' : List Int} (h : more s l = more s l') : run (~~~ s) (bl l) = run (~~~ s) (bl l') := by
  unfold more at h
  have := congrArg (fun x => ~~~ x) h
  simpa using this
/-- A byte of the sum's argument can't be another one with the same sum. -/
theorem sumv_set {l : List Int} {i : Nat} {v : Int} (hb : Bytes l) (hi : i < l.length) (hv : 0 ≤ v ∧ v ≤ 255) (h : sumv (l.set i v) = sumv l) : v = l[i] := by
  have h := more_inj (u32_inj h)
  have e : bl (l.set i v) = (bl l).set i (bv v) := by simp [bl]
  rw [e] at h
  have hi' : i < (bl l).length := by simpa [bl] using hi
  have := run_set hi' h
  have hg : (bl l)[i] = bv l[i] := by simp [bl]
  rw [hg] at this
  exact bv_inj hv (hb _ (List.getElem_mem hi)) this
theorem num_inj {l m : List Int} (hl : Bytes l) (hm : Bytes m) (hn : l.length = m.length) (h : num l = num m) : l = m := by
  rw [← be_num l hl, ← be_num m hm, hn, h]
theorem good_set {l : List Int} {i : Nat} {v : Int} (hb : Bytes l) (hg : CellLaws.Good l) (hi : i < l.length) (hv : 0 ≤ v ∧ v ≤ 255) (hy : CellLaws.Good (l.set i v)) : v = l[i] := by
  obtain ⟨hl, _, _, _, hs⟩ := hg
  obtain ⟨_, _, _, _, hs'⟩ := hy
  have hb' : Bytes (l.set i v) := fun x hx => by
    rcases List.mem_or_eq_of_mem_set hx with h | h
    · exact hb x h
    · subst h; exact hv
  by_cases c : i < 60
  · have h1 : (l.set i v).drop 60 = l.drop 60 := List.drop_set_of_lt c
    have h2 : (l.set i v).take 60 = (l.take 60).set i v := List.take_set
    have hi' : i < (l.take 60).length := by rw [List.length_take]; omega
    rw [h1, h2, hs] at hs'
    have h3 := sumv_set (by_take hb 60) hi' hv hs'.symm
    rw [h3, List.getElem_take]
  · have h2 : (l.set i v).take 60 = l.take 60 := List.take_set_of_le (by omega)
    rw [h2, ← hs] at hs'
    have h3 := num_inj (by_drop hb' 60) (by_drop hb 60) (by simp) hs'
    have h4 : l.set i v = l := by
      rw [← List.take_append_drop 60 (l.set i v), h2, h3, List.take_append_drop]
    have h5 : (l.set i v)[i]'(by simpa using hi) = v := by simp
    have h6 : (l.set i v)[i]? = l[i]? := by rw [h4]
    rw [List.getElem?_set_self hi, List.getElem?_eq_getElem hi] at h6
    exact Option.some.inj h6
theorem encode_back {l : List Int} (hb : Bytes l) (hg : CellLaws.Good l) : Ev (fun k => cell_Encode.f k (e0 l) (e1 l) (pt l) (ofs l) (dat l)) (l, 0) := by
  obtain ⟨hl, hn, hp, ht, hs⟩ := hg
  have ho := ofs_le hb hl
  have hd := dat_length hl hn
  have := encode_ev (a0 := e0 l) (a1 := e1 l) (dat_bytes hb) (show May (pt l) (ofs l) (dat l) from ⟨ho.1, hp, ho.2.2.2, by omega⟩)
  rwa [(good_iff hb hl hn).2 ⟨ht, hs⟩] at this
end Go.Proofs.Ytnmopjmlilekjaa.CellLaws
namespace Go.Proofs.Ytnmopjmlilekjaa.Pure
open Go.RowKit Go.Proofs.Ytnmopjmlilekjaa Go.Proofs.Ytnmopjmlilekjaa.K Go.Proofs.Ytnmopjmlilekjaa.CellLaws Go.Proofs.YtnmopjmlilekjaaW.PrintWords Go.Proofs.YtnmopjmlilekjaaW.PrintLast Go.Proofs.YtnmopjmlilekjaaW.PrintMore
open Go.Proofs.Ytnmopjmlilekjaa.CrcK (Bytes u32 more sum_ev refsum_ev bytes_rd u32_lt bytes_wf bv)
theorem CellOnly : marginalialaw16_CellOnly.Pure := by
  intro l at_ bits _ _ hw h1 h2
  have hb : Bytes l := bytes_wf hw
  have hb2 := bounds_u8 h2
  obtain ⟨K0, q0⟩ := alive_ev
  by_cases c : (l.length : Int) > 300
  · have r0 : marginalialaw16_alive.f K0 = some true := q0 _ (by omega)
    refine ⟨K0, ?_⟩
    rw [marginalialaw16_CellOnly.f, if_pos c, r0, Option.bind_some]
  by_cases hg : CellLaws.Good l
  · obtain ⟨K1, q1⟩ := decode_good hb hg
    obtain ⟨K2, q2⟩ := encode_back hb hg
    have hfin : ∀ c : Bool, c = true → ∀ k, K0 + 1 ≤ k → marginalialaw16_CellOnly.j1 k l at_ bits c = some true := fun c hc k hk => by
      obtain ⟨m, rfl⟩ : ∃ m, k = m + 1 := ⟨k - 1, by omega⟩
      have r0 : marginalialaw16_alive.f m = some true := q0 _ (by omega)
      rw [marginalialaw16_CellOnly.j1, if_pos hc, r0, Option.bind_some]
    have hj0 : ∃ K, ∀ k, K ≤ k → marginalialaw16_CellOnly.j0 k l at_ bits false = some true := by
      by_cases c1 : at_ < 0
      · refine ⟨K0 + 2, fun k hk => ?_⟩
        obtain ⟨m, rfl⟩ : ∃ m, k = m + 1 := ⟨k - 1, by omega⟩
        rw [marginalialaw16_CellOnly.j0, if_neg (by decide), if_pos c1, hfin _ rfl m (by omega)]
      by_cases c2 : at_ ≥ (l.length : Int)
      · refine ⟨K0 + 2, fun k hk => ?_⟩
        obtain ⟨m, rfl⟩ : ∃ m, k = m + 1 := ⟨k - 1, by omega⟩
        rw [marginalialaw16_CellOnly.j0, if_neg (by decide), if_neg c1, if_pos c2, hfin _ rfl m (by omega)]
      by_cases c3 : bits = 0
      · refine ⟨K0 + 2, fun k hk => ?_⟩
        obtain ⟨m, rfl⟩ : ∃ m, k = m + 1 := ⟨k - 1, by omega⟩
        rw [marginalialaw16_CellOnly.j0, if_neg (by decide), if_neg c1, if_neg c2, hfin _ (by simp [c3]) m (by omega)]
      have hi : at_.toNat < l.length := by omega
      have hr := bytes_rd hb at_ (by omega) (by omega)
      obtain ⟨x0, x1, x2⟩ := xor_u8 _ _ hr hb2
      obtain ⟨v, hv⟩ : ∃ v, v = Go.bits .xor .u8 (rd l at_) bits := ⟨_, rfl⟩
      rw [← hv] at x0 x1 x2
      have hb' : Bytes (l.set at_.toNat v) := fun x hx => by
        rcases List.mem_or_eq_of_mem_set hx with h | h
        · exact hb x h
        · subst h; exact ⟨x0, x1⟩
      have hat : rd l at_ = l[at_.toNat] := by
        have := rd_at hi
        rwa [Int.toNat_of_nonneg (by omega)] at this
      have hng : ¬ CellLaws.Good (l.set at_.toNat v) := fun hy => by
        have h3 := good_set hb hg hi ⟨x0, x1⟩ hy
        rw [← hat] at h3
        rw [h3] at x2
        have hz : bv bits = bv 0 := by
          have h4 : bv (rd l at_) ^^^ bv bits = bv (rd l at_) ^^^ 0#32 := by rw [← x2, BitVec.xor_zero]
          rw [(BitVec.xor_right_inj _).1 h4]
          rfl
        exact c3 (bv_inj hb2 (by omega) hz)
      obtain ⟨K3, q3⟩ := decode_bad hb' hng
      refine ⟨K0 + K3 + 2, fun k hk => ?_⟩
      obtain ⟨m, rfl⟩ : ∃ m, k = m + 1 + 1 := ⟨k - 2, by omega⟩
      have r0 : marginalialaw16_alive.f m = some true := q0 _ (by omega)
      have r3 : cell_Decode.f m (l.set at_.toNat v) = some (0, 0, 0, 0, [], 8) := q3 _ (by omega)
      have c3' : (bits == 0) = false := by simpa using c3
      rw [marginalialaw16_CellOnly.j0, if_neg (by decide), if_neg c1, if_neg c2, c3', marginalialaw16_CellOnly.j1, if_neg (by decide), Option.bind_some, if_pos (by simp; omega), Option.bind_some, List.nil_append, if_pos (by omega), if_pos (by omega), ← hv, r3, Option.bind_some, r0, Option.bind_some, if_pos rfl]
      rfl
    obtain ⟨K3, q3⟩ := hj0
    refine ⟨K1 + K2 + K3, ?_⟩
    have r1 : cell_Decode.f (K1 + K2 + K3) l = some (e0 l, e1 l, pt l, ofs l, dat l, 0) := q1 _ (by omega)
    have r2 : cell_Encode.f (K1 + K2 + K3) (e0 l) (e1 l) (pt l) (ofs l) (dat l) = some (l, 0) := q2 _ (by omega)
    rw [marginalialaw16_CellOnly.f, if_neg c, r1, Option.bind_some, if_pos rfl, r2, Option.bind_some, if_pos rfl]
    have e : ((strOfNums l).toList != (strOfNums l).toList) = false := by simp
    show marginalialaw16_CellOnly.j0 _ l at_ bits ((strOfNums l).toList != (strOfNums l).toList) = _
    rw [e, q3 _ (by omega)]
  · obtain ⟨K1, q1⟩ := decode_bad hb hg
    refine ⟨K0 + K1, ?_⟩
    have r0 : marginalialaw16_alive.f (K0 + K1) = some true := q0 _ (by omega)
    have r1 : cell_Decode.f (K0 + K1) l = some (0, 0, 0, 0, [], 8) := q1 _ (by omega)
    rw [marginalialaw16_CellOnly.f, if_neg c, r1, Option.bind_some, if_neg (by decide), r0, Option.bind_some, if_pos rfl, if_pos rfl, same_refl, Option.bind_some]
end Go.Proofs.Ytnmopjmlilekjaa.Pure
