/- The five statements on the check sum, as statements on lists of numbers; no condition beyond those that each names. -/
import Derived.Test.YtnmopjmlilekjaaCrcMath
namespace Go.Proofs.Ytnmopjmlilekjaa.CrcLaws
open Go.RowKit Go.Proofs.Ytnmopjmlilekjaa Go.Proofs.Ytnmopjmlilekjaa.C Go.Proofs.YtnmopjmlilekjaaW.PrintWords Go.Proofs.YtnmopjmlilekjaaW.PrintLast
open Go.Proofs.Ytnmopjmlilekjaa.Crc

theorem CrcMore : marginalialaw15_CrcMore.Pure := by
  intro a0 l1 ha _ hs hw
  have hb := bytes_wf hw
  have h0 := wf_u32 ha
  obtain ⟨s, rfl⟩ : ∃ s, a0 = u32 s := ⟨bv a0, (u32_bv a0 h0.1 h0.2).symm⟩
  obtain ⟨K1, h1⟩ := more_ev s hb (by omega)
  obtain ⟨K2, h2⟩ := refmore_ev s hb (by omega)
  refine ⟨K1 + K2, ?_⟩
  simp only [marginalialaw15_CrcMore.f, marginalialaw15_alive.f, h1 (K1 + K2) (by omega), h2 (K1 + K2) (by omega), Option.bind_some, if_true, beq_self_eq_true, ite_self]

theorem CrcSum : marginalialaw15_CrcSum.Pure := by
  intro l0 _ hs hw
  have hb := bytes_wf hw
  obtain ⟨K1, h1⟩ := sum_ev hb (by omega)
  obtain ⟨K2, h2⟩ := refsum_ev hb (by omega)
  refine ⟨K1 + K2, ?_⟩
  have hl : ([] : List Int).length + l0.length < 140737488355328 := by simp; omega
  simp only [marginalialaw15_CrcSum.f, marginalialaw15_alive.f, Option.bind_some, if_pos hl, List.nil_append, h1 (K1 + K2) (by omega), h2 (K1 + K2) (by omega), if_true, beq_self_eq_true, ite_self]

theorem CrcPieces : marginalialaw15_CrcPieces.Pure := by
  intro a0 l1 l2 ha _ hs1 hw1 _ hs2 hw2
  have hb1 := bytes_wf hw1
  have hb2 := bytes_wf hw2
  have h0 := wf_u32 ha
  obtain ⟨s, rfl⟩ : ∃ s, a0 = u32 s := ⟨bv a0, (u32_bv a0 h0.1 h0.2).symm⟩
  by_cases c1 : (l1.length : Int) > 300
  · refine ⟨1, ?_⟩
    rw [marginalialaw15_CrcPieces.f, if_pos c1]
    simp [marginalialaw15_CrcPieces.j0, marginalialaw15_alive.f]
  by_cases c2 : (l2.length : Int) > 300
  · refine ⟨1, ?_⟩
    rw [marginalialaw15_CrcPieces.f, if_neg c1, decide_eq_true c2]
    simp [marginalialaw15_CrcPieces.j0, marginalialaw15_alive.f]
  have hb12 : Bytes (l1 ++ l2) := fun x hx => by
    rcases List.mem_append.1 hx with h | h
    · exact hb1 x h
    · exact hb2 x h
  have hb0 : Bytes [] := fun x hx => by cases hx
  have hm : ∀ t : BitVec 32, more (more t l1) l2 = more t (l1 ++ l2) := fun t => by
    unfold more bl
    rw [BitVec.not_not, List.map_append, run_append]
  have hn : ∀ t : BitVec 32, more t [] = t := fun t => by
    unfold more bl
    simp [run]
  obtain ⟨K1, h1⟩ := more_ev s hb1 (by omega)
  obtain ⟨K2, h2⟩ := more_ev (more s l1) hb2 (by omega)
  obtain ⟨K3, h3⟩ := more_ev s hb12 (by simp; omega)
  obtain ⟨K4, h4⟩ := sum_ev hb1 (by omega)
  obtain ⟨K5, h5⟩ := more_ev (more 0#32 l1) hb2 (by omega)
  obtain ⟨K6, h6⟩ := sum_ev hb12 (by simp; omega)
  obtain ⟨K7, h7⟩ := more_ev s hb0 (by simp)
  obtain ⟨K8, h8⟩ := sum_ev hb0 (by simp)
  obtain ⟨K, hK⟩ : ∃ K, K = K1 + K2 + K3 + K4 + K5 + K6 + K7 + K8 := ⟨_, rfl⟩
  refine ⟨K + 1, ?_⟩
  rw [hm] at h2 h5
  rw [hn] at h7 h8
  have g1 : ([] : List Int).length + l1.length < 140737488355328 := by simp; omega
  have g2 : l1.length + l2.length < 140737488355328 := by omega
  rw [marginalialaw15_CrcPieces.f, if_neg c1, decide_eq_false c2]
  simp only [marginalialaw15_CrcPieces.j0, marginalialaw15_alive.f, Option.bind_some, if_pos g1, List.nil_append, if_pos g2, h1 K (by omega), h2 K (by omega), h3 K (by omega), h4 K (by omega), h5 K (by omega), h6 K (by omega), h7 K (by omega), h8 K (by omega), if_true, if_false, Bool.false_eq_true]
  rfl

theorem xor_u8 (a b : Int) (ha : 0 ≤ a ∧ a ≤ 255) (hb : 0 ≤ b ∧ b ≤ 255) : 0 ≤ Go.bits .xor .u8 a b ∧ Go.bits .xor .u8 a b ≤ 255 ∧ bv (Go.bits .xor .u8 a b) = bv a ^^^ bv b := by
  obtain ⟨a, rfl⟩ := Int.eq_ofNat_of_zero_le ha.1
  obtain ⟨b, rfl⟩ := Int.eq_ofNat_of_zero_le hb.1
  have h1 : a < 2 ^ 8 := by omega
  have h2 : b < 2 ^ 8 := by omega
  have h3 := Nat.xor_lt_two_pow h1 h2
  have e : Go.bits .xor .u8 (a : Int) (b : Int) = ((a ^^^ b : Nat) : Int) := u8_xor_nat a b (by omega) (by omega)
  rw [e]
  refine ⟨by omega, by omega, ?_⟩
  unfold bv
  rw [BitVec.ofInt_natCast, BitVec.ofInt_natCast, BitVec.ofInt_natCast]
  apply BitVec.eq_of_toNat_eq
  rw [BitVec.toNat_xor, BitVec.toNat_ofNat, BitVec.toNat_ofNat, BitVec.toNat_ofNat, Nat.mod_eq_of_lt (by omega), Nat.mod_eq_of_lt (by omega), Nat.mod_eq_of_lt (by omega)]

theorem bv_inj {x y : Int} (hx : 0 ≤ x ∧ x ≤ 255) (hy : 0 ≤ y ∧ y ≤ 255) (h : bv x = bv y) : x = y := by
  rw [← u32_bv x hx.1 (by omega), ← u32_bv y hy.1 (by omega), h]

theorem more_inj {s : BitVec 32} {l l' : List Int} (h : more s l = more s l') : run (~~~ s) (bl l) = run (~~~ s) (bl l') := by
  unfold more at h
  have := congrArg (fun x => ~~~ x) h
  simpa using this

theorem CrcOne : marginalialaw15_CrcOne.Pure := by
  intro l0 a1 a2 _ hs hw h1 h2
  have hb := bytes_wf hw
  have hb2 := bounds_u8 h2
  by_cases c1 : (l0.length : Int) > 300
  · refine ⟨1, ?_⟩
    rw [marginalialaw15_CrcOne.f, if_pos c1]
    simp [marginalialaw15_CrcOne.j0, marginalialaw15_alive.f]
  by_cases c2 : a1 < 0
  · refine ⟨1, ?_⟩
    rw [marginalialaw15_CrcOne.f, if_neg c1, if_pos c2]
    simp [marginalialaw15_CrcOne.j0, marginalialaw15_alive.f]
  by_cases c3 : a1 ≥ (l0.length : Int)
  · refine ⟨1, ?_⟩
    rw [marginalialaw15_CrcOne.f, if_neg c1, if_neg c2, decide_eq_true c3]
    simp [marginalialaw15_CrcOne.j0, marginalialaw15_alive.f]
  have hr := bytes_rd hb a1 (by omega) (by omega)
  obtain ⟨x0, x1, x2⟩ := xor_u8 _ _ hr hb2
  obtain ⟨v, hv⟩ : ∃ v, v = Go.bits .xor .u8 (rd l0 a1) a2 := ⟨_, rfl⟩
  rw [← hv] at x0 x1 x2
  have hb' : Bytes (l0.set a1.toNat v) := fun x hx => by
    rcases List.mem_or_eq_of_mem_set hx with h | h
    · exact hb x h
    · subst h; exact ⟨x0, x1⟩
  obtain ⟨K1, k1⟩ := sum_ev hb (by omega)
  obtain ⟨K2, k2⟩ := sum_ev hb' (by simp; omega)
  obtain ⟨K, hK⟩ : ∃ K, K = K1 + K2 := ⟨_, rfl⟩
  refine ⟨K + 1, ?_⟩
  have g1 : ([] : List Int).length + l0.length < 140737488355328 := by simp; omega
  have g2 : (0 : Int) ≤ a1 := by omega
  have g3 : a1 < (l0.length : Int) := by omega
  rw [marginalialaw15_CrcOne.f, if_neg c1, if_neg c2, decide_eq_false c3]
  simp only [marginalialaw15_CrcOne.j0, marginalialaw15_alive.f, Option.bind_some, if_pos g1, List.nil_append, if_pos g2, if_pos g3, ← hv, k1 K (by omega), k2 K (by omega), if_true, if_false, Bool.false_eq_true]
  congr 1
  rw [Bool.eq_iff_iff, beq_iff_eq, Bool.eq_iff_iff, beq_iff_eq, beq_iff_eq]
  refine ⟨fun _ => rfl, fun _ => ?_⟩
  have hi : a1.toNat < (bl l0).length := by simp [bl]; omega
  have hget : (bl l0)[a1.toNat] = bv (rd l0 a1) := by
    simp [bl, rd, List.getD_eq_getElem?_getD, List.getElem?_eq_getElem (show a1.toNat < l0.length by omega)]
  constructor
  · intro h
    have h := more_inj (u32_inj h).symm
    have e : bl (l0.set a1.toNat v) = (bl l0).set a1.toNat (bv v) := by simp [bl]
    rw [e] at h
    have := run_set hi h
    rw [hget, x2] at this
    have hz : bv a2 = bv 0 := by
      have h3 : bv (rd l0 a1) ^^^ bv a2 = bv (rd l0 a1) ^^^ 0#32 := by rw [this, BitVec.xor_zero]
      rw [(BitVec.xor_right_inj _).1 h3]
      rfl
    exact bv_inj hb2 (by omega) hz
  · intro h
    have : l0.set a1.toNat v = l0 := by
      apply List.ext_getElem?
      intro j
      by_cases hj : a1.toNat = j
      · subst hj
        rw [List.getElem?_set_self (by omega)]
        have e : v = rd l0 a1 := by
          apply bv_inj ⟨x0, x1⟩ hr
          rw [x2, h, show bv 0 = 0#32 from rfl, BitVec.xor_zero]
        rw [e]
        simp [rd, List.getD_eq_getElem?_getD, List.getElem?_eq_getElem (show a1.toNat < l0.length by omega)]
      · rw [List.getElem?_set_ne hj]
    rw [this]

theorem rd_set {l : List Int} {i j : Nat} {v : Int} (hi : i < l.length) : rd (l.set i v) (j : Int) = if i = j then v else rd l (j : Int) := by
  unfold rd
  rw [Int.toNat_natCast, List.getD_eq_getElem?_getD, List.getD_eq_getElem?_getD]
  by_cases h : i = j
  · subst h
    rw [List.getElem?_set_self hi, if_pos rfl]
    rfl
  · rw [List.getElem?_set_ne h, if_neg h]
theorem bytes_set {l : List Int} (h : Bytes l) {v : Int} (hv : 0 ≤ v ∧ v ≤ 255) (i : Nat) : Bytes (l.set i v) := fun x hx => by
  rcases List.mem_or_eq_of_mem_set hx with h' | h'
  · exact h x h'
  · subst h'; exact hv
structure Lin (b p q r : List Int) (i : Nat) : Prop where
  lp : p.length = b.length
  lq : q.length = b.length
  lr : r.length = b.length
  bp : Bytes p
  bq : Bytes q
  br : Bytes r
  at_ : ∀ j, j < i → bv (rd r (j : Int)) = bv (rd b (j : Int)) ^^^ bv (rd p (j : Int)) ^^^ bv (rd q (j : Int))
theorem Lin.step {b p q r p' q' : List Int} {i : Nat} (h : Lin b p q r i) (hb : Bytes b) (hi : i < b.length)
    (lp : p'.length = b.length) (lq : q'.length = b.length) (bp : Bytes p') (bq : Bytes q') (ep : ∀ j, j < i → rd p' (j : Int) = rd p (j : Int)) (eq : ∀ j, j < i → rd q' (j : Int) = rd q (j : Int)) :
    Lin b p' q' (r.set (i : Int).toNat (Go.bits .xor .u8 (Go.bits .xor .u8 (rd b (i : Int)) (rd p' (i : Int))) (rd q' (i : Int)))) (i + 1) := by
  have b1 := bytes_rd hb (i : Int) (by omega) (by omega)
  have b2 := bytes_rd bp (i : Int) (by omega) (by omega)
  have b3 := bytes_rd bq (i : Int) (by omega) (by omega)
  obtain ⟨x0, x1, x2⟩ := xor_u8 _ _ b1 b2
  obtain ⟨y0, y1, y2⟩ := xor_u8 _ _ ⟨x0, x1⟩ b3
  refine ⟨lp, lq, by rw [List.length_set]; exact h.lr, bp, bq, bytes_set h.br ⟨y0, y1⟩ _, fun j hj => ?_⟩
  rw [Int.toNat_natCast, rd_set (by have := h.lr; omega)]
  by_cases e : i = j
  · subst e
    rw [if_pos rfl, y2, x2]
  · rw [if_neg e, h.at_ j (by omega), ep j (by omega), eq j (by omega)]
theorem Lin.sum {b p q r : List Int} (h : Lin b p q r b.length) : more 0#32 b ^^^ more 0#32 p ^^^ more 0#32 q = more 0#32 r := by
  have e : bl r = (bl b).zipWith (· ^^^ ·) ((bl p).zipWith (· ^^^ ·) (bl q)) := by
    have h1 := h.lp
    have h2 := h.lq
    have h3 := h.lr
    apply List.ext_getElem
    · simp [bl]; omega
    · intro j hj1 hj2
      have hj : j < b.length := by simp [bl] at hj1; omega
      have := h.at_ j hj
      simp only [rd, Int.toNat_natCast, List.getD_eq_getElem?_getD, List.getElem?_eq_getElem hj, List.getElem?_eq_getElem (show j < p.length by omega), List.getElem?_eq_getElem (show j < q.length by omega), List.getElem?_eq_getElem (show j < r.length by omega), Option.getD_some] at this
      simp [bl, this]
      rw [BitVec.xor_assoc]
  unfold more
  rw [e]
  have := run_xor3 (~~~ 0#32) (~~~ 0#32) (~~~ 0#32) (bl b) (bl p) (bl q) (by simp [bl, h.lp]) (by simp [bl, h.lq])
  have e0 : (~~~ 0#32) ^^^ (~~~ 0#32) ^^^ (~~~ 0#32) = ~~~ 0#32 := by decide
  rw [e0] at this
  rw [this]
  have hn : ∀ a b c : BitVec 32, (~~~ a) ^^^ (~~~ b) ^^^ (~~~ c) = ~~~ (a ^^^ b ^^^ c) := fun a b c => by
    simp only [← BitVec.allOnes_xor]
    have hz : ∀ o : BitVec 32, o ^^^ a ^^^ (o ^^^ b) ^^^ (o ^^^ c) = (o ^^^ o) ^^^ (o ^^^ (a ^^^ b ^^^ c)) := fun o => by ac_rfl
    rw [hz, BitVec.xor_self, BitVec.zero_xor]
  exact hn _ _ _
theorem linear_l0 {b x y : List Int} (hb : Bytes b) (hx : Bytes x) (hy : Bytes y) (hl : b.length ≤ 300) (n : Nat) : ∀ (p q r : List Int) (i : Nat), i + n = b.length → Lin b p q r i → Ev (fun k => marginalialaw15_CrcLinear.l0 k b x y p q r (i : Int)) true := by
  induction n with
  | zero =>
    intro p q r i hi h
    obtain rfl : i = b.length := by omega
    have h1 := h.lp
    have h2 := h.lq
    have h3 := h.lr
    obtain ⟨K1, k1⟩ := sum_ev hb (by omega)
    obtain ⟨K2, k2⟩ := sum_ev h.bp (by omega)
    obtain ⟨K3, k3⟩ := sum_ev h.bq (by omega)
    obtain ⟨K4, k4⟩ := sum_ev h.br (by omega)
    refine Ev.step (f := fun k => (marginalialaw15_alive.f).bind fun t193 => (if t193 = true then ((crc_Sum.f k b).bind fun t194 => ((crc_Sum.f k p).bind fun t195 => ((crc_Sum.f k q).bind fun t196 => ((crc_Sum.f k r).bind fun t197 => (some ((Go.bits .xor .u32 (Go.bits .xor .u32 t194 t195) t196) == t197)))))) else (some false))) (fun k => ?_) ?_
    · rw [marginalialaw15_CrcLinear.l0, if_neg (by omega)]
    · refine ⟨K1 + K2 + K3 + K4, fun k hk => ?_⟩
      simp only [marginalialaw15_alive.f, Option.bind_some, if_true, k1 k (by omega), k2 k (by omega), k3 k (by omega), k4 k (by omega), xor_u32]
      rw [h.sum, beq_self_eq_true]
  | succ n ih =>
    intro p q r i hi h
    have h1 := h.lp
    have h2 := h.lq
    have h3 := h.lr
    have c0 : (i : Int) < (b.length : Int) := by omega
    have c1 : (0 : Int) ≤ (i : Int) := by omega
    have c2 : (i : Int) < (p.length : Int) := by omega
    have c3 : (i : Int) < (q.length : Int) := by omega
    have c4 : (i : Int) < (r.length : Int) := by omega
    have ew : wrap64 ((i : Int) + 1) = ((i + 1 : Nat) : Int) := by rw [Crc.wrap_small (by omega) (by omega)]; rfl
    have keep : ∀ (l : List Int) (v : Int), l.length = b.length → ∀ j, j < i → rd (l.set (i : Int).toNat v) (j : Int) = rd l (j : Int) := fun l v hl j hj => by
      rw [Int.toNat_natCast, rd_set (by omega), if_neg (by omega)]
    by_cases d1 : (i : Int) < (x.length : Int)
    · have v1 := bytes_rd hx (i : Int) c1 d1
      by_cases d2 : (i : Int) < (y.length : Int)
      · have v2 := bytes_rd hy (i : Int) c1 d2
        refine Ev.step (fun k => ?_) (ih _ _ _ (i + 1) (by omega) (h.step hb (by omega) (p' := p.set (i : Int).toNat (rd x (i : Int))) (q' := q.set (i : Int).toNat (rd y (i : Int))) (by simpa using h1) (by simpa using h2) (bytes_set h.bp v1 _) (bytes_set h.bq v2 _) (keep _ _ h1) (keep _ _ h2)))
        simp only [marginalialaw15_CrcLinear.l0, if_pos c0, if_pos c1, if_pos c2, if_pos c3, if_pos c4, if_pos d1, if_pos d2, Option.bind_some, ew]
      · refine Ev.step (fun k => ?_) (ih _ _ _ (i + 1) (by omega) (h.step hb (by omega) (p' := p.set (i : Int).toNat (rd x (i : Int))) (q' := q) (by simpa using h1) h2 (bytes_set h.bp v1 _) h.bq (keep _ _ h1) (fun _ _ => rfl)))
        simp only [marginalialaw15_CrcLinear.l0, if_pos c0, if_pos c1, if_pos c2, if_pos c3, if_pos c4, if_pos d1, if_neg d2, Option.bind_some, ew]
    · by_cases d2 : (i : Int) < (y.length : Int)
      · have v2 := bytes_rd hy (i : Int) c1 d2
        refine Ev.step (fun k => ?_) (ih _ _ _ (i + 1) (by omega) (h.step hb (by omega) (p' := p) (q' := q.set (i : Int).toNat (rd y (i : Int))) h1 (by simpa using h2) h.bp (bytes_set h.bq v2 _) (fun _ _ => rfl) (keep _ _ h2)))
        simp only [marginalialaw15_CrcLinear.l0, if_pos c0, if_pos c1, if_pos c2, if_pos c3, if_pos c4, if_neg d1, if_pos d2, Option.bind_some, ew]
      · refine Ev.step (fun k => ?_) (ih _ _ _ (i + 1) (by omega) (h.step hb (by omega) (p' := p) (q' := q) h1 h2 h.bp h.bq (fun _ _ => rfl) (fun _ _ => rfl)))
        simp only [marginalialaw15_CrcLinear.l0, if_pos c0, if_pos c1, if_pos c2, if_pos c3, if_pos c4, if_neg d1, if_neg d2, Option.bind_some, ew]
theorem CrcLinear : marginalialaw15_CrcLinear.Pure := by
  intro l0 l1 l2 _ hs0 hw0 _ _ hw1 _ _ hw2
  have hb := bytes_wf hw0
  by_cases c1 : (l0.length : Int) > 300
  · exact ⟨1, by rw [marginalialaw15_CrcLinear.f, if_pos c1]; rfl⟩
  obtain ⟨K, hK⟩ := linear_l0 hb (bytes_wf hw1) (bytes_wf hw2) (by omega) l0.length l0 l0 l0 0 (by omega) ⟨rfl, rfl, rfl, hb, hb, hb, fun j hj => absurd hj (by omega)⟩
  refine ⟨K, ?_⟩
  have g1 : ([] : List Int).length + l0.length < 140737488355328 := by simp; omega
  simp only [marginalialaw15_CrcLinear.f, if_neg c1, Option.bind_some, if_pos g1, List.nil_append]
  exact hK K (Nat.le_refl _)
end Go.Proofs.Ytnmopjmlilekjaa.CrcLaws
