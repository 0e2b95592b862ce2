/- Bytes that are decoded as a page are what that page is encoded as. No condition beyond those that each theorem names. -/
import Derived.Test.YtnkaidaflegnlaaPageDec
namespace Go.Proofs.Ytnkaidaflegnlaa.PageLaws
open Go.RowKit Go.Proofs.Ytnkaidaflegnlaa Go.Proofs.Ytnkaidaflegnlaa.G Go.Proofs.YtnkaidaflegnlaaW.PrintWords Go.Proofs.YtnkaidaflegnlaaW.PrintLast Go.Proofs.YtnkaidaflegnlaaW.PrintMore
set_option linter.unusedVariables false
/-- Bytes, each of them one. -/
def Bs (l : List Int) : Prop := ∀ x ∈ l, 0 ≤ x ∧ x < 256
theorem tk_inv {l : List Int} {s : Bool} {n : Int} (h : (page_tk l s n).2.2 = false) : s = false ∧ 0 ≤ n ∧ ((page_tk l s n).1.length : Int) = n ∧ l = (page_tk l s n).1 ++ (page_tk l s n).2.1 := by
  unfold page_tk at h ⊢
  by_cases c : 0 ≤ n ∧ n ≤ (l.length : Int)
  · rw [if_pos c] at h ⊢
    exact ⟨h, c.1, by rw [List.length_take]; omega, (List.take_append_drop _ _).symm⟩
  · rw [if_neg c] at h; cases h
theorem tk_mem {l : List Int} {s : Bool} {n : Int} (h : Bs l) : Bs (page_tk l s n).1 ∧ Bs (page_tk l s n).2.1 := by
  unfold page_tk
  by_cases c : 0 ≤ n ∧ n ≤ (l.length : Int)
  · rw [if_pos c]
    exact ⟨fun x hx => h x (List.mem_of_mem_take hx), fun x hx => h x (List.mem_of_mem_drop hx)⟩
  · rw [if_neg c]
    exact ⟨fun x hx => (by cases hx), h⟩
theorem bytes1 {o : List Int} (h : Bs o) (hl : (o.length : Int) = 1) : 0 ≤ page_num o ∧ page_num o < 256 ∧ o = [page_num o] := by
  match o, hl with
  | [b], _ =>
    have hb := h b (by simp)
    rw [num1 hb.1 hb.2]
    exact ⟨hb.1, hb.2, rfl⟩
theorem bytes2 {o : List Int} (h : Bs o) (hl : (o.length : Int) = 2) : 0 ≤ page_num o ∧ page_num o < 65536 ∧ pb (page_num o) 2 = o := by
  match o, hl with
  | [b, c], _ =>
    have hb := h b (by simp)
    have hc := h c (by simp)
    have e : page_num [b, c] = b * 256 + c := by
      show page_step (page_step 0 b) c = _
      rw [step_is (n := 0) (by omega) (by omega) hb.1 hb.2, step_is (by omega) (by omega) hc.1 hc.2]; omega
    rw [e, pb2]
    refine ⟨by omega, by omega, ?_⟩
    rw [show (b * 256 + c) / 256 % 256 = b by omega, show (b * 256 + c) % 256 = c by omega]
theorem num_four {A b c d e : Int} (a0 : 0 ≤ A) (a1 : A < 4294967296) (hb : 0 ≤ b ∧ b < 256) (hc : 0 ≤ c ∧ c < 256) (hd : 0 ≤ d ∧ d < 256) (he : 0 ≤ e ∧ e < 256) : page_step (page_step (page_step (page_step A b) c) d) e = A * 4294967296 + (b * 16777216 + c * 65536 + d * 256 + e) := by
  rw [step_is (n := A) (by omega) (by omega) hb.1 hb.2, step_is (c := c) (by omega) (by omega) hc.1 hc.2, step_is (c := d) (by omega) (by omega) hd.1 hd.2, step_is (by omega) (by omega) he.1 he.2]
  omega
theorem bytes4 {o : List Int} (h : Bs o) (hl : (o.length : Int) = 4) : 0 ≤ page_num o ∧ page_num o < 4294967296 ∧ pb (page_num o) 4 = o := by
  match o, hl with
  | [b, c, d, e], _ =>
    have hb := h b (by simp)
    have hc := h c (by simp)
    have hd := h d (by simp)
    have he := h e (by simp)
    have e1 : page_num [b, c, d, e] = b * 16777216 + c * 65536 + d * 256 + e := by
      show page_step (page_step (page_step (page_step 0 b) c) d) e = _
      rw [num_four (by omega) (by omega) hb hc hd he]; omega
    rw [e1, pb4]
    refine ⟨by omega, by omega, ?_⟩
    rw [show (b * 16777216 + c * 65536 + d * 256 + e) / 16777216 % 256 = b by omega, show (b * 16777216 + c * 65536 + d * 256 + e) / 65536 % 256 = c by omega, show (b * 16777216 + c * 65536 + d * 256 + e) / 256 % 256 = d by omega, show (b * 16777216 + c * 65536 + d * 256 + e) % 256 = e by omega]
theorem bytes8 {o : List Int} (h : Bs o) (hl : (o.length : Int) = 8) : 0 ≤ page_num o ∧ page_num o < 18446744073709551616 ∧ pb (page_num o) 8 = o := by
  match o, hl with
  | [b, c, d, e, f, g, i, j], _ =>
    have hb := h b (by simp)
    have hc := h c (by simp)
    have hd := h d (by simp)
    have he := h e (by simp)
    have hf := h f (by simp)
    have hg := h g (by simp)
    have hi := h i (by simp)
    have hj := h j (by simp)
    obtain ⟨A, hA⟩ : ∃ A, A = b * 16777216 + c * 65536 + d * 256 + e := ⟨_, rfl⟩
    obtain ⟨B, hB⟩ : ∃ B, B = f * 16777216 + g * 65536 + i * 256 + j := ⟨_, rfl⟩
    have e1 : page_num [b, c, d, e, f, g, i, j] = A * 4294967296 + B := by
      show page_step (page_step (page_step (page_step (page_step (page_step (page_step (page_step 0 b) c) d) e) f) g) i) j = _
      rw [num_four (A := 0) (by omega) (by omega) hb hc hd he, Int.zero_mul, Int.zero_add, ← hA, num_four (by omega) (by omega) hf hg hi hj, ← hB]
    have hA0 : 0 ≤ A ∧ A < 4294967296 := by omega
    have hB0 : 0 ≤ B ∧ B < 4294967296 := by omega
    rw [e1, pb8]
    refine ⟨by omega, by omega, ?_⟩
    rw [show (A * 4294967296 + B) / 72057594037927936 % 256 = A / 16777216 % 256 by omega, show (A * 4294967296 + B) / 281474976710656 % 256 = A / 65536 % 256 by omega, show (A * 4294967296 + B) / 1099511627776 % 256 = A / 256 % 256 by omega, show (A * 4294967296 + B) / 4294967296 % 256 = A % 256 by omega,
      show (A * 4294967296 + B) / 16777216 % 256 = B / 16777216 % 256 by omega, show (A * 4294967296 + B) / 65536 % 256 = B / 65536 % 256 by omega, show (A * 4294967296 + B) / 256 % 256 = B / 256 % 256 by omega, show (A * 4294967296 + B) % 256 = B % 256 by omega]
    rw [show A / 16777216 % 256 = b by omega, show A / 65536 % 256 = c by omega, show A / 256 % 256 = d by omega, show A % 256 = e by omega, show B / 16777216 % 256 = f by omega, show B / 65536 % 256 = g by omega, show B / 256 % 256 = i by omega, show B % 256 = j by omega]
/-- What is read of an item that is not short: its bytes stood there. -/
theorem it_inv {a : Int} {l : List Int} {s : Bool} (h : Bs l) (hs : (page_it l s a).2.2 = false) : s = false ∧ l = eb a (page_it l s a).1 ++ (page_it l s a).2.1 ∧ Bs (page_it l s a).2.1 ∧ 0 ≤ (page_it l s a).1.f0 ∧ (page_it l s a).1.f0 < 18446744073709551616 := by
  have m8 := tk_mem (s := s) (n := 8) h
  unfold page_it at hs ⊢
  have i8 := @tk_inv l s 8
  obtain ⟨⟨o1, l1, s1⟩, e1⟩ : ∃ q, q = page_tk l s 8 := ⟨_, rfl⟩
  rw [← e1] at hs i8 m8 ⊢
  simp only [] at hs i8 m8 ⊢
  have m4 := tk_mem (s := s1) (n := 4) m8.2
  have i4 := @tk_inv l1 s1 4
  unfold page_itB at hs ⊢
  obtain ⟨⟨o2, l2, s2⟩, e2⟩ : ∃ q, q = page_tk l1 s1 4 := ⟨_, rfl⟩
  rw [← e2] at hs i4 m4 ⊢
  simp only [] at hs i4 m4 ⊢
  by_cases c : a = 1
  · rw [if_pos c] at hs ⊢
    unfold page_itC at hs ⊢
    obtain ⟨z, hz⟩ : ∃ z, z = wrap64 (page_num o2) := ⟨_, rfl⟩
    rw [← hz] at hs ⊢
    by_cases d : z ≤ 40
    · rw [if_pos d] at hs ⊢
      have mz := tk_mem (s := s2) (n := z) m4.2
      obtain ⟨q1, q2, q3, q4⟩ := tk_inv hs
      obtain ⟨r1, r2, r3, r4⟩ := i4 q1
      obtain ⟨p1, p2, p3, p4⟩ := i8 r1
      obtain ⟨b80, b81, b82⟩ := bytes8 m8.1 p3
      obtain ⟨b40, b41, b42⟩ := bytes4 m4.1 r3
      have hz' : z = page_num o2 := by rw [hz, w64 (by omega) (by omega)]
      refine ⟨p1, ?_, mz.2, b80, b81⟩
      unfold eb
      simp only [if_pos c, if_pos d]
      rw [b82, hz', u64_id b40 (by omega), b42, ← hz', List.append_assoc, List.append_assoc, ← q4, ← r4]
      exact p4
    · rw [if_neg d] at hs ⊢
      have mz := tk_mem (s := s2) (n := 4) m4.2
      obtain ⟨q1, q2, q3, q4⟩ := tk_inv hs
      obtain ⟨r1, r2, r3, r4⟩ := i4 q1
      obtain ⟨p1, p2, p3, p4⟩ := i8 r1
      obtain ⟨b80, b81, b82⟩ := bytes8 m8.1 p3
      obtain ⟨b40, b41, b42⟩ := bytes4 m4.1 r3
      obtain ⟨c40, c41, c42⟩ := bytes4 mz.1 q3
      have hz' : z = page_num o2 := by rw [hz, w64 (by omega) (by omega)]
      refine ⟨p1, ?_, mz.2, b80, b81⟩
      unfold eb
      simp only [if_pos c, if_neg d]
      rw [b82, hz', u64_id b40 (by omega), b42, w64 (n := page_num (page_tk l2 s2 4).1) (by omega) (by omega), u64_id c40 (by omega), c42, List.append_assoc, List.append_assoc, ← q4, ← r4]
      exact p4
  · rw [if_neg c] at hs ⊢
    obtain ⟨r1, r2, r3, r4⟩ := i4 hs
    obtain ⟨p1, p2, p3, p4⟩ := i8 r1
    obtain ⟨b80, b81, b82⟩ := bytes8 m8.1 p3
    obtain ⟨b40, b41, b42⟩ := bytes4 m4.1 r3
    refine ⟨p1, ?_, m4.2, b80, b81⟩
    unfold eb
    simp only [if_neg c]
    rw [b82, w64 (n := page_num o2) (by omega) (by omega), u64_id b40 (by omega), b42, List.append_assoc, ← r4]
    exact p4
theorem ebs_flat (a : Int) (x : List S39) : ∀ n j : Nat, j + n = x.length → ebs a x j n = (x.drop j).flatMap (eb a) := by
  intro n
  induction n with
  | zero => intro j hj; rw [ebs, List.drop_of_length_le (by omega)]; rfl
  | succ n ih =>
    intro j hj
    have hlt : j < x.length := by omega
    rw [ebs, ih (j + 1) (by omega), rd39_at hlt, List.drop_eq_getElem_cons hlt, List.flatMap_cons]
theorem loop_inv {a : Int} : ∀ (n : Nat) (l : List Int) (s : Bool) (acc : List S39) (q : List S39 × List Int × Bool), Bs l → (∀ z ∈ acc, 0 ≤ z.f0 ∧ z.f0 < 18446744073709551616) → page_loop a n l s acc = some q → q.2.2 = false →
    s = false ∧ ∃ ys : List S39, q.1 = acc ++ ys ∧ ys.length = n ∧ l = ys.flatMap (eb a) ++ q.2.1 ∧ (∀ z ∈ q.1, 0 ≤ z.f0 ∧ z.f0 < 18446744073709551616) := by
  intro n
  induction n with
  | zero =>
    intro l s acc q hb hk h hs
    rw [page_loop] at h
    obtain rfl := Option.some.inj h
    exact ⟨hs, [], by simp, rfl, by simp, hk⟩
  | succ n ih =>
    intro l s acc q hb hk h hs
    rw [page_loop] at h
    by_cases c : s = true
    · rw [if_pos c] at h
      obtain rfl := Option.some.inj h
      rw [c] at hs; cases hs
    · rw [if_neg c] at h
      by_cases c2 : acc.length < 2932031007402
      · rw [if_pos c2] at h
        have hbl : Bs (page_it l s a).2.1 := by
          unfold page_it page_itB
          have m8 := tk_mem (s := s) (n := 8) hb
          have m4 := tk_mem (s := (page_tk l s 8).2.2) (n := 4) m8.2
          by_cases d : a = 1
          · rw [if_pos d]
            unfold page_itC
            by_cases d2 : wrap64 (page_num (page_tk (page_tk l s 8).2.1 (page_tk l s 8).2.2 4).1) ≤ 40
            · rw [if_pos d2]; exact (tk_mem m4.2).2
            · rw [if_neg d2]; exact (tk_mem m4.2).2
          · rw [if_neg d]; exact m4.2
        have hkl : 0 ≤ (page_it l s a).1.f0 ∧ (page_it l s a).1.f0 < 18446744073709551616 := by
          have hr := page_num_range (page_tk l s 8).1
          unfold page_it page_itB
          by_cases d : a = 1
          · rw [if_pos d]
            unfold page_itC
            split <;> exact hr
          · rw [if_neg d]; exact hr
        obtain ⟨h1, ys, h2, h3, h4, h5⟩ := ih _ _ _ q hbl (fun z hz => by
          rcases List.mem_append.1 hz with hz | hz
          · exact hk z hz
          · rw [List.mem_singleton.1 hz]; exact hkl) h hs
        obtain ⟨i1, i2, i3, _⟩ := it_inv hb h1
        refine ⟨i1, (page_it l s a).1 :: ys, by rw [h2]; simp, by rw [List.length_cons, h3], ?_, h5⟩
        rw [List.flatMap_cons, List.append_assoc, ← h4]
        exact i2
      · rw [if_neg c2] at h; cases h
theorem eb_ge (a : Int) (x : S39) : 12 ≤ (eb a x).length := by
  unfold eb
  rw [List.length_append, pb_len]
  split
  · rw [List.length_append, pb_len]; omega
  · rw [pb_len]; omega
theorem flat_ge (a : Int) (ys : List S39) : 12 * ys.length ≤ (ys.flatMap (eb a)).length := by
  induction ys with
  | nil => simp
  | cons y ys ih =>
    rw [List.flatMap_cons, List.length_append, List.length_cons]
    have := eb_ge a y
    omega
theorem zeros_of {r : List Int} (h : (r.any fun x => x != 0) = false) : r = List.replicate r.length 0 := by
  rw [List.any_eq_false] at h
  exact List.eq_replicate_iff.2 ⟨rfl, fun b hb => by have := h b hb; simpa using this⟩
theorem fin_eq {u r : List Int} (hr : (r.any fun x => x != 0) = false) (hl : (u ++ r).length = 256) : fin u = u ++ r := by
  unfold fin
  rw [List.length_append] at hl
  rw [show 256 - u.length = r.length by omega, ← zeros_of hr]
/-- What is ahead of the check. -/
theorem end_inv {k : Nat} {a : Int} {x : List S39} {y : Int} {d l : List Int} {s : Bool} {r1 : Int} {r2 : List S39} {r3 : Int} {r4 : List Int} (h : page_end k a x y d l s = some (r1, r2, r3, r4, 0)) : s = false ∧ (l.any fun x => x != 0) = false ∧ page_Check.f k a x y d = some 0 ∧ r1 = a ∧ r2 = x ∧ r3 = y ∧ r4 = d := by
  have hbad : ∀ {r1 : Int} {r2 : List S39} {r3 : Int} {r4 : List Int}, some ((0 : Int), ([] : List S39), (0 : Int), ([] : List Int), (8 : Int)) = some (r1, r2, r3, r4, 0) → False := fun h => by
    have h := Option.some.inj h
    injection h with _ h
    injection h with _ h
    injection h with _ h
    injection h with _ h
    omega
  unfold page_end at h
  by_cases c : s = true
  · rw [if_pos c] at h; exact (hbad h).elim
  · rw [if_neg c] at h
    by_cases c2 : (l.any fun x => x != 0) = true
    · rw [if_pos c2] at h; exact (hbad h).elim
    · rw [if_neg c2] at h
      obtain ⟨e, he, h⟩ := Option.bind_eq_some_iff.1 h
      by_cases c3 : e = 0
      · rw [if_pos c3] at h
        have h := Option.some.inj h
        injection h with e1 h
        injection h with e2 h
        injection h with e3 h
        injection h with e4 _
        exact ⟨Bool.eq_false_iff.2 c, Bool.eq_false_iff.2 c2, by rw [← c3]; exact he, e1.symm, e2.symm, e3.symm, e4.symm⟩
      · rw [if_neg c3] at h; exact (hbad h).elim
theorem check_zero {k : Nat} {a : Int} {x : List S39} {y : Int} {d : List Int} (hx : x.length ≤ 1000) (hd : d.length ≤ 1000) (h : page_Check.f k a x y d = some 0) : chk a x y d = 0 := by
  obtain ⟨K, q⟩ := check_ev (a := a) (x := x) (y := y) (d := d) hx hd
  have h1 : page_Check.f (k + K) a x y d = some 0 := by
    have : ∀ n, page_Check.f (k + n) a x y d = some 0 := fun n => by
      induction n with
      | zero => exact h
      | succ n ih => exact page_Check.mono _ _ _ _ _ _ ih
    exact this K
  have h2 : page_Check.f (k + K) a x y d = some _ := q (k + K) (by omega)
  rw [h1] at h2
  exact (Option.some.inj h2).symm
/-- Bytes that are a page's are what it is encoded as. -/
theorem decode_inv {k : Nat} {b : List Int} (hb : Bs b) {a : Int} {x : List S39} {y : Int} {d : List Int} (h : page_Decode.f k b = some (a, x, y, d, 0)) : b.length = 256 ∧ chk a x y d = 0 ∧ enc a x y d = b ∧ x.length ≤ 1000 ∧ d.length ≤ 1000 ∧ (∀ z ∈ x, 0 ≤ z.f0 ∧ z.f0 < 18446744073709551616) := by
  rw [page_Decode.f] at h
  by_cases hl : (b.length : Int) = 256
  · rw [if_pos hl] at h
    have i1 := @tk_inv b false 1
    have m1 := tk_mem (s := false) (n := 1) hb
    obtain ⟨⟨o1, l1, s1⟩, e1⟩ : ∃ q, q = page_tk b false 1 := ⟨_, rfl⟩
    rw [← e1] at h i1 m1
    simp only [] at h i1 m1
    obtain ⟨A, hA⟩ : ∃ A, A = wrap64 (page_num o1) := ⟨_, rfl⟩
    rw [← hA] at h
    unfold page_body at h
    by_cases c : A = 3
    · rw [if_pos c] at h
      have i4 := @tk_inv l1 s1 4
      have m4 := tk_mem (s := s1) (n := 4) m1.2
      obtain ⟨⟨o2, l2, s2⟩, e2⟩ : ∃ q, q = page_tk l1 s1 4 := ⟨_, rfl⟩
      rw [← e2] at h i4 m4
      simp only [] at h i4 m4
      have i2 := @tk_inv l2 s2 2
      have m2 := tk_mem (s := s2) (n := 2) m4.2
      obtain ⟨⟨o3, l3, s3⟩, e3⟩ : ∃ q, q = page_tk l2 s2 2 := ⟨_, rfl⟩
      rw [← e3] at h i2 m2
      simp only [] at h i2 m2
      obtain ⟨h1, h2, h3, ea, rfl, rfl, rfl⟩ := end_inv h
      rw [ea]
      obtain ⟨q1, q2, q3, q4⟩ := tk_inv h1
      obtain ⟨r1, r2, r3, r4⟩ := i2 q1
      obtain ⟨p1, p2, p3, p4⟩ := i4 r1
      obtain ⟨n1, n2, n3, n4⟩ := i1 p1
      obtain ⟨b10, b11, b12⟩ := bytes1 m1.1 n3
      obtain ⟨b40, b41, b42⟩ := bytes4 m4.1 p3
      obtain ⟨b20, b21, b22⟩ := bytes2 m2.1 r3
      have hA' : A = page_num o1 := by rw [hA, w64 (by omega) (by omega)]
      obtain ⟨D, hD⟩ : ∃ D, D = (page_tk l3 s3 (wrap64 (page_num o3))).1 := ⟨_, rfl⟩
      obtain ⟨R, hR⟩ : ∃ R, R = (page_tk l3 s3 (wrap64 (page_num o3))).2.1 := ⟨_, rfl⟩
      rw [← hD] at q3 q4 h3 ⊢
      rw [← hR] at q4 h2
      rw [w64 (n := page_num o3) (by omega) (by omega)] at q3
      have hdl : D.length ≤ 1000 := by
        have e5 := congrArg List.length q4
        have e6 := congrArg List.length r4
        have e7 := congrArg List.length p4
        have e8 := congrArg List.length n4
        rw [List.length_append] at e5 e6 e7 e8
        omega
      have hc0 := check_zero (by simp) hdl h3
      have hbody : hd A [] (wrap64 (wrap64 (page_num o2) - 1)) D ++ ebs A [] 0 ([] : List S39).length = o1 ++ (o2 ++ (o3 ++ D)) := by
        unfold hd
        rw [if_pos c]
        simp only [ebs, List.length_nil, List.append_nil]
        rw [w64 (n := page_num o2) (by omega) (by omega), w64 (n := page_num o2 - 1) (by omega) (by omega), show page_num o2 - 1 + 1 = page_num o2 by omega, w64 (n := page_num o2) (by omega) (by omega), u64_id b40 (by omega), b42, q3, u64_id b20 (by omega), b22, hA', show page_num o1 % 256 = page_num o1 by omega, ← b12]
        simp only [List.append_assoc]
      refine ⟨by omega, hc0, ?_, by simp, hdl, fun z hz => by cases hz⟩
      unfold enc
      have hall : o1 ++ (o2 ++ (o3 ++ D)) ++ R = b := by rw [n4, p4, r4, q4]; simp only [List.append_assoc]
      rw [hbody, fin_eq h2 (by rw [hall]; omega), hall]
    · rw [if_neg c] at h
      have i2 := @tk_inv l1 s1 2
      have m2 := tk_mem (s := s1) (n := 2) m1.2
      obtain ⟨⟨o3, l3, s3⟩, e3⟩ : ∃ q, q = page_tk l1 s1 2 := ⟨_, rfl⟩
      rw [← e3] at h i2 m2
      simp only [] at h i2 m2
      obtain ⟨⟨X, R, S⟩, hloop, h⟩ := Option.bind_eq_some_iff.1 h
      simp only [] at h
      obtain ⟨h1, h2, h3, ea, ex, rfl, rfl⟩ := end_inv h
      rw [ea, ex]
      clear ea ex
      have hlen : b.length = 256 := by omega
      by_cases ca : A = 1 ∨ A = 2
      · obtain ⟨g1, ys, g2, g3, g4, g5⟩ := loop_inv _ _ _ _ _ m2.2 (fun z hz => by cases hz) hloop h1
        obtain ⟨r1, r2, r3, r4⟩ := i2 g1
        obtain ⟨n1, n2, n3, n4⟩ := i1 r1
        obtain ⟨b10, b11, b12⟩ := bytes1 m1.1 n3
        obtain ⟨b20, b21, b22⟩ := bytes2 m2.1 r3
        have hA' : A = page_num o1 := by rw [hA, w64 (by omega) (by omega)]
        simp only [List.nil_append] at g2
        have hX : X = ys := g2
        subst hX
        have hge := flat_ge A X
        have hxl : X.length ≤ 1000 := by
          have e5 := congrArg List.length g4
          have e6 := congrArg List.length r4
          have e7 := congrArg List.length n4
          rw [List.length_append] at e5 e6 e7
          simp only [] at e5
          omega
        have hc0 := check_zero hxl (by simp) h3
        have hbody : hd A X 0 [] ++ ebs A X 0 X.length = o1 ++ (o3 ++ X.flatMap (eb A)) := by
          unfold hd
          rw [if_neg c, ebs_flat A X X.length 0 (by omega), List.drop_zero, g3, Int.toNat_of_nonneg b20, u64_id b20 (by omega), b22, hA', show page_num o1 % 256 = page_num o1 by omega, ← b12]
          simp only [List.append_assoc]
        refine ⟨hlen, hc0, ?_, hxl, by simp, g5⟩
        unfold enc
        have hall : o1 ++ (o3 ++ X.flatMap (eb A)) ++ R = b := by rw [n4, r4, g4]; simp only [List.append_assoc]
        rw [hbody, fin_eq h2 (by rw [hall]; omega), hall]
      · exfalso
        obtain ⟨k2, e2⟩ : ∃ k2, page_may.f k2 A X 0 [] = some true := by
          rw [page_Check.f] at h3
          obtain ⟨t, ht, h3⟩ := Option.bind_eq_some_iff.1 h3
          by_cases ct : t = true
          · exact ⟨k, by rw [ht, ct]⟩
          · rw [if_neg ct] at h3; cases h3
        rw [page_may.f, if_neg c, if_neg (fun e => ca (.inl e)), show (A == 2) = false by simpa using fun e => ca (.inr e)] at e2
        cases k2 with
        | zero => simp [page_may.j0] at e2
        | succ k2 => rw [page_may.j0, if_neg (by decide)] at e2; cases e2
  · rw [if_neg hl] at h
    have h := Option.some.inj h
    injection h with _ h
    injection h with _ h
    injection h with _ h
    injection h with _ h
    omega
theorem loop_some {a : Int} : ∀ (n : Nat) (l : List Int) (s : Bool) (acc : List S39), acc.length + n ≤ 100000 → ∃ q, page_loop a n l s acc = some q := by
  intro n
  induction n with
  | zero => intro l s acc _; exact ⟨_, by rw [page_loop]⟩
  | succ n ih =>
    intro l s acc h
    by_cases c : s = true
    · exact ⟨_, by rw [page_loop, if_pos c]⟩
    · obtain ⟨q, hq⟩ := ih (page_it l s a).2.1 (page_it l s a).2.2 (acc ++ [(page_it l s a).1]) (by rw [List.length_append, List.length_singleton]; omega)
      exact ⟨q, by rw [page_loop, if_neg c, if_pos (by omega), hq]⟩
theorem end_ev {a : Int} {x : List S39} {y : Int} {d l : List Int} {s : Bool} (hx : s = false → x.length ≤ 1000) (hd : d.length ≤ 1000) : ∃ r, Ev (fun k => page_end k a x y d l s) r ∧ (r = (0, [], 0, [], 8) ∨ r.2.2.2.2 = 0) := by
  by_cases c : s = true
  · exact ⟨_, ⟨0, fun k _ => by show page_end k a x y d l s = _; unfold page_end; rw [if_pos c]⟩, .inl rfl⟩
  · by_cases c2 : (l.any fun x => x != 0) = true
    · exact ⟨_, ⟨0, fun k _ => by show page_end k a x y d l s = _; unfold page_end; rw [if_neg c, if_pos c2]⟩, .inl rfl⟩
    · obtain ⟨K, q⟩ := check_ev (a := a) (x := x) (y := y) (d := d) (hx (Bool.eq_false_iff.2 c)) hd
      by_cases c3 : chk a x y d = 0
      · exact ⟨(a, x, y, d, 0), ⟨K, fun k hk => by
          have r : page_Check.f k a x y d = some _ := q k hk
          show page_end k a x y d l s = _
          unfold page_end; rw [if_neg c, if_neg c2, r, Option.bind_some, if_pos c3]⟩, .inr rfl⟩
      · exact ⟨_, ⟨K, fun k hk => by
          have r : page_Check.f k a x y d = some _ := q k hk
          show page_end k a x y d l s = _
          unfold page_end; rw [if_neg c, if_neg c2, r, Option.bind_some, if_neg c3]⟩, .inl rfl⟩
theorem decode_bad {b : List Int} (h : b.length ≠ 256) (k : Nat) : page_Decode.f k b = some (0, [], 0, [], 8) := by
  rw [page_Decode.f, if_neg (by omega)]
/-- Of any bytes there is an answer: none, or a page. -/
theorem decode_ev {b : List Int} (hb : Bs b) : ∃ r, Ev (fun k => page_Decode.f k b) r ∧ (r = (0, [], 0, [], 8) ∨ r.2.2.2.2 = 0) := by
  by_cases hl : b.length = 256
  · have hf : ∀ k, page_Decode.f k b = page_body k (wrap64 (page_num (page_tk b false 1).1)) (page_tk b false 1).2.1 (page_tk b false 1).2.2 := fun k => by rw [page_Decode.f, if_pos (by omega)]
    have m1 := tk_mem (s := false) (n := 1) hb
    have t1 := tk_rest b false 1
    obtain ⟨l1, hl1⟩ : ∃ q, q = (page_tk b false 1).2.1 := ⟨_, rfl⟩
    obtain ⟨s1, hs1⟩ : ∃ q, q = (page_tk b false 1).2.2 := ⟨_, rfl⟩
    obtain ⟨A, hA⟩ : ∃ A, A = wrap64 (page_num (page_tk b false 1).1) := ⟨_, rfl⟩
    rw [← hl1] at t1 m1
    rw [← hl1, ← hs1, ← hA] at hf
    suffices h : ∃ r, Ev (fun k => page_body k A l1 s1) r ∧ (r = (0, [], 0, [], 8) ∨ r.2.2.2.2 = 0) by
      obtain ⟨r, h1, h2⟩ := h
      exact ⟨r, Ev.congr hf h1, h2⟩
    unfold page_body
    by_cases c : A = 3
    · simp only [if_pos c]
      refine end_ev (fun _ => by simp) ?_
      have u1 := tk_rest l1 s1 4
      have u2 := tk_rest (page_tk l1 s1 4).2.1 (page_tk l1 s1 4).2.2 2
      exact Nat.le_trans (tk_out _ _ _) (by omega)
    · simp only [if_neg c]
      have m2 := tk_mem (s := s1) (n := 2) m1.2
      have u2 := tk_rest l1 s1 2
      have hr := page_num_range (page_tk l1 s1 2).1
      have i2 := @tk_inv l1 s1 2
      obtain ⟨⟨o3, l3, s3⟩, e3⟩ : ∃ q, q = page_tk l1 s1 2 := ⟨_, rfl⟩
      rw [← e3] at m2 u2 hr i2 ⊢
      simp only [] at m2 u2 hr i2 ⊢
      by_cases cs : s3 = true
      · have hq : ∀ n, page_loop A n l3 s3 [] = some ([], l3, s3) := fun n => by
          cases n with
          | zero => rw [page_loop]
          | succ n => rw [page_loop, if_pos cs]
        rw [hq]
        simp only [Option.bind_some]
        exact end_ev (fun _ => by simp) (by simp)
      · obtain ⟨r1, r2, r3, r4⟩ := i2 (Bool.eq_false_iff.2 cs)
        obtain ⟨b20, b21, b22⟩ := bytes2 m2.1 r3
        obtain ⟨⟨X, R, S⟩, hq⟩ := loop_some (a := A) (page_num o3).toNat l3 s3 [] (by simp; omega)
        rw [hq]
        simp only [Option.bind_some]
        refine end_ev (fun hS => ?_) (by simp)
        obtain ⟨g1, ys, g2, g3, g4, g5⟩ := loop_inv _ _ _ _ _ m2.2 (fun z hz => by cases hz) hq hS
        simp only [List.nil_append] at g2
        have hX : X = ys := g2
        subst hX
        have hge := flat_ge A X
        have e5 := congrArg List.length g4
        rw [List.length_append] at e5
        simp only [] at e5
        omega
  · exact ⟨_, ⟨0, fun k _ => decode_bad hl k⟩, .inl rfl⟩
end Go.Proofs.Ytnkaidaflegnlaa.PageLaws
