/- What is decoded of a page's own bytes is that page. No condition beyond those that each theorem names. -/
import Derived.Test.YtnkaidaflegnlaaPageNum
namespace Go.Proofs.Ytnkaidaflegnlaa.PageLaws
open Go.RowKit Go.Proofs.Ytnkaidaflegnlaa Go.Proofs.Ytnkaidaflegnlaa.G Go.Proofs.YtnkaidaflegnlaaW.PrintWords Go.Proofs.YtnkaidaflegnlaaW.PrintLast Go.Proofs.YtnkaidaflegnlaaW.PrintMore
set_option linter.unusedVariables false
theorem it_eb {a : Int} {x : S39} (ha : a = 1 ∨ a = 2) (h : it a x = true) (h0 : 0 ≤ x.f0) (h1 : x.f0 < 18446744073709551616) (r : List Int) : page_it (eb a x ++ r) false a = (x, r, false) := by
  obtain ⟨f0, f1, f2, f3⟩ := x
  unfold it at h
  have hlk : ∀ n : Int, lk n = true → 0 ≤ n ∧ n < 4096 := fun n hn => by unfold lk at hn; simpa using hn
  have e8 := num_pb8 (n := f0) h0 h1
  have t8 : ∀ v : List Int, page_tk (pb f0 8 ++ v) false 8 = (pb f0 8, v, false) := fun v => tk_app (by rw [pb_len]; rfl)
  have t4 : ∀ (n : Int) (v : List Int), page_tk (pb n 4 ++ v) false 4 = (pb n 4, v, false) := fun n v => tk_app (by rw [pb_len]; rfl)
  unfold page_it eb
  by_cases c : a = 2
  · have c1 : ¬ a = 1 := by omega
    rw [if_pos c] at h
    by_cases d1 : f1 = 0
    · rw [if_pos d1] at h
      by_cases d2 : ((f2.length : Nat) : Int) = 0
      · rw [if_pos d2] at h
        obtain ⟨b0, b1⟩ := hlk f3 h
        have hf2 : f2 = [] := List.eq_nil_of_length_eq_zero (by omega)
        subst d1 hf2
        simp only [if_neg c1, List.append_assoc, t8]
        unfold page_itB
        rw [if_neg c1]
        simp only [t4, e8]
        rw [u64_id b0 (by omega), num_pb4 b0 (by omega), w64 (by omega) (by omega)]
      · rw [if_neg d2] at h; cases h
    · rw [if_neg d1] at h; cases h
  · have c1 : a = 1 := ha.resolve_right c
    rw [if_neg c] at h
    by_cases d0 : f1 < 0
    · rw [if_pos d0] at h; cases h
    · rw [if_neg d0] at h
      by_cases d1 : f1 > 6000
      · rw [if_pos d1] at h; cases h
      · rw [if_neg d1] at h
        have ez : wrap64 (page_num (pb (IntKind.u64.wrap f1) 4)) = f1 := by rw [u64_id (by omega) (by omega), num_pb4 (by omega) (by omega), w64 (by omega) (by omega)]
        by_cases d2 : f1 ≤ 40
        · rw [if_pos d2] at h
          by_cases d3 : ((f2.length : Nat) : Int) = f1
          · rw [if_pos d3] at h
            have hf3 : f3 = 0 := by simpa using h
            subst hf3
            simp only [if_pos c1, if_pos d2, List.append_assoc, t8]
            unfold page_itB
            rw [if_pos c1]
            simp only [t4, ez, e8]
            unfold page_itC
            rw [if_pos d2, tk_app d3.symm]
          · rw [if_neg d3] at h; cases h
        · rw [if_neg d2] at h
          by_cases d3 : ((f2.length : Nat) : Int) = 0
          · rw [if_pos d3] at h
            obtain ⟨b0, b1⟩ := hlk f3 h
            have hf2 : f2 = [] := List.eq_nil_of_length_eq_zero (by omega)
            subst hf2
            simp only [if_pos c1, if_neg d2, List.append_assoc, t8]
            unfold page_itB
            rw [if_pos c1]
            simp only [t4, ez, e8]
            unfold page_itC
            rw [if_neg d2]
            simp only [t4]
            rw [u64_id b0 (by omega), num_pb4 b0 (by omega), w64 (by omega) (by omega)]
          · rw [if_neg d3] at h; cases h
theorem loop_ebs {a : Int} {x : List S39} (ha : a = 1 ∨ a = 2) (hx : x.length ≤ 1000) (hit : ∀ i, i < x.length → it a (rd_T39 x (i : Int)) = true) (hk : ∀ y ∈ x, 0 ≤ y.f0 ∧ y.f0 < 18446744073709551616) (r : List Int) :
    ∀ n j : Nat, j + n = x.length → page_loop a n (ebs a x j n ++ r) false (x.take j) = some (x, r, false) := by
  intro n
  induction n with
  | zero =>
    intro j hj
    rw [page_loop, ebs, List.nil_append, List.take_of_length_le (by omega)]
  | succ n ih =>
    intro j hj
    have hlt : j < x.length := by omega
    have hm : rd_T39 x (j : Int) ∈ x := by rw [rd39_at hlt]; exact List.getElem_mem _
    have e := it_eb ha (hit j hlt) (hk _ hm).1 (hk _ hm).2 (ebs a x (j + 1) n ++ r)
    have et : x.take j ++ [rd_T39 x (j : Int)] = x.take (j + 1) := by rw [rd39_at hlt, List.take_add_one, List.getElem?_eq_getElem hlt]; rfl
    rw [page_loop, if_neg (by decide), if_pos (by rw [List.length_take]; omega), ebs, List.append_assoc, e]
    show page_loop a n (ebs a x (j + 1) n ++ r) false (x.take j ++ [rd_T39 x (j : Int)]) = _
    rw [et]
    exact ih (j + 1) (by omega)
theorem zeros_any (n : Nat) : ((List.replicate n (0 : Int)).any fun x => x != 0) = false := by
  rw [List.any_eq_false]
  intro x hx
  rw [(List.mem_replicate.1 hx).2]
  decide
theorem sums_ebs {a : Int} {x : List S39} (ha : a = 1 ∨ a = 2) (hit : ∀ i, i < x.length → it a (rd_T39 x (i : Int)) = true) : ∀ n j : Nat, j + n = x.length → ((ebs a x j n).length : Int) = sums a x j n := by
  intro n
  induction n with
  | zero => intro j _; rfl
  | succ n ih =>
    intro j hj
    rw [ebs, sums, List.length_append, Int.natCast_add, eb_len ha (hit j (by omega)), ih (j + 1) (by omega)]
/-- How many bytes stand ahead of the noughts. -/
theorem body_len {a : Int} {x : List S39} {y : Int} {d : List Int} (h : chk a x y d = 0) : ((hd a x y d ++ ebs a x 0 x.length).length : Int) = sz a x d := by
  obtain ⟨hm, hs⟩ := chk_zero h
  by_cases c : a = 3
  · subst c
    obtain ⟨rfl, hy, hd0, hd1⟩ := may_over hm
    unfold hd sz
    rw [if_pos rfl, if_pos rfl]
    simp only [List.length_append, pb_len, ebs, List.length_nil, List.length_singleton]
    omega
  · obtain ⟨ha, hx0, hd0, hy0, hall⟩ := may_all hm c
    unfold hd sz
    rw [if_neg c, if_neg c, List.length_append, Int.natCast_add, sums_ebs ha (fun i hi => qt_it (allf_at x.length 0 hall i (by omega) (by omega))) x.length 0 (by omega)]
    simp only [List.length_append, pb_len, List.length_singleton]
    omega
theorem enc_len {a : Int} {x : List S39} {y : Int} {d : List Int} (h : chk a x y d = 0) : (enc a x y d).length = 256 := by
  have h1 := body_len h
  have h2 := (chk_zero h).2
  unfold enc fin
  rw [List.length_append, List.length_replicate]
  omega
theorem page_end_ok {k : Nat} {a : Int} {x : List S39} {y : Int} {d : List Int} {n : Nat} (h : page_Check.f k a x y d = some 0) : page_end k a x y d (List.replicate n 0) false = some (a, x, y, d, 0) := by
  unfold page_end
  rw [if_neg (by decide), zeros_any, if_neg (by decide), h, Option.bind_some, if_pos rfl]
theorem decode_enc {a : Int} {x : List S39} {y : Int} {d : List Int} (hx : x.length ≤ 1000) (h : chk a x y d = 0) (hk : ∀ z ∈ x, 0 ≤ z.f0 ∧ z.f0 < 18446744073709551616) {k : Nat} (hc : page_Check.f k a x y d = some 0) : page_Decode.f k (enc a x y d) = some (a, x, y, d, 0) := by
  obtain ⟨hm, hs⟩ := chk_zero h
  have hl := enc_len h
  have h1 : ∀ b : Int, b = 1 ∨ b = 2 ∨ b = 3 → wrap64 (page_num [b % 256]) = b := fun b hb => by rw [num1 (by omega) (by omega), w64 (by omega) (by omega)]; omega
  rw [page_Decode.f, if_pos (by omega)]
  unfold enc fin
  obtain ⟨n, hn⟩ : ∃ n, n = 256 - (hd a x y d ++ ebs a x 0 x.length).length := ⟨_, rfl⟩
  rw [← hn]
  by_cases c : a = 3
  · subst c
    obtain ⟨rfl, hy, hd0, hd1⟩ := may_over hm
    have hyb : 0 ≤ y + 1 ∧ y + 1 < 4097 := by
      rcases hy with hy | hy
      · omega
      · unfold lk at hy; simp at hy; omega
    have e : hd 3 [] y d ++ ebs 3 [] 0 ([] : List S39).length ++ List.replicate n 0 = [3 % 256] ++ (pb (IntKind.u64.wrap (wrap64 (y + 1))) 4 ++ (pb (IntKind.u64.wrap (d.length : Int)) 2 ++ (d ++ List.replicate n 0))) := by
      unfold hd; rw [if_pos rfl]; simp only [List.append_assoc, ebs, List.length_nil, List.nil_append]
    rw [e, tk_app (n := 1) rfl]
    show page_body k (wrap64 (page_num [3 % 256])) (pb (IntKind.u64.wrap (wrap64 (y + 1))) 4 ++ (pb (IntKind.u64.wrap (d.length : Int)) 2 ++ (d ++ List.replicate n 0))) false = _
    rw [h1 3 (by simp)]
    unfold page_body
    rw [if_pos rfl, tk_app (n := 4) (by rw [pb_len]; rfl)]
    simp only []
    rw [tk_app (n := 2) (by rw [pb_len]; rfl)]
    simp only []
    rw [w64 (n := y + 1) (by omega) (by omega), u64_id (n := y + 1) (by omega) (by omega), u64_id (n := (d.length : Int)) (by omega) (by omega), num_pb4 (by omega) (by omega), num_pb2 (by omega) (by omega), w64 (n := y + 1) (by omega) (by omega), w64 (n := (d.length : Int)) (by omega) (by omega), tk_app rfl]
    simp only []
    rw [show y + 1 - 1 = y by omega, w64 (n := y) (by omega) (by omega)]
    exact page_end_ok hc
  · obtain ⟨ha, hx0, hd0, hy0, hall⟩ := may_all hm c
    subst hy0
    have hdn : d = [] := List.eq_nil_of_length_eq_zero hd0
    subst hdn
    have e : hd a x 0 [] ++ ebs a x 0 x.length ++ List.replicate n 0 = [a % 256] ++ (pb (IntKind.u64.wrap (x.length : Int)) 2 ++ (ebs a x 0 x.length ++ List.replicate n 0)) := by
      unfold hd; rw [if_neg c]; simp only [List.append_assoc]
    rw [e, tk_app (n := 1) rfl]
    show page_body k (wrap64 (page_num [a % 256])) (pb (IntKind.u64.wrap (x.length : Int)) 2 ++ (ebs a x 0 x.length ++ List.replicate n 0)) false = _
    rw [h1 a (ha.elim .inl (fun h => .inr (.inl h)))]
    unfold page_body
    rw [if_neg c, tk_app (n := 2) (by rw [pb_len]; rfl)]
    simp only []
    rw [u64_id (by omega) (by omega), num_pb2 (by omega) (by omega), Int.toNat_natCast]
    have := loop_ebs ha hx (fun i hi => qt_it (allf_at x.length 0 hall i (by omega) (by omega))) hk (List.replicate n 0) x.length 0 (by omega)
    rw [List.take_zero] at this
    rw [this, Option.bind_some]
    exact page_end_ok hc
end Go.Proofs.Ytnkaidaflegnlaa.PageLaws
