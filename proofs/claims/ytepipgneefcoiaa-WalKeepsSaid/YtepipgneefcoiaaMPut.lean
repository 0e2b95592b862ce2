/- What the program encodes a cell as, and that it is decoded as it was. No condition beyond those that each theorem names. -/
import Derived.Test.YtepipgneefcoiaaDf83
import Derived.Test.YtepipgneefcoiaaDf86
import Derived.Test.YtepipgneefcoiaaMCuts
import Derived.Test.YtepipgneefcoiaaDx0
namespace Go.Proofs.Ytepipgneefcoiaa.CellLaws
open Go.RowKit Go.Proofs.Ytepipgneefcoiaa Go.Proofs.Ytepipgneefcoiaa.D Go.Proofs.YtepipgneefcoiaaW.PrintWords Go.Proofs.YtepipgneefcoiaaW.PrintLast Go.Proofs.YtepipgneefcoiaaW.PrintMore
open Go.Proofs.Ytepipgneefcoiaa.CrcK (Bytes u32 more sum_ev refsum_ev bytes_rd u32_lt bytes_wf)
set_option linter.unusedVariables false
theorem be_K (n : Nat) (x : Int) : D.be n x = be n x := by
  induction n with
  | zero => rfl
  | succ n ih => rw [D.be, be, ih]
theorem hd_K (a0 a1 a2 a3 : Int) (l : List Int) : cellHead a0 a1 a2 a3 l = hd a0 a1 a2 a3 l := by
  simp only [cellHead, hd, be_K]
theorem encode_ev {a0 a1 a2 a3 : Int} {l : List Int} (hb : Bytes l) (hm : May a2 a3 l) : Ev (fun k => cell_Encode.f k a0 a1 a2 a3 l) (enc a0 a1 a2 a3 l, 0) := by
  obtain ⟨m1, m2, m3, m4⟩ := hm
  obtain ⟨K1, q1⟩ := sum_ev (hd_bytes (a0 := a0) (a1 := a1) (a2 := a2) (a3 := a3) m4 hb) (by rw [hd_length m4]; omega)
  refine ⟨K1, fun k hk => ?_⟩
  have r1 : crc_Sum.f k (hd a0 a1 a2 a3 l) = some (sumv (hd a0 a1 a2 a3 l)) := q1 k hk
  have hr := sumv_range (hd a0 a1 a2 a3 l)
  show cell_Encode.f k a0 a1 a2 a3 l = _
  rw [cell_Encode.f, if_neg (by omega), if_neg (by omega), if_neg (by omega), if_neg (by omega), hd_K, r1, Option.bind_some, be_K, u64w hr.1 (by omega)]
  rfl
theorem encode_bad {a0 a1 a2 a3 : Int} {l : List Int} (hm : ¬ May a2 a3 l) (k : Nat) : cell_Encode.f k a0 a1 a2 a3 l = some ([], 1) := by
  unfold May at hm
  rw [cell_Encode.f]
  by_cases c0 : a2 < 0
  · rw [if_pos c0]
  rw [if_neg c0]
  by_cases c1 : a2 ≥ a3
  · rw [if_pos c1]
  rw [if_neg c1]
  by_cases c2 : a3 > 65535
  · rw [if_pos c2]
  rw [if_neg c2, if_pos (by omega)]
/-- The pieces of what is encoded. -/
theorem enc_parts (a0 a1 a2 a3 : Int) (l : List Int) (hl : l.length ≤ 39) : (enc a0 a1 a2 a3 l).take 8 = be 8 a0 ∧ ((enc a0 a1 a2 a3 l).take 16).drop 8 = be 8 a1 ∧ ((enc a0 a1 a2 a3 l).take 18).drop 16 = be 2 a2 ∧ ((enc a0 a1 a2 a3 l).take 20).drop 18 = be 2 a3 ∧ rd (enc a0 a1 a2 a3 l) 20 = (l.length : Int) ∧ ((enc a0 a1 a2 a3 l).take (21 + l.length)).drop 21 = l ∧ (enc a0 a1 a2 a3 l).take 60 = hd a0 a1 a2 a3 l ∧ (enc a0 a1 a2 a3 l).drop 60 = be 4 (sumv (hd a0 a1 a2 a3 l)) ∧ (hd a0 a1 a2 a3 l).drop (21 + l.length) = List.replicate (39 - l.length) 0 := by
  have hdl := hd_length (a0 := a0) (a1 := a1) (a2 := a2) (a3 := a3) hl
  have g : ∀ (p q r : List Int) (m : Nat), p.length = m → (p ++ (q ++ r)).take (m + q.length) = p ++ q ∧ ((p ++ (q ++ r)).take (m + q.length)).drop m = q := by
    intro p q r m hm
    have h1 : (p ++ (q ++ r)).take (m + q.length) = p ++ q := by
      rw [← List.append_assoc, List.take_left' (by rw [List.length_append, hm])]
    refine ⟨h1, ?_⟩
    rw [h1, List.drop_left' hm]
  obtain ⟨R, hR⟩ : ∃ R, R = l ++ List.replicate (39 - l.length) 0 ++ be 4 (sumv (hd a0 a1 a2 a3 l)) := ⟨_, rfl⟩
  have he : enc a0 a1 a2 a3 l = be 8 a0 ++ (be 8 a1 ++ (be 2 a2 ++ (be 2 a3 ++ ([(l.length : Int)] ++ R)))) := by
    rw [hR]; unfold enc; rw [hd]; simp [List.append_assoc]
  have b0 : ∀ n x, (be n x).length = n := be_length
  refine ⟨?_, ?_, ?_, ?_, ?_, ?_, List.take_left' hdl, List.drop_left' hdl, ?_⟩
  · rw [he, List.take_left' (b0 _ _)]
  · have := (g (be 8 a0) (be 8 a1) (be 2 a2 ++ (be 2 a3 ++ ([(l.length : Int)] ++ R))) 8 (b0 _ _)).2
    rw [b0] at this
    rw [he]; exact this
  · have := (g (be 8 a0 ++ be 8 a1) (be 2 a2) (be 2 a3 ++ ([(l.length : Int)] ++ R)) 16 (by simp [b0])).2
    rw [b0, List.append_assoc] at this
    rw [he]; exact this
  · have := (g (be 8 a0 ++ be 8 a1 ++ be 2 a2) (be 2 a3) ([(l.length : Int)] ++ R) 18 (by simp [b0])).2
    rw [b0, List.append_assoc, List.append_assoc] at this
    rw [he]; exact this
  · have hh : (be 8 a0 ++ be 8 a1 ++ be 2 a2 ++ be 2 a3).length = 20 := by simp [b0]
    have he2 : enc a0 a1 a2 a3 l = (be 8 a0 ++ be 8 a1 ++ be 2 a2 ++ be 2 a3) ++ (l.length : Int) :: R := by rw [he]; simp [List.append_assoc]
    rw [he2]
    unfold rd
    rw [List.getD_eq_getElem?_getD, List.getElem?_append_right (by rw [hh]; decide), hh]
    rfl
  · have := (g (be 8 a0 ++ be 8 a1 ++ be 2 a2 ++ be 2 a3 ++ [(l.length : Int)]) l (List.replicate (39 - l.length) 0 ++ be 4 (sumv (hd a0 a1 a2 a3 l))) 21 (by simp [b0])).2
    rw [he, hR]
    simp only [List.append_assoc] at this ⊢
    exact this
  · unfold hd
    have h21 : (be 8 a0 ++ be 8 a1 ++ be 2 a2 ++ be 2 a3 ++ [(l.length : Int)] ++ l).length = 21 + l.length := by simp [b0]; omega
    have := List.drop_left' (l₂ := List.replicate (39 - l.length) (0 : Int)) h21
    simp only [List.append_assoc, List.cons_append, List.nil_append] at this ⊢
    exact this
/-- What is encoded is a cell's bytes, and they are that cell's. -/
theorem enc_good {a0 a1 a2 a3 : Int} {l : List Int} (h0 : 0 ≤ a0 ∧ a0 < 18446744073709551616) (h1 : 0 ≤ a1 ∧ a1 < 18446744073709551616) (hm : May a2 a3 l) :
    CellLaws.Good (enc a0 a1 a2 a3 l) ∧ e0 (enc a0 a1 a2 a3 l) = a0 ∧ e1 (enc a0 a1 a2 a3 l) = a1 ∧ pt (enc a0 a1 a2 a3 l) = a2 ∧ ofs (enc a0 a1 a2 a3 l) = a3 ∧ dat (enc a0 a1 a2 a3 l) = l := by
  obtain ⟨m1, m2, m3, m4⟩ := hm
  obtain ⟨p1, p2, p3, p4, p5, p6, p7, p8, p9⟩ := enc_parts a0 a1 a2 a3 l m4
  have hn : nn (enc a0 a1 a2 a3 l) = l.length := by unfold nn; rw [p5]; omega
  have q1 : e0 (enc a0 a1 a2 a3 l) = a0 := by unfold e0; rw [p1, num_be 8 _ h0.1 (by simpa using h0.2)]
  have q2 : e1 (enc a0 a1 a2 a3 l) = a1 := by unfold e1; rw [p2, num_be 8 _ h1.1 (by simpa using h1.2)]
  have q3 : pt (enc a0 a1 a2 a3 l) = a2 := by unfold pt; rw [p3, num_be 2 _ m1 (by simpa using (by omega : a2 < 65536))]
  have q4 : ofs (enc a0 a1 a2 a3 l) = a3 := by unfold ofs; rw [p4, num_be 2 _ (by omega) (by simpa using (by omega : a3 < 65536))]
  have q5 : dat (enc a0 a1 a2 a3 l) = l := by unfold dat; rw [hn]; exact p6
  refine ⟨⟨enc_length m4, by omega, by rw [q3, q4]; exact m2, ?_, ?_⟩, q1, q2, q3, q4, q5⟩
  · unfold tail
    rw [hn, p7, p9]
  · have hr := sumv_range (hd a0 a1 a2 a3 l)
    rw [p7, p8, num_be 4 _ hr.1 (by simpa using hr.2)]
end Go.Proofs.Ytepipgneefcoiaa.CellLaws
