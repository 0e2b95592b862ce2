/- Numbers as bytes, and back. No condition beyond those that each theorem names. -/
import Derived.Test.YtnkaidaflegnlaaPageEnc
import Derived.Test.YtnkaidaflegnlaaGf22
namespace Go.Proofs.Ytnkaidaflegnlaa.PageLaws
open Go.RowKit Go.Proofs.Ytnkaidaflegnlaa Go.Proofs.Ytnkaidaflegnlaa.G Go.Proofs.YtnkaidaflegnlaaW.PrintWords Go.Proofs.YtnkaidaflegnlaaW.PrintLast Go.Proofs.YtnkaidaflegnlaaW.PrintMore
set_option linter.unusedVariables false
theorem tk_app {u v : List Int} {s : Bool} {n : Int} (h : n = (u.length : Int)) : page_tk (u ++ v) s n = (u, v, s) := by
  unfold page_tk
  rw [if_pos ⟨by omega, by rw [List.length_append]; omega⟩, h, Int.toNat_natCast, List.take_left' rfl, List.drop_left' rfl]
theorem u64_id {n : Int} (h0 : 0 ≤ n) (h1 : n < 18446744073709551616) : IntKind.u64.wrap n = n := by rw [wrap_u64_mod]; omega
theorem step_is {n c : Int} (h0 : 0 ≤ n) (h1 : n < 72057594037927936) (c0 : 0 ≤ c) (c1 : c < 256) : page_step n c = n * 256 + c := by
  obtain ⟨N, rfl⟩ := Int.eq_ofNat_of_zero_le h0
  obtain ⟨C, rfl⟩ := Int.eq_ofNat_of_zero_le c0
  unfold page_step
  show IntKind.u64.wrap (((BitVec.ofInt 64 (IntKind.u64.wrap ((N : Int) * 256))) ||| (BitVec.ofInt 64 (IntKind.u64.wrap (C : Int)))).toNat : Int) = _
  rw [u64_id (n := (N : Int) * 256) (by omega) (by omega), u64_id (n := (C : Int)) (by omega) (by omega)]
  have e : ((N : Int) * 256) = ((N * 256 : Nat) : Int) := by omega
  rw [e, BitVec.ofInt_natCast, BitVec.ofInt_natCast, BitVec.toNat_or, BitVec.toNat_ofNat, BitVec.toNat_ofNat, Nat.mod_eq_of_lt (by omega), Nat.mod_eq_of_lt (by omega)]
  have h2 : 2 ^ 8 * N + C = 2 ^ 8 * N ||| C := Nat.two_pow_add_eq_or_of_lt (by omega) N
  have h3 : N * 256 = 2 ^ 8 * N := by omega
  rw [h3, ← h2, u64_id (by omega) (by omega)]
  omega
theorem sh0 (n : Int) : shr .u64 n (8 * ((0 : Nat) : Int)) = n := by unfold shr; simp
theorem sh1 (n : Int) : shr .u64 n (8 * ((1 : Nat) : Int)) = n / 256 := by unfold shr; rfl
theorem sh2 (n : Int) : shr .u64 n (8 * ((2 : Nat) : Int)) = n / 65536 := by unfold shr; rfl
theorem sh3 (n : Int) : shr .u64 n (8 * ((3 : Nat) : Int)) = n / 16777216 := by unfold shr; rfl
theorem sh4 (n : Int) : shr .u64 n (8 * ((4 : Nat) : Int)) = n / 4294967296 := by unfold shr; rfl
theorem sh5 (n : Int) : shr .u64 n (8 * ((5 : Nat) : Int)) = n / 1099511627776 := by unfold shr; rfl
theorem sh6 (n : Int) : shr .u64 n (8 * ((6 : Nat) : Int)) = n / 281474976710656 := by unfold shr; rfl
theorem sh7 (n : Int) : shr .u64 n (8 * ((7 : Nat) : Int)) = n / 72057594037927936 := by unfold shr; rfl
theorem pb1 (n : Int) : pb n 1 = [n % 256] := by rw [pb, pb, sh0]
theorem pb2 (n : Int) : pb n 2 = [n / 256 % 256, n % 256] := by rw [pb, sh1, pb1]
theorem pb4 (n : Int) : pb n 4 = [n / 16777216 % 256, n / 65536 % 256, n / 256 % 256, n % 256] := by rw [pb, pb, sh3, sh2, pb2]
theorem pb8 (n : Int) : pb n 8 = [n / 72057594037927936 % 256, n / 281474976710656 % 256, n / 1099511627776 % 256, n / 4294967296 % 256, n / 16777216 % 256, n / 65536 % 256, n / 256 % 256, n % 256] := by rw [pb, pb, pb, pb, sh7, sh6, sh5, sh4, pb4]
theorem num1 {c : Int} (h0 : 0 ≤ c) (h1 : c < 256) : page_num [c] = c := by
  show page_step 0 c = c
  rw [step_is (by omega) (by omega) h0 h1]; omega
theorem num_pb2 {n : Int} (h0 : 0 ≤ n) (h1 : n < 65536) : page_num (pb n 2) = n := by
  rw [pb2]
  show page_step (page_step 0 _) _ = n
  rw [step_is (n := 0) (by omega) (by omega) (by omega) (by omega), step_is (by omega) (by omega) (by omega) (by omega)]
  omega
theorem num_pb4 {n : Int} (h0 : 0 ≤ n) (h1 : n < 4294967296) : page_num (pb n 4) = n := by
  rw [pb4]
  show page_step (page_step (page_step (page_step 0 _) _) _) _ = n
  rw [step_is (n := 0) (by omega) (by omega) (by omega) (by omega), step_is (c := n / 65536 % 256) (by omega) (by omega) (by omega) (by omega), step_is (c := n / 256 % 256) (by omega) (by omega) (by omega) (by omega), step_is (by omega) (by omega) (by omega) (by omega)]
  omega
theorem num_pb8 {n : Int} (h0 : 0 ≤ n) (h1 : n < 18446744073709551616) : page_num (pb n 8) = n := by
  have e4 : ∀ A : Int, 0 ≤ A → A < 4294967296 → ∀ m : Int, 0 ≤ m → m < 4294967296 → page_step (page_step (page_step (page_step A (m / 16777216 % 256)) (m / 65536 % 256)) (m / 256 % 256)) (m % 256) = A * 4294967296 + m := fun A a0 a1 m m0 m1 => by
    rw [step_is (n := A) (by omega) (by omega) (by omega) (by omega), step_is (c := m / 65536 % 256) (by omega) (by omega) (by omega) (by omega), step_is (c := m / 256 % 256) (by omega) (by omega) (by omega) (by omega), step_is (by omega) (by omega) (by omega) (by omega)]
    omega
  have h := e4 0 (by omega) (by omega) (n / 4294967296) (by omega) (by omega)
  have h2 := e4 (n / 4294967296) (by omega) (by omega) (n % 4294967296) (by omega) (by omega)
  rw [pb8]
  show page_step (page_step (page_step (page_step (page_step (page_step (page_step (page_step 0 (n / 72057594037927936 % 256)) (n / 281474976710656 % 256)) (n / 1099511627776 % 256)) (n / 4294967296 % 256)) (n / 16777216 % 256)) (n / 65536 % 256)) (n / 256 % 256)) (n % 256) = n
  rw [show n / 72057594037927936 % 256 = n / 4294967296 / 16777216 % 256 by omega, show n / 281474976710656 % 256 = n / 4294967296 / 65536 % 256 by omega, show n / 1099511627776 % 256 = n / 4294967296 / 256 % 256 by omega, h,
    show n / 16777216 % 256 = n % 4294967296 / 16777216 % 256 by omega, show n / 65536 % 256 = n % 4294967296 / 65536 % 256 by omega, show n / 256 % 256 = n % 4294967296 / 256 % 256 by omega, show n % 256 = n % 4294967296 % 256 by omega, Int.zero_mul, Int.zero_add, h2]
  omega
end Go.Proofs.Ytnkaidaflegnlaa.PageLaws
