/- The functions of the program that these laws reach, each as a plain Lean function, and the proof that the machine's call comes to it; no condition beyond those that each theorem names. Made by wip/xprint.py. -/
import Derived.Test.YtepipgneefcoiaaTWE
import Derived.Test.YtepipgneefcoiaaDx0
namespace Go.Proofs.Ytepipgneefcoiaa.D
open Go.RowKit Go.Proofs.YtepipgneefcoiaaW.PrintWords Go.Proofs.YtepipgneefcoiaaW.PrintLast Go.Proofs.YtepipgneefcoiaaW.PrintMore
attribute [local go_sem] max2_int min2_int max_two min_two max_three min_three max_four min_four
set_option linter.unusedVariables false
set_option linter.unusedSimpArgs false
/- No log. -/
theorem N_Life (w : World) : Calls Try.prog 42 #[.pointer none] w fun e w' => e = .returned (.int .u64 0) ∧ Below w.heap.size w w' := by
  go_enter Try.func42, Try.ntmps42
  go_wp2
  go_ret
  exact ⟨rfl, Below.refl _ _⟩
theorem N_Epoch (w : World) : Calls Try.prog 43 #[.pointer none] w fun e w' => e = .returned (.int .u64 0) ∧ Below w.heap.size w w' := by
  go_enter Try.func43, Try.ntmps43
  go_wp2
  go_ret
  exact ⟨rfl, Below.refl _ _⟩
theorem N_Room (w : World) : Calls Try.prog 40 #[.pointer none] w fun e w' => e = .returned (.int .i64 0) ∧ Below w.heap.size w w' := by
  go_enter Try.func40, Try.ntmps40
  go_wp2
  go_ret
  exact ⟨rfl, Below.refl _ _⟩
theorem N_Sync (w : World) : Calls Try.prog 46 #[.pointer none] w fun e w' => e = .returned (.int .i64 1) ∧ Below w.heap.size w w' := by
  go_enter Try.func46, Try.ntmps46
  go_wp2
  go_ret
  exact ⟨rfl, Below.refl _ _⟩
theorem N_Reset (w : World) (e : Int) : Calls Try.prog 47 #[.pointer none, .int .u64 e] w fun e w' => e = .returned (.int .i64 1) ∧ Below w.heap.size w w' := by
  go_enter Try.func47, Try.ntmps47
  go_wp2
  go_ret
  exact ⟨rfl, Below.refl _ _⟩
theorem N_Records (w : World) : Calls Try.prog 39 #[.pointer none] w fun e w' => e = .returned (.slice none 0 0) ∧ Below w.heap.size w w' := by
  go_enter Try.func39, Try.ntmps39
  go_wp2
  go_ret
  exact ⟨rfl, Below.refl _ _⟩
theorem N_Append (w : World) (A : Option Addr) (n c : Nat) : Calls Try.prog 45 #[.pointer none, .slice A n c] w fun e w' => e = .returned (.int .i64 1) ∧ Below w.heap.size w w' := by
  go_enter Try.func45, Try.ntmps45
  go_wp2
  go_ret
  exact ⟨rfl, Below.refl _ _⟩
set_option maxRecDepth 20000 in
theorem N_Open (w : World) : Calls Try.prog 35 #[.pointer none, .int .i64 0, .int .i64 1, .int .u64 1] w fun e w' => e = .returned (.tuple #[.pointer none, .int .i64 1]) ∧ Below w.heap.size w w' := by
  go_enter Try.func35, Try.ntmps35
  go_wp2
  go_ret2
  exact ⟨rfl, Below.refl _ _⟩
/- WalNil: no log, no region. -/
theorem Z_New (w : World) (n : Nat) (h0 : 1 ≤ n) (h1 : n ≤ 4096) (i : Int) (hi : i = (n : Int)) : Calls Try.prog 14 #[.int .i64 i] w fun e w' => ∃ q, e = .returned (.tuple #[.pointer (some ⟨q, 0, none⟩), .int .i64 0]) ∧ JO w w' q (new8 n) (fun _ => False) := by
  subst hi
  refine Calls.mono (J_New w n h0 h1) ?_
  rintro e w' ⟨p, rfl, h⟩
  exact ⟨p, rfl, J_JO h⟩
/- A new disk's log. -/
theorem Z_Open {w0 w : World} {q n : Nat} {O : Nat → Prop} (h : JO w0 w q (new8 n) O) (fi si : Nat) (h1 : 1 ≤ si) (h200 : si ≤ 200) (hf : fi + si ≤ n) (a b ep : Int) (ha : a = (fi : Int)) (hb : b = (si : Int)) :
    Calls Try.prog 35 #[.pointer (some ⟨q, 0, none⟩), .int .i64 a, .int .i64 b, .int .u64 ep] w fun e w' => ∃ p, e = .returned (.tuple #[.pointer (some ⟨p, 0, none⟩), .int .i64 0]) ∧ LG w0 p q ⟨fi, si, ep, 1, 0, [], false, fun _ => False⟩ (new8 n) (fun k => O k ∨ (w.heap.size ≤ k ∧ k < w'.heap.size)) w' ∧ Below w.heap.size w w' := by
  subst ha hb
  have hcs : List.replicate (si * 4) zc6 = (secL (new8 n).now (fi * 4) (si * 4)).map decZ := by
    unfold new8
    exact (sec_nought (by omega)).symm
  have hm : lmax (List.replicate (si * 4) zc6) = 0 := lmax_z _
  refine L_Open0 h (fun _ => False) (fun _ hk => hk.elim) (by unfold new8; exact zeros_bytes _) rfl fi si ep h1 h200 hf _ hcs _ (fun e => by omega) (fun _ p w' l' e hG _ hb => ?_)
  rw [hm, prs_z] at e
  subst e
  exact ⟨p, rfl, hG, hb⟩
end Go.Proofs.Ytepipgneefcoiaa.D
