/- The functions of the program that these laws reach, each as a plain Lean function, and the proof that the machine's call comes to it; no condition beyond those that each theorem names. Made by wip/xprint.py. -/
import Derived.Test.YtepipgneefcoiaaTW12
import Derived.Test.YtepipgneefcoiaaDx0
namespace Go.Proofs.Ytepipgneefcoiaa.D
open Go.RowKit Go.Proofs.YtepipgneefcoiaaW.PrintWords Go.Proofs.YtepipgneefcoiaaW.PrintLast Go.Proofs.YtepipgneefcoiaaW.PrintMore
attribute [local go_sem] max2_int min2_int max_two min_two max_three min_three max_four min_four
set_option linter.unusedVariables false
set_option linter.unusedSimpArgs false
/- WalNil: no log, no region. -/
theorem Z_New (w : World) (n : Nat) (h0 : 1 ≤ n) (h1 : n ≤ 4096) (i : Int) (hi : i = (n : Int)) : Calls Try.prog 14 #[.int .i64 i] w fun e w' => ∃ q, e = .returned (.tuple #[.pointer (some ⟨q, 0, none⟩), .int .i64 0]) ∧ JO w w' q (new8 n) (fun _ => False) := by
  subst hi
  refine Calls.mono (J_New w n h0 h1) ?_
  rintro e w' ⟨p, rfl, h⟩
  exact ⟨p, rfl, J_JO h⟩
/- A new disk's log. -/
theorem Z_Open {w0 w : World} {q n : Nat} {O : Nat → Prop} (h : JO w0 w q (new8 n) O) (fi si : Nat) (h1 : 1 ≤ si) (h200 : si ≤ 200) (hf : fi + si ≤ n) (a b ep : Int) (ha : a = (fi : Int)) (hb : b = (si : Int)) :
    Calls Try.prog 35 #[.pointer (some ⟨q, 0, none⟩), .int .i64 a, .int .i64 b, .int .u64 ep] w fun e w' => ∃ p, e = .returned (.tuple #[.pointer (some ⟨p, 0, none⟩), .int .i64 0]) ∧ LG w0 p q ⟨fi, si, ep, 1, 0, [], false, fun _ => False⟩ (new8 n) (fun k => O k ∨ (w.heap.size ≤ k ∧ k < w'.heap.size)) w' ∧ Below w.heap.size w w' := by
  subst ha hb
  have hcs : List.replicate (si * 4) zc6 = (secL (new8 n).now (fi * 4) (si * 4)).map decZ := by
    unfold new8
    exact (sec_nought (by omega)).symm
  have hm : lmax (List.replicate (si * 4) zc6) = 0 := lmax_z _
  refine L_Open0 h (fun _ => False) (fun _ hk => hk.elim) (by unfold new8; exact zeros_bytes _) rfl fi si ep h1 h200 hf _ hcs _ (fun e => by omega) (fun _ p w' l' e hG hb => ?_)
  rw [hm, prs_z] at e
  subst e
  exact ⟨p, rfl, hG, hb⟩
end Go.Proofs.Ytepipgneefcoiaa.D
