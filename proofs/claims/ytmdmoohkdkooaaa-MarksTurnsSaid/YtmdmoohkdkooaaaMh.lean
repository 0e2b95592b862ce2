/- The functions of the program that these laws reach, each as a plain Lean function, and the proof that the machine's call comes to it; no condition beyond those that each theorem names. Made by wip/xprint.py. -/
import Derived.Test.YtmdmoohkdkooaaaMx0
import Derived.Test.YtmdmoohkdkooaaaMe1
namespace Go.Proofs.Ytmdmoohkdkooaaa.M
open Go.RowKit Go.Proofs.YtmdmoohkdkooaaaW.PrintWords Go.Proofs.YtmdmoohkdkooaaaW.PrintLast Go.Proofs.YtmdmoohkdkooaaaW.PrintMore
attribute [local go_sem] max2_int min2_int max_two min_two max_three min_three max_four min_four   -- for this text's walks alone
set_option linter.unusedVariables false
set_option linter.unusedSimpArgs false
attribute [local go_sem high] eqA70

/-! ### small facts beside the print's words -/
theorem cell_new_at (w : World) (cs : Array Value) (e : TypeId) (fz : Nat × Nat) (j : Nat) : (w.alloc (.cells cs e fz)).cell? ⟨w.heap.size, j, none⟩ = cs[j]? := by
  have h : (w.alloc (.cells cs e fz)).heap[w.heap.size]? = some (.cells cs e fz) := by
    show (w.heap.push _)[w.heap.size]? = _
    simp
  unfold World.cell?
  rw [h]
  simp
theorem C_lit_int {k : IntKind} {w : World} {b : Nat} (xs : List Int) (hm : xs.length ≤ 9223372036854775807) (h : ∀ j p, xs[j]? = some p → w.cell? ⟨b, j, none⟩ = some (.int k p)) :
    Kd.C (Kd.int k) w (some ⟨b, 0, none⟩) xs.length xs := by
  refine ⟨rfl, hm, fun _ => ⟨_, rfl, fun j p hj => ⟨[.int k p], rfl, rfl, fun i u hu => ?_⟩⟩⟩
  cases i with
  | zero =>
    injection hu with hu
    subst hu
    show w.cell? ((⟨b, 0, none⟩ : Addr).add (j * 1 + 0)) = _
    rw [add_plain, Nat.mul_one, Nat.add_zero]
    exact h j p hj
  | succ i => simp at hu
theorem C_new_int {k : IntKind} (w : World) (xs : List Int) (e : TypeId) (fz : Nat × Nat) (hm : xs.length ≤ 9223372036854775807) :
    Kd.C (Kd.int k) (w.alloc (.cells (xs.map (Value.int k)).toArray e fz)) (some ⟨w.heap.size, 0, none⟩) xs.length xs :=
  C_lit_int xs hm fun j p hj => by rw [cell_new_at]; simp [hj]
theorem clone_nil {α : Type} {d : Kd α} {w : World} {xs : List α} (h : d.C w none xs.length xs) : xs = [] := by
  cases xs with
  | nil => rfl
  | cons x xs =>
    obtain ⟨ad, e, _⟩ := h.2.2 (by simp)
    cases e

end Go.Proofs.Ytmdmoohkdkooaaa.M
