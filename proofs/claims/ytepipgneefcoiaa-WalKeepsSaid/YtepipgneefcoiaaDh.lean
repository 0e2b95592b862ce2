/- The functions of the program that these laws reach, each as a plain Lean function, and the proof that the machine's call comes to it; no condition beyond those that each theorem names. Made by wip/xprint.py. -/
import Derived.Test.YtepipgneefcoiaaDx0
namespace Go.Proofs.Ytepipgneefcoiaa.D
open Go.RowKit Go.Proofs.YtepipgneefcoiaaW.PrintWords Go.Proofs.YtepipgneefcoiaaW.PrintLast Go.Proofs.YtepipgneefcoiaaW.PrintMore
attribute [local go_sem] max2_int min2_int max_two min_two max_three min_three max_four min_four   -- for this text's walks alone
set_option linter.unusedVariables false
set_option linter.unusedSimpArgs false

/-! ### small facts beside the print's words -/
theorem cell_new_at (w : World) (cs : Array Value) (e : TypeId) (fz : Nat × Nat) (j : Nat) : (w.alloc (.cells cs e fz)).cell? ⟨w.heap.size, j, none⟩ = cs[j]? := by
  have h : (w.alloc (.cells cs e fz)).heap[w.heap.size]? = some (.cells cs e fz) := by
    show (w.heap.push _)[w.heap.size]? = _
    simp
  unfold World.cell?
  rw [h]
  simp
theorem C_lit_int {k : IntKind} {w : World} {b : Nat} (xs : List Int) (hm : xs.length ≤ 9223372036854775807) (h : ∀ j p, xs[j]? = some p → w.cell? ⟨b, j, none⟩ = some (.int k p)) :
    Kd.C (Kd.int k) w (some ⟨b, 0, none⟩) xs.length xs := by
  refine ⟨rfl, hm, fun _ => ⟨_, rfl, fun j p hj => ⟨[.int k p], rfl, rfl, fun i u hu => ?_⟩⟩⟩
  cases i with
  | zero =>
    injection hu with hu
    subst hu
    show w.cell? ((⟨b, 0, none⟩ : Addr).add (j * 1 + 0)) = _
    rw [add_plain, Nat.mul_one, Nat.add_zero]
    exact h j p hj
  | succ i => simp at hu
theorem C_new_int {k : IntKind} (w : World) (xs : List Int) (e : TypeId) (fz : Nat × Nat) (hm : xs.length ≤ 9223372036854775807) :
    Kd.C (Kd.int k) (w.alloc (.cells (xs.map (Value.int k)).toArray e fz)) (some ⟨w.heap.size, 0, none⟩) xs.length xs :=
  C_lit_int xs hm fun j p hj => by rw [cell_new_at]; simp [hj]
theorem clone_nil {α : Type} {d : Kd α} {w : World} {xs : List α} (h : d.C w none xs.length xs) : xs = [] := by
  cases xs with
  | nil => rfl
  | cons x xs =>
    obtain ⟨ad, e, _⟩ := h.2.2 (by simp)
    cases e
/-- So many Booleans, by a number. -/
def bl : Nat → Nat → List Bool
  | 0, _ => []
  | n + 1, m => (m % 2 == 1) :: bl n (m / 2)
def bm (n m : Nat) : Array Bool := (bl n m).toArray
theorem far4 {W : World} {a : Addr} {g i0 i1 i2 i3 : Nat} {u0 u1 u2 u3 : Value} {v : Option Value} (hne : a.block ≠ g) (hc : W.cell? a = v) : ((((W.setCell ⟨g, i0, none⟩ u0).setCell ⟨g, i1, none⟩ u1).setCell ⟨g, i2, none⟩ u2).setCell ⟨g, i3, none⟩ u3).cell? a = v :=
  (cell_far (p := ⟨g, _, none⟩) hne _).trans ((cell_far (p := ⟨g, _, none⟩) hne _).trans ((cell_far (p := ⟨g, _, none⟩) hne _).trans ((cell_far (p := ⟨g, _, none⟩) hne _).trans hc)))
theorem bfar4 {W : World} {g h i0 i1 i2 i3 : Nat} {u0 u1 u2 u3 : Value} {o : Option Obj} (hne : h ≠ g) (hc : W.heap[h]? = o) : ((((W.setCell ⟨g, i0, none⟩ u0).setCell ⟨g, i1, none⟩ u1).setCell ⟨g, i2, none⟩ u2).setCell ⟨g, i3, none⟩ u3).heap[h]? = o := by
  subst hc
  have e : ∀ (V : World) (i : Nat) (u : Value), (V.setCell ⟨g, i, none⟩ u).heap[h]? = V.heap[h]? := fun V i u => by
    simp only [World.setCell]
    rw [Array.getElem?_modify, if_neg (Ne.symm hne)]
  rw [e, e, e, e]

-- NOT PRINTED: function 14 (disk_New)

-- NOT PRINTED: function 17 (disk_Disk_Blocks)

-- NOT PRINTED: function 54 (disk_Disk_has)

-- NOT PRINTED: function 16 (disk_Disk_Read)

-- NOT PRINTED: function 18 (disk_Disk_Pending)

-- NOT PRINTED: function 56 (disk_Disk_settle)

-- NOT PRINTED: function 21 (disk_Disk_Crash)

-- NOT PRINTED: function 58 (disk_Disk_power)

-- NOT PRINTED: function 22 (disk_Disk_Write)

end Go.Proofs.Ytepipgneefcoiaa.D
