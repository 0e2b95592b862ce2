/- The functions of the program that these laws reach, each as a plain Lean function, and the proof that the machine's call comes to it; no condition beyond those that each theorem names. Made by wip/xprint.py. -/
import Derived.Test.YtmdmoohkdkooaaaSx0
import Derived.Test.YtmdmoohkdkooaaaSh
namespace Go.Proofs.Ytmdmoohkdkooaaa.S
open Go.RowKit Go.Proofs.YtmdmoohkdkooaaaW.PrintWords Go.Proofs.YtmdmoohkdkooaaaW.PrintLast Go.Proofs.YtmdmoohkdkooaaaW.PrintMore
attribute [local go_sem] max2_int min2_int max_two min_two max_three min_three max_four min_four   -- for this text's walks alone
set_option linter.unusedVariables false
set_option linter.unusedSimpArgs false

/-! ### marginalialaw18_alive: function 35: by hand -/
theorem heap_load (p : Nat) (A : Option Addr) (n c : Nat) (w : World) (h1 : w.cell? ⟨p, 1, none⟩ = some (.slice A n c)) : Sem.run Try.prog (loadVar 76 ⟨p, 1, none⟩) w = .ok (.slice A n c) w := by
  go_simp
theorem heap_find (name : String) (f : Nat) (b : Bool) (h : (Array.find? (fun x => x.name == name) Try.t82.methods).isSome = true) (h1 : ((Array.find? (fun x => x.name == name) Try.t82.methods).get h).path = #[]) (h2 : ((Array.find? (fun x => x.name == name) Try.t82.methods).get h).func = some (f, b)) : ∃ m, Array.find? (fun x => x.name == name) Try.t82.methods = some m ∧ m.path = #[] ∧ m.func = some (f, b) :=
  ⟨_, (Option.some_get h).symm, h1, h2⟩
set_option maxRecDepth 4000 in
theorem heap_v (name : String) (f : Nat) (hm : ∃ m, Array.find? (fun x => x.name == name) Try.t82.methods = some m ∧ m.path = #[] ∧ m.func = some (f, false)) (p : Nat) (A : Option Addr) (n c : Nat) (w : World) (h1 : w.cell? ⟨p, 1, none⟩ = some (.slice A n c)) :
    Sem.run Try.prog (method 210 82 (.pointer (some ⟨p, 1, none⟩)) name) w = .ok (f, .slice A n c) w := by
  have hl := heap_load p A n c w h1
  obtain ⟨m, hf, hp, hfn⟩ := hm
  show Sem.run Try.prog (method (209 + 1) 82 (.pointer (some ⟨p, 1, none⟩)) name) w = _
  unfold method
  go_simp
  have e1 : Sem.run Try.prog (follow [] 82 (Place.val (Value.pointer (some ⟨p, 1, none⟩)))) w = .ok (82, Place.val (Value.pointer (some ⟨p, 1, none⟩))) w := rfl
  rw [e1]
  show (Sem.run Try.prog (receiverAt 82 (Place.val (Value.pointer (some ⟨p, 1, none⟩))) false _) w).andThen _ = _
  unfold receiverAt
  have e2 : Sem.run Try.prog (Place.get 82 (Place.val (Value.pointer (some ⟨p, 1, none⟩)))) w = .ok (Value.pointer (some ⟨p, 1, none⟩)) w := rfl
  have e3 : ∀ s : String, Sem.run Try.prog (Builtin.ssaWrapNilChk_ #[82] 82 #[Value.pointer (some ⟨p, 1, none⟩), strVal "", strVal s]) w = .ok (Value.pointer (some ⟨p, 1, none⟩)) w := fun s => rfl
  go_simp
/- A space in memory: its block, which numbers are taken, and the heap of those that are free. -/
def sw (l : List Int) (i j : Nat) : List Int := (l.set i (rd l (j : Int))).set j (rd l (i : Int))
theorem sw_len (l : List Int) (i j : Nat) : (sw l i j).length = l.length := by unfold sw; rw [List.length_set, List.length_set]
theorem sp_at (i : Nat) : (i : Int).toNat * (Kd.int .i64).sz + 0 = i := by
  show i * 1 + 0 = i
  omega
theorem sp_trans {w w1 w2 : World} {row : Option Nat} (h : w.grownBy w1 row) (k : w1.grownBy w2 row) : w.grownBy w2 row :=
  ⟨k.os.trans h.os, k.tape.trans h.tape, k.output.trans h.output, Nat.le_trans h.size k.size, fun i hi hne => (k.block i (Nat.lt_of_lt_of_le hi h.size) hne).trans (h.block i hi hne)⟩
theorem sp_drew (w : World) (row : Option Nat) : w.grownBy w.drew row := grown_of_below (below_drew (Below.refl _ _)) row
theorem sp_drawn {w w' : World} (h : Drawn0 w w') : Below w.heap.size w w' := by
  obtain ⟨nd, rfl⟩ := h
  exact pw_below_drewN (Below.refl _ _) nd
set_option maxHeartbeats 2000000 in
theorem least_Less (A : Option Addr) (c : Nat) (l : List Int) (i j : Nat) (w : World) (hi : i < l.length) (hj : j < l.length) (hC : Kd.C (Kd.int .i64) w A l.length l) :
    Calls Try.prog 85 #[.slice A l.length c, .int .i64 (i : Int), .int .i64 (j : Int)] w fun e w' => e = .returned (.bool (decide (rd l (i : Int) < rd l (j : Int)))) ∧ Drawn0 w w' := by
  have hC' := Kd.C_drew hC
  obtain ⟨a1, e1, hx⟩ := Kd.at_int hC' (i : Int) (by omega) (by omega)
  obtain ⟨a2, e2, hy⟩ := Kd.at_int hC' (j : Int) (by omega) (by omega)
  cases e1
  cases e2
  have hm := Kd.C_max hC
  simp only [Int.toNat_natCast] at hx hy
  clear hC hC'
  go_enter Try.func85, Try.ntmps85
  go_upto_region 1 with (fail)
  refine start_ (n := 10) (S := fun w' => w'.cell? (a1.add i) = some (.int .i64 (rd l (i : Int))) ∧ w'.cell? (a1.add j) = some (.int .i64 (rd l (j : Int)))) (ds := []) #[false, false, false, false, false, false, false, false, false, false] (by kernel_rfl) rfl rfl ⟨hx, hy⟩ (fun hHeld => ?_)
  refine pure_ (i := 0) (N := some 7) (v := ?_) (a' := ?_) #[true, false, false, false, false, false, false, false, false, false] rfl rfl (by kernel_rfl) (fun _ _ _ h => h) (Or.inl ⟨by rfl, ?_⟩) ?_ ?_
  rotate_left
  · intro w'
    go_simp
    with_reducible rfl
  rotate_left
  · simp only [Act.put, List.setIfInBounds_toArray, List.set_cons_zero, List.set_cons_succ, i64_w, i32_w]
    rfl
  refine pure_ (i := 1) (N := some 8) (v := ?_) (a' := ?_) #[true, true, false, false, false, false, false, false, false, false] rfl rfl (by kernel_rfl) (fun _ _ _ h => h) (Or.inl ⟨by rfl, ?_⟩) ?_ ?_
  rotate_left
  · intro w'
    go_simp
    with_reducible rfl
  rotate_left
  · simp only [Act.put, List.setIfInBounds_toArray, List.set_cons_zero, List.set_cons_succ, i64_w, i32_w]
    rfl
  refine pure_ (i := 2) (N := some 9) (v := ?_) (a' := ?_) #[true, true, true, false, false, false, false, false, false, false] rfl rfl (by kernel_rfl) (fun _ _ _ h => h) (Or.inl ⟨by rfl, ?_⟩) ?_ ?_
  rotate_left
  · intro w'
    go_simp
    with_reducible rfl
  rotate_left
  · simp only [Act.put, List.setIfInBounds_toArray, List.set_cons_zero, List.set_cons_succ, i64_w, i32_w]
    rfl
  refine pure_ (i := 4) (N := some 11) (v := ?_) (a' := ?_) #[true, true, true, false, true, false, false, false, false, false] rfl rfl (by kernel_rfl) (fun _ _ _ h => h) (Or.inl ⟨by rfl, ?_⟩) ?_ ?_
  rotate_left
  · intro w'
    go_simp
    with_reducible rfl
  rotate_left
  · simp only [Act.put, List.setIfInBounds_toArray, List.set_cons_zero, List.set_cons_succ, i64_w, i32_w]
    rfl
  refine pure_ (i := 5) (N := some 12) (v := ?_) (a' := ?_) #[true, true, true, false, true, true, false, false, false, false] rfl rfl (by kernel_rfl) (fun _ _ _ h => h) (Or.inl ⟨by rfl, ?_⟩) ?_ ?_
  rotate_left
  · intro w'
    go_simp
    with_reducible rfl
  rotate_left
  · simp only [Act.put, List.setIfInBounds_toArray, List.set_cons_zero, List.set_cons_succ, i64_w, i32_w]
    rfl
  refine pure_ (i := 6) (N := some 13) (v := ?_) (a' := ?_) #[true, true, true, false, true, true, true, false, false, false] rfl rfl (by kernel_rfl) (fun _ _ _ h => h) (Or.inl ⟨by rfl, ?_⟩) ?_ ?_
  rotate_left
  · intro w'
    go_simp
    with_reducible rfl
  rotate_left
  · simp only [Act.put, List.setIfInBounds_toArray, List.set_cons_zero, List.set_cons_succ, i64_w, i32_w]
    rfl
  refine take_ (i := 3) (N := some 10) (v := ?_) (a' := ?_) #[true, true, true, true, true, true, true, false, false, false] rfl rfl (by kernel_rfl) (fun _ _ _ h => h) (Or.inl ⟨by rfl, ?_⟩) hHeld ?_ ?_
  rotate_left
  · rintro w' ⟨s0, s1⟩
    go_simp
    with_reducible rfl
  rotate_left
  · simp only [Act.put, List.setIfInBounds_toArray, List.set_cons_zero, List.set_cons_succ, i64_w, i32_w]
    rfl
  refine take_ (i := 7) (N := some 14) (v := ?_) (a' := ?_) #[true, true, true, true, true, true, true, true, false, false] rfl rfl (by kernel_rfl) (fun _ _ _ h => h) (Or.inl ⟨by rfl, ?_⟩) hHeld ?_ ?_
  rotate_left
  · rintro w' ⟨s0, s1⟩
    go_simp
    with_reducible rfl
  rotate_left
  · simp only [Act.put, List.setIfInBounds_toArray, List.set_cons_zero, List.set_cons_succ, i64_w, i32_w]
    rfl
  refine pure_ (i := 8) (N := some 15) (v := ?_) (a' := ?_) #[true, true, true, true, true, true, true, true, true, false] rfl rfl (by kernel_rfl) (fun _ _ _ h => h) (Or.inl ⟨by rfl, ?_⟩) ?_ ?_
  rotate_left
  · intro w'
    go_simp
    with_reducible rfl
  rotate_left
  · simp only [Act.put, List.setIfInBounds_toArray, List.set_cons_zero, List.set_cons_succ, i64_w, i32_w]
    rfl
  refine pure_ (i := 9) (N := some 6) (v := ?_) (a' := ?_) #[true, true, true, true, true, true, true, true, true, true] rfl rfl (by kernel_rfl) (fun _ _ _ h => h) (Or.inl ⟨by rfl, ?_⟩) ?_ ?_
  rotate_left
  · intro w'
    go_simp
    with_reducible rfl
  rotate_left
  · simp only [Act.put, List.setIfInBounds_toArray, List.set_cons_zero, List.set_cons_succ, i64_w, i32_w]
    rfl
  refine done_ (by kernel_rfl) ?_
  try go_wp2
  go_ret
  exact ⟨rfl, by repeat (first | exact Drawn0.refl _ | apply Drawn0.step)⟩
set_option maxHeartbeats 1000000 in
theorem least_Len (A : Option Addr) (n c : Nat) (w : World) : Calls Try.prog 84 #[.slice A n c] w fun e w' => e = .returned (.int .i64 (n : Int)) ∧ Drawn0 w w' := by
  go_enter Try.func84, Try.ntmps84
  go_wp2
  go_ret
  exact ⟨rfl, by repeat (first | exact Drawn0.refl _ | apply Drawn0.step)⟩
set_option maxHeartbeats 4000000 in
theorem least_Swap (base : Nat) (ok : Nat → Prop) (g c : Nat) (l : List Int) (i j : Nat) (w : World) (hi : i < l.length) (hj : j < l.length) (hR : Kd.R (Kd.int .i64) 3 w base ok (.slice (some ⟨g, 0, none⟩) l.length c) l) :
    Calls Try.prog 86 #[.slice (some ⟨g, 0, none⟩) l.length c, .int .i64 (i : Int), .int .i64 (j : Int)] w fun e w' => e = .returned (.tuple #[]) ∧ Kd.R (Kd.int .i64) 3 w' base ok (.slice (some ⟨g, 0, none⟩) l.length c) (sw l i j) ∧ w.grownBy w' (some g) := by
  have hm := Kd.C_max (Kd.R_reads' hR).2.2
  have hR' := Kd.R_drew hR
  have h1 := Kd.R_put hR' (i : Int) (rd l (j : Int))
  have hl : (l.set i (rd l (j : Int))).length = l.length := List.length_set ..
  have h2 := Kd.R_put (xs := l.set i (rd l (j : Int))) (by rw [hl]; exact h1.1) (j : Int) (rd l (i : Int))
  rw [hl] at h2
  obtain ⟨a1, e1, hx⟩ := Kd.at_int (Kd.R_reads' hR').2.2 (i : Int) (by omega) (by omega)
  obtain ⟨a2, e2, hy⟩ := Kd.at_int (Kd.R_reads' hR').2.2 (j : Int) (by omega) (by omega)
  cases e1
  cases e2
  obtain ⟨c1, _, _, _, fi⟩ := Kd.R_elem hR' 0 (i : Int) (by omega) (by omega)
  obtain ⟨c2, _, _, _, fj⟩ := Kd.R_elem hR' 0 (j : Int) (by omega) (by omega)
  have h1' : Kd.R (Kd.int .i64) 3 (w.drew.setCell ⟨g, i, none⟩ (.int .i64 (rd l (j : Int)))) base ok (.slice (some ⟨g, 0, none⟩) (l.set i (rd l (j : Int))).length c) (l.set i (rd l (j : Int))) := by
    rw [hl]; have t := h1.1; simp only [Int.toNat_natCast, Nat.mul_one, Nat.add_zero, add_plain] at t; exact t
  obtain ⟨c3, hc3, hm3, hcc3, fj3⟩ := Kd.R_elem h1' 0 (j : Int) (by omega) (by omega)
  have h3 : (w.drew.setCell ⟨g, i, none⟩ (.int .i64 (rd l (j : Int)))).frozen? ⟨g, j, none⟩ = false ∧ ∃ y, (w.drew.setCell ⟨g, i, none⟩ (.int .i64 (rd l (j : Int)))).cell? ⟨g, j, none⟩ = some y := by
    obtain ⟨b3, eb, hy3⟩ := Kd.at_int (Kd.R_reads' h1').2.2 (j : Int) (by omega) (by omega)
    cases eb
    have f := fj3 0
    rw [sp_at] at f
    simp only [Int.toNat_natCast, Nat.mul_one, Nat.add_zero, add_plain] at hy3
    exact ⟨f, _, hy3⟩
  have fi := fi 0
  have fj := fj 0
  rw [sp_at] at fi fj
  simp only [Int.toNat_natCast, Nat.mul_one, Nat.add_zero, add_plain] at hx hy h1 h2
  have HG := Aside0.mk (sp_drew w (some g))
  have H1 := Aside0.mk h1.2
  have H2 := Aside0.mk h2
  have H3 := Aside0.mk h3
  clear hR hR' h1 h2 h3 hc3 hm3 hcc3 fj3 hl h1'
  go_enter Try.func86, Try.ntmps86
  go_upto_region 0 with (fail)
  refine start_ (n := 16) (S := fun w' => w'.cell? ⟨g, i, none⟩ = some (.int .i64 (rd l (i : Int))) ∧ w'.cell? ⟨g, j, none⟩ = some (.int .i64 (rd l (j : Int)))) (ds := [13, 15]) #[false, false, false, false, false, false, false, false, false, false, false, false, false, false, false, false] (by kernel_rfl) rfl rfl ⟨hx, hy⟩ (fun hHeld => ?_)
  generalize w.drew = W at hHeld HG fi fj H1 H2 H3 ⊢
  refine pure_ (i := 0) (N := some 6) (v := ?_) (a' := ?_) #[true, false, false, false, false, false, false, false, false, false, false, false, false, false, false, false] rfl rfl (by kernel_rfl) (fun _ _ _ h => h) (Or.inl ⟨by rfl, ?_⟩) ?_ ?_
  rotate_left
  · intro w'
    go_simp
    with_reducible rfl
  rotate_left
  · simp only [Act.put, List.setIfInBounds_toArray, List.set_cons_zero, List.set_cons_succ, i64_w, i32_w]
    rfl
  refine pure_ (i := 1) (N := some 7) (v := ?_) (a' := ?_) #[true, true, false, false, false, false, false, false, false, false, false, false, false, false, false, false] rfl rfl (by kernel_rfl) (fun _ _ _ h => h) (Or.inl ⟨by rfl, ?_⟩) ?_ ?_
  rotate_left
  · intro w'
    go_simp
    with_reducible rfl
  rotate_left
  · simp only [Act.put, List.setIfInBounds_toArray, List.set_cons_zero, List.set_cons_succ, i64_w, i32_w]
    rfl
  refine pure_ (i := 2) (N := some 8) (v := ?_) (a' := ?_) #[true, true, true, false, false, false, false, false, false, false, false, false, false, false, false, false] rfl rfl (by kernel_rfl) (fun _ _ _ h => h) (Or.inl ⟨by rfl, ?_⟩) ?_ ?_
  rotate_left
  · intro w'
    go_simp
    with_reducible rfl
  rotate_left
  · simp only [Act.put, List.setIfInBounds_toArray, List.set_cons_zero, List.set_cons_succ, i64_w, i32_w]
    rfl
  refine pure_ (i := 3) (N := some 9) (v := ?_) (a' := ?_) #[true, true, true, true, false, false, false, false, false, false, false, false, false, false, false, false] rfl rfl (by kernel_rfl) (fun _ _ _ h => h) (Or.inl ⟨by rfl, ?_⟩) ?_ ?_
  rotate_left
  · intro w'
    go_simp
    with_reducible rfl
  rotate_left
  · simp only [Act.put, List.setIfInBounds_toArray, List.set_cons_zero, List.set_cons_succ, i64_w, i32_w]
    rfl
  refine pure_ (i := 4) (N := some 10) (v := ?_) (a' := ?_) #[true, true, true, true, true, false, false, false, false, false, false, false, false, false, false, false] rfl rfl (by kernel_rfl) (fun _ _ _ h => h) (Or.inl ⟨by rfl, ?_⟩) ?_ ?_
  rotate_left
  · intro w'
    go_simp
    with_reducible rfl
  rotate_left
  · simp only [Act.put, List.setIfInBounds_toArray, List.set_cons_zero, List.set_cons_succ, i64_w, i32_w]
    rfl
  refine pure_ (i := 5) (N := some 11) (v := ?_) (a' := ?_) #[true, true, true, true, true, true, false, false, false, false, false, false, false, false, false, false] rfl rfl (by kernel_rfl) (fun _ _ _ h => h) (Or.inl ⟨by rfl, ?_⟩) ?_ ?_
  rotate_left
  · intro w'
    go_simp
    with_reducible rfl
  rotate_left
  · simp only [Act.put, List.setIfInBounds_toArray, List.set_cons_zero, List.set_cons_succ, i64_w, i32_w]
    rfl
  refine pure_ (i := 6) (N := some 12) (v := ?_) (a' := ?_) #[true, true, true, true, true, true, true, false, false, false, false, false, false, false, false, false] rfl rfl (by kernel_rfl) (fun _ _ _ h => h) (Or.inl ⟨by rfl, ?_⟩) ?_ ?_
  rotate_left
  · intro w'
    go_simp
    with_reducible rfl
  rotate_left
  · simp only [Act.put, List.setIfInBounds_toArray, List.set_cons_zero, List.set_cons_succ, i64_w, i32_w]
    rfl
  refine pure_ (i := 8) (N := some 14) (v := ?_) (a' := ?_) #[true, true, true, true, true, true, true, false, true, false, false, false, false, false, false, false] rfl rfl (by kernel_rfl) (fun _ _ _ h => h) (Or.inl ⟨by rfl, ?_⟩) ?_ ?_
  rotate_left
  · intro w'
    go_simp
    with_reducible rfl
  rotate_left
  · simp only [Act.put, List.setIfInBounds_toArray, List.set_cons_zero, List.set_cons_succ, i64_w, i32_w]
    rfl
  refine pure_ (i := 9) (N := some 15) (v := ?_) (a' := ?_) #[true, true, true, true, true, true, true, false, true, true, false, false, false, false, false, false] rfl rfl (by kernel_rfl) (fun _ _ _ h => h) (Or.inl ⟨by rfl, ?_⟩) ?_ ?_
  rotate_left
  · intro w'
    go_simp
    with_reducible rfl
  rotate_left
  · simp only [Act.put, List.setIfInBounds_toArray, List.set_cons_zero, List.set_cons_succ, i64_w, i32_w]
    rfl
  refine pure_ (i := 10) (N := some 16) (v := ?_) (a' := ?_) #[true, true, true, true, true, true, true, false, true, true, true, false, false, false, false, false] rfl rfl (by kernel_rfl) (fun _ _ _ h => h) (Or.inl ⟨by rfl, ?_⟩) ?_ ?_
  rotate_left
  · intro w'
    go_simp
    with_reducible rfl
  rotate_left
  · simp only [Act.put, List.setIfInBounds_toArray, List.set_cons_zero, List.set_cons_succ, i64_w, i32_w]
    rfl
  refine take_ (i := 7) (N := some 13) (v := ?_) (a' := ?_) #[true, true, true, true, true, true, true, true, true, true, true, false, false, false, false, false] rfl rfl (by kernel_rfl) (fun _ _ _ h => h) (Or.inl ⟨by rfl, ?_⟩) hHeld ?_ ?_
  rotate_left
  · rintro w' ⟨s0, s1⟩
    go_simp
    with_reducible rfl
  rotate_left
  · simp only [Act.put, List.setIfInBounds_toArray, List.set_cons_zero, List.set_cons_succ, i64_w, i32_w]
    rfl
  refine take_ (i := 11) (N := some 17) (v := ?_) (a' := ?_) #[true, true, true, true, true, true, true, true, true, true, true, true, false, false, false, false] rfl rfl (by kernel_rfl) (fun _ _ _ h => h) (Or.inl ⟨by rfl, ?_⟩) hHeld ?_ ?_
  rotate_left
  · rintro w' ⟨s0, s1⟩
    go_simp
    with_reducible rfl
  rotate_left
  · simp only [Act.put, List.setIfInBounds_toArray, List.set_cons_zero, List.set_cons_succ, i64_w, i32_w]
    rfl
  refine pure_ (i := 12) (N := some 18) (v := ?_) (a' := ?_) #[true, true, true, true, true, true, true, true, true, true, true, true, true, false, false, false] rfl rfl (by kernel_rfl) (fun _ _ _ h => h) (Or.inl ⟨by rfl, ?_⟩) ?_ ?_
  rotate_left
  · intro w'
    go_simp
    with_reducible rfl
  rotate_left
  · simp only [Act.put, List.setIfInBounds_toArray, List.set_cons_zero, List.set_cons_succ, i64_w, i32_w]
    rfl
  refine last_ (i := 13) (N := none) #[true, true, true, true, true, true, true, true, true, true, true, true, true, true, false, false] rfl rfl (by kernel_rfl) (by decide) (fun K hK => ?_)
  refine skip_ (w1 := ?_) (by rfl) rfl ?_ ?_
  rotate_left
  · go_simp
    rfl
  refine hK.out _ _ ?_
  clear hK K
  refine pure_ (i := 14) (N := some 19) (v := ?_) (a' := ?_) #[true, true, true, true, true, true, true, true, true, true, true, true, true, true, true, false] rfl rfl (by kernel_rfl) (fun _ _ _ h => h) (Or.inl ⟨by rfl, ?_⟩) ?_ ?_
  rotate_left
  · intro w'
    go_simp
    with_reducible rfl
  rotate_left
  · simp only [Act.put, List.setIfInBounds_toArray, List.set_cons_zero, List.set_cons_succ, i64_w, i32_w]
    rfl
  refine last_ (i := 15) (N := none) #[true, true, true, true, true, true, true, true, true, true, true, true, true, true, true, true] rfl rfl (by kernel_rfl) (by decide) (fun K hK => ?_)
  have fj2 : (W.setCell ⟨g, i, none⟩ (.int .i64 (rd l (j : Int)))).frozen? ⟨g, j, none⟩ = false := H3.out.1
  obtain ⟨y2, hy2⟩ := H3.out.2
  refine skip_ (w1 := ?_) (by rfl) rfl ?_ ?_
  rotate_left
  · go_simp
    rfl
  refine hK.out _ _ ?_
  clear hK K
  refine done_ (by kernel_rfl) ?_
  try go_wp2
  (try simp only [Exit.inBlock, Exit.then])
  first | refine bodyPost_ret (results_none rfl _ _ _) rfl ?_ | refine bodyPost_end (results_none rfl _ _ _) rfl ?_
  exact ⟨rfl, H2.out.1, sp_trans HG.out (sp_trans H1.out H2.out.2)⟩
/- The heap behind a pointer: what its methods are, and what they do. -/
def hp_st (w : World) (p : Nat) (vT : Value) (g c : Nat) (l : List Int) : Prop := w.heap[p]? = some (.cells #[vT, .slice (some ⟨g, 0, none⟩) l.length c] 78 (0, 0))
theorem hp_cell {w : World} {p : Nat} {vT : Value} {g c : Nat} {l : List Int} (h : hp_st w p vT g c l) : w.cell? ⟨p, 1, none⟩ = some (.slice (some ⟨g, 0, none⟩) l.length c) := (blk_cell h 1).trans rfl
theorem hv_Len {p n c : Nat} {A : Option Addr} {w : World} (h1 : w.cell? ⟨p, 1, none⟩ = some (.slice A n c)) : Sem.run Try.prog (method 210 82 (.pointer (some ⟨p, 1, none⟩)) "Len") w = .ok (84, .slice A n c) w := heap_v "Len" 84 (heap_find "Len" 84 false rfl rfl rfl) p A n c w h1
theorem hv_Less {p n c : Nat} {A : Option Addr} {w : World} (h1 : w.cell? ⟨p, 1, none⟩ = some (.slice A n c)) : Sem.run Try.prog (method 210 82 (.pointer (some ⟨p, 1, none⟩)) "Less") w = .ok (85, .slice A n c) w := heap_v "Less" 85 (heap_find "Less" 85 false rfl rfl rfl) p A n c w h1
theorem hv_Swap {p n c : Nat} {A : Option Addr} {w : World} (h1 : w.cell? ⟨p, 1, none⟩ = some (.slice A n c)) : Sem.run Try.prog (method 210 82 (.pointer (some ⟨p, 1, none⟩)) "Swap") w = .ok (86, .slice A n c) w := heap_v "Swap" 86 (heap_find "Swap" 86 false rfl rfl rfl) p A n c w h1
/- What a step of the heap leaves: the list's block alone is another. -/
def hp_in (base : Nat) (w : World) (p : Nat) (vT : Value) (g c N : Nat) (l : List Int) : Prop := l.length = N ∧ hp_st w p vT g c l ∧ Kd.R (Kd.int .i64) 3 w base (fun _ => True) (.slice (some ⟨g, 0, none⟩) l.length c) l
theorem hp_cl {base : Nat} {w : World} {p : Nat} {vT : Value} {g c N : Nat} {l : List Int} (h : hp_in base w p vT g c N l) : w.cell? ⟨p, 1, none⟩ = some (.slice (some ⟨g, 0, none⟩) N c) := by rw [← h.1]; exact hp_cell h.2.1
theorem hp_in_grown {base : Nat} {w w1 : World} {p : Nat} {vT : Value} {g c N : Nat} {l l1 : List Int} (h : hp_in base w p vT g c N l) (hl : l1.length = l.length) (hR : Kd.R (Kd.int .i64) 3 w1 base (fun _ => True) (.slice (some ⟨g, 0, none⟩) l.length c) l1) (hg : w.grownBy w1 (some g)) : hp_in base w1 p vT g c N l1 := by
  have hne : some p ≠ (Value.slice (some ⟨g, 0, none⟩) l.length c).ownBlock := Kd.R_ne h.2.2 h.2.1 (by decide)
  have hlt : p < w.heap.size := by
    by_cases hp : p < w.heap.size
    · exact hp
    · have e := h.2.1; unfold hp_st at e; rw [Array.getElem?_eq_none (by omega)] at e; exact absurd e (by simp)
  refine ⟨by rw [hl, h.1], ?_, by rw [hl]; exact hR⟩
  show w1.heap[p]? = _
  rw [hl, hg.block p hlt hne]
  exact h.2.1
theorem hp_in_drawn {base : Nat} {w w1 : World} {p : Nat} {vT : Value} {g c N : Nat} {l : List Int} (h : hp_in base w p vT g c N l) (hd : Drawn0 w w1) : hp_in base w1 p vT g c N l := hp_in_grown h rfl (Kd.R_below h.2.2 (sp_drawn hd)) (grown_of_below (sp_drawn hd) _)
theorem hp_Less {base p g c N : Nat} {vT : Value} {l : List Int} {w : World} (x y : Int) (i j : Nat) (b : Bool) (ex : x = i) (ey : y = j) (hi : i < N) (hj : j < N) (hb : decide (rd l (i : Int) < rd l (j : Int)) = b) (h : hp_in base w p vT g c N l) :
    Calls Try.prog 85 #[.slice (some ⟨g, 0, none⟩) N c, .int .i64 x, .int .i64 y] w fun e w' => e = .returned (.bool b) ∧ hp_in base w' p vT g c N l ∧ w.grownBy w' (some g) := by
  obtain ⟨rfl, h1, h2⟩ := h
  subst ex ey hb
  refine (least_Less _ c l i j w hi hj (Kd.R_reads' h2).2.2).mono ?_
  rintro e w' ⟨rfl, hd⟩
  exact ⟨rfl, hp_in_drawn ⟨rfl, h1, h2⟩ hd, grown_of_below (sp_drawn hd) _⟩
theorem hp_Swap {base p g c N : Nat} {vT : Value} {l : List Int} {w : World} (x y : Int) (i j : Nat) (ex : x = i) (ey : y = j) (hi : i < N) (hj : j < N) (h : hp_in base w p vT g c N l) :
    Calls Try.prog 86 #[.slice (some ⟨g, 0, none⟩) N c, .int .i64 x, .int .i64 y] w fun e w' => e = .returned (.tuple #[]) ∧ hp_in base w' p vT g c N (sw l i j) ∧ w.grownBy w' (some g) := by
  obtain ⟨rfl, h1, h2⟩ := h
  subst ex ey
  refine (least_Swap base _ g c l i j w hi hj h2).mono ?_
  rintro e w' ⟨rfl, hR, hg⟩
  exact ⟨rfl, hp_in_grown ⟨rfl, h1, h2⟩ (sw_len _ _ _) hR hg, hg⟩
theorem hp_Len {base p g c N : Nat} {vT : Value} {l : List Int} {w : World} (h : hp_in base w p vT g c N l) : Calls Try.prog 84 #[.slice (some ⟨g, 0, none⟩) N c] w fun e w' => e = .returned (.int .i64 (N : Int)) ∧ hp_in base w' p vT g c N l ∧ w.grownBy w' (some g) := by
  refine (least_Len _ _ _ w).mono ?_
  rintro e w' ⟨rfl, hd⟩
  exact ⟨rfl, hp_in_drawn h hd, grown_of_below (sp_drawn hd) _⟩
def ch (n : Nat) (l : List Int) (i : Nat) : Nat := if 2 * i + 2 < n ∧ rd l ((2 * i + 2 : Nat) : Int) < rd l ((2 * i + 1 : Nat) : Int) then 2 * i + 2 else 2 * i + 1
def dn (n : Nat) : Nat → List Int → Nat → List Int
  | 0, l, _ => l
  | k + 1, l, i => if n ≤ 2 * i + 1 then l else if rd l (ch n l i : Int) < rd l (i : Int) then dn n k (sw l i (ch n l i)) (ch n l i) else l
theorem dn_len (n k : Nat) : ∀ (l : List Int) (i : Nat), (dn n k l i).length = l.length := by
  induction k with
  | zero => intro l i; rfl
  | succ k ih =>
    intro l i
    unfold dn
    split
    · rfl
    · split
      · rw [ih, sw_len]
      · rfl
set_option maxRecDepth 8000 in
set_option maxHeartbeats 8000000 in
theorem hpDown (base p g c n N : Nat) (vT : Value) (l0 : List Int) (w : World) (hn : n ≤ N) (hm : N ≤ 1000000) (h0 : 0 < N) (h : hp_in base w p vT g c N l0) :
    Calls Try.prog 66 #[.iface 82 (.pointer (some ⟨p, 1, none⟩)), .int .i64 0, .int .i64 (n : Int)] w fun e w' => (∃ b, e = .returned (.bool b)) ∧ hp_in base w' p vT g c N (dn n N l0 0) ∧ w.grownBy w' (some g) := by
  have H := Aside0.mk h
  have G := Aside0.mk (show w.grownBy w (some g) from ⟨rfl, rfl, rfl, Nat.le_refl _, fun _ _ _ => rfl⟩)
  clear h
  obtain ⟨F, hF⟩ : ∃ F, F = dn n N l0 0 := ⟨_, rfl⟩
  rw [← hF]
  have HF := Aside0.mk hF
  clear hF
  go_enter Try.func66, Try.ntmps66
  go_wp2
  go_loopw [7] (fun v7 wr => ∃ (i k : Nat) (l : List Int), i < N ∧ v7 = .int .i64 (i : Int) ∧ n ≤ k + i ∧ Aside0 (dn n k l i = F) ∧ Aside0 (hp_in base wr p vT g c N l) ∧ Aside0 (w.grownBy wr (some g))) (fun v7 _ => N - (intOf v7).toNat)
  case atStart => exact ⟨0, N, l0, h0, rfl, by omega, ⟨HF.out.symm⟩, H, G⟩
  case round =>
    obtain ⟨i, k, l, hi, rfl, hk, E, HI, HG⟩ := hrel
    have w1 : IntKind.i64.wrap (2 * (i : Int)) = 2 * (i : Int) := by rw [i64_w]; exact IntWalk.wrap64_in _ (by omega)
    have w2 : IntKind.i64.wrap (2 * (i : Int) + 1) = 2 * (i : Int) + 1 := by rw [i64_w]; exact IntWalk.wrap64_in _ (by omega)
    have w3 : IntKind.i64.wrap (2 * (i : Int) + 1 + 1) = 2 * (i : Int) + 1 + 1 := by rw [i64_w]; exact IntWalk.wrap64_in _ (by omega)
    by_cases c1 : n ≤ 2 * i + 1
    · have c1b : decide ((n : Int) ≤ 2 * (i : Int) + 1) = true := decide_eq_true (by omega)
      have D : l = F := by rw [← E.out]; cases k <;> unfold dn <;> simp [c1]
      have DD := Aside0.mk D
      clear D
      go_wp2
      go_ret
      exact ⟨⟨_, rfl⟩, DD.out ▸ HI.out, HG.out⟩
    · have c1b : decide ((n : Int) ≤ 2 * (i : Int) + 1) = false := decide_eq_false (by omega)
      have c1c : decide (2 * (i : Int) + 1 < 0) = false := decide_eq_false (by omega)
      obtain ⟨k, rfl⟩ : ∃ k', k = k' + 1 := ⟨k - 1, by omega⟩
      have DE := Aside0.mk (show (if rd l (ch n l i : Int) < rd l (i : Int) then dn n k (sw l i (ch n l i)) (ch n l i) else l) = F by rw [← E.out]; conv => rhs; unfold dn; rw [if_neg c1])
      clear E
      by_cases c2 : 2 * i + 2 < n
      · have c2b : decide (2 * (i : Int) + 1 + 1 < (n : Int)) = true := decide_eq_true (by omega)
        by_cases c3 : rd l ((2 * i + 2 : Nat) : Int) < rd l ((2 * i + 1 : Nat) : Int)
        · have c3b := Aside0.mk (show decide (rd l ((2 * i + 2 : Nat) : Int) < rd l ((2 * i + 1 : Nat) : Int)) = true from decide_eq_true c3)
          have J := Aside0.mk (show ch n l i = 2 * i + 2 from if_pos ⟨c2, c3⟩)
          by_cases c4 : rd l ((2 * i + 2 : Nat) : Int) < rd l (i : Int)
          · have c4b := Aside0.mk (show decide (rd l ((2 * i + 2 : Nat) : Int) < rd l (i : Int)) = true from decide_eq_true c4)
            have DF := Aside0.mk (show dn n k (sw l i (2 * i + 2)) (2 * i + 2) = F by have t := DE.out; rw [J.out] at t; rw [if_pos c4] at t; exact t)
            clear DE
            go_wp2_with (first | (with_reducible rw [hv_Less (hp_cl HI.out)]; go_upon) | (go_at_call 85; refine (hp_Less (2 * (i : Int) + 1 + 1) _ (2 * i + 2) (2 * i + 1) true (by omega) (by omega) (by omega) (by omega) c3b.out HI.out).mono ?_; rintro e w7 ⟨rfl, hI, hG⟩; have H7 := Aside0.mk hI; have G7 := Aside0.mk (sp_trans HG.out hG); clear hI hG HI HG) | (with_reducible rw [hv_Less (hp_cl H7.out)]; go_upon) | (go_at_call 85; refine (hp_Less (2 * (i : Int) + 1 + 1) _ (2 * i + 2) (i) true (by omega) (by omega) (by omega) (by omega) c4b.out H7.out).mono ?_; rintro e w8 ⟨rfl, hI, hG⟩; have H8 := Aside0.mk hI; have G8 := Aside0.mk (sp_trans G7.out hG); clear hI hG H7 G7) | (with_reducible rw [hv_Swap (hp_cl H8.out)]; go_upon) | (go_at_call 86; refine (hp_Swap _ _ (i) (2 * i + 2) (by omega) (by omega) (by omega) (by omega) H8.out).mono ?_; rintro e w9 ⟨rfl, hI, hG⟩; have H9 := Aside0.mk hI; have G9 := Aside0.mk (sp_trans G8.out hG); clear hI hG))
            go_roundw
            case rel => exact ⟨2 * i + 2, k, sw l i (2 * i + 2), by omega, by go_num, by omega, DF, H9, G9⟩
            case measure => simp [intOf]; omega
          · have c4b := Aside0.mk (show decide (rd l ((2 * i + 2 : Nat) : Int) < rd l (i : Int)) = false from decide_eq_false c4)
            have DF := Aside0.mk (show l = F by have t := DE.out; rw [J.out] at t; rw [if_neg c4] at t; exact t)
            clear DE
            go_wp2_with (first | (with_reducible rw [hv_Less (hp_cl HI.out)]; go_upon) | (go_at_call 85; refine (hp_Less (2 * (i : Int) + 1 + 1) _ (2 * i + 2) (2 * i + 1) true (by omega) (by omega) (by omega) (by omega) c3b.out HI.out).mono ?_; rintro e w7 ⟨rfl, hI, hG⟩; have H7 := Aside0.mk hI; have G7 := Aside0.mk (sp_trans HG.out hG); clear hI hG HI HG) | (with_reducible rw [hv_Less (hp_cl H7.out)]; go_upon) | (go_at_call 85; refine (hp_Less (2 * (i : Int) + 1 + 1) _ (2 * i + 2) (i) false (by omega) (by omega) (by omega) (by omega) c4b.out H7.out).mono ?_; rintro e w8 ⟨rfl, hI, hG⟩; have H8 := Aside0.mk hI; have G8 := Aside0.mk (sp_trans G7.out hG); clear hI hG H7 G7))
            go_ret
            exact ⟨⟨_, rfl⟩, DF.out ▸ H8.out, G8.out⟩
        · have c3b := Aside0.mk (show decide (rd l ((2 * i + 2 : Nat) : Int) < rd l ((2 * i + 1 : Nat) : Int)) = false from decide_eq_false c3)
          have J := Aside0.mk (show ch n l i = 2 * i + 1 from if_neg (fun h => c3 h.2))
          by_cases c4 : rd l ((2 * i + 1 : Nat) : Int) < rd l (i : Int)
          · have c4b := Aside0.mk (show decide (rd l ((2 * i + 1 : Nat) : Int) < rd l (i : Int)) = true from decide_eq_true c4)
            have DF := Aside0.mk (show dn n k (sw l i (2 * i + 1)) (2 * i + 1) = F by have t := DE.out; rw [J.out] at t; rw [if_pos c4] at t; exact t)
            clear DE
            go_wp2_with (first | (with_reducible rw [hv_Less (hp_cl HI.out)]; go_upon) | (go_at_call 85; refine (hp_Less (2 * (i : Int) + 1 + 1) _ (2 * i + 2) (2 * i + 1) false (by omega) (by omega) (by omega) (by omega) c3b.out HI.out).mono ?_; rintro e w7 ⟨rfl, hI, hG⟩; have H7 := Aside0.mk hI; have G7 := Aside0.mk (sp_trans HG.out hG); clear hI hG HI HG) | (with_reducible rw [hv_Less (hp_cl H7.out)]; go_upon) | (go_at_call 85; refine (hp_Less _ _ (2 * i + 1) (i) true (by omega) (by omega) (by omega) (by omega) c4b.out H7.out).mono ?_; rintro e w8 ⟨rfl, hI, hG⟩; have H8 := Aside0.mk hI; have G8 := Aside0.mk (sp_trans G7.out hG); clear hI hG H7 G7) | (with_reducible rw [hv_Swap (hp_cl H8.out)]; go_upon) | (go_at_call 86; refine (hp_Swap _ _ (i) (2 * i + 1) (by omega) (by omega) (by omega) (by omega) H8.out).mono ?_; rintro e w9 ⟨rfl, hI, hG⟩; have H9 := Aside0.mk hI; have G9 := Aside0.mk (sp_trans G8.out hG); clear hI hG))
            go_roundw
            case rel => exact ⟨2 * i + 1, k, sw l i (2 * i + 1), by omega, by go_num, by omega, DF, H9, G9⟩
            case measure => simp [intOf]; omega
          · have c4b := Aside0.mk (show decide (rd l ((2 * i + 1 : Nat) : Int) < rd l (i : Int)) = false from decide_eq_false c4)
            have DF := Aside0.mk (show l = F by have t := DE.out; rw [J.out] at t; rw [if_neg c4] at t; exact t)
            clear DE
            go_wp2_with (first | (with_reducible rw [hv_Less (hp_cl HI.out)]; go_upon) | (go_at_call 85; refine (hp_Less (2 * (i : Int) + 1 + 1) _ (2 * i + 2) (2 * i + 1) false (by omega) (by omega) (by omega) (by omega) c3b.out HI.out).mono ?_; rintro e w7 ⟨rfl, hI, hG⟩; have H7 := Aside0.mk hI; have G7 := Aside0.mk (sp_trans HG.out hG); clear hI hG HI HG) | (with_reducible rw [hv_Less (hp_cl H7.out)]; go_upon) | (go_at_call 85; refine (hp_Less _ _ (2 * i + 1) (i) false (by omega) (by omega) (by omega) (by omega) c4b.out H7.out).mono ?_; rintro e w8 ⟨rfl, hI, hG⟩; have H8 := Aside0.mk hI; have G8 := Aside0.mk (sp_trans G7.out hG); clear hI hG H7 G7))
            go_ret
            exact ⟨⟨_, rfl⟩, DF.out ▸ H8.out, G8.out⟩
      · have c2b : decide (2 * (i : Int) + 1 + 1 < (n : Int)) = false := decide_eq_false (by omega)
        have J := Aside0.mk (show ch n l i = 2 * i + 1 from if_neg (fun h => c2 h.1))
        by_cases c4 : rd l ((2 * i + 1 : Nat) : Int) < rd l (i : Int)
        · have c4b := Aside0.mk (show decide (rd l ((2 * i + 1 : Nat) : Int) < rd l (i : Int)) = true from decide_eq_true c4)
          have DF := Aside0.mk (show dn n k (sw l i (2 * i + 1)) (2 * i + 1) = F by have t := DE.out; rw [J.out] at t; rw [if_pos c4] at t; exact t)
          clear DE
          go_wp2_with (first | (with_reducible rw [hv_Less (hp_cl HI.out)]; go_upon) | (go_at_call 85; refine (hp_Less _ _ (2 * i + 1) (i) true (by omega) (by omega) (by omega) (by omega) c4b.out HI.out).mono ?_; rintro e w8 ⟨rfl, hI, hG⟩; have H8 := Aside0.mk hI; have G8 := Aside0.mk (sp_trans HG.out hG); clear hI hG HI HG) | (with_reducible rw [hv_Swap (hp_cl H8.out)]; go_upon) | (go_at_call 86; refine (hp_Swap _ _ (i) (2 * i + 1) (by omega) (by omega) (by omega) (by omega) H8.out).mono ?_; rintro e w9 ⟨rfl, hI, hG⟩; have H9 := Aside0.mk hI; have G9 := Aside0.mk (sp_trans G8.out hG); clear hI hG))
          go_roundw
          case rel => exact ⟨2 * i + 1, k, sw l i (2 * i + 1), by omega, by go_num, by omega, DF, H9, G9⟩
          case measure => simp [intOf]; omega
        · have c4b := Aside0.mk (show decide (rd l ((2 * i + 1 : Nat) : Int) < rd l (i : Int)) = false from decide_eq_false c4)
          have DF := Aside0.mk (show l = F by have t := DE.out; rw [J.out] at t; rw [if_neg c4] at t; exact t)
          clear DE
          go_wp2_with (first | (with_reducible rw [hv_Less (hp_cl HI.out)]; go_upon) | (go_at_call 85; refine (hp_Less _ _ (2 * i + 1) (i) false (by omega) (by omega) (by omega) (by omega) c4b.out HI.out).mono ?_; rintro e w8 ⟨rfl, hI, hG⟩; have H8 := Aside0.mk hI; have G8 := Aside0.mk (sp_trans HG.out hG); clear hI hG HI HG))
          go_ret
          exact ⟨⟨_, rfl⟩, DF.out ▸ H8.out, G8.out⟩
def upl : Nat → List Int → Nat → List Int
  | 0, l, _ => l
  | k + 1, l, j => if j = 0 then l else if rd l (j : Int) < rd l (((j - 1) / 2 : Nat) : Int) then upl k (sw l ((j - 1) / 2) j) ((j - 1) / 2) else l
theorem upl_len (k : Nat) : ∀ (l : List Int) (j : Nat), (upl k l j).length = l.length := by
  induction k with
  | zero => intro l i; rfl
  | succ k ih =>
    intro l i
    unfold upl
    split
    · rfl
    · split
      · rw [ih, sw_len]
      · rfl
set_option maxRecDepth 8000 in
set_option maxHeartbeats 8000000 in
theorem hpUp (base p g c N : Nat) (vT : Value) (l0 : List Int) (w : World) (hm : N ≤ 1000000) (h0 : 0 < N) (h : hp_in base w p vT g c N l0) :
    Calls Try.prog 67 #[.iface 82 (.pointer (some ⟨p, 1, none⟩)), .int .i64 ((N : Int) - 1)] w fun e w' => e = .returned (.tuple #[]) ∧ hp_in base w' p vT g c N (upl N l0 (N - 1)) ∧ w.grownBy w' (some g) := by
  have H := Aside0.mk h
  have G := Aside0.mk (show w.grownBy w (some g) from ⟨rfl, rfl, rfl, Nat.le_refl _, fun _ _ _ => rfl⟩)
  clear h
  obtain ⟨F, hF⟩ : ∃ F, F = upl N l0 (N - 1) := ⟨_, rfl⟩
  rw [← hF]
  have HF := Aside0.mk hF
  clear hF
  go_enter Try.func67, Try.ntmps67
  go_wp2
  go_loopw [1] (fun v1 wr => ∃ (j k : Nat) (l : List Int), j < N ∧ v1 = .int .i64 (j : Int) ∧ j < k ∧ Aside0 (upl k l j = F) ∧ Aside0 (hp_in base wr p vT g c N l) ∧ Aside0 (w.grownBy wr (some g))) (fun v1 _ => (intOf v1).toNat)
  case atStart => exact ⟨N - 1, N, l0, by omega, by congr 1; omega, by omega, ⟨HF.out.symm⟩, H, G⟩
  case round =>
    obtain ⟨j, k, l, hi, rfl, hk, E, HI, HG⟩ := hrel
    obtain ⟨k, rfl⟩ : ∃ k', k = k' + 1 := ⟨k - 1, by omega⟩
    have w1 : IntKind.i64.wrap ((j : Int) - 1) = (j : Int) - 1 := by rw [i64_w]; exact IntWalk.wrap64_in _ (by omega)
    by_cases c1 : j = 0
    · have DD := Aside0.mk (show l = F by rw [← E.out]; unfold upl; rw [if_pos c1])
      have q1 : Int.tdiv ((j : Int) - 1) 2 = 0 := by subst c1; rfl
      go_wp2
      (try simp only [Exit.inBlock, Exit.then])
      first | refine bodyPost_ret (results_none rfl _ _ _) rfl ?_ | refine bodyPost_end (results_none rfl _ _ _) rfl ?_
      exact ⟨rfl, DD.out ▸ HI.out, HG.out⟩
    · obtain ⟨i, ei⟩ : ∃ i, i = (j - 1) / 2 := ⟨_, rfl⟩
      have hij : i < j := by omega
      have q1 : Int.tdiv ((j : Int) - 1) 2 = (i : Int) := by rw [show (j : Int) - 1 = ((j - 1 : Nat) : Int) by omega, ei]; rfl
      have w2 : IntKind.i64.wrap (i : Int) = (i : Int) := by rw [i64_w]; exact IntWalk.wrap64_in _ (by omega)
      have c1b : decide (i = j) = false := decide_eq_false (by omega)
      have DE := Aside0.mk (show (if rd l (j : Int) < rd l (i : Int) then upl k (sw l i j) i else l) = F by rw [← E.out, ei]; conv => rhs; unfold upl; rw [if_neg c1])
      clear E ei
      by_cases c4 : rd l (j : Int) < rd l (i : Int)
      · have c4b := Aside0.mk (show decide (rd l (j : Int) < rd l (i : Int)) = true from decide_eq_true c4)
        have DF := Aside0.mk (show upl k (sw l i j) i = F by have t := DE.out; rw [if_pos c4] at t; exact t)
        clear DE
        go_wp2_with (first | (with_reducible rw [hv_Less (hp_cl HI.out)]; go_upon) | (go_at_call 85; refine (hp_Less _ _ j i true (by omega) (by omega) (by omega) (by omega) c4b.out HI.out).mono ?_; rintro e w8 ⟨rfl, hI, hG⟩; have H8 := Aside0.mk hI; have G8 := Aside0.mk (sp_trans HG.out hG); clear hI hG HI HG) | (with_reducible rw [hv_Swap (hp_cl H8.out)]; go_upon) | (go_at_call 86; refine (hp_Swap _ _ i j (by omega) (by omega) (by omega) (by omega) H8.out).mono ?_; rintro e w9 ⟨rfl, hI, hG⟩; have H9 := Aside0.mk hI; have G9 := Aside0.mk (sp_trans G8.out hG); clear hI hG))
        go_roundw
        case rel => exact ⟨i, k, sw l i j, by omega, by go_num, by omega, DF, H9, G9⟩
        case measure => simp [intOf]; omega
      · have c4b := Aside0.mk (show decide (rd l (j : Int) < rd l (i : Int)) = false from decide_eq_false c4)
        have DF := Aside0.mk (show l = F by have t := DE.out; rw [if_neg c4] at t; exact t)
        clear DE
        go_wp2_with (first | (with_reducible rw [hv_Less (hp_cl HI.out)]; go_upon) | (go_at_call 85; refine (hp_Less _ _ j i false (by omega) (by omega) (by omega) (by omega) c4b.out HI.out).mono ?_; rintro e w8 ⟨rfl, hI, hG⟩; have H8 := Aside0.mk hI; have G8 := Aside0.mk (sp_trans HG.out hG); clear hI hG HI HG))
        (try simp only [Exit.inBlock, Exit.then])
        first | refine bodyPost_ret (results_none rfl _ _ _) rfl ?_ | refine bodyPost_end (results_none rfl _ _ _) rfl ?_
        exact ⟨rfl, DF.out ▸ H8.out, G8.out⟩
/- What an act on a space leaves: other blocks stay. -/
def spk (w w' : World) (p : Nat) (o : Option Nat) : Prop := w'.os = w.os ∧ w'.tape = w.tape ∧ w'.output = w.output ∧ w.heap.size ≤ w'.heap.size ∧ ∀ i, i < w.heap.size → i ≠ p → some i ≠ o → w'.heap[i]? = w.heap[i]?
theorem spk_refl (w : World) (p : Nat) (o : Option Nat) : spk w w p o := ⟨rfl, rfl, rfl, Nat.le_refl _, fun _ _ _ _ => rfl⟩
theorem spk_grown {w w' : World} {p : Nat} {o : Option Nat} (h : w.grownBy w' o) : spk w w' p o := ⟨h.os, h.tape, h.output, h.size, fun i hi _ hne => h.block i hi hne⟩
theorem spk_own {w w' : World} {p : Nat} {o : Option Nat} (h : w.grownBy w' (some p)) : spk w w' p o := ⟨h.os, h.tape, h.output, h.size, fun i hi hne _ => h.block i hi (fun e => hne (by injection e))⟩
theorem spk_trans {w w1 w2 : World} {p : Nat} {o o' : Option Nat} (h : spk w w1 p o) (k : spk w1 w2 p o') (ho : o' = o ∨ ∀ b, o' = some b → w.heap.size ≤ b) : spk w w2 p o := by
  obtain ⟨a1, a2, a3, a4, a5⟩ := h
  obtain ⟨b1, b2, b3, b4, b5⟩ := k
  refine ⟨b1.trans a1, b2.trans a2, b3.trans a3, Nat.le_trans a4 b4, fun i hi hp hne => (b5 i (by omega) hp ?_).trans (a5 i hi hp hne)⟩
  rcases ho with ho | ho
  · rw [ho]; exact hne
  · intro e; have := ho i e.symm; omega
theorem spk_below {w0 w w' : World} {p : Nat} {o : Option Nat} (hB : Below w0.heap.size w0 w) (h : spk w w' p o) (hp : w0.heap.size ≤ p) (ho : ∀ b, o = some b → w0.heap.size ≤ b) : Below w0.heap.size w0 w' :=
  ⟨h.1.trans hB.os, h.2.1.trans hB.tape, h.2.2.1.trans hB.output, Nat.le_trans hB.size h.2.2.2.1, fun i hi => (h.2.2.2.2 i (Nat.lt_of_lt_of_le hi hB.size) (by omega) (fun e => by have := ho i e.symm; omega)).trans (hB.block i hi)⟩
theorem sp_set {w : World} {g p : Nat} {v : Value} : w.grownBy (w.setCell ⟨g, p, none⟩ v) (some g) := by
  refine ⟨rfl, rfl, rfl, by simp [World.setCell], fun i hi hne => ?_⟩
  have : i ≠ g := fun e => hne (by rw [e])
  simp only [World.setCell]
  rw [Array.getElem?_modify, if_neg (Ne.symm this)]
theorem hp_x {base p g c N : Nat} {vT : Value} {l : List Int} {w : World} (h : hp_in base w p vT g c N l) (h0 : 0 < N) : w.cell? ⟨g, N - 1, none⟩ = some (.int .i64 (rd l ((N : Int) - 1))) := by
  obtain ⟨rfl, h1, h2⟩ := h
  obtain ⟨a1, e1, hx⟩ := Kd.at_int (Kd.R_reads' h2).2.2 ((l.length : Int) - 1) (by omega) (by omega)
  cases e1
  have e : ((l.length : Int) - 1).toNat = l.length - 1 := by omega
  simp only [e, add_plain] at hx
  exact hx
theorem hp_cut {base p g c N m : Nat} {vT : Value} {l : List Int} {w : World} (h : hp_in base w p vT g c N l) (hm : m ≤ N) : hp_in base (w.setCell ⟨p, 1, none⟩ (.slice (some ⟨g, 0, none⟩) m c)) p vT g c m (l.take m) := by
  have e : (l.take m).length = m := by rw [List.length_take, h.1]; omega
  refine ⟨e, ?_, ?_⟩
  · unfold hp_st
    rw [e]
    exact (blk_set h.2.1 1 _).trans rfl
  · rw [e]
    exact Kd.R_set (Kd.R_take h.2.2 (m := m) (by rw [h.1]; exact hm)) h.2.1 (by decide) 1 _
theorem info3s : (Try.prog.info? 3).map (fun i => (i.zero, i.size, i.bytes)) = some (some (.int .i64 0), 1, 8) := by kernel_rfl
set_option maxHeartbeats 4000000 in
theorem least_Pop (base p g c N : Nat) (vT : Value) (l : List Int) (w : World) (hm : N ≤ 1000000) (h0 : 0 < N) (h : hp_in base w p vT g c N l) :
    Calls Try.prog 87 #[.pointer (some ⟨p, 1, none⟩)] w fun e w' => e = .returned (.iface 3 (.int .i64 (rd l ((N : Int) - 1)))) ∧ hp_in base w' p vT g c (N - 1) (l.take (N - 1)) ∧ spk w w' p (some g) := by
  have h1 := hp_cl h
  have h2 := hp_x h h0
  have f1 := blk_frozen h.2.1 1
  have w1 : IntKind.i64.wrap ((N : Int) - 1) = (N : Int) - 1 := by rw [i64_w]; exact IntWalk.wrap64_in _ (by omega)
  have t1 : ((N : Int) - 1).toNat = N - 1 := by omega
  have hlen := h.1
  obtain ⟨i0, hi0, _, hsz0, _⟩ := info_parts info3s
  have hT : ∀ W : World, (Instr.slice 76 (.slice (some ⟨g, 0, none⟩) N c) none (some (.int .i64 ((N : Int) - 1))) none).run Try.prog W = .ok (.slice (some ⟨g, 0, none⟩) (N - 1) c) W := by
    intro W
    have t := (print_take_of (P := Try.prog) (Value.int .i64) 0 76 3 .i64 Try.underlying76 hi0 hsz0 (some ⟨g, 0, none⟩) c l ((N : Int) - 1) (by omega) (by omega) (Kd.R_reads' h.2.2).2.1).1 W
    rw [List.length_take, t1, hlen, Nat.min_eq_left (by omega)] at t
    exact t
  have H := Aside0.mk h
  clear hi0 hsz0 h hlen
  go_enter Try.func87, Try.ntmps87
  go_wp2
  go_ret
  exact ⟨rfl, hp_cut H.out (by omega), spk_own sp_set⟩
theorem hv_Pop (p : Nat) (w : World) : Sem.run Try.prog (method 210 82 (.pointer (some ⟨p, 1, none⟩)) "Pop") w = .ok (87, .pointer (some ⟨p, 1, none⟩)) w := by kernel_rfl
theorem hv_Push (p : Nat) (w : World) : Sem.run Try.prog (method 210 82 (.pointer (some ⟨p, 1, none⟩)) "Push") w = .ok (88, .pointer (some ⟨p, 1, none⟩)) w := by kernel_rfl
/- What heap.Pop leaves, the number it tells behind it. -/
def hpo (l : List Int) : List Int := dn (l.length - 1) l.length (sw l 0 (l.length - 1)) 0
theorem hpo_len (l : List Int) : (hpo l).length = l.length := by unfold hpo; rw [dn_len, sw_len]
set_option maxRecDepth 8000 in
set_option maxHeartbeats 8000000 in
theorem hpPop (base p g c N : Nat) (vT : Value) (l : List Int) (w : World) (hm : N ≤ 1000000) (h0 : 0 < N) (h : hp_in base w p vT g c N l) :
    Calls Try.prog 62 #[.iface 82 (.pointer (some ⟨p, 1, none⟩))] w fun e w' => e = .returned (.iface 3 (.int .i64 (rd (hpo l) ((N : Int) - 1)))) ∧ hp_in base w' p vT g c (N - 1) ((hpo l).take (N - 1)) ∧ spk w w' p (some g) := by
  have w1 : IntKind.i64.wrap ((N : Int) - 1) = (N : Int) - 1 := by rw [i64_w]; exact IntWalk.wrap64_in _ (by omega)
  have hN := Aside0.mk h.1
  have H := Aside0.mk h
  clear h
  go_enter Try.func62, Try.ntmps62
  go_wp2_with (first | (with_reducible rw [hv_Len (hp_cl H.out)]; go_upon) | (go_at_call 84; refine (hp_Len H.out).mono ?_; rintro e w1 ⟨rfl, hI, hG⟩; have H1 := Aside0.mk hI; have G1 := Aside0.mk hG; clear hI hG H) | (with_reducible rw [hv_Swap (hp_cl H1.out)]; go_upon) | (go_at_call 86; refine (hp_Swap _ _ 0 (N - 1) (by omega) (by omega) (by omega) (by omega) H1.out).mono ?_; rintro e w2 ⟨rfl, hI, hG⟩; have H2 := Aside0.mk hI; have G2 := Aside0.mk (sp_trans G1.out hG); clear hI hG H1 G1) | (go_at_call 66; refine (show Calls _ _ _ _ _ from (show (((N - 1 : Nat) : Int)) = (N : Int) - 1 by omega) ▸ hpDown base p g c (N - 1) N vT _ w2 (by omega) hm h0 H2.out).mono ?_; rintro e w3 ⟨⟨b, rfl⟩, hI, hG⟩; have H3 := Aside0.mk hI; have G3 := Aside0.mk (sp_trans G2.out hG); clear hI hG H2 G2) | (with_reducible rw [hv_Pop]; go_upon) | (go_at_call 87; refine (least_Pop base p g c N vT _ w3 hm h0 H3.out).mono ?_; rintro e w4 ⟨rfl, hI, hG⟩; have H4 := Aside0.mk hI; have G4 := Aside0.mk (spk_trans (spk_grown G3.out) hG (.inl rfl)); clear hI hG H3 G3))
  go_ret
  have E : dn (N - 1) N (sw l 0 (N - 1)) 0 = hpo l := by unfold hpo; rw [hN.out]
  rw [E] at H4
  exact ⟨by rw [← E]; rfl, H4.out, G4.out⟩
/- The list behind a space's block, whatever its row. -/
def hq (base : Nat) (w : World) (p : Nat) (vT vF : Value) (l : List Int) : Prop := w.heap[p]? = some (.cells #[vT, vF] 78 (0, 0)) ∧ Kd.R (Kd.int .i64) 3 w base (fun _ => True) vF l
theorem hq_in {base p : Nat} {w : World} {vT vF : Value} {l : List Int} (h : hq base w p vT vF l) (h0 : 0 < l.length) : ∃ g c, vF = .slice (some ⟨g, 0, none⟩) l.length c ∧ hp_in base w p vT g c l.length l := by
  obtain ⟨g, c, rfl, _⟩ := Kd.R_form h.2 h0
  exact ⟨g, c, rfl, rfl, h.1, h.2⟩
theorem in_hq {base p g c N : Nat} {w : World} {vT : Value} {l : List Int} (h : hp_in base w p vT g c N l) : hq base w p vT (.slice (some ⟨g, 0, none⟩) N c) l := by
  obtain ⟨rfl, h1, h2⟩ := h
  exact ⟨h1, h2⟩
theorem ta_int (x : Int) (w : World) : (Instr.typeAssert (.iface 3 (.int .i64 x)) 20 3 false).run Try.prog w = .ok (.int .i64 x) w := by kernel_rfl
set_option maxRecDepth 8000 in
set_option maxHeartbeats 4000000 in
theorem least_Push (base p : Nat) (vT vF : Value) (l : List Int) (x : Int) (w : World) (hm : l.length ≤ 1000000) (hb : base ≤ w.heap.size) (h : hq base w p vT vF l) :
    Calls Try.prog 88 #[.pointer (some ⟨p, 1, none⟩), .iface 3 (.int .i64 x)] w fun e w' => e = .returned (.tuple #[]) ∧ ∃ vF', hq base w' p vT vF' (l ++ [x]) ∧ (vF'.ownBlock = vF.ownBlock ∨ ∃ b, vF'.ownBlock = some b ∧ w.heap.size ≤ b) ∧ spk w w' p vF.ownBlock := by
  have B0 := Aside0.mk (show w.drew.heap[p]? = some (.cells #[vT, vF] 78 (0, 0)) from h.1)
  have R0 := Aside0.mk (Kd.R_drew h.2)
  have L0 := Aside0.mk hm
  have S0 := Aside0.mk (show base ≤ w.drew.heap.size from hb)
  have G0 := Aside0.mk (show spk w w.drew p vF.ownBlock from spk_grown (sp_drew w _))
  have Z0 := Aside0.mk (show w.heap.size = w.drew.heap.size from rfl)
  have TA : ∀ w : World, (Instr.typeAssert (.iface 3 (.int .i64 x)) 20 3 false).run Try.prog w = .ok (.int .i64 x) w := ta_int x
  clear h hm hb
  go_enter Try.func88, Try.ntmps88
  go_upto_region 0 with (fail)
  refine start_ (n := 10) (S := fun w' => w'.cell? ⟨p, 1, none⟩ = some vF) (ds := [9]) #[false, false, false, false, false, false, false, false, false, false] (by kernel_rfl) rfl rfl ((blk_cell B0.out 1).trans rfl) (fun hHeld => ?_)
  generalize w.drew = W at hHeld B0 R0 G0 S0 Z0 ⊢
  refine pure_ (i := 0) (N := some 4) (v := ?_) (a' := ?_) #[true, false, false, false, false, false, false, false, false, false] rfl rfl (by kernel_rfl) (fun _ _ _ h => h) (Or.inl ⟨by rfl, ?_⟩) ?_ ?_
  rotate_left
  · intro w'
    go_simp
    with_reducible rfl
  rotate_left
  · simp only [Act.put, List.setIfInBounds_toArray, List.set_cons_zero, List.set_cons_succ, i64_w, i32_w]
    rfl
  refine pure_ (i := 1) (N := some 5) (v := ?_) (a' := ?_) #[true, true, false, false, false, false, false, false, false, false] rfl rfl (by kernel_rfl) (fun _ _ _ h => h) (Or.inl ⟨by rfl, ?_⟩) ?_ ?_
  rotate_left
  · intro w'
    go_simp
    with_reducible rfl
  rotate_left
  · simp only [Act.put, List.setIfInBounds_toArray, List.set_cons_zero, List.set_cons_succ, i64_w, i32_w]
    rfl
  refine pure_ (i := 2) (N := some 6) (v := ?_) (a' := ?_) #[true, true, true, false, false, false, false, false, false, false] rfl rfl (by kernel_rfl) (fun _ _ _ h => h) (Or.inl ⟨by rfl, ?_⟩) ?_ ?_
  rotate_left
  · intro w'
    go_simp
    with_reducible rfl
  rotate_left
  · simp only [Act.put, List.setIfInBounds_toArray, List.set_cons_zero, List.set_cons_succ, i64_w, i32_w]
    rfl
  refine pure_ (i := 4) (N := some 8) (v := ?_) (a' := ?_) #[true, true, true, false, true, false, false, false, false, false] rfl rfl (by kernel_rfl) (fun _ _ _ h => h) (Or.inl ⟨by rfl, ?_⟩) ?_ ?_
  rotate_left
  · intro w'
    go_simp
    with_reducible rfl
  rotate_left
  · simp only [Act.put, List.setIfInBounds_toArray, List.set_cons_zero, List.set_cons_succ, i64_w, i32_w]
    rfl
  refine pure_ (i := 5) (N := some 9) (v := ?_) (a' := ?_) #[true, true, true, false, true, true, false, false, false, false] rfl rfl (by kernel_rfl) (fun _ _ _ h => h) (Or.inl ⟨by rfl, ?_⟩) ?_ ?_
  rotate_left
  · intro w'
    go_simp
    with_reducible rfl
  rotate_left
  · simp only [Act.put, List.setIfInBounds_toArray, List.set_cons_zero, List.set_cons_succ, i64_w, i32_w]
    rfl
  refine take_ (i := 3) (N := some 7) (v := ?_) (a' := ?_) #[true, true, true, true, true, true, false, false, false, false] rfl rfl (by kernel_rfl) (fun _ _ _ h => h) (Or.inl ⟨by rfl, ?_⟩) hHeld ?_ ?_
  rotate_left
  · intro w' s0
    go_simp
    with_reducible rfl
  rotate_left
  · simp only [Act.put, List.setIfInBounds_toArray, List.set_cons_zero, List.set_cons_succ, i64_w, i32_w]
    rfl
  refine one_ (i := 6) (N := some 10) #[true, true, true, true, true, true, true, false, false, false] rfl rfl (by kernel_rfl) (by decide) (fun K hK => ?_)
  refine value_ (w1 := ?_) (v := ?_) (by rfl) rfl ?_ ?_
  rotate_left 2
  · go_simp
    constructor
    · rfl
    · rfl
  have B1 := Aside0.mk (blk_alloc B0.out (.cells #[.int .i64 x] 3))
  refine hK.out _ _ ((blk_cell B1.out 1).trans rfl) (fun hHeld => ?_)
  clear hK K
  refine norm_ (a' := ?_) ?_ ?_
  rotate_left
  · show Act.put _ (some 10) _ = _
    simp only [Act.put, List.setIfInBounds_toArray, List.set_cons_zero, List.set_cons_succ, i64_w, i32_w]
    rfl
  refine one_ (i := 7) (N := some 11) #[true, true, true, true, true, true, true, true, false, false] rfl rfl (by kernel_rfl) (by decide) (fun K hK => ?_)
  refine Kd.R_append_step (Kd.int .i64) (w0 := W) (W := W) base (by rfl) (.tmp 7) (.tmp 10) 76 3 (.int .i64 0) 8 rfl Try.underlying76 info3s rfl (by decide) (by omega) vF l x [.int .i64 x] (fun _ => True) (fun _ => False) rfl rfl rfl (fun _ h => h.elim) (fun _ _ => trivial) R0.out (Below.refl _ _) S0.out (by have := L0.out; omega) ?_
  intro v1 w1 ho hb hg hat
  obtain ⟨Av, cv, ev⟩ := Kd.R_slice ho; subst ev
  rw [show (l ++ [x]).length = l.length + 1 from by simp] at ho hat
  have R1 := Aside0.mk ho; have G1 := Aside0.mk hg; have A1 := Aside0.mk hat; have B2 := Aside0.mk (blk_grown B0.out hg (Kd.R_ne R0.out B0.out (by decide)))
  have f1 := blk_frozen B2.out 1
  have z1 : w1.cell? ⟨p, 1, none⟩ = some vF := (blk_cell B2.out 1).trans rfl
  clear ho hb hg hat
  refine hK.out _ _ (z1) (fun hHeld => ?_)
  clear hK K
  refine norm_ (a' := ?_) ?_ ?_
  rotate_left
  · show Act.put _ (some 11) _ = _
    simp only [Act.put, List.setIfInBounds_toArray, List.set_cons_zero, List.set_cons_succ, i64_w, i32_w]
    rfl
  refine pure_ (i := 8) (N := some 12) (v := ?_) (a' := ?_) #[true, true, true, true, true, true, true, true, true, false] rfl rfl (by kernel_rfl) (fun _ _ _ h => h) (Or.inl ⟨by rfl, ?_⟩) ?_ ?_
  rotate_left
  · intro w'
    go_simp
    with_reducible rfl
  rotate_left
  · simp only [Act.put, List.setIfInBounds_toArray, List.set_cons_zero, List.set_cons_succ, i64_w, i32_w]
    rfl
  refine last_ (i := 9) (N := none) #[true, true, true, true, true, true, true, true, true, true] rfl rfl (by kernel_rfl) (by decide) (fun K hK => ?_)
  refine skip_ (w1 := ?_) (by rfl) rfl ?_ ?_
  rotate_left
  · go_simp
    rfl
  refine hK.out _ _ ?_
  clear hK K
  refine done_ (by kernel_rfl) ?_
  try go_wp2
  (try simp only [Exit.inBlock, Exit.then])
  first | refine bodyPost_ret (results_none rfl _ _ _) rfl ?_ | refine bodyPost_end (results_none rfl _ _ _) rfl ?_
  exact ⟨rfl, _, ⟨(blk_set B2.out 1 _).trans rfl, Kd.R_set R1.out B2.out (by decide) 1 _⟩, by rw [Z0.out]; exact A1.out, spk_trans G0.out (spk_trans (spk_grown G1.out) (spk_own sp_set) (.inl rfl)) (.inl rfl)⟩
/- What heap.Push leaves. -/
def hpu (l : List Int) (x : Int) : List Int := upl (l.length + 1) (l ++ [x]) l.length
theorem hpu_len (l : List Int) (x : Int) : (hpu l x).length = l.length + 1 := by unfold hpu; rw [upl_len]; simp
set_option maxRecDepth 8000 in
set_option maxHeartbeats 8000000 in
theorem hpPush (base p : Nat) (vT vF : Value) (l : List Int) (x : Int) (w : World) (hm : l.length + 1 ≤ 1000000) (hb : base ≤ w.heap.size) (h : hq base w p vT vF l) :
    Calls Try.prog 63 #[.iface 82 (.pointer (some ⟨p, 1, none⟩)), .iface 3 (.int .i64 x)] w fun e w' => e = .returned (.tuple #[]) ∧ ∃ vF', hq base w' p vT vF' (hpu l x) ∧ (vF'.ownBlock = vF.ownBlock ∨ ∃ b, vF'.ownBlock = some b ∧ w.heap.size ≤ b) ∧ spk w w' p vF.ownBlock := by
  have H := Aside0.mk h
  have M0 := Aside0.mk hm
  have S0 := Aside0.mk hb
  obtain ⟨N, eN⟩ : ∃ N, N = l.length + 1 := ⟨_, rfl⟩
  have EN := Aside0.mk eN
  have w1 : IntKind.i64.wrap ((N : Int) - 1) = (N : Int) - 1 := by rw [i64_w]; exact IntWalk.wrap64_in _ (by omega)
  clear h hm hb eN
  go_enter Try.func63, Try.ntmps63
  go_upto_region 1 with (first | (with_reducible rw [hv_Push]; go_upon) | (go_at_call 88; refine (least_Push base p vT vF l x w (by have := M0.out; omega) S0.out H.out).mono ?_; rintro e w1 ⟨rfl, v1, h1, ha, hk⟩))
  obtain ⟨g, c, rfl, hI⟩ := hq_in h1 (by simp)
  rw [show (l ++ [x]).length = N by rw [EN.out]; simp] at hI ha
  have H1 := Aside0.mk hI
  have A1 := Aside0.mk ha
  have K1 := Aside0.mk hk
  clear h1 hI ha hk
  go_wp2_with (first | (with_reducible rw [hv_Len (hp_cl H1.out)]; go_upon) | (go_at_call 84; refine (hp_Len H1.out).mono ?_; rintro e w2 ⟨rfl, hI, hG⟩; have H2 := Aside0.mk hI; have G2 := Aside0.mk hG; clear hI hG) | (go_at_call 67; refine (hpUp base p g c N vT _ w2 (by have := M0.out; have := EN.out; omega) (by have := EN.out; omega) H2.out).mono ?_; rintro e w3 ⟨rfl, hI, hG⟩; have H3 := Aside0.mk hI; have G3 := Aside0.mk (sp_trans G2.out hG); clear hI hG))
  (try simp only [Exit.inBlock, Exit.then])
  first | refine bodyPost_ret (results_none rfl _ _ _) rfl ?_ | refine bodyPost_end (results_none rfl _ _ _) rfl ?_
  have E : upl N (l ++ [x]) (N - 1) = hpu l x := by unfold hpu; rw [EN.out]; rfl
  rw [E] at H3
  exact ⟨rfl, _, in_hq H3.out, A1.out, spk_trans K1.out (spk_grown (o := some g) G3.out) (A1.out.imp id (fun t b' e => t.elim fun b hb => by rw [show b' = b from by have h := e.symm.trans hb.1; injection h]; exact hb.2))⟩
/- A space in memory: p its block, t the block of what is taken, vF the list of what is free. -/
def sp (base : Nat) (w : World) (p t ct M : Nat) (vF : Value) (tk : List Bool) (fr : List Int) : Prop :=
  tk.length = M ∧ hq base w p (.slice (some ⟨t, 0, none⟩) M ct) vF fr ∧ Kd.R Kd.bool 4 w base (fun _ => True) (.slice (some ⟨t, 0, none⟩) M ct) tk
/- What an act on a space leaves: blocks outside S stay. -/
def skp (S : Nat → Prop) (w w' : World) : Prop := w'.os = w.os ∧ w'.tape = w.tape ∧ w'.output = w.output ∧ w.heap.size ≤ w'.heap.size ∧ ∀ i, i < w.heap.size → ¬ S i → w'.heap[i]? = w.heap[i]?
theorem skp_drawn {S : Nat → Prop} {w w' : World} (h : Drawn0 w w') : skp S w w' := by
  have b := sp_drawn h
  exact ⟨b.os, b.tape, b.output, b.size, fun i hi _ => b.block i hi⟩
theorem skp_spk {S : Nat → Prop} {w w' : World} {p : Nat} {o : Option Nat} (h : spk w w' p o) (hp : S p) (ho : ∀ i, some i = o → S i) : skp S w w' :=
  ⟨h.1, h.2.1, h.2.2.1, h.2.2.2.1, fun i hi hn => h.2.2.2.2 i hi (fun e => hn (e ▸ hp)) (fun e => hn (ho i e))⟩
theorem skp_grown {S : Nat → Prop} {w w' : World} {o : Option Nat} (h : w.grownBy w' o) (ho : ∀ i, some i = o → S i) : skp S w w' :=
  ⟨h.os, h.tape, h.output, h.size, fun i hi hn => h.block i hi (fun e => hn (ho i e))⟩
theorem skp_trans {S S' : Nat → Prop} {w w1 w2 : World} (h : skp S w w1) (k : skp S' w1 w2) (hs : ∀ i, S' i → S i ∨ w.heap.size ≤ i) : skp S w w2 :=
  ⟨k.1.trans h.1, k.2.1.trans h.2.1, k.2.2.1.trans h.2.2.1, Nat.le_trans h.2.2.2.1 k.2.2.2.1, fun i hi hn => (k.2.2.2.2 i (Nat.lt_of_lt_of_le hi h.2.2.2.1) (fun e => (hs i e).elim hn (fun h' => by omega))).trans (h.2.2.2.2 i hi hn)⟩
theorem R_spk {α : Type} {d : Kd α} {e base b2 p : Nat} {ok ok2 : Nat → Prop} {v vF : Value} {xs : List α} {l : List Int} {w w' : World} {cs : Array Value} (h : d.R e w base ok v xs) (hE : d.E = []) (he : e ≠ 78) (he3 : e ≠ 3) (hb : w.heap[p]? = some (.cells cs 78 (0, 0))) (hF : Kd.R (Kd.int .i64) 3 w b2 ok2 vF l) (hk : spk w w' p vF.ownBlock) : d.R e w' base ok v xs := by
  refine Kd.R_mono (Kd.R_move (Kd.R_bound h) ?_) (fun k hk => hk.1)
  rintro k ⟨_, _, hlt, q, hq, cells, hc⟩
  rw [hE] at hq
  have hq' : q = e := by simpa using hq
  subst hq'
  refine hk.2.2.2.2 k hlt ?_ (Kd.R_ne hF hc (Ne.symm he3))
  intro ek
  rw [ek, hb] at hc
  injection hc with hc
  injection hc with _ h2
  exact he h2.symm
def tkn (tk : List Bool) (i : Int) : Bool := decide (0 ≤ i) && (decide (i < (tk.length : Int)) && rdOf false tk i)
theorem sp_c0 {base p t ct M : Nat} {w : World} {vF : Value} {tk : List Bool} {fr : List Int} (h : sp base w p t ct M vF tk fr) : w.cell? ⟨p, 0, none⟩ = some (.slice (some ⟨t, 0, none⟩) M ct) := (blk_cell h.2.1.1 0).trans rfl
theorem sp_c1 {base p t ct M : Nat} {w : World} {vF : Value} {tk : List Bool} {fr : List Int} (h : sp base w p t ct M vF tk fr) : w.cell? ⟨p, 1, none⟩ = some vF := (blk_cell h.2.1.1 1).trans rfl
set_option maxHeartbeats 2000000 in
theorem sp_Free {base p t ct M : Nat} {w : World} {vF : Value} {tk : List Bool} {fr : List Int} (h : sp base w p t ct M vF tk fr) :
    Calls Try.prog 36 #[.pointer (some ⟨p, 0, none⟩)] w fun e w' => e = .returned (.int .i64 (fr.length : Int)) ∧ Drawn0 w w' := by
  have h1 := sp_c1 h
  obtain ⟨A, c, rfl⟩ := Kd.R_slice h.2.1.2
  obtain ⟨n, hn⟩ : ∃ n, n = fr.length := ⟨_, rfl⟩
  rw [← hn] at h1 ⊢
  clear h hn
  go_enter Try.func36, Try.ntmps36
  go_wp2
  go_ret
  exact ⟨rfl, by repeat (first | exact Drawn0.refl _ | apply Drawn0.step)⟩
set_option maxHeartbeats 2000000 in
theorem nil_Free (w : World) : Calls Try.prog 36 #[.pointer none] w fun e w' => e = .returned (.int .i64 0) ∧ Drawn0 w w' := by
  go_enter Try.func36, Try.ntmps36
  go_wp2
  go_ret
  exact ⟨rfl, by repeat (first | exact Drawn0.refl _ | apply Drawn0.step)⟩
set_option maxHeartbeats 2000000 in
theorem nil_Taken (i : Int) (w : World) : Calls Try.prog 37 #[.pointer none, .int .i64 i] w fun e w' => e = .returned (.bool false) ∧ Drawn0 w w' := by
  go_enter Try.func37, Try.ntmps37
  go_wp2
  go_ret
  exact ⟨rfl, by repeat (first | exact Drawn0.refl _ | apply Drawn0.step)⟩
set_option maxHeartbeats 2000000 in
theorem nil_Take (w : World) : Calls Try.prog 46 #[.pointer none] w fun e w' => e = .returned (.tuple #[.int .i64 0, .int .i64 3]) ∧ Drawn0 w w' := by
  go_enter Try.func46, Try.ntmps46
  go_wp2_with (go_at_call 36; refine (nil_Free _).mono ?_; rintro e w1 ⟨rfl, hd⟩; have D1 := Aside0.mk hd; clear hd)
  go_ret2
  exact ⟨rfl, by repeat (first | exact D1.out | exact Drawn0.refl _ | apply Drawn0.step)⟩
set_option maxHeartbeats 2000000 in
theorem nil_Give (i : Int) (w : World) : Calls Try.prog 47 #[.pointer none, .int .i64 i] w fun e w' => e = .returned (.int .i64 1) ∧ Drawn0 w w' := by
  go_enter Try.func47, Try.ntmps47
  go_wp2_with (go_at_call 37; refine (nil_Taken i _).mono ?_; rintro e w1 ⟨rfl, hd⟩; have D1 := Aside0.mk hd; clear hd)
  go_ret
  exact ⟨rfl, by repeat (first | exact D1.out | exact Drawn0.refl _ | apply Drawn0.step)⟩
set_option maxHeartbeats 2000000 in
theorem nil_Only (v : Value) (w : World) : Calls Try.prog 48 #[.pointer none, v] w fun e w' => e = .returned (.int .i64 1) ∧ Drawn0 w w' := by
  go_enter Try.func48, Try.ntmps48
  go_wp2
  go_ret
  exact ⟨rfl, by repeat (first | exact Drawn0.refl _ | apply Drawn0.step)⟩
set_option maxHeartbeats 4000000 in
theorem sp_Taken {base p t ct M : Nat} {w : World} {vF : Value} {tk : List Bool} {fr : List Int} (i : Int) (b : Bool) (hb : tkn tk i = b) (h : sp base w p t ct M vF tk fr) :
    Calls Try.prog 37 #[.pointer (some ⟨p, 0, none⟩), .int .i64 i] w fun e w' => e = .returned (.bool b) ∧ Drawn0 w w' := by
  have h0 := sp_c0 h
  have hM := h.1
  by_cases c1 : 0 ≤ i
  · by_cases c2 : i < (M : Int)
    · obtain ⟨hx, _⟩ := Kd.R_celln false h.2.2 i c1 c2
      have e : rdOf false tk i = b := by rw [← hb]; unfold tkn; rw [hM, decide_eq_true c1, decide_eq_true c2]; rfl
      rw [e] at hx
      have c1b : decide (0 ≤ i) = true := decide_eq_true c1
      have c2b : decide (i < (M : Int)) = true := decide_eq_true c2
      clear h hb hM e
      go_enter Try.func37, Try.ntmps37
      go_wp2
      go_ret
      exact ⟨rfl, by repeat (first | exact Drawn0.refl _ | apply Drawn0.step)⟩
    · have e : b = false := by rw [← hb]; unfold tkn; rw [hM, decide_eq_true c1, decide_eq_false c2]; rfl
      have c1b : decide (0 ≤ i) = true := decide_eq_true c1
      have c2b : decide (i < (M : Int)) = false := decide_eq_false c2
      subst e
      clear h hb hM
      go_enter Try.func37, Try.ntmps37
      go_wp2
      go_ret
      exact ⟨rfl, by repeat (first | exact Drawn0.refl _ | apply Drawn0.step)⟩
  · have e : b = false := by rw [← hb]; unfold tkn; rw [decide_eq_false c1]; rfl
    have c1b : decide (0 ≤ i) = false := decide_eq_false c1
    subst e
    clear h hb hM
    go_enter Try.func37, Try.ntmps37
    go_wp2
    go_ret
    exact ⟨rfl, by repeat (first | exact Drawn0.refl _ | apply Drawn0.step)⟩
theorem skp_refl (S : Nat → Prop) (w : World) : skp S w w := ⟨rfl, rfl, rfl, Nat.le_refl _, fun _ _ _ => rfl⟩
/- The blocks of a space. -/
def spS (p t : Nat) (vF : Value) : Nat → Prop := fun i => i = p ∨ i = t ∨ some i = vF.ownBlock
def newer (w : World) (vF vF' : Value) : Prop := vF'.ownBlock = vF.ownBlock ∨ ∃ b, vF'.ownBlock = some b ∧ w.heap.size ≤ b
theorem sp_drawn0 {base p t ct M : Nat} {w w' : World} {vF : Value} {tk : List Bool} {fr : List Int} (h : sp base w p t ct M vF tk fr) (hd : Drawn0 w w') : sp base w' p t ct M vF tk fr := by
  have b := sp_drawn hd
  exact ⟨h.1, ⟨blk_below h.2.1.1 b, Kd.R_below h.2.1.2 b⟩, Kd.R_below h.2.2 b⟩
theorem sp_ne {base p t ct M : Nat} {w : World} {vF : Value} {tk : List Bool} {fr : List Int} (h : sp base w p t ct M vF tk fr) (h0 : 0 < M) : t ≠ p ∧ some t ≠ vF.ownBlock ∧ some p ≠ vF.ownBlock := by
  have a := Kd.R_ne h.2.2 h.2.1.1 (by decide)
  obtain ⟨g, cap, he, _, _, cells, hc⟩ := Kd.R_form h.2.2 (by rw [h.1]; exact h0)
  have eg : g = t := by injection he with e1; injection e1 with e2; injection e2 with e3; exact e3.symm
  subst eg
  exact ⟨fun e => a (by rw [e]; rfl), Kd.R_ne h.2.1.2 hc (by decide), Kd.R_ne h.2.1.2 h.2.1.1 (by decide)⟩
/- One number is set; the list of the free ones is another one. -/
theorem sp_put {base p t ct M : Nat} {w : World} {vF : Value} {tk : List Bool} {fr : List Int} (h : sp base w p t ct M vF tk fr) (h0 : 0 < M) (i : Int) (b : Bool) : sp base (w.setCell ⟨t, i.toNat, none⟩ (.bool b)) p t ct M vF (tk.set i.toNat b) fr := by
  obtain ⟨h1, h2, h3⟩ := sp_ne h h0
  have g := Kd.R_putg h.2.2 i b
  refine ⟨by rw [List.length_set]; exact h.1, ⟨?_, ?_⟩, g.1⟩
  · rw [g.2.block p (blk_lt h.2.1.1) (fun e => h1 (by injection e with e; exact e.symm))]
    exact h.2.1.1
  · exact Kd.R_over h.2.1.2 h.2.2 (by intro q hq; simp [Kd.int, Kd.scalar] at hq; subst hq; decide) g.2
set_option maxRecDepth 8000 in
set_option maxHeartbeats 4000000 in
theorem sp_Take {base p t ct M : Nat} {w : World} {vF : Value} {tk : List Bool} {fr : List Int} (h : sp base w p t ct M vF tk fr) (hm : fr.length ≤ 1000000) (h0 : 0 < fr.length) (x : Int) (hx : rd (hpo fr) ((fr.length : Int) - 1) = x) (hx0 : 0 ≤ x) (hxM : x < (M : Int)) :
    Calls Try.prog 46 #[.pointer (some ⟨p, 0, none⟩)] w fun e w' => e = .returned (.tuple #[.int .i64 x, .int .i64 0]) ∧ ∃ vF', sp base w' p t ct M vF' (tk.set x.toNat true) ((hpo fr).take (fr.length - 1)) ∧ vF'.ownBlock = vF.ownBlock ∧ skp (spS p t vF) w w' := by
  obtain ⟨g, c, rfl, hI⟩ := hq_in h.2.1 h0
  have H := Aside0.mk h
  have HI := Aside0.mk hI
  have HX := Aside0.mk hx
  have M0 := Aside0.mk hm
  have N0 := Aside0.mk h0
  obtain ⟨n, hn⟩ : ∃ n, n = fr.length := ⟨_, rfl⟩
  have HN := Aside0.mk hn
  have n0b : ((n : Int) == 0) = false := beq_eq_false_iff_ne.2 (by omega)
  have TA : ∀ w : World, (Instr.typeAssert (.iface 3 (.int .i64 x)) 20 3 false).run Try.prog w = .ok (.int .i64 x) w := ta_int x
  clear h hI hx hm h0 hn
  go_enter Try.func46, Try.ntmps46
  go_upto_region 4 with (first | (go_at_call 36; refine (sp_Free H.out).mono ?_; rintro e w1 ⟨e1, hd⟩; rw [← HN.out] at e1; subst e1; have D1 := Aside0.mk hd; have H1 := Aside0.mk (hp_in_drawn HI.out hd); have S1 := Aside0.mk (sp_drawn0 H.out hd); clear hd) | (go_at_call 62; refine (hpPop base p g c fr.length _ fr w1 M0.out N0.out H1.out).mono ?_; rintro e w2 ⟨e2, hI, hk⟩; rw [HX.out] at e2; subst e2; have H2 := Aside0.mk hI; have K2 := Aside0.mk hk; clear hI hk))
  have S2 := Aside0.mk (show sp base w2 p t ct M (.slice (some ⟨g, 0, none⟩) (fr.length - 1) c) tk ((hpo fr).take (fr.length - 1)) from ⟨S1.out.1, in_hq H2.out, R_spk S1.out.2.2 rfl (by decide) (by decide) S1.out.2.1.1 S1.out.2.1.2 K2.out⟩)
  have z0 := sp_c0 S2.out
  obtain ⟨hy, hf⟩ := Kd.R_celln false S2.out.2.2 x hx0 hxM
  have P2 := Aside0.mk (sp_put S2.out (by omega) x true)
  go_wp2
  go_ret2
  refine ⟨rfl, _, P2.out, rfl, ?_⟩
  refine skp_trans (skp_trans (skp_drawn (S := spS p t (.slice (some ⟨g, 0, none⟩) fr.length c)) D1.out) (skp_spk (S := spS p t (.slice (some ⟨g, 0, none⟩) fr.length c)) K2.out (.inl rfl) (fun i e => .inr (.inr e))) (fun i hi => .inl hi)) (skp_grown (S := spS p t (.slice (some ⟨g, 0, none⟩) fr.length c)) (Kd.R_putg S2.out.2.2 x true).2 (fun i e => .inr (.inl (by injection e)))) (fun i hi => .inl hi)
set_option maxHeartbeats 4000000 in
theorem sp_Full {base p t ct M : Nat} {w : World} {vF : Value} {tk : List Bool} (h : sp base w p t ct M vF tk []) :
    Calls Try.prog 46 #[.pointer (some ⟨p, 0, none⟩)] w fun e w' => e = .returned (.tuple #[.int .i64 0, .int .i64 3]) ∧ Drawn0 w w' := by
  go_enter Try.func46, Try.ntmps46
  go_wp2_with (go_at_call 36; refine (sp_Free h).mono ?_; rintro e w1 ⟨rfl, hd⟩; have D1 := Aside0.mk hd; clear hd)
  go_ret2
  exact ⟨rfl, by repeat (first | exact D1.out | exact Drawn0.refl _ | apply Drawn0.step)⟩
set_option maxHeartbeats 4000000 in
theorem sp_Not {base p t ct M : Nat} {w : World} {vF : Value} {tk : List Bool} {fr : List Int} (h : sp base w p t ct M vF tk fr) (i : Int) (hi : tkn tk i = false) :
    Calls Try.prog 47 #[.pointer (some ⟨p, 0, none⟩), .int .i64 i] w fun e w' => e = .returned (.int .i64 1) ∧ Drawn0 w w' := by
  go_enter Try.func47, Try.ntmps47
  go_wp2_with (go_at_call 37; refine (sp_Taken i false hi h).mono ?_; rintro e w1 ⟨rfl, hd⟩; have D1 := Aside0.mk hd; clear hd)
  go_ret
  exact ⟨rfl, by repeat (first | exact D1.out | exact Drawn0.refl _ | apply Drawn0.step)⟩
theorem tkn_lt {tk : List Bool} {i : Int} (h : tkn tk i = true) : 0 ≤ i ∧ i < (tk.length : Int) ∧ rdOf false tk i = true := by
  unfold tkn at h
  simp only [Bool.and_eq_true, decide_eq_true_eq] at h
  exact ⟨h.1, h.2.1, h.2.2⟩
set_option maxRecDepth 8000 in
set_option maxHeartbeats 4000000 in
theorem sp_Give {base p t ct M : Nat} {w : World} {vF : Value} {tk : List Bool} {fr : List Int} (h : sp base w p t ct M vF tk fr) (hm : fr.length + 1 ≤ 1000000) (hb : base ≤ w.heap.size) (i : Int) (hi : tkn tk i = true) :
    Calls Try.prog 47 #[.pointer (some ⟨p, 0, none⟩), .int .i64 i] w fun e w' => e = .returned (.int .i64 0) ∧ ∃ vF', sp base w' p t ct M vF' (tk.set i.toNat false) (hpu fr i) ∧ newer w vF vF' ∧ skp (spS p t vF) w w' := by
  obtain ⟨i0, iM, _⟩ := tkn_lt hi
  rw [h.1] at iM
  have H := Aside0.mk h
  have HI := Aside0.mk hi
  have M0 := Aside0.mk hm
  have B0 := Aside0.mk hb
  clear h hi hm hb
  go_enter Try.func47, Try.ntmps47
  go_upto_region 3 with (go_at_call 37; refine (sp_Taken i true HI.out H.out).mono ?_; rintro e w1 ⟨rfl, hd⟩; have D1 := Aside0.mk hd; have S1 := Aside0.mk (sp_drawn0 H.out hd); have B1 := Aside0.mk (Nat.le_trans B0.out (sp_drawn hd).size); clear hd)
  have z0 := sp_c0 S1.out
  obtain ⟨hy, hf⟩ := Kd.R_celln false S1.out.2.2 i i0 iM
  have P1 := Aside0.mk (sp_put S1.out (by omega) i false)
  have Q1 := Aside0.mk (Kd.R_putg S1.out.2.2 i false).2
  go_wp2_with (go_at_call 63; refine (hpPush base p _ vF fr i _ M0.out (Nat.le_trans B1.out Q1.out.size) P1.out.2.1).mono ?_; rintro e w2 ⟨rfl, v2, hq2, ha, hk⟩; have H2 := Aside0.mk hq2; have A2 := Aside0.mk ha; have K2 := Aside0.mk hk; clear hq2 ha hk)
  go_ret
  have hsz : w.heap.size ≤ (w1.setCell ⟨t, i.toNat, none⟩ (.bool false)).heap.size := Nat.le_trans (sp_drawn D1.out).size Q1.out.size
  refine ⟨rfl, v2, ⟨P1.out.1, H2.out, R_spk P1.out.2.2 rfl (by decide) (by decide) P1.out.2.1.1 P1.out.2.1.2 K2.out⟩, A2.out.imp id (fun ⟨b, e, hb⟩ => ⟨b, e, Nat.le_trans hsz hb⟩), ?_⟩
  exact skp_trans (skp_trans (skp_drawn (S := spS p t vF) D1.out) (skp_grown (S := spS p t vF) Q1.out (fun i e => .inr (.inl (by injection e)))) (fun i hi => .inl hi)) (skp_spk (S := spS p t vF) K2.out (.inl rfl) (fun i e => .inr (.inr e))) (fun i hi => .inl hi)
/- The numbers that are free. -/
def fre : Nat → List Bool → List Int
  | _, [] => []
  | k, b :: t => if b then fre (k + 1) t else (k : Int) :: fre (k + 1) t
theorem fre_snoc (b : Bool) : ∀ (l : List Bool) (k : Nat), fre k (l ++ [b]) = fre k l ++ (if b then [] else [((k + l.length : Nat) : Int)])
  | [], k => by cases b <;> simp [fre]
  | a :: t, k => by
    have ih := fre_snoc b t (k + 1)
    rw [List.cons_append]
    unfold fre
    rw [ih, show k + 1 + t.length = k + (a :: t).length by simp; omega]
    cases a <;> simp
theorem fre_len : ∀ (l : List Bool) (k : Nat), (fre k l).length ≤ l.length
  | [], k => by simp [fre]
  | a :: t, k => by
    have ih := fre_len t (k + 1)
    unfold fre
    cases a <;> simp <;> omega
theorem take_rd {tk : List Bool} {j : Nat} (h : j < tk.length) : tk.take (j + 1) = tk.take j ++ [rdOf false tk (j : Int)] := by
  have : rdOf false tk (j : Int) = tk[j] := by simp [rdOf, List.getD_eq_getElem?_getD, h]
  rw [List.take_add_one, List.getElem?_eq_getElem h, this]
  rfl
theorem newer_trans {w w1 : World} {v vF v1 : Value} (h : newer w v vF) (hs : w.heap.size ≤ w1.heap.size) (k : v1.ownBlock = vF.ownBlock ∨ ∃ b, v1.ownBlock = some b ∧ w1.heap.size ≤ b) : newer w v v1 := by
  rcases k with k | ⟨b, k, kb⟩
  · unfold newer; rw [k]; exact h
  · exact .inr ⟨b, k, Nat.le_trans hs kb⟩
theorem newer_nil {w : World} {vF : Value} {S : Nat → Prop} (h : newer w (.slice none 0 0) vF) (i : Nat) (e : some i = vF.ownBlock) : S i ∨ w.heap.size ≤ i := by
  rcases h with h | ⟨b, h, hb⟩
  · rw [h] at e; exact absurd e (by simp [Value.ownBlock])
  · rw [h] at e; injection e with e; right; omega
set_option maxRecDepth 8000 in
set_option maxHeartbeats 4000000 in
theorem sp_fill (base p t ct M : Nat) (v0 v1 : Value) (tk : List Bool) (w : World) (hb : base ≤ w.heap.size) (hp : w.heap[p]? = some (.cells #[v0, v1] 78 (0, 0))) (hM : tk.length = M) (hm : M ≤ 1000000) (hT : Kd.R Kd.bool 4 w base (fun _ => True) (.slice (some ⟨t, 0, none⟩) M ct) tk) :
    Calls Try.prog 60 #[.pointer (some ⟨p, 0, none⟩), .slice (some ⟨t, 0, none⟩) M ct] w fun e w' => e = .returned (.tuple #[]) ∧ ∃ vF', sp base w' p t ct M vF' tk (fre 0 tk) ∧ newer w (.slice none 0 0) vF' ∧ skp (fun i => i = p) w w' := by
  have f0 := blk_frozen hp 0
  have hp1 := blk_set hp 0 (.slice (some ⟨t, 0, none⟩) M ct)
  have f1 := blk_frozen hp1 1
  have hp2 := blk_set hp1 1 (.slice none 0 0)
  have z0 : w.cell? ⟨p, 0, none⟩ = some v0 := (blk_cell hp 0).trans rfl
  have z1 : (w.setCell ⟨p, 0, none⟩ (.slice (some ⟨t, 0, none⟩) M ct)).cell? ⟨p, 1, none⟩ = some v1 := (blk_cell hp1 1).trans rfl
  have B0 := Aside0.mk hb
  have L0 := Aside0.mk hM
  have T2 := Aside0.mk (Kd.R_set (Kd.R_set hT hp (by decide) 0 (.slice (some ⟨t, 0, none⟩) M ct)) hp1 (by decide) 1 (.slice none 0 0))
  have P2 := Aside0.mk (show _ = some (Obj.cells #[.slice (some ⟨t, 0, none⟩) M ct, .slice none 0 0] 78 (0, 0)) from hp2.trans rfl)
  have K2 := Aside0.mk (skp_trans (skp_grown (S := fun i => i = p) (sp_set (w := w) (g := p) (p := 0) (v := .slice (some ⟨t, 0, none⟩) M ct)) (fun i e => by injection e)) (skp_grown (S := fun i => i = p) (sp_set (g := p) (p := 1) (v := .slice none 0 0)) (fun i e => by injection e)) (fun i hi => .inl hi))
  have S2 := Aside0.mk (Nat.le_trans hb K2.out.2.2.2.1)
  clear hb hp hM hT hp1 hp2
  go_enter Try.func60, Try.ntmps60
  go_wp2
  go_loopw [15] (fun v15 wr => ∃ (j : Nat) (vF : Value), j ≤ M ∧ v15 = .int .i64 (j : Int) ∧ Aside0 (hq base wr p (.slice (some ⟨t, 0, none⟩) M ct) vF (fre 0 (tk.take j))) ∧ Aside0 (Kd.R Kd.bool 4 wr base (fun _ => True) (.slice (some ⟨t, 0, none⟩) M ct) tk) ∧ Aside0 (newer w (.slice none 0 0) vF) ∧ Aside0 (skp (fun i => i = p) w wr)) (fun v15 _ => M - (intOf v15).toNat)
  case atStart => exact ⟨0, _, Nat.zero_le _, rfl, ⟨⟨P2.out, Kd.R_nil _ _ _ _ _⟩⟩, T2, ⟨.inl rfl⟩, K2⟩
  case round =>
    obtain ⟨j, vF, hj, rfl, HQ, HT, HN, HK⟩ := hrel
    by_cases hlt : j < M
    · have hlt' : decide (j < M) = true := decide_eq_true hlt
      obtain ⟨hx, _⟩ := Kd.R_celln false HT.out (j : Int) (by omega) (by omega)
      simp only [Int.toNat_natCast] at hx
      obtain ⟨b, hbv⟩ : ∃ b, b = rdOf false tk (j : Int) := ⟨_, rfl⟩
      rw [← hbv] at hx
      have E := Aside0.mk (show fre 0 (tk.take (j + 1)) = fre 0 (tk.take j) ++ (if b then [] else [(j : Int)]) by rw [take_rd (by have := L0.out; omega), fre_snoc, List.length_take, ← hbv, show 0 + min j tk.length = j by have := L0.out; omega])
      clear hbv
      cases b with
      | true =>
        go_wp2
        go_roundw
        case rel => exact ⟨j + 1, vF, by omega, by go_num, ⟨by rw [E.out]; simpa using HQ.out⟩, HT, HN, HK⟩
        case measure => simp [intOf]; omega
      | false =>
        have E := Aside0.mk (show fre 0 (tk.take (j + 1)) = fre 0 (tk.take j) ++ [(j : Int)] from E.out)
        have LN := Aside0.mk (show (fre 0 (tk.take j) ++ [(j : Int)]).length = (fre 0 (tk.take j)).length + 1 from by simp)
        have y1 : wr.cell? ⟨p, 1, none⟩ = some vF := (blk_cell HQ.out.1 1).trans rfl
        have SB := Aside0.mk (Nat.le_trans B0.out HK.out.2.2.2.1)
        have LL := Aside0.mk (show ((fre 0 (tk.take j)).length + 1) * 8 ≤ 140737488355328 by have := fre_len (tk.take j) 0; rw [List.length_take] at this; omega)
        go_wp2_with ((with_reducible refine gate_builtin (b := .append) (xs := #[.tmp 26, .tmp 28]) rfl ?_); at_builtin; refine Kd.R_append (Kd.int .i64) (w0 := wr) (W := wr) base rfl (.tmp 26) (.tmp 28) 76 3 (.int .i64 0) 8 rfl Try.underlying76 info3s rfl (by decide) (by omega) vF (fre 0 (tk.take j)) (j : Int) [.int .i64 (j : Int)] (fun _ => True) (fun _ => False) rfl rfl rfl (fun _ h => h.elim) (fun _ _ => trivial) HQ.out.2 (Below.refl _ _) SB.out LL.out ?_; intro v7 w7 ho hb hg hat; obtain ⟨Av, cv, ev⟩ := Kd.R_slice ho; subst ev; rw [LN.out] at ho hat; have Q7 := Aside0.mk (blk_grown HQ.out.1 hg (Kd.R_ne HQ.out.2 HQ.out.1 (by decide))); have R7 := Aside0.mk ho; have G7 := Aside0.mk hg; have A7 := Aside0.mk hat; have T7 := Aside0.mk (Kd.R_over HT.out HQ.out.2 (by intro q hq; simp [Kd.bool, Kd.scalar] at hq; subst hq; decide) hg); have z7 : w7.cell? ⟨p, 1, none⟩ = some vF := (blk_cell Q7.out 1).trans rfl; have f7 := blk_frozen Q7.out 1; clear ho hb hg hat)
        go_roundw
        case rel => exact ⟨j + 1, _, by omega, by go_num, ⟨⟨(blk_set Q7.out 1 _).trans rfl, by rw [E.out]; exact Kd.R_set R7.out Q7.out (by decide) 1 _⟩⟩, ⟨Kd.R_set T7.out Q7.out (by decide) 1 _⟩, ⟨newer_trans HN.out HK.out.2.2.2.1 A7.out⟩, ⟨skp_trans (skp_trans HK.out (skp_grown (S := fun i => some i = vF.ownBlock) G7.out (fun i e => e)) (fun i e => newer_nil (S := fun i => i = p) HN.out i e)) (skp_grown (S := fun i => i = p) sp_set (fun i e => by injection e)) (fun i hi => .inl hi)⟩⟩
        case measure => simp [intOf]; omega
    · have hlt' : decide (j < M) = false := decide_eq_false hlt
      have E := Aside0.mk (show tk.take j = tk from List.take_of_length_le (by have := L0.out; omega))
      go_wp2
      (try simp only [Exit.inBlock, Exit.then])
      first | refine bodyPost_ret (results_none rfl _ _ _) rfl ?_ | refine bodyPost_end (results_none rfl _ _ _) rfl ?_
      exact ⟨rfl, vF, ⟨L0.out, by rw [← E.out]; exact E.out ▸ HQ.out, HT.out⟩, HN.out, HK.out⟩
theorem skp_below {S : Nat → Prop} {w0 w w' : World} (hB : Below w0.heap.size w0 w) (h : skp S w w') (hS : ∀ i, S i → w0.heap.size ≤ i) : Below w0.heap.size w0 w' :=
  ⟨h.1.trans hB.os, h.2.1.trans hB.tape, h.2.2.1.trans hB.output, Nat.le_trans hB.size h.2.2.2.1, fun i hi => (h.2.2.2.2 i (Nat.lt_of_lt_of_le hi hB.size) (fun e => by have := hS i e; omega)).trans (hB.block i hi)⟩
theorem skp_of_below {S : Nat → Prop} {w w' : World} (b : Below w.heap.size w w') : skp S w w' := ⟨b.os, b.tape, b.output, b.size, fun i hi _ => b.block i hi⟩
set_option maxRecDepth 8000 in
set_option maxHeartbeats 4000000 in
theorem sp_New (base : Nat) (n : Int) (w : World) (hb : base ≤ w.heap.size) (h1 : 1 ≤ n) (h2 : n ≤ 4096) :
    Calls Try.prog 34 #[.int .i64 n] w fun e w' => ∃ (p t ct : Nat) (vF : Value), e = .returned (.tuple #[.pointer (some ⟨p, 0, none⟩), .int .i64 0]) ∧ w.heap.size ≤ p ∧ w.heap.size ≤ t ∧ sp base w' p t ct n.toNat vF (List.replicate n.toNat false) (fre 0 (List.replicate n.toNat false)) ∧ skp (fun _ => False) w w' := by
  have B0 := Aside0.mk hb
  have c1 : decide (n < 1) = false := decide_eq_false (by omega)
  have c2 : decide (4096 < n) = false := decide_eq_false (by omega)
  have hn := Aside0.mk (show 1 ≤ n ∧ n ≤ 4096 from ⟨h1, h2⟩)
  clear hb h1 h2
  go_enter Try.func34, Try.ntmps34
  go_upto_region 4 with ((with_reducible refine gate_dst (N := 12) rfl ?_); (try (refine gate_guard (by rfl) ?_; dsimp only)); refine box_event ?hg (N := 12) ?hd (cs := #[.slice none 0 0, .slice none 0 0]) (t := 78) ?hr ?_; (case hd => rfl); (case hg => rfl); (case hr => first | (go_simp; done) | (go_simp; rfl)); intro p1 hp1 w1 hbox hb; have P1 := Aside0.mk hp1; have X1 := Aside0.mk hbox; have B1 := Aside0.mk hb; clear hp1 hbox hb)
  go_wp2_with (first | ((with_reducible refine gate_dst (N := 15) rfl ?_); refine Kd.R_make Kd.bool _ 4 rfl (N := 15) rfl 50 _ _ rfl n rfl rfl Try.underlying50 (.bool false) 1 info4 rfl (by decide) (by omega) false (ok := fun _ => True) (okp := fun _ => True) rfl (fun _ hk => hk) trivial (by have := hn.out; omega) (by have := hn.out; omega) (Below.refl _ _) (Nat.le_refl _) ?_; intro v2 w2 ho hb hg_ hnew_; have R2 := Aside0.mk ho; have B2 := Aside0.mk hb; have W2 := Aside0.mk hnew_; clear ho hb hg_ hnew_; obtain ⟨t, ct, et, ht, _, _⟩ := Kd.R_form R2.out (by rw [List.length_replicate]; have := hn.out; omega); rw [List.length_replicate] at et; subst et; have T2 := Aside0.mk ht; clear ht) | (go_at_call 60; refine (sp_fill base p1 t ct n.toNat _ _ (List.replicate n.toNat false) w2 (Nat.le_trans B0.out (Nat.le_trans B1.out.size B2.out.size)) (blk_below X1.out B2.out) (List.length_replicate ..) (by have := hn.out; omega) (Kd.R_lower R2.out (Nat.le_trans B0.out B1.out.size))).mono ?_; rintro e w3 ⟨rfl, vF, hs, ha, hk⟩; have S3 := Aside0.mk hs; have K3 := Aside0.mk hk; clear hs ha hk))
  go_ret2
  exact ⟨p1, t, ct, vF, rfl, Nat.le_of_eq P1.out.symm, Nat.le_trans B1.out.size T2.out, S3.out, skp_trans (skp_trans (skp_of_below B1.out) (skp_of_below (S := fun _ => False) B2.out) (fun i hi => hi.elim)) K3.out (fun i hi => .inr (by rw [hi]; exact Nat.le_of_eq P1.out.symm))⟩
set_option maxHeartbeats 4000000 in
theorem sp_NewNot (n : Int) (w : World) (h : n < 1 ∨ 4096 < n) :
    Calls Try.prog 34 #[.int .i64 n] w fun e w' => e = .returned (.tuple #[.pointer none, .int .i64 1]) ∧ Drawn0 w w' := by
  by_cases h1 : n < 1
  · have c1 : decide (n < 1) = true := decide_eq_true h1
    clear h h1
    go_enter Try.func34, Try.ntmps34
    go_wp2
    go_ret2
    exact ⟨rfl, by repeat (first | exact Drawn0.refl _ | apply Drawn0.step)⟩
  · have c1 : decide (n < 1) = false := decide_eq_false h1
    have c2 : decide (4096 < n) = true := decide_eq_true (by omega)
    clear h h1
    go_enter Try.func34, Try.ntmps34
    go_wp2
    go_ret2
    exact ⟨rfl, by repeat (first | exact Drawn0.refl _ | apply Drawn0.step)⟩
/- What Only makes: just these numbers taken. -/
def onl (M : Nat) : List Bool → List Int → Option (List Bool)
  | a, [] => some a
  | a, i :: t => if 0 ≤ i ∧ i < (M : Int) ∧ rdOf false a i = false then onl M (a.set i.toNat true) t else none
theorem onl_drop {M : Nat} {a : List Bool} {l : List Int} {j : Nat} (h : j < l.length) : onl M a (l.drop j) = if 0 ≤ rd l (j : Int) ∧ rd l (j : Int) < (M : Int) ∧ rdOf false a (rd l (j : Int)) = false then onl M (a.set (rd l (j : Int)).toNat true) (l.drop (j + 1)) else none := by
  have : rd l (j : Int) = l[j] := by simp [rd, List.getD_eq_getElem?_getD, h]
  rw [List.drop_eq_getElem_cons h, this]
  rfl
theorem skp_mono {S S' : Nat → Prop} {w w' : World} (h : skp S w w') (hs : ∀ i, S i → S' i) : skp S' w w' := ⟨h.1, h.2.1, h.2.2.1, h.2.2.2.1, fun i hi hn => h.2.2.2.2 i hi (fun e => hn (hs i e))⟩
/- An act on blocks that are newer leaves a space alone. -/
theorem sp_skp {base p t ct M : Nat} {w w' : World} {vF : Value} {tk : List Bool} {fr : List Int} {S : Nat → Prop} (h : sp base w p t ct M vF tk fr) (hk : skp S w w') (hS : ∀ i, S i → w.heap.size ≤ i) : sp base w' p t ct M vF tk fr := by
  have b : Below w.heap.size w w' := skp_below (Below.refl _ _) hk hS
  exact ⟨h.1, ⟨blk_below h.2.1.1 b, Kd.R_below h.2.1.2 b⟩, Kd.R_below h.2.2 b⟩
set_option maxRecDepth 8000 in
set_option maxHeartbeats 8000000 in
theorem sp_Only {p t ct M : Nat} {w0 w : World} {vF : Value} {tk : List Bool} {fr : List Int} (hB : Below w0.heap.size w0 w) (h : sp w0.heap.size w p t ct M vF tk fr) (hM0 : 0 < M) (hM : M ≤ 4096) (A : Option Addr) (n c : Nat) (l : List Int) (hl : Kd.C (Kd.int .i64) w0 A n l) (hn : n = l.length) :
    Calls Try.prog 48 #[.pointer (some ⟨p, 0, none⟩), .slice A n c] w fun e w' =>
      (onl M (List.replicate M false) l = none ∧ e = .returned (.int .i64 1) ∧ skp (fun _ => False) w w') ∨
      (∃ tk' t' ct' vF', onl M (List.replicate M false) l = some tk' ∧ e = .returned (.int .i64 0) ∧ w.heap.size ≤ t' ∧ sp w0.heap.size w' p t' ct' M vF' tk' (fre 0 tk') ∧ newer w (.slice none 0 0) vF' ∧ skp (fun i => i = p) w w') := by
  have H := Aside0.mk h
  have z0 := sp_c0 h
  have HB := Aside0.mk hB
  have HM := Aside0.mk (And.intro hM0 hM)
  have HL := Aside0.mk hl
  have HN := Aside0.mk hn
  have nm := Kd.C_max hl
  obtain ⟨F, hF⟩ : ∃ F, F = onl M (List.replicate M false) l := ⟨_, rfl⟩
  rw [← hF]
  have E2 := Aside0.mk hF
  clear h hB hM0 hM hl hn hF
  go_enter Try.func48, Try.ntmps48
  go_upto_region 4 with ((with_reducible refine gate_dst (N := 15) rfl ?_); refine Kd.R_make Kd.bool _ 4 rfl (N := 15) rfl 50 _ _ rfl (M : Int) rfl rfl Try.underlying50 (.bool false) 1 info4 rfl (by decide) (by omega) false (ok := fun _ => True) (okp := fun _ => True) rfl (fun _ hk => hk) trivial (by omega) (by have := HM.out; omega) (Below.refl _ _) (Nat.le_refl _) ?_; intro v2 w2 ho hb hg_ hnew_; simp only [Int.toNat_natCast] at ho; have R2 := Aside0.mk ho; have B2 := Aside0.mk hb; clear ho hb hg_ hnew_; obtain ⟨t2, c2, et, ht, _, _⟩ := Kd.R_form R2.out (by rw [List.length_replicate]; exact HM.out.1); rw [List.length_replicate] at et; subst et; have T2 := Aside0.mk ht; clear ht)
  have K2 := Aside0.mk (skp_of_below (S := fun _ => False) B2.out)
  have B02 := Aside0.mk (below_step HB.out B2.out)
  go_wp2
  go_loopw [18] (fun v18 wr => ∃ (j : Nat) (a : List Bool), j ≤ n ∧ v18 = .int .i64 (j : Int) ∧ a.length = M ∧ Aside0 (onl M a (l.drop j) = F) ∧ Aside0 (Kd.R Kd.bool 4 wr w.heap.size (fun _ => True) (.slice (some ⟨t2, 0, none⟩) M c2) a) ∧ Aside0 (skp (fun _ => False) w wr)) (fun v18 _ => n - (intOf v18).toNat)
  case atStart => exact ⟨0, _, Nat.zero_le _, rfl, List.length_replicate .., ⟨E2.out.symm⟩, R2, K2⟩
  case round =>
    obtain ⟨j, a, hj, rfl, ha, E, HR, HK⟩ := hrel
    have HA := Aside0.mk ha
    clear ha
    have Br := Aside0.mk (skp_below HB.out HK.out (fun i hi => hi.elim))
    by_cases hlt : j < n
    · have hlt' : decide (j < n) = true := decide_eq_true hlt
      obtain ⟨ad, ea, hx⟩ := Kd.at_int (Kd.C_below HL.out Br.out) (j : Int) (by omega) (by omega)
      cases ea
      simp only [Int.toNat_natCast] at hx
      obtain ⟨x, hxv⟩ : ∃ x, x = rd l (j : Int) := ⟨_, rfl⟩
      rw [← hxv] at hx
      have E3 := Aside0.mk (show (if 0 ≤ x ∧ x < (M : Int) ∧ rdOf false a x = false then onl M (a.set x.toNat true) (l.drop (j + 1)) else none) = F by rw [← E.out, onl_drop (j := j) (l := l) (by have := HN.out; omega), hxv])
      clear E hxv
      by_cases c1 : x < 0
      · have c1b : decide (x < 0) = true := decide_eq_true c1
        have FF := Aside0.mk (show F = none by rw [← E3.out]; exact if_neg (by omega))
        go_wp2
        go_ret
        exact .inl ⟨FF.out, rfl, HK.out⟩
      · have c1b : decide (x < 0) = false := decide_eq_false c1
        by_cases c2 : (M : Int) ≤ x
        · have c2b : decide ((M : Int) ≤ x) = true := decide_eq_true c2
          have FF := Aside0.mk (show F = none by rw [← E3.out]; exact if_neg (by omega))
          go_wp2
          go_ret
          exact .inl ⟨FF.out, rfl, HK.out⟩
        · have c2b : decide ((M : Int) ≤ x) = false := decide_eq_false c2
          obtain ⟨hy, hf⟩ := Kd.R_celln false HR.out x (by omega) (by omega)
          cases hb : rdOf false a x with
          | true =>
            rw [hb] at hy
            have FF := Aside0.mk (show F = none by rw [← E3.out]; exact if_neg (fun h => by rw [hb] at h; exact absurd h.2.2 (by decide)))
            clear hb
            go_wp2
            go_ret
            exact .inl ⟨FF.out, rfl, HK.out⟩
          | false =>
            rw [hb] at hy
            have FF := Aside0.mk (show onl M (a.set x.toNat true) (l.drop (j + 1)) = F by rw [← E3.out]; exact (if_pos ⟨by omega, by omega, hb⟩).symm)
            have PP := Aside0.mk (Kd.R_putg HR.out x true)
            clear hb
            go_wp2
            go_roundw
            case rel => exact ⟨j + 1, _, by omega, by go_num, by rw [List.length_set]; exact HA.out, FF, ⟨PP.out.1⟩, ⟨skp_trans HK.out (skp_grown (S := fun i => i = t2) PP.out.2 (fun i e => by injection e)) (fun i hi => .inr (by rw [hi]; exact T2.out))⟩⟩
            case measure => simp [intOf]; omega
    · have hlt' : decide (j < n) = false := decide_eq_false hlt
      have E3 := Aside0.mk (show some a = F by rw [← E.out, List.drop_of_length_le (by have := HN.out; omega)]; rfl)
      have SR := Aside0.mk (sp_skp H.out HK.out (fun i hi => hi.elim))
      clear E
      go_wp2_with (go_at_call 60; refine (sp_fill w0.heap.size p t2 c2 M _ _ a wr Br.out.size SR.out.2.1.1 HA.out (by have := HM.out; omega) (Kd.R_lower HR.out HB.out.size)).mono ?_; rintro e w3 ⟨rfl, vF3, hs, hn3, hk⟩; have S3 := Aside0.mk hs; have N3 := Aside0.mk hn3; have K3 := Aside0.mk hk; clear hs hn3 hk)
      go_ret
      exact .inr ⟨a, t2, c2, vF3, E3.out.symm, rfl, T2.out, S3.out, newer_trans (.inl rfl) HK.out.2.2.2.1 N3.out, skp_trans (skp_mono HK.out (fun i hi => hi.elim)) K3.out (fun i hi => .inl hi)⟩
/- The heap by itself, and the numbers that are free. -/
theorem rd_get {l : List Int} {k : Nat} (h : k < l.length) : rd l (k : Int) = l[k] := by simp [rd, List.getD_eq_getElem?_getD, h]
theorem rd_sw {l : List Int} {i j k : Nat} (hi : i < l.length) (hj : j < l.length) (hk : k < l.length) : rd (sw l i j) (k : Int) = if k = j then rd l (i : Int) else if k = i then rd l (j : Int) else rd l (k : Int) := by
  rw [rd_get (by rw [sw_len]; exact hk), rd_get hk]
  simp only [sw, List.getElem_set]
  by_cases h1 : j = k
  · simp [h1]
  · by_cases h2 : i = k
    · simp [h1, h2, Ne.symm h1]
    · simp [h1, h2, Ne.symm h1, Ne.symm h2]
theorem sw_perm {l : List Int} {i j : Nat} (hi : i < l.length) (hj : j < l.length) : (sw l i j).Perm l := by
  have h := Array.swap_perm (xs := l.toArray) (i := i) (j := j) (by simpa using hi) (by simpa using hj)
  have h2 := Array.perm_iff_toList_perm.1 h
  have e : (l.toArray.swap i j (by simpa using hi) (by simpa using hj)).toList = sw l i j := by
    simp [sw, Array.swap, rd_get hi, rd_get hj]
  rw [e] at h2
  simpa using h2
def Hp (n : Nat) (l : List Int) : Prop := ∀ k : Nat, 0 < k → k < n → rd l (((k - 1) / 2 : Nat) : Int) ≤ rd l (k : Int)
def Dn (n : Nat) (l : List Int) (i : Nat) : Prop := (∀ k : Nat, 0 < k → k < n → (k - 1) / 2 ≠ i → rd l (((k - 1) / 2 : Nat) : Int) ≤ rd l (k : Int)) ∧ ∀ k : Nat, 0 < k → k < n → (k - 1) / 2 = i → 0 < i → rd l (((i - 1) / 2 : Nat) : Int) ≤ rd l (k : Int)
theorem ch_two (n : Nat) (l : List Int) (i : Nat) (h : ¬ n ≤ 2 * i + 1) : (ch n l i = 2 * i + 1 ∨ ch n l i = 2 * i + 2) ∧ ch n l i < n ∧ ∀ k, (k - 1) / 2 = i → 0 < k → k < n → rd l (ch n l i : Int) ≤ rd l (k : Int) := by
  unfold ch
  split
  · rename_i h2
    refine ⟨.inr rfl, h2.1, fun k hk h0 hn => ?_⟩
    rcases (show k = 2 * i + 1 ∨ k = 2 * i + 2 by omega) with e | e
    · rw [e]; exact Int.le_of_lt h2.2
    · rw [e]; exact Int.le_refl _
  · rename_i h2
    refine ⟨.inl rfl, by omega, fun k hk h0 hn => ?_⟩
    rcases (show k = 2 * i + 1 ∨ k = 2 * i + 2 by omega) with e | e
    · rw [e]; exact Int.le_refl _
    · rw [e]
      exact Int.not_lt.1 (fun h3 => h2 ⟨by omega, h3⟩)
theorem dn_Hp (n : Nat) : ∀ (k : Nat) (l : List Int) (i : Nat), n ≤ l.length → n ≤ k + i → Dn n l i → Hp n (dn n k l i)
  | 0, l, i, hn, hk, h => fun k h0 h1 => h.1 k h0 h1 (by omega)
  | k + 1, l, i, hn, hk, h => by
    unfold dn
    split
    · rename_i c1
      exact fun k h0 h1 => h.1 k h0 h1 (by omega)
    · rename_i c1
      obtain ⟨hc, hcn, hmin⟩ := ch_two n l i c1
      obtain ⟨c, ec⟩ : ∃ c, c = ch n l i := ⟨_, rfl⟩
      rw [← ec] at hc hcn hmin ⊢
      clear ec
      have hci : (c - 1) / 2 = i := by omega
      split
      · rename_i c2
        have hs : ∀ k : Nat, k < n → rd (sw l i c) (k : Int) = if k = c then rd l (i : Int) else if k = i then rd l (c : Int) else rd l (k : Int) := fun k hk => rd_sw (by omega) (by omega) (by omega)
        refine dn_Hp n k _ c (by rw [sw_len]; exact hn) (by omega) ⟨fun m h0 h1 hne => ?_, fun m h0 h1 he hc0 => ?_⟩
        · obtain ⟨q, eq⟩ : ∃ q, q = (m - 1) / 2 := ⟨_, rfl⟩
          rw [← eq] at hne ⊢
          rw [hs m h1, hs q (by omega), if_neg hne]
          by_cases m1 : m = c
          · rw [if_pos m1, if_pos (by omega)]; omega
          · rw [if_neg m1]
            by_cases m2 : m = i
            · rw [if_pos m2, if_neg (by omega)]
              have := h.2 c (by omega) hcn hci (by omega)
              rw [eq, m2]; exact this
            · rw [if_neg m2]
              by_cases q1 : q = i
              · rw [if_pos q1]; exact hmin m (by omega) h0 h1
              · rw [if_neg q1]
                have := h.1 m h0 h1 (by omega)
                rw [eq]; exact this
        · rw [hs _ (by omega), hs m h1, if_neg (by omega), if_pos hci, if_neg (by omega), if_neg (by omega)]
          have := h.1 m h0 h1 (by omega)
          rw [he] at this; exact this
      · rename_i c2
        intro m h0 h1
        by_cases q1 : (m - 1) / 2 = i
        · have := hmin m q1 h0 h1
          rw [q1]; omega
        · exact h.1 m h0 h1 q1
theorem dn_perm (n : Nat) : ∀ (k : Nat) (l : List Int) (i : Nat), n ≤ l.length → (dn n k l i).Perm l
  | 0, l, i, hn => List.Perm.refl _
  | k + 1, l, i, hn => by
    unfold dn
    split
    · exact List.Perm.refl _
    · rename_i c1
      obtain ⟨hc, hcn, _⟩ := ch_two n l i c1
      split
      · exact (dn_perm n k _ _ (by rw [sw_len]; exact hn)).trans (sw_perm (by omega) (by omega))
      · exact List.Perm.refl _
theorem dn_rest (n : Nat) : ∀ (k : Nat) (l : List Int) (i m : Nat), n ≤ m → m < l.length → rd (dn n k l i) (m : Int) = rd l (m : Int)
  | 0, l, i, m, hn, hm => rfl
  | k + 1, l, i, m, hn, hm => by
    unfold dn
    split
    · rfl
    · rename_i c1
      obtain ⟨hc, hcn, _⟩ := ch_two n l i c1
      split
      · rw [dn_rest n k _ _ m hn (by rw [sw_len]; exact hm), rd_sw (by omega) (by omega) hm, if_neg (by omega), if_neg (by omega)]
      · rfl
def Up (n : Nat) (l : List Int) (j : Nat) : Prop := (∀ k : Nat, 0 < k → k < n → k ≠ j → rd l (((k - 1) / 2 : Nat) : Int) ≤ rd l (k : Int)) ∧ ∀ k : Nat, 0 < k → k < n → (k - 1) / 2 = j → 0 < j → rd l (((j - 1) / 2 : Nat) : Int) ≤ rd l (k : Int)
theorem upl_Hp (n : Nat) : ∀ (k : Nat) (l : List Int) (j : Nat), n ≤ l.length → j < n → j < k → Up n l j → Hp n (upl k l j)
  | 0, l, j, hn, hj, hk, h => by omega
  | k + 1, l, j, hn, hj, hk, h => by
    unfold upl
    split
    · rename_i c1
      exact fun m h0 h1 => h.1 m h0 h1 (by omega)
    · rename_i c1
      obtain ⟨i, ei⟩ : ∃ i, i = (j - 1) / 2 := ⟨_, rfl⟩
      rw [← ei]
      split
      · rename_i c2
        have hs : ∀ k : Nat, k < n → rd (sw l i j) (k : Int) = if k = j then rd l (i : Int) else if k = i then rd l (j : Int) else rd l (k : Int) := fun k hk => rd_sw (by omega) (by omega) (by omega)
        refine upl_Hp n k _ i (by rw [sw_len]; exact hn) (by omega) (by omega) ⟨fun m h0 h1 hne => ?_, fun m h0 h1 he hc0 => ?_⟩
        · obtain ⟨q, eq⟩ : ∃ q, q = (m - 1) / 2 := ⟨_, rfl⟩
          rw [← eq, hs m h1, hs q (by omega)]
          by_cases m1 : m = j
          · rw [if_pos m1, if_neg (by omega), if_pos (by omega)]; omega
          · rw [if_neg m1, if_neg hne]
            have hm := h.1 m h0 h1 m1
            rw [← eq] at hm
            by_cases q1 : q = j
            · rw [if_pos q1]
              have := h.2 m h0 h1 (by omega) (by omega)
              rw [ei]; exact this
            · rw [if_neg q1]
              by_cases q2 : q = i
              · rw [if_pos q2]; rw [q2] at hm; omega
              · rw [if_neg q2]; exact hm
        · have hi := h.1 i hc0 (by omega) (by omega)
          rw [hs _ (by omega), hs m h1, if_neg (by omega), if_neg (by omega)]
          by_cases m1 : m = j
          · rw [if_pos m1]; exact hi
          · rw [if_neg m1, if_neg (by omega)]
            have hm := h.1 m h0 h1 m1
            rw [he] at hm
            omega
      · rename_i c2
        intro m h0 h1
        by_cases m1 : m = j
        · rw [m1, ← ei]; omega
        · exact h.1 m h0 h1 m1
theorem upl_perm : ∀ (k : Nat) (l : List Int) (j : Nat), j < l.length → (upl k l j).Perm l
  | 0, l, j, hj => List.Perm.refl _
  | k + 1, l, j, hj => by
    unfold upl
    split
    · exact List.Perm.refl _
    · split
      · exact (upl_perm k _ _ (by rw [sw_len]; omega)).trans (sw_perm (by omega) hj)
      · exact List.Perm.refl _
theorem Hp_min {n : Nat} {l : List Int} (h : Hp n l) : ∀ k : Nat, k < n → rd l ((0 : Nat) : Int) ≤ rd l (k : Int) := by
  intro k
  induction k using Nat.strongRecOn with
  | ind k ih =>
    intro hk
    by_cases h0 : k = 0
    · rw [h0]; exact Int.le_refl _
    · exact Int.le_trans (ih ((k - 1) / 2) (by omega) (by omega)) (h k (by omega) hk)
theorem rd_take {l : List Int} {m k : Nat} (hk : k < m) (hm : m ≤ l.length) : rd (l.take m) (k : Int) = rd l (k : Int) := by
  rw [rd_get (by rw [List.length_take]; omega), rd_get (by omega), List.getElem_take]
theorem rd_app {l : List Int} {x : Int} {k : Nat} (hk : k < l.length) : rd (l ++ [x]) (k : Int) = rd l (k : Int) := by
  rw [rd_get (by simp; omega), rd_get hk, List.getElem_append_left]
/- What Pop does. -/
theorem pop_law {l : List Int} (h0 : 0 < l.length) (h : Hp l.length l) : rd (hpo l) ((l.length : Int) - 1) = rd l ((0 : Nat) : Int) ∧ Hp ((hpo l).take (l.length - 1)).length ((hpo l).take (l.length - 1)) ∧ (rd l ((0 : Nat) : Int) :: (hpo l).take (l.length - 1)).Perm l := by
  obtain ⟨N, eN⟩ : ∃ N, N = l.length - 1 := ⟨_, rfl⟩
  have hN : l.length = N + 1 := by omega
  have e1 : ((l.length : Int) - 1) = (N : Int) := by omega
  have hl : rd (hpo l) (N : Int) = rd l ((0 : Nat) : Int) := by
    unfold hpo
    rw [← eN, dn_rest N _ _ _ N (Nat.le_refl _) (by rw [sw_len]; omega), rd_sw (by omega) (by omega) (by omega), if_pos rfl]
  have hp : Hp N (hpo l) := by
    unfold hpo
    rw [← eN]
    refine dn_Hp N _ _ 0 (by rw [sw_len]; omega) (by omega) ⟨fun k k0 kN kne => ?_, fun k k0 kN ke h => by omega⟩
    rw [rd_sw (by omega) (by omega) (by omega), rd_sw (by omega) (by omega) (by omega), if_neg (by omega), if_neg (by omega), if_neg (by omega), if_neg (by omega)]
    exact h k k0 (by omega)
  have hlen : ((hpo l).take N).length = N := by rw [List.length_take, hpo_len]; omega
  rw [e1, ← eN]
  refine ⟨hl, ?_, ?_⟩
  · rw [hlen]
    intro k k0 kN
    rw [rd_take (by omega) (by rw [hpo_len]; omega), rd_take kN (by rw [hpo_len]; omega)]
    exact hp k k0 kN
  · have hq : (hpo l).Perm l := by
      unfold hpo
      exact (dn_perm _ _ _ _ (by rw [sw_len]; omega)).trans (sw_perm (by omega) (by omega))
    have e : hpo l = (hpo l).take N ++ [rd l ((0 : Nat) : Int)] := by
      have t := List.take_add_one (l := hpo l) (i := N)
      rw [List.getElem?_eq_getElem (by rw [hpo_len]; omega), ← rd_get (by rw [hpo_len]; omega), hl, List.take_of_length_le (by rw [hpo_len]; omega)] at t
      exact t
    refine List.Perm.trans ?_ hq
    conv => rhs; rw [e]
    exact (List.perm_append_singleton _ _).symm
/- What Push does. -/
theorem push_law {l : List Int} (x : Int) (h : Hp l.length l) : Hp (hpu l x).length (hpu l x) ∧ (hpu l x).Perm (x :: l) := by
  rw [hpu_len]
  unfold hpu
  refine ⟨upl_Hp _ _ _ _ (by simp) (by omega) (by omega) ⟨fun k k0 k1 kne => ?_, fun k k0 k1 ke h => by omega⟩, (upl_perm _ _ _ (by simp)).trans (List.perm_append_singleton _ _)⟩
  rw [rd_app (by omega), rd_app (by omega)]
  exact h k k0 (by omega)
/- The numbers that are free, in order. -/
theorem fre_ge : ∀ (l : List Bool) (k : Nat), ∀ x ∈ fre k l, (k : Int) ≤ x ∧ x < ((k + l.length : Nat) : Int)
  | [], k, x, h => by simp [fre] at h
  | a :: t, k, x, h => by
    unfold fre at h
    have ih := fre_ge t (k + 1) x
    simp only [List.length_cons]
    split at h
    · have := ih h; omega
    · rcases List.mem_cons.1 h with e | h
      · omega
      · have := ih h; omega
theorem fre_sorted : ∀ (l : List Bool) (k : Nat), (fre k l).Pairwise (· ≤ ·)
  | [], k => by simp [fre]
  | a :: t, k => by
    unfold fre
    split
    · exact fre_sorted t (k + 1)
    · exact List.pairwise_cons.2 ⟨fun x hx => by have := (fre_ge t (k + 1) x hx).1; omega, fre_sorted t (k + 1)⟩
theorem sorted_Hp {l : List Int} (h : l.Pairwise (· ≤ ·)) : Hp l.length l := fun k h0 h1 => by
  rw [rd_get (by omega), rd_get h1]
  exact List.pairwise_iff_getElem.1 h _ _ _ _ (by omega)
theorem fre_set : ∀ (l : List Bool) (k i : Nat), i < l.length → l.getD i false = false → (((k + i : Nat) : Int) :: fre k (l.set i true)).Perm (fre k l)
  | [], k, i, h, _ => by simp at h
  | a :: t, k, 0, h, e => by
    have ea : a = false := by simpa using e
    subst ea
    simp [fre]
  | a :: t, k, i + 1, h, e => by
    have ih := fre_set t (k + 1) i (by simpa using h) (by simpa using e)
    rw [show k + 1 + i = k + (i + 1) by omega] at ih
    rw [List.set_cons_succ]
    unfold fre
    cases a
    · simp only [Bool.false_eq_true, if_false]
      exact (List.Perm.swap _ _ _).trans (ih.cons _)
    · simp only [if_true]
      exact ih
theorem fre_take {l : List Bool} {i : Int} (h0 : 0 ≤ i) (h1 : i < (l.length : Int)) (h : rdOf false l i = false) : (i :: fre 0 (l.set i.toNat true)).Perm (fre 0 l) := by
  have := fre_set l 0 i.toNat (by omega) h
  rwa [show ((0 + i.toNat : Nat) : Int) = i by omega] at this
theorem fre_give {l : List Bool} {i : Int} (h0 : 0 ≤ i) (h1 : i < (l.length : Int)) (h : rdOf false l i = true) : (i :: fre 0 l).Perm (fre 0 (l.set i.toNat false)) := by
  have e : (l.set i.toNat false).set i.toNat true = l := by
    rw [List.set_set]
    apply List.ext_getElem?
    intro k
    have hg : l[i.toNat]? = some true := by
      have : l.getD i.toNat false = true := h
      rw [List.getD_eq_getElem?_getD] at this
      cases hh : l[i.toNat]? with
      | none => rw [hh] at this; exact absurd this (by decide)
      | some b => rw [hh] at this; exact congrArg some this
    rw [List.getElem?_set]
    split
    · rename_i ek; subst ek
      rw [if_pos (by omega), hg]
    · rfl
  have := fre_take (l := l.set i.toNat false) h0 (by rw [List.length_set]; exact h1) (by simp [rdOf, List.getD_eq_getElem?_getD, List.getElem?_set]; split <;> rfl)
  rwa [e] at this
theorem fre_mem : ∀ (l : List Bool) (k : Nat) (x : Int), x ∈ fre k l → l.getD (x - k).toNat false = false
  | [], k, x, h => by simp [fre] at h
  | a :: t, k, x, h => by
    unfold fre at h
    have ih := fre_mem t (k + 1) x
    have ge := fre_ge t (k + 1) x
    split at h
    · have g := ge h
      have := ih h
      rw [show (x - k).toNat = (x - ((k + 1 : Nat) : Int)).toNat + 1 by omega]
      simpa using this
    · rcases List.mem_cons.1 h with e | h
      · rename_i ha
        rw [e, show ((k : Int) - k).toNat = 0 by omega]
        simpa using ha
      · have g := ge h
        have := ih h
        rw [show (x - k).toNat = (x - ((k + 1 : Nat) : Int)).toNat + 1 by omega]
        simpa using this
/- The head of a heap is the least one. -/
theorem head_least {fr s : List Int} {x : Int} (hp : Hp fr.length fr) (h : fr.Perm (x :: s)) (hs : (x :: s).Pairwise (· ≤ ·)) : rd fr ((0 : Nat) : Int) = x := by
  have hl : fr.length = s.length + 1 := by rw [h.length_eq]; rfl
  have h1 : rd fr ((0 : Nat) : Int) ∈ x :: s := h.mem_iff.1 (by rw [rd_get (by omega)]; exact List.getElem_mem _)
  have h2 : x ≤ rd fr ((0 : Nat) : Int) := by
    rcases List.mem_cons.1 h1 with e | e
    · rw [e]; exact Int.le_refl _
    · exact (List.pairwise_cons.1 hs).1 _ e
  obtain ⟨i, hi, e⟩ := List.getElem_of_mem (h.mem_iff.2 (List.mem_cons_self : x ∈ x :: s))
  have h3 := Hp_min hp i hi
  rw [rd_get hi, e] at h3
  omega
/- A space and a row of the document's beside it. -/
def J (w0 w : World) (p : Nat) (tk : List Bool) (vL : Value) (l : List Bool) : Prop :=
  ∃ (t ct : Nat) (vF : Value) (fr : List Int), Below w0.heap.size w0 w ∧ w0.heap.size ≤ p ∧ 0 < tk.length ∧ tk.length ≤ 4096 ∧ Hp fr.length fr ∧ fr.Perm (fre 0 tk) ∧ sp w0.heap.size w p t ct tk.length vF tk fr ∧ Kd.R Kd.bool 4 w w0.heap.size (fun _ => True) vL l ∧ vL.ownBlock ≠ some t
theorem J_below {w0 w : World} {p : Nat} {tk : List Bool} {vL : Value} {l : List Bool} (h : J w0 w p tk vL l) : Below w0.heap.size w0 w := by
  obtain ⟨t, ct, vF, fr, h1, _⟩ := h; exact h1
theorem J_row {w0 w : World} {p : Nat} {tk : List Bool} {vL : Value} {l : List Bool} (h : J w0 w p tk vL l) : Kd.R Kd.bool 4 w w0.heap.size (fun _ => True) vL l := by
  obtain ⟨t, ct, vF, fr, _, _, _, _, _, _, _, h1, _⟩ := h; exact h1
theorem J_len {w0 w : World} {p : Nat} {tk : List Bool} {vL : Value} {l : List Bool} (h : J w0 w p tk vL l) : 0 < tk.length ∧ tk.length ≤ 4096 := by
  obtain ⟨t, ct, vF, fr, _, _, h1, h2, _⟩ := h; exact ⟨h1, h2⟩
/- Behind an act on the space. -/
theorem J_act {w0 w w' : World} {p t ct t' ct' : Nat} {tk tk' : List Bool} {vF vF' vL : Value} {fr fr' : List Int} {l : List Bool} {S : Nat → Prop} (hB : Below w0.heap.size w0 w) (hp : w0.heap.size ≤ p) (h0 : 0 < tk.length) (hm : tk.length ≤ 4096) (h : sp w0.heap.size w p t ct tk.length vF tk fr) (hL : Kd.R Kd.bool 4 w w0.heap.size (fun _ => True) vL l) (hLt : vL.ownBlock ≠ some t)
    (h' : sp w0.heap.size w' p t' ct' tk.length vF' tk' fr') (hp' : Hp fr'.length fr') (hf' : fr'.Perm (fre 0 tk')) (hk : skp S w w') (hS : ∀ i, S i → spS p t vF i) (ht : t' = t ∨ w.heap.size ≤ t') : J w0 w' p tk' vL l := by
  have hk : skp (spS p t vF) w w' := skp_mono hk hS
  have bt := Kd.R_base h.2.2 t rfl
  have bs : ∀ i, spS p t vF i → w0.heap.size ≤ i := by
    rintro i (e | e | e)
    · rw [e]; exact hp
    · rw [e]; exact bt
    · exact Kd.R_base h.2.1.2 i e.symm
  refine ⟨t', ct', vF', fr', skp_below hB hk bs, hp, by rw [h'.1]; exact h0, by rw [h'.1]; exact hm, hp', hf', by rw [h'.1]; exact h', ?_, ?_⟩
  · refine Kd.R_mono (Kd.R_move (Kd.R_bound (Kd.R_tight rfl hL)) ?_) (fun k hk => trivial)
    rintro k ⟨e, _, hlt, q, hq, cells, hc⟩
    have hq' : q = 4 := by simpa [Kd.bool, Kd.scalar] using hq
    subst hq'
    refine hk.2.2.2.2 k hlt ?_
    rintro (e1 | e1 | e1)
    · rw [e1, h.2.1.1] at hc
      injection hc with hc
      injection hc with _ h2
      exact absurd h2 (by decide)
    · exact hLt (by rw [← e, e1])
    · exact Kd.R_ne h.2.1.2 hc (by decide) e1
  · rcases ht with e | e
    · rw [e]; exact hLt
    · intro e2
      have := Kd.R_lt hL t' e2
      omega
theorem J_drawn {w0 w w' : World} {p : Nat} {tk : List Bool} {vL : Value} {l : List Bool} (h : J w0 w p tk vL l) (hd : Drawn0 w w') : J w0 w' p tk vL l := by
  obtain ⟨t, ct, vF, fr, h1, h2, h3, h4, h5, h6, h7, h8, h9⟩ := h
  exact J_act h1 h2 h3 h4 h7 h8 h9 (sp_drawn0 h7 hd) h5 h6 (skp_drawn (S := fun _ => False) hd) (fun i hi => hi.elim) (.inl rfl)
/- Behind an act of the document's. -/
theorem J_ref {w0 w w' : World} {p : Nat} {tk : List Bool} {vL v : Value} {l r : List Bool} {ok : Nat → Prop} (h : J w0 w p tk vL l) (hR : Kd.R Kd.bool 4 w' w0.heap.size (fun k => some k = vL.ownBlock ∨ w.heap.size ≤ k) v r) (hB : Below w0.heap.size w0 w') (hK : Kept w w' (fun k => some k = vL.ownBlock)) : J w0 w' p tk v r := by
  obtain ⟨t, ct, vF, fr, h1, h2, h3, h4, h5, h6, h7, h8, h9⟩ := h
  have keep : ∀ k, k < w.heap.size → some k ≠ vL.ownBlock → w'.heap[k]? = w.heap[k]? := fun k hk hn => hK.2 k hk hn
  have pne : some p ≠ vL.ownBlock := Kd.R_ne h8 h7.2.1.1 (by decide)
  refine ⟨t, ct, vF, fr, hB, h2, h3, h4, h5, h6, ⟨h7.1, ⟨by rw [keep p (blk_lt h7.2.1.1) pne]; exact h7.2.1.1, ?_⟩, ?_⟩, Kd.R_mono hR (fun _ _ => trivial), ?_⟩
  · refine Kd.R_mono (Kd.R_move (Kd.R_bound (Kd.R_tight rfl h7.2.1.2)) ?_) (fun k hk => trivial)
    rintro k ⟨e, _, hlt, q, hq, cells, hc⟩
    have hq' : q = 3 := by simpa [Kd.int, Kd.scalar] using hq
    subst hq'
    exact keep k hlt (Kd.R_ne h8 hc (by decide))
  · refine Kd.R_mono (Kd.R_move (Kd.R_bound (Kd.R_tight rfl h7.2.2)) ?_) (fun k hk => trivial)
    rintro k ⟨e, _, hlt, _⟩
    exact keep k hlt (fun e2 => h9 (by rw [← e2, e]; rfl))
  · intro e
    rcases hR.1 t e with e2 | e2
    · exact h9 e2.symm
    · have := Kd.R_lt h7.2.2 t rfl
      omega
/- What the acts tell, by the list of what is taken. -/
def tkx (tk : List Bool) : Int × Int × List Bool := match fre 0 tk with
  | [] => (0, 3, tk)
  | i :: _ => (i, 0, tk.set i.toNat true)
def gvx (tk : List Bool) (i : Int) : Int × List Bool := if tkn tk i then (0, tk.set i.toNat false) else (1, tk)
def onx (tk : List Bool) (l : List Int) : Int × List Bool := match onl tk.length (List.replicate tk.length false) l with
  | none => (1, tk)
  | some tk' => (0, tk')
/- Acts stay where they are. -/
def tyk (w w' : World) : Prop := ∀ (i : Nat) (cells : Array Value), w.heap[i]? = some (.cells cells 54 (0, 0)) → w'.heap[i]? = some (.cells cells 54 (0, 0))
theorem tyk_trans {w w1 w2 : World} (h : tyk w w1) (k : tyk w1 w2) : tyk w w2 := fun i c e => k i c (h i c e)
theorem tyk_below {w w' : World} (b : Below w.heap.size w w') : tyk w w' := fun i c e => blk_below e b
theorem tyk_drawn {w w' : World} (hd : Drawn0 w w') : tyk w w' := tyk_below (sp_drawn hd)
theorem sp_tyk {base p t ct M : Nat} {w w' : World} {vF : Value} {tk : List Bool} {fr : List Int} (h : sp base w p t ct M vF tk fr) (hk : skp (spS p t vF) w w') : tyk w w' := fun i c e => by
  rw [hk.2.2.2.2 i (blk_lt e) ?_]
  · exact e
  rintro (e1 | e1 | e1)
  · rw [e1, h.2.1.1] at e
    injection e with e
    injection e with _ h2
    exact absurd h2 (by decide)
  · exact Kd.R_ne h.2.2 e (by decide) (by rw [e1]; rfl)
  · exact Kd.R_ne h.2.1.2 e (by decide) e1
theorem row_tyk {w0 w w' : World} {p : Nat} {tk : List Bool} {vL : Value} {l : List Bool} (h : J w0 w p tk vL l) (hK : Kept w w' (fun k => some k = vL.ownBlock)) : tyk w w' := fun i c e => by
  rw [hK.2 i (blk_lt e) (Kd.R_ne (J_row h) e (by decide))]
  exact e
theorem J_Free {w0 w : World} {p : Nat} {tk : List Bool} {vL : Value} {l : List Bool} (h : J w0 w p tk vL l) :
    Calls Try.prog 36 #[.pointer (some ⟨p, 0, none⟩)] w fun e w' => e = .returned (.int .i64 ((fre 0 tk).length : Int)) ∧ J w0 w' p tk vL l ∧ Drawn0 w w' := by
  obtain ⟨t, ct, vF, fr, h1, h2, h3, h4, h5, h6, h7, h8, h9⟩ := id h
  refine (sp_Free h7).mono ?_
  rintro e w' ⟨rfl, hd⟩
  exact ⟨by rw [h6.length_eq], J_drawn h hd, hd⟩
theorem J_Taken {w0 w : World} {p : Nat} {tk : List Bool} {vL : Value} {l : List Bool} (h : J w0 w p tk vL l) (i : Int) (b : Bool) (hb : tkn tk i = b) :
    Calls Try.prog 37 #[.pointer (some ⟨p, 0, none⟩), .int .i64 i] w fun e w' => e = .returned (.bool b) ∧ J w0 w' p tk vL l ∧ Drawn0 w w' := by
  obtain ⟨t, ct, vF, fr, h1, h2, h3, h4, h5, h6, h7, h8, h9⟩ := id h
  refine (sp_Taken i b hb h7).mono ?_
  rintro e w' ⟨rfl, hd⟩
  exact ⟨rfl, J_drawn h hd, hd⟩
theorem J_Take {w0 w : World} {p : Nat} {tk : List Bool} {vL : Value} {l : List Bool} (h : J w0 w p tk vL l) (x e tk' : _) (hx : tkx tk = (x, e, tk')) :
    Calls Try.prog 46 #[.pointer (some ⟨p, 0, none⟩)] w fun r w' => r = .returned (.tuple #[.int .i64 x, .int .i64 e]) ∧ J w0 w' p tk' vL l ∧ tyk w w' := by
  obtain ⟨t, ct, vF, fr, h1, h2, h3, h4, h5, h6, h7, h8, h9⟩ := id h
  have hfl := fre_len tk 0
  unfold tkx at hx
  cases hf : fre 0 tk with
  | nil =>
    rw [hf] at h6 hx
    have hn : fr = [] := h6.eq_nil
    subst hn
    injection hx with e1 e2
    injection e2 with e2 e3
    subst e1 e2 e3
    refine (sp_Full h7).mono ?_
    rintro r w' ⟨rfl, hd⟩
    exact ⟨rfl, J_drawn h hd, tyk_drawn hd⟩
  | cons i s =>
    rw [hf] at hx
    injection hx with e1 e2
    injection e2 with e2 e3
    subst e1 e2 e3
    have hl : fr.length = s.length + 1 := by rw [h6.length_eq, hf]; rfl
    have hs := fre_sorted tk 0
    rw [hf] at hs
    have hi := head_least h5 (hf ▸ h6) hs
    obtain ⟨q1, q2, q3⟩ := pop_law (by omega) h5
    have ge := fre_ge tk 0 i (by rw [hf]; exact List.mem_cons_self)
    have nm := fre_mem tk 0 i (by rw [hf]; exact List.mem_cons_self)
    have hr : rdOf false tk i = false := by simpa [rdOf] using nm
    rw [hi] at q1 q3
    rw [hf, List.length_cons] at hfl
    refine (sp_Take h7 (by omega) (by omega) i q1 (by omega) (by omega)).mono ?_
    rintro r w' ⟨rfl, vF', hsp, ho, hk⟩
    refine ⟨rfl, J_act h1 h2 h3 h4 h7 h8 h9 hsp q2 ?_ hk (fun i hi => hi) (.inl rfl), sp_tyk h7 hk⟩
    exact (List.perm_cons i).1 ((q3.trans h6).trans (fre_take (by omega) (by omega) hr).symm)
theorem J_Give {w0 w : World} {p : Nat} {tk : List Bool} {vL : Value} {l : List Bool} (h : J w0 w p tk vL l) (i e tk' : _) (hx : gvx tk i = (e, tk')) :
    Calls Try.prog 47 #[.pointer (some ⟨p, 0, none⟩), .int .i64 i] w fun r w' => r = .returned (.int .i64 e) ∧ J w0 w' p tk' vL l ∧ tyk w w' := by
  obtain ⟨t, ct, vF, fr, h1, h2, h3, h4, h5, h6, h7, h8, h9⟩ := id h
  have hfl := fre_len tk 0
  unfold gvx at hx
  cases hb : tkn tk i with
  | false =>
    rw [hb, if_neg (by decide)] at hx
    injection hx with e1 e2
    subst e1 e2
    refine (sp_Not h7 i hb).mono ?_
    rintro r w' ⟨rfl, hd⟩
    exact ⟨rfl, J_drawn h hd, tyk_drawn hd⟩
  | true =>
    rw [hb, if_pos rfl] at hx
    injection hx with e1 e2
    subst e1 e2
    obtain ⟨i0, i1, i2⟩ := tkn_lt hb
    have q := push_law i h5
    refine (sp_Give h7 (by have := h6.length_eq; omega) h1.size i hb).mono ?_
    rintro r w' ⟨rfl, vF', hsp, ho, hk⟩
    exact ⟨rfl, J_act h1 h2 h3 h4 h7 h8 h9 hsp q.1 (q.2.trans ((h6.cons i).trans (fre_give i0 i1 i2))) hk (fun i hi => hi) (.inl rfl), sp_tyk h7 hk⟩
theorem onl_len {M : Nat} : ∀ (l : List Int) (a r : List Bool), onl M a l = some r → r.length = a.length
  | [], a, r, h => by injection h with h; rw [h]
  | i :: t, a, r, h => by
    unfold onl at h
    split at h
    · rw [onl_len t _ r h, List.length_set]
    · exact absurd h (by simp)
theorem J_Only {w0 w : World} {p : Nat} {tk : List Bool} {vL : Value} {l : List Bool} (h : J w0 w p tk vL l) (A : Option Addr) (n c : Nat) (ns : List Int) (hl : Kd.C (Kd.int .i64) w0 A n ns) (hn : n = ns.length) (e tk' : _) (hx : onx tk ns = (e, tk')) :
    Calls Try.prog 48 #[.pointer (some ⟨p, 0, none⟩), .slice A n c] w fun r w' => r = .returned (.int .i64 e) ∧ J w0 w' p tk' vL l ∧ tyk w w' := by
  obtain ⟨t, ct, vF, fr, h1, h2, h3, h4, h5, h6, h7, h8, h9⟩ := id h
  refine (sp_Only h1 h7 h3 h4 A n c ns hl hn).mono ?_
  unfold onx at hx
  rintro r w' (⟨e1, rfl, hk⟩ | ⟨tk2, t', ct', vF', e1, rfl, ht, hsp, ho, hk⟩)
  · rw [e1] at hx
    injection hx with x1 x2
    subst x1 x2
    exact ⟨rfl, J_act h1 h2 h3 h4 h7 h8 h9 (sp_skp h7 hk (fun i hi => hi.elim)) h5 h6 hk (fun i hi => hi.elim) (.inl rfl), sp_tyk h7 (skp_mono hk (fun i hi => hi.elim))⟩
  · rw [e1] at hx
    injection hx with x1 x2
    subst x1 x2
    exact ⟨rfl, J_act h1 h2 h3 h4 h7 h8 h9 hsp (sorted_Hp (fre_sorted _ _)) (List.Perm.refl _) hk (fun i hi => .inl hi) (.inr ht), sp_tyk h7 (skp_mono hk (fun i hi => .inl hi))⟩
theorem J_New {w0 w : World} {vL : Value} {l : List Bool} (hB : Below w0.heap.size w0 w) (hL : Kd.R Kd.bool 4 w w0.heap.size (fun _ => True) vL l) (n : Int) (h1 : 1 ≤ n) (h2 : n ≤ 4096) :
    Calls Try.prog 34 #[.int .i64 n] w fun e w' => ∃ p, e = .returned (.tuple #[.pointer (some ⟨p, 0, none⟩), .int .i64 0]) ∧ J w0 w' p (List.replicate n.toNat false) vL l := by
  refine (sp_New w0.heap.size n w hB.size h1 h2).mono ?_
  rintro e w' ⟨p, t, ct, vF, rfl, hp, ht, hs, hk⟩
  have b : Below w.heap.size w w' := skp_below (Below.refl _ _) hk (fun i hi => hi.elim)
  refine ⟨p, rfl, t, ct, vF, _, below_step hB b, Nat.le_trans hB.size hp, by rw [List.length_replicate]; omega, by rw [List.length_replicate]; omega, sorted_Hp (fre_sorted _ _), List.Perm.refl _, by rw [List.length_replicate]; exact hs, Kd.R_below hL b, fun e => ?_⟩
  have := Kd.R_lt hL t e
  omega
set_option maxRecDepth 20000 in
set_option maxHeartbeats 8000000 in
theorem space_alive (w : World) : Calls Try.prog 35 #[] w fun e w' => e = .returned (.bool true) ∧ Below w.heap.size w w' := by
  have N0 : Kd.R Kd.bool 4 w w.heap.size (fun _ => True) (.slice none 0 0) [] := Kd.R_nil _ _ _ _ _
  go_enter Try.func35, Try.ntmps35
  go_wp2_with (first | (go_at_call 34; refine (J_New (w0 := w) (Below.refl _ _) N0 2 (by decide) (by decide)).mono ?_; rintro e w1 ⟨p, rfl, hJ⟩; have J1 := Aside0.mk (show J w w1 p [false, false] (.slice none 0 0) [] from hJ); clear hJ) | (go_at_call 46; refine (J_Take J1.out 0 0 [true, false] (by decide)).mono ?_; rintro e w2 ⟨rfl, hJ, _⟩; have J2 := Aside0.mk hJ; clear hJ J1) | (go_at_call 46; refine (J_Take J2.out 1 0 [true, true] (by decide)).mono ?_; rintro e w3 ⟨rfl, hJ, _⟩; have J3 := Aside0.mk hJ; clear hJ J2) | (go_at_call 46; refine (J_Take J3.out 0 3 [true, true] (by decide)).mono ?_; rintro e w4 ⟨rfl, hJ, _⟩; have J4 := Aside0.mk hJ; clear hJ J3) | (go_at_call 47; refine (J_Give J4.out 0 0 [false, true] (by decide)).mono ?_; rintro e w5 ⟨rfl, hJ, _⟩; have J5 := Aside0.mk hJ; clear hJ J4) | (go_at_call 36; refine (J_Free J5.out).mono ?_; rintro e w6 ⟨rfl, hJ, _⟩; have J6 := Aside0.mk hJ; clear hJ J5) | (go_at_call 37; refine (J_Taken J6.out 1 true (by decide)).mono ?_; rintro e w7 ⟨rfl, hJ, _⟩; have J7 := Aside0.mk hJ; clear hJ J6) | (go_at_call 37; refine (J_Taken J7.out 0 false (by decide)).mono ?_; rintro e w8 ⟨rfl, hJ, _⟩; have J8 := Aside0.mk hJ; clear hJ J7))
  go_ret
  exact ⟨rfl, J_below J8.out⟩
/- Behind what leaves all that was there. -/
theorem J_deep {w0 w w' : World} {p : Nat} {tk : List Bool} {vL : Value} {l : List Bool} (h : J w0 w p tk vL l) (b : Below w.heap.size w w') : J w0 w' p tk vL l := by
  obtain ⟨t, ct, vF, fr, h1, h2, h3, h4, h5, h6, h7, h8, h9⟩ := h
  exact J_act h1 h2 h3 h4 h7 h8 h9 ⟨h7.1, ⟨blk_below h7.2.1.1 b, Kd.R_below h7.2.1.2 b⟩, Kd.R_below h7.2.2 b⟩ h5 h6 (skp_of_below (S := fun _ => False) b) (fun i hi => hi.elim) (.inl rfl)
/- An act: what it tells, and what is taken behind it. -/
def plx (tk : List Bool) (a0 a1 : Int) (ns : List Int) : Int × Int × List Bool :=
  if a0 = 1 then tkx tk else if a0 = 2 then (0, gvx tk a1) else if a0 = 3 then (0, onx tk ns) else (0, 0, tk)
set_option maxRecDepth 8000 in
set_option maxHeartbeats 8000000 in
theorem J_play {w0 w : World} {p : Nat} {tk : List Bool} {vL : Value} {l : List Bool} (h : J w0 w p tk vL l) (a0 a1 : Int) (A : Option Addr) (n c : Nat) (ns : List Int) (hl : Kd.C (Kd.int .i64) w0 A n ns) (hn : n = ns.length) (x e tk' : _) (hx : plx tk a0 a1 ns = (x, e, tk')) :
    Calls Try.prog 40 #[.pointer (some ⟨p, 0, none⟩), .agg #[.int .i64 a0, .int .i64 a1, .slice A n c]] w fun r w' => r = .returned (.tuple #[.int .i64 x, .int .i64 e]) ∧ J w0 w' p tk' vL l ∧ tyk w w' := by
  have H := Aside0.mk h
  have HL := Aside0.mk hl
  have HN := Aside0.mk hn
  have HX := Aside0.mk hx
  clear h hl hn hx
  go_enter Try.func40, Try.ntmps40
  go_upto_region 1 with ((with_reducible refine gate_dst (N := 3) rfl ?_); (try (refine gate_guard (by rfl) ?_; dsimp only)); refine box_event ?hg (N := 3) ?hd (cs := #[.int .i64 a0, .int .i64 a1, .slice A n c]) (t := 54) ?hr ?_; (case hd => rfl); (case hg => rfl); (case hr => first | (go_simp; done) | (go_simp; rfl)); intro b1 hp1 w1 hbox hb; have H1 := Aside0.mk (J_deep H.out hb); have Y1 := Aside0.mk (tyk_below hb); have z0 : w1.cell? ⟨b1, 0, none⟩ = some (.int .i64 a0) := (blk_cell hbox 0).trans rfl; have z1 : w1.cell? ⟨b1, 1, none⟩ = some (.int .i64 a1) := (blk_cell hbox 1).trans rfl; have z2 : w1.cell? ⟨b1, 2, none⟩ = some (.slice A n c) := (blk_cell hbox 2).trans rfl; clear hp1 hbox hb)
  by_cases c1 : a0 = 1
  · have E : tkx tk = (x, e, tk') := by rw [← HX.out]; exact (if_pos c1).symm
    have EE := Aside0.mk E
    have c1b : (a0 == 1) = true := beq_iff_eq.2 c1
    clear c1 E
    go_wp2_with (go_at_call 46; refine (J_Take H1.out _ _ _ EE.out).mono ?_; rintro r w2 ⟨rfl, hJ, hy⟩; have J2 := Aside0.mk hJ; have Y2 := Aside0.mk hy; clear hJ hy)
    go_ret2
    exact ⟨rfl, J2.out, tyk_trans Y1.out Y2.out⟩
  · have c1b : (a0 == 1) = false := beq_eq_false_iff_ne.2 c1
    by_cases c2 : a0 = 2
    · have E : (0, gvx tk a1) = (x, e, tk') := by rw [← HX.out]; unfold plx; rw [if_neg c1, if_pos c2]
      injection E with E0 E1
      subst E0
      have EE := Aside0.mk E1
      have c2b : (a0 == 2) = true := beq_iff_eq.2 c2
      clear c1 c2 E1
      go_wp2_with (go_at_call 47; refine (J_Give H1.out _ _ _ EE.out).mono ?_; rintro r w2 ⟨rfl, hJ, hy⟩; have J2 := Aside0.mk hJ; have Y2 := Aside0.mk hy; clear hJ hy)
      go_ret2
      exact ⟨rfl, J2.out, tyk_trans Y1.out Y2.out⟩
    · have c2b : (a0 == 2) = false := beq_eq_false_iff_ne.2 c2
      by_cases c3 : a0 = 3
      · have E : (0, onx tk ns) = (x, e, tk') := by rw [← HX.out]; unfold plx; rw [if_neg c1, if_neg c2, if_pos c3]
        injection E with E0 E1
        subst E0
        have EE := Aside0.mk E1
        have c3b : (a0 == 3) = true := beq_iff_eq.2 c3
        clear c1 c2 c3 E1
        go_wp2_with (go_at_call 48; refine (J_Only H1.out A n c ns HL.out HN.out _ _ EE.out).mono ?_; rintro r w2 ⟨rfl, hJ, hy⟩; have J2 := Aside0.mk hJ; have Y2 := Aside0.mk hy; clear hJ hy)
        go_ret2
        exact ⟨rfl, J2.out, tyk_trans Y1.out Y2.out⟩
      · have c3b : (a0 == 3) = false := beq_eq_false_iff_ne.2 c3
        have E : (0, 0, tk) = (x, e, tk') := by rw [← HX.out]; unfold plx; rw [if_neg c1, if_neg c2, if_neg c3]
        injection E with E0 E1
        injection E1 with E1 E2
        subst E0 E1 E2
        clear c1 c2 c3
        go_wp2
        go_ret2
        exact ⟨rfl, H1.out, Y1.out⟩
def marginalialaw18_alive.f : Option (Bool) := some true
theorem marginalialaw18_alive.calls (r : Bool) (w : World) (h : marginalialaw18_alive.f = some r) :
    Calls Try.prog 35 #[] w fun e w' => e = .returned (.bool r) ∧ Below w.heap.size w w' := by
  obtain rfl := Option.some.inj h
  exact space_alive w

end Go.Proofs.Ytmdmoohkdkooaaa.S
