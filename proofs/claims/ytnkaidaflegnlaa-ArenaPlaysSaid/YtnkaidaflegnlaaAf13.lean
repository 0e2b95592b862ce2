/- The functions of the program that these laws reach, each as a plain Lean function, and the proof that the machine's call comes to it; no condition beyond those that each theorem names. Made by wip/xprint.py. -/
import Derived.Test.YtnkaidaflegnlaaAx0
import Derived.Test.YtnkaidaflegnlaaAe1
import Derived.Test.YtnkaidaflegnlaaAf27
import Derived.Test.YtnkaidaflegnlaaAf64
import Derived.Test.YtnkaidaflegnlaaAf78
import Derived.Test.YtnkaidaflegnlaaAh
namespace Go.Proofs.Ytnkaidaflegnlaa.A
open Go.RowKit Go.Proofs.YtnkaidaflegnlaaW.PrintWords Go.Proofs.YtnkaidaflegnlaaW.PrintLast Go.Proofs.YtnkaidaflegnlaaW.PrintMore
attribute [local go_sem] max2_int min2_int max_two min_two max_three min_three max_four min_four   -- for this text's walks alone
set_option linter.unusedVariables false
set_option linter.unusedSimpArgs false
attribute [local go_sem high] eqA103
-- NOT PRINTED: function 29 (arena_Tree_Comment)
-- NOT PRINTED: function 30 (arena_Tree_Len)
-- NOT PRINTED: function 31 (arena_Tree_Copy)
-- NOT PRINTED: function 37 (arena_Tree_Parent)
-- NOT PRINTED: function 38 (arena_Tree_Value)
-- NOT PRINTED: function 39 (arena_Tree_Remove)

/-! ### marginalialaw05_ArenaNil: function 13: by hand -/
/- Same of a value and itself. -/
theorem Attrs_loop (l : List S103) (hl : l.length ≤ 9223372036854775807) : ∀ (m j k : Nat), j + m = l.length → m < k → marginaliaref04_Attrs.l0 k l l (j : Int) = some true
  | 0, j, k, hj, hk => by
    obtain ⟨k, rfl⟩ : ∃ q, k = q + 1 := ⟨k - 1, by omega⟩
    rw [marginaliaref04_Attrs.l0, if_neg (by omega)]
  | m + 1, j, k, hj, hk => by
    obtain ⟨k, rfl⟩ : ∃ q, k = q + 1 := ⟨k - 1, by omega⟩
    rw [marginaliaref04_Attrs.l0, if_pos (by omega), if_pos (by omega), if_pos (by omega), if_neg (by simp), show wrap64 ((j : Int) + 1) = ((j + 1 : Nat) : Int) by unfold wrap64; omega]
    exact Attrs_loop l hl m (j + 1) k (by omega) (by omega)
theorem Attrs_refl (l : List S103) (hl : l.length ≤ 9223372036854775807) : marginaliaref04_Attrs.f (l.length + 1) l l = some true := by
  unfold marginaliaref04_Attrs.f
  rw [if_pos rfl]
  exact Attrs_loop l hl l.length 0 _ (by omega) (by omega)
/- Of each memory that has it. -/
def SameOK (x : S67) : Prop := ∀ (w : World) (P3 P5 Q3 Q5 : Option Addr) (p3 p5 q3 q5 : Nat), x.f3.length ≤ p3 → x.f5.length ≤ p5 → x.f3.length ≤ q3 → x.f5.length ≤ q5 → Kd.C k103 w P3 x.f3.length x.f3 → Kd.C k67 w P5 x.f5.length x.f5 → Kd.C k103 w Q3 x.f3.length x.f3 → Kd.C k67 w Q5 x.f5.length x.f5 →
  Calls Try.prog 40 #[.agg #[.int .i64 x.f0, .int .i64 x.f1, .string x.f2, .slice P3 x.f3.length p3, .string x.f4, .slice P5 x.f5.length p5], .agg #[.int .i64 x.f0, .int .i64 x.f1, .string x.f2, .slice Q3 x.f3.length q3, .string x.f4, .slice Q5 x.f5.length q5]] w fun e w' => e = .returned (.bool true) ∧ Below w.heap.size w w'
def SamesOK (l : List S67) : Prop := ∀ (w : World) (P Q : Option Addr) (p q : Nat), l.length ≤ p → l.length ≤ q → Kd.C k67 w P l.length l → Kd.C k67 w Q l.length l →
  Calls Try.prog 79 #[.slice P l.length p, .slice Q l.length q] w fun e w' => e = .returned (.bool true) ∧ Below w.heap.size w w'
theorem same_at {x : S67} (h : SameOK x) {w W : World} {P3 P5 Q3 Q5 : Option Addr} {p3 p5 q3 q5 m3 m5 : Nat} (e3 : m3 = x.f3.length) (e5 : m5 = x.f5.length) (h1 : x.f3.length ≤ p3) (h2 : x.f5.length ≤ p5) (h3 : x.f3.length ≤ q3) (h4 : x.f5.length ≤ q5) (c1 : Kd.C k103 w P3 x.f3.length x.f3) (c2 : Kd.C k67 w P5 x.f5.length x.f5) (c3 : Kd.C k103 w Q3 x.f3.length x.f3) (c4 : Kd.C k67 w Q5 x.f5.length x.f5) (hb : Below w.heap.size w W) :
    Calls Try.prog 40 #[.agg #[.int .i64 x.f0, .int .i64 x.f1, .string x.f2, .slice P3 m3 p3, .string x.f4, .slice P5 m5 p5], .agg #[.int .i64 x.f0, .int .i64 x.f1, .string x.f2, .slice Q3 m3 q3, .string x.f4, .slice Q5 m5 q5]] W fun e w' => e = .returned (.bool true) ∧ Below W.heap.size W w' := by
  subst e3 e5
  exact h W P3 P5 Q3 Q5 p3 p5 q3 q5 h1 h2 h3 h4 (Kd.C_below c1 hb) (Kd.C_below c2 hb) (Kd.C_below c3 hb) (Kd.C_below c4 hb)
theorem attrs_at {l : List S103} {w : World} {P Q : Option Addr} {p q m : Nat} (e : m = l.length) (h1 : l.length ≤ p) (h2 : l.length ≤ q) (c1 : Kd.C k103 w P l.length l) (c2 : Kd.C k103 w Q l.length l) (hl : l.length ≤ 9223372036854775807) :
    Calls Try.prog 78 #[.slice P m p, .slice Q m q] w fun e w' => e = .returned (.bool true) ∧ Drawn0 w w' := by
  subst e
  exact marginaliaref04_Attrs.calls (l.length + 1) P p l Q q l true w c1 h1 c2 h2 (Attrs_refl l hl)
theorem sames_at {l : List S67} (h : SamesOK l) {w : World} {P Q : Option Addr} {p q m : Nat} (e : m = l.length) (h1 : l.length ≤ p) (h2 : l.length ≤ q) (c1 : Kd.C k67 w P l.length l) (c2 : Kd.C k67 w Q l.length l) :
    Calls Try.prog 79 #[.slice P m p, .slice Q m q] w fun e w' => e = .returned (.bool true) ∧ Below w.heap.size w w' := by
  subst e
  exact h w P Q p q h1 h2 c1 c2
theorem C_half {α : Type} {d : Kd α} {w : World} {A : Option Addr} {xs : List α} {e : Nat} (h : Kd.C d w A xs.length xs) : xs.length ≤ 9223372036854775807 := Kd.C_max h
theorem bx6 {w : World} {g : Nat} {a b c d e f : Value} {t : TypeId} (h : w.heap[g]? = some (.cells #[a, b, c, d, e, f] t (0, 0))) : w.cell? ⟨g, 0, none⟩ = some a ∧ w.cell? ⟨g, 1, none⟩ = some b ∧ w.cell? ⟨g, 2, none⟩ = some c ∧ w.cell? ⟨g, 3, none⟩ = some d ∧ w.cell? ⟨g, 4, none⟩ = some e ∧ w.cell? ⟨g, 5, none⟩ = some f :=
  ⟨(blk_cell h 0).trans rfl, (blk_cell h 1).trans rfl, (blk_cell h 2).trans rfl, (blk_cell h 3).trans rfl, (blk_cell h 4).trans rfl, (blk_cell h 5).trans rfl⟩
set_option maxRecDepth 20000 in
set_option maxHeartbeats 8000000 in
theorem same_step (x : S67) (ih : SamesOK x.f5) : SameOK x := by
  intro w P3 P5 Q3 Q5 p3 p5 q3 q5 h1 h2 h3 h4 c1 c2 c3 c4
  have hx : x.f3.length ≤ 9223372036854775807 := Kd.C_max c1
  have IH := Aside0.mk ih
  have HX := Aside0.mk hx
  have L1 := Aside0.mk h1
  have L2 := Aside0.mk h2
  have L3 := Aside0.mk h3
  have L4 := Aside0.mk h4
  have C1 := Aside0.mk c1
  have C2 := Aside0.mk c2
  have C3 := Aside0.mk c3
  have C4 := Aside0.mk c4
  obtain ⟨m3, e3⟩ : ∃ m, m = x.f3.length := ⟨_, rfl⟩
  obtain ⟨m5, e5⟩ : ∃ m, m = x.f5.length := ⟨_, rfl⟩
  have E3 := Aside0.mk e3
  have E5 := Aside0.mk e5
  rw [← e3, ← e5]
  obtain ⟨x0, hx0⟩ : ∃ a, a = x.f0 := ⟨_, rfl⟩
  obtain ⟨x1, hx1⟩ : ∃ a, a = x.f1 := ⟨_, rfl⟩
  obtain ⟨x2, hx2⟩ : ∃ a, a = x.f2 := ⟨_, rfl⟩
  obtain ⟨x4, hx4⟩ : ∃ a, a = x.f4 := ⟨_, rfl⟩
  rw [← hx0, ← hx1, ← hx2, ← hx4]
  clear ih hx h1 h2 h3 h4 c1 c2 c3 c4 e3 e5 hx0 hx1 hx2 hx4
  have b0 : (x0 == x0) = true := beq_self_eq_true _
  have b1 : (x1 == x1) = true := beq_self_eq_true _
  have b2 : (x2.toList == x2.toList) = true := beq_self_eq_true _
  have b4 : (x4.toList == x4.toList) = true := beq_self_eq_true _
  go_enter Try.func40, Try.ntmps40
  go_wp2_with (first | (go_at_call 78; refine (attrs_at E3.out L1.out L3.out (Kd.C_below C1.out (below_step (below_alloc (Below.refl _ _) _) (below_alloc (Below.refl _ _) _))) (Kd.C_below C3.out (below_step (below_alloc (Below.refl _ _) _) (below_alloc (Below.refl _ _) _))) HX.out).mono ?_; rintro e w1 ⟨rfl, hd⟩; have B1 := Aside0.mk (below_step (below_step (below_alloc (Below.refl w.heap.size w) _) (below_alloc (Below.refl _ _) _)) (drawn_below hd)); obtain ⟨nd, hnd⟩ := hd.out; subst hnd; clear hd) | (go_at_call 79; refine (sames_at IH.out E5.out L2.out L4.out (Kd.C_below C2.out B1.out) (Kd.C_below C4.out B1.out)).mono ?_; rintro e w2 ⟨rfl, hb⟩; have B2 := Aside0.mk (below_step B1.out hb); clear hb))
  go_ret
  exact ⟨rfl, B2.out⟩
set_option maxRecDepth 20000 in
set_option maxHeartbeats 8000000 in
theorem sames_step (l : List S67) (ih : ∀ x ∈ l, SameOK x) : SamesOK l := by
  intro w P Q p q h1 h2 c1 c2
  have IH := Aside0.mk ih
  have C1 := Aside0.mk c1
  have C2 := Aside0.mk c2
  have hm := Kd.C_max c1
  obtain ⟨n, hn⟩ : ∃ n, n = l.length := ⟨_, rfl⟩
  rw [← hn] at hm h1 h2 ⊢
  have HN := Aside0.mk hn
  clear ih c1 c2 hn
  go_enter Try.func79, Try.ntmps79
  go_wp2
  go_loopw [5] (fun v5 wr => ∃ j : Nat, v5 = .int .i64 (j : Int) ∧ j ≤ n ∧ Aside0 (Below w.heap.size w wr)) (fun v5 _ => n - (intOf v5).toNat)
  case atStart => exact ⟨0, rfl, Nat.zero_le _, ⟨Below.refl _ _⟩⟩
  case round =>
    obtain ⟨j, rfl, hj, HB⟩ := hrel
    by_cases d : j < n
    · have db : decide (j < n) = true := decide_eq_true d
      obtain ⟨ad0, P3, p3, P5, p5, e0, a0, a1, a2, a3, a4, a5, l3, r3, l5, r5⟩ := at_T67 (Kd.C_below C1.out HB.out) (j : Int) (by omega) (by have := HN.out; omega)
      obtain ⟨ad1, Q3, q3, Q5, q5, e1, b0, b1, b2, b3, b4, b5, s3, t3, s5, t5⟩ := at_T67 (Kd.C_below C2.out HB.out) (j : Int) (by omega) (by have := HN.out; omega)
      subst e0 e1
      obtain ⟨x, hx⟩ : ∃ x, x = rd_T67 l (j : Int) := ⟨_, rfl⟩
      have HM := Aside0.mk (show x ∈ l by rw [hx]; unfold rd_T67; rw [Int.toNat_natCast, List.getD_eq_getElem?_getD, List.getElem?_eq_getElem (show j < l.length by have := HN.out; omega)]; exact List.getElem_mem _)
      rw [← hx] at a0 a1 a2 a3 a4 a5 l3 r3 l5 r5 b0 b1 b2 b3 b4 b5 s3 t3 s5 t5
      simp only [Int.toNat_natCast] at a0 a1 a2 a3 a4 a5 b0 b1 b2 b3 b4 b5
      obtain ⟨m3, e3⟩ : ∃ m, m = x.f3.length := ⟨_, rfl⟩
      obtain ⟨m5, e5⟩ : ∃ m, m = x.f5.length := ⟨_, rfl⟩
      rw [← e3] at a3 b3
      rw [← e5] at a5 b5
      have HX0 := Aside0.mk a0; have HX1 := Aside0.mk a1; have HX2 := Aside0.mk a2; have HX3 := Aside0.mk a3; have HX4 := Aside0.mk a4; have HX5 := Aside0.mk a5
      have HY0 := Aside0.mk b0; have HY1 := Aside0.mk b1; have HY2 := Aside0.mk b2; have HY3 := Aside0.mk b3; have HY4 := Aside0.mk b4; have HY5 := Aside0.mk b5
      have HM3 := Aside0.mk e3
      have HM5 := Aside0.mk e5
      have L3 := Aside0.mk l3; have L5 := Aside0.mk l5; have R3 := Aside0.mk s3; have R5 := Aside0.mk s5
      have C3 := Aside0.mk r3; have C5 := Aside0.mk r5; have D3 := Aside0.mk t3; have D5 := Aside0.mk t5
      have j1 : (j : Int) < (n : Int) := by omega
      clear a0 a1 a2 a3 a4 a5 b0 b1 b2 b3 b4 b5 e3 e5 l3 l5 s3 s5 r3 r5 t3 t5 hx
      go_upto_region 6 with (fail)
      refine start_ (n := 10) (S := fun w' => w'.cell? (ad0.add (j * 6)) = some (.int .i64 x.f0) ∧ w'.cell? ⟨(ad0.add (j * 6)).block, (ad0.add (j * 6)).off + 1, none⟩ = some (.int .i64 x.f1) ∧ w'.cell? ⟨(ad0.add (j * 6)).block, (ad0.add (j * 6)).off + 2, none⟩ = some (.string x.f2) ∧ w'.cell? ⟨(ad0.add (j * 6)).block, (ad0.add (j * 6)).off + 3, none⟩ = some (.slice P3 m3 p3) ∧ w'.cell? ⟨(ad0.add (j * 6)).block, (ad0.add (j * 6)).off + 4, none⟩ = some (.string x.f4) ∧ w'.cell? ⟨(ad0.add (j * 6)).block, (ad0.add (j * 6)).off + 5, none⟩ = some (.slice P5 m5 p5) ∧ w'.cell? (ad1.add (j * 6)) = some (.int .i64 x.f0) ∧ w'.cell? ⟨(ad1.add (j * 6)).block, (ad1.add (j * 6)).off + 1, none⟩ = some (.int .i64 x.f1) ∧ w'.cell? ⟨(ad1.add (j * 6)).block, (ad1.add (j * 6)).off + 2, none⟩ = some (.string x.f2) ∧ w'.cell? ⟨(ad1.add (j * 6)).block, (ad1.add (j * 6)).off + 3, none⟩ = some (.slice Q3 m3 q3) ∧ w'.cell? ⟨(ad1.add (j * 6)).block, (ad1.add (j * 6)).off + 4, none⟩ = some (.string x.f4) ∧ w'.cell? ⟨(ad1.add (j * 6)).block, (ad1.add (j * 6)).off + 5, none⟩ = some (.slice Q5 m5 q5)) (ds := []) #[false, false, false, false, false, false, false, false, false, false] (by kernel_rfl) rfl rfl ⟨(pw_cell_below (below_drew (Below.refl _ _)) HX0.out), (pw_cell_below (below_drew (Below.refl _ _)) HX1.out), (pw_cell_below (below_drew (Below.refl _ _)) HX2.out), (pw_cell_below (below_drew (Below.refl _ _)) HX3.out), (pw_cell_below (below_drew (Below.refl _ _)) HX4.out), (pw_cell_below (below_drew (Below.refl _ _)) HX5.out), (pw_cell_below (below_drew (Below.refl _ _)) HY0.out), (pw_cell_below (below_drew (Below.refl _ _)) HY1.out), (pw_cell_below (below_drew (Below.refl _ _)) HY2.out), (pw_cell_below (below_drew (Below.refl _ _)) HY3.out), (pw_cell_below (below_drew (Below.refl _ _)) HY4.out), (pw_cell_below (below_drew (Below.refl _ _)) HY5.out)⟩ (fun hHeld => ?_)
      refine pure_ (i := 0) (N := some 17) (v := ?_) (a' := ?_) #[true, false, false, false, false, false, false, false, false, false] rfl rfl (by kernel_rfl) (fun _ _ _ h => h) (Or.inl ⟨by rfl, ?_⟩) ?_ ?_
      rotate_left
      · intro w'
        go_simp
        with_reducible rfl
      rotate_left
      · simp only [Act.put, List.setIfInBounds_toArray, List.set_cons_zero, List.set_cons_succ, i64_w, i32_w]
        rfl
      refine pure_ (i := 1) (N := some 18) (v := ?_) (a' := ?_) #[true, true, false, false, false, false, false, false, false, false] rfl rfl (by kernel_rfl) (fun _ _ _ h => h) (Or.inl ⟨by rfl, ?_⟩) ?_ ?_
      rotate_left
      · intro w'
        go_simp
        with_reducible rfl
      rotate_left
      · simp only [Act.put, List.setIfInBounds_toArray, List.set_cons_zero, List.set_cons_succ, i64_w, i32_w]
        rfl
      refine pure_ (i := 2) (N := some 19) (v := ?_) (a' := ?_) #[true, true, true, false, false, false, false, false, false, false] rfl rfl (by kernel_rfl) (fun _ _ _ h => h) (Or.inl ⟨by rfl, ?_⟩) ?_ ?_
      rotate_left
      · intro w'
        go_simp
        with_reducible rfl
      rotate_left
      · simp only [Act.put, List.setIfInBounds_toArray, List.set_cons_zero, List.set_cons_succ, i64_w, i32_w]
        rfl
      refine pure_ (i := 4) (N := some 21) (v := ?_) (a' := ?_) #[true, true, true, false, true, false, false, false, false, false] rfl rfl (by kernel_rfl) (fun _ _ _ h => h) (Or.inl ⟨by rfl, ?_⟩) ?_ ?_
      rotate_left
      · intro w'
        go_simp
        with_reducible rfl
      rotate_left
      · simp only [Act.put, List.setIfInBounds_toArray, List.set_cons_zero, List.set_cons_succ, i64_w, i32_w]
        rfl
      refine pure_ (i := 5) (N := some 22) (v := ?_) (a' := ?_) #[true, true, true, false, true, true, false, false, false, false] rfl rfl (by kernel_rfl) (fun _ _ _ h => h) (Or.inl ⟨by rfl, ?_⟩) ?_ ?_
      rotate_left
      · intro w'
        go_simp
        with_reducible rfl
      rotate_left
      · simp only [Act.put, List.setIfInBounds_toArray, List.set_cons_zero, List.set_cons_succ, i64_w, i32_w]
        rfl
      refine pure_ (i := 6) (N := some 23) (v := ?_) (a' := ?_) #[true, true, true, false, true, true, true, false, false, false] rfl rfl (by kernel_rfl) (fun _ _ _ h => h) (Or.inl ⟨by rfl, ?_⟩) ?_ ?_
      rotate_left
      · intro w'
        go_simp
        with_reducible rfl
      rotate_left
      · simp only [Act.put, List.setIfInBounds_toArray, List.set_cons_zero, List.set_cons_succ, i64_w, i32_w]
        rfl
      refine take_ (i := 3) (N := some 20) (v := ?_) (a' := ?_) #[true, true, true, true, true, true, true, false, false, false] rfl rfl (by kernel_rfl) (fun _ _ _ h => h) (Or.inl ⟨by rfl, ?_⟩) hHeld ?_ ?_
      rotate_left
      · rintro w' ⟨s0, s1, s2, s3, s4, s5, s6, s7, s8, s9, s10, s11⟩
        go_simp
        with_reducible rfl
      rotate_left
      · simp only [Act.put, List.setIfInBounds_toArray, List.set_cons_zero, List.set_cons_succ, i64_w, i32_w]
        rfl
      refine take_ (i := 7) (N := some 24) (v := ?_) (a' := ?_) #[true, true, true, true, true, true, true, true, false, false] rfl rfl (by kernel_rfl) (fun _ _ _ h => h) (Or.inl ⟨by rfl, ?_⟩) hHeld ?_ ?_
      rotate_left
      · rintro w' ⟨s0, s1, s2, s3, s4, s5, s6, s7, s8, s9, s10, s11⟩
        go_simp
        with_reducible rfl
      rotate_left
      · simp only [Act.put, List.setIfInBounds_toArray, List.set_cons_zero, List.set_cons_succ, i64_w, i32_w]
        rfl
      refine one_ (i := 8) (N := some 25) #[true, true, true, true, true, true, true, true, true, false] rfl rfl (by kernel_rfl) (by decide) (fun K hK => ?_)
      refine goes_ Try.func40 (by kernel_rfl) rfl #[.agg #[.int .i64 x.f0, .int .i64 x.f1, .string x.f2, .slice P3 m3 p3, .string x.f4, .slice P5 m5 p5], .agg #[.int .i64 x.f0, .int .i64 x.f1, .string x.f2, .slice Q3 m3 q3, .string x.f4, .slice Q5 m5 q5]] (by rfl) rfl rfl (by simp only [List.map_toArray, List.map_cons, List.map_nil]; rfl) ?_
      with_reducible refine (same_at (IH.out x HM.out) HM3.out HM5.out L3.out L5.out R3.out R5.out C3.out C5.out D3.out D5.out (below_drew (Below.refl _ _))).mono ?_
      rintro e w2 ⟨rfl, hb⟩
      refine ⟨_, rfl, ?_⟩
      have B2 := Aside0.mk (below_step (below_drew (Below.refl wr.heap.size wr)) hb)
      clear hb
      refine hK.out _ _ ⟨(pw_cell_below B2.out HX0.out), (pw_cell_below B2.out HX1.out), (pw_cell_below B2.out HX2.out), (pw_cell_below B2.out HX3.out), (pw_cell_below B2.out HX4.out), (pw_cell_below B2.out HX5.out), (pw_cell_below B2.out HY0.out), (pw_cell_below B2.out HY1.out), (pw_cell_below B2.out HY2.out), (pw_cell_below B2.out HY3.out), (pw_cell_below B2.out HY4.out), (pw_cell_below B2.out HY5.out)⟩ (fun hHeld => ?_)
      clear hK K
      refine norm_ (a' := ?_) ?_ ?_
      rotate_left
      · show Act.put _ (some 25) _ = _
        simp only [Act.put, List.setIfInBounds_toArray, List.set_cons_zero, List.set_cons_succ, i64_w, i32_w]
        rfl
      refine pure_ (i := 9) (N := some 26) (v := ?_) (a' := ?_) #[true, true, true, true, true, true, true, true, true, true] rfl rfl (by kernel_rfl) (fun _ _ _ h => h) (Or.inl ⟨by rfl, ?_⟩) ?_ ?_
      rotate_left
      · intro w'
        go_simp
        with_reducible rfl
      rotate_left
      · simp only [Act.put, List.setIfInBounds_toArray, List.set_cons_zero, List.set_cons_succ, i64_w, i32_w]
        rfl
      refine done_ (by kernel_rfl) ?_
      clear hHeld
      have B3 := Aside0.mk (below_step HB.out B2.out)
      go_wp2
      go_roundw
      case rel => exact ⟨j + 1, by go_num, by omega, B3⟩
      case measure => simp [intOf]; omega
    · have db : decide (j < n) = false := decide_eq_false d
      go_wp2
      go_ret
      exact ⟨rfl, HB.out⟩
theorem same_all : ∀ x : S67, SameOK x
  | ⟨f0, f1, f2, f3, f4, f5⟩ => same_step _ (sames_step _ (fun y hy => same_all y))
termination_by x => SizeOf.sizeOf x
decreasing_by
  have := List.sizeOf_lt_of_mem hy
  simp +arith at this ⊢
  omega
/- ArenaNil. -/
def zero67 : S67 := ⟨0, 0, ⟨#[]⟩, [], ⟨#[]⟩, []⟩
def zagg : Value := .agg #[.int .i64 0, .int .i64 0, .string ⟨#[]⟩, .slice none 0 0, .string ⟨#[]⟩, .slice none 0 0]
theorem nl_is (i : Int) (w : World) : Calls Try.prog 65 #[.pointer none, .int .i64 i] w fun e w' => e = .returned (.bool false) ∧ w = w' := by
  go_enter Try.func65, Try.ntmps65
  go_wp2
  go_ret
  exact ⟨rfl, rfl⟩
theorem nl_grow (cs : Array Value) (w : World) : Calls Try.prog 63 #[.pointer none, .agg cs] w fun e w' => e = .returned (.int .i64 (-1)) ∧ Below w.heap.size w w' := by
  go_enter Try.func63, Try.ntmps63
  go_wp2
  go_ret
  exact ⟨rfl, below_alloc (Below.refl _ _) _⟩
theorem nl_Text (s : ByteArray) (w : World) : Calls Try.prog 26 #[.pointer none, .string s] w fun e w' => e = .returned (.int .i64 (-1)) ∧ Below w.heap.size w w' := by
  go_enter Try.func26, Try.ntmps26
  go_wp2_with (go_at_call 63; refine (nl_grow _ _).mono ?_; rintro e w1 ⟨rfl, hb⟩)
  go_ret
  exact ⟨rfl, hb⟩
theorem nl_Comment (s : ByteArray) (w : World) : Calls Try.prog 29 #[.pointer none, .string s] w fun e w' => e = .returned (.int .i64 (-1)) ∧ Below w.heap.size w w' := by
  go_enter Try.func29, Try.ntmps29
  go_wp2_with (go_at_call 63; refine (nl_grow _ _).mono ?_; rintro e w1 ⟨rfl, hb⟩)
  go_ret
  exact ⟨rfl, hb⟩
theorem nl_Element (sp : Int) (s : ByteArray) (w : World) : Calls Try.prog 28 #[.pointer none, .int .i64 sp, .string s, .slice none 0 0] w fun e w' => e = .returned (.int .i64 (-1)) ∧ Below w.heap.size w w' := by
  have HE := Aside0.mk (Attr_ev [] (by decide))
  go_enter Try.func28, Try.ntmps28
  go_wp2_with (first | (go_at_call 64; refine (api_Attr.calls _ _ [] [] _ (Kd.C_nil _ _) (Nat.le_refl _) HE.out).mono ?_; rintro e w1 ⟨v1, rfl, hR, hb⟩; have B1 := Aside0.mk hb; obtain ⟨A1, c1, rfl⟩ := Kd.R_slice hR; clear hR hb) | (go_at_call 63; refine (nl_grow _ _).mono ?_; rintro e w2 ⟨rfl, hb⟩; have B2 := Aside0.mk (below_step B1.out hb); clear hb))
  go_ret
  exact ⟨rfl, B2.out⟩
theorem nl_Copy (n : Int) (w : World) : Calls Try.prog 31 #[.pointer none, .int .i64 n] w fun e w' => e = .returned (.int .i64 (-1)) ∧ w = w' := by
  go_enter Try.func31, Try.ntmps31
  go_wp2_with (go_at_call 65; refine (nl_is _ _).mono ?_; rintro e w1 ⟨rfl, rfl⟩)
  go_ret
  exact ⟨rfl, rfl⟩
theorem nl_Add (n : Int) (s : ByteArray) (w : World) : Calls Try.prog 47 #[.pointer none, .int .i64 n, .string s] w fun e w' => e = .returned (.int .i64 2) ∧ w = w' := by
  go_enter Try.func47, Try.ntmps47
  go_wp2_with (go_at_call 65; refine (nl_is _ _).mono ?_; rintro e w1 ⟨rfl, rfl⟩)
  go_ret
  exact ⟨rfl, rfl⟩
theorem nl_Append (n m : Int) (w : World) : Calls Try.prog 32 #[.pointer none, .int .i64 n, .int .i64 m] w fun e w' => e = .returned (.int .i64 2) ∧ w = w' := by
  go_enter Try.func32, Try.ntmps32
  go_wp2_with (go_at_call 65; refine (nl_is _ _).mono ?_; rintro e w1 ⟨rfl, rfl⟩)
  go_ret
  exact ⟨rfl, rfl⟩
theorem nl_Before (n m : Int) (w : World) : Calls Try.prog 41 #[.pointer none, .int .i64 n, .int .i64 m] w fun e w' => e = .returned (.int .i64 2) ∧ w = w' := by
  go_enter Try.func41, Try.ntmps41
  go_wp2_with (go_at_call 65; refine (nl_is _ _).mono ?_; rintro e w1 ⟨rfl, rfl⟩)
  go_ret
  exact ⟨rfl, rfl⟩
theorem nl_Move (n m : Int) (w : World) : Calls Try.prog 48 #[.pointer none, .int .i64 n, .int .i64 m] w fun e w' => e = .returned (.int .i64 2) ∧ w = w' := by
  go_enter Try.func48, Try.ntmps48
  go_wp2_with (go_at_call 65; refine (nl_is _ _).mono ?_; rintro e w1 ⟨rfl, rfl⟩)
  go_ret
  exact ⟨rfl, rfl⟩
theorem nl_Remove (n : Int) (w : World) : Calls Try.prog 39 #[.pointer none, .int .i64 n] w fun e w' => e = .returned (.int .i64 2) ∧ w = w' := by
  go_enter Try.func39, Try.ntmps39
  go_wp2_with (go_at_call 65; refine (nl_is _ _).mono ?_; rintro e w1 ⟨rfl, rfl⟩)
  go_ret
  exact ⟨rfl, rfl⟩
theorem nl_Parent (n : Int) (w : World) : Calls Try.prog 37 #[.pointer none, .int .i64 n] w fun e w' => e = .returned (.int .i64 (-1)) ∧ w = w' := by
  go_enter Try.func37, Try.ntmps37
  go_wp2_with (go_at_call 65; refine (nl_is _ _).mono ?_; rintro e w1 ⟨rfl, rfl⟩)
  go_ret
  exact ⟨rfl, rfl⟩
theorem nl_Kids (n : Int) (w : World) : Calls Try.prog 36 #[.pointer none, .int .i64 n] w fun e w' => e = .returned (.slice none 0 0) ∧ w = w' := by
  go_enter Try.func36, Try.ntmps36
  go_wp2_with (go_at_call 65; refine (nl_is _ _).mono ?_; rintro e w1 ⟨rfl, rfl⟩)
  go_ret
  exact ⟨rfl, rfl⟩
theorem nl_Len (w : World) : Calls Try.prog 30 #[.pointer none] w fun e w' => e = .returned (.int .i64 0) ∧ w = w' := by
  go_enter Try.func30, Try.ntmps30
  go_wp2
  go_ret
  exact ⟨rfl, rfl⟩
theorem nl_Value (n : Int) (w : World) : Calls Try.prog 38 #[.pointer none, .int .i64 n] w fun e w' => e = .returned zagg ∧ Below w.heap.size w w' := by
  go_enter Try.func38, Try.ntmps38
  go_wp2_with (go_at_call 65; refine (nl_is _ _).mono ?_; rintro e w1 ⟨rfl, rfl⟩)
  refine bodyPost_ret (results_cell_row rfl _ _ w.heap.size 67 _ (0, 0) _ rfl (blk_new _ (.cells #[.int .i64 0, .int .i64 0, .string ⟨#[]⟩, .slice none 0 0, .string ⟨#[]⟩, .slice none 0 0] 67)) Try.underlying67 rfl (by kernel_rfl)) rfl ?_
  exact ⟨rfl, (Below.refl _ _).alloc (Nat.le_refl _) _⟩
theorem same_zero (w : World) : Calls Try.prog 40 #[zagg, zagg] w fun e w' => e = .returned (.bool true) ∧ Below w.heap.size w w' := same_all zero67 w none none none none 0 0 0 0 (Nat.le_refl _) (Nat.le_refl _) (Nat.le_refl _) (Nat.le_refl _) (Kd.C_nil _ _) (Kd.C_nil _ _) (Kd.C_nil _ _) (Kd.C_nil _ _)
set_option maxRecDepth 20000 in
set_option maxHeartbeats 8000000 in
theorem law_Nil (s : ByteArray) (a b : Int) (w : World) : Calls Try.prog 13 #[.string s, .int .i64 a, .int .i64 b] w fun e w' => e = .returned (.bool true) ∧ Below w.heap.size w w' := by
  go_enter Try.func13, Try.ntmps13
  go_wp2_with (first | (go_at_call 27; refine (arena_alive _).mono ?_; rintro e w1 ⟨rfl, hb⟩; have B1 := Aside0.mk hb; clear hb) | (go_at_call 28; refine (nl_Element _ _ _).mono ?_; rintro e w2 ⟨rfl, hb⟩; have B2 := Aside0.mk (below_step B1.out hb); clear hb) | (go_at_call 26; refine (nl_Text _ _).mono ?_; rintro e w3 ⟨rfl, hb⟩; have B3 := Aside0.mk (below_step B2.out hb); clear hb) | (go_at_call 29; refine (nl_Comment _ _).mono ?_; rintro e w4 ⟨rfl, hb⟩; have B4 := Aside0.mk (below_step B3.out hb); clear hb) | (go_at_call 31; refine (nl_Copy _ _).mono ?_; rintro e w5 ⟨rfl, rfl⟩) | (go_at_call 47; refine (nl_Add _ _ _).mono ?_; rintro e w5 ⟨rfl, rfl⟩) | (go_at_call 32; refine (nl_Append _ _ _).mono ?_; rintro e w5 ⟨rfl, rfl⟩) | (go_at_call 41; refine (nl_Before _ _ _).mono ?_; rintro e w5 ⟨rfl, rfl⟩) | (go_at_call 39; refine (nl_Remove _ _).mono ?_; rintro e w5 ⟨rfl, rfl⟩) | (go_at_call 48; refine (nl_Move _ _ _).mono ?_; rintro e w5 ⟨rfl, rfl⟩) | (go_at_call 37; refine (nl_Parent _ _).mono ?_; rintro e w5 ⟨rfl, rfl⟩) | (go_at_call 36; refine (nl_Kids _ _).mono ?_; rintro e w5 ⟨rfl, rfl⟩) | (go_at_call 38; refine (nl_Value _ _).mono ?_; rintro e w6 ⟨rfl, hb⟩; have B6 := Aside0.mk (below_step B4.out hb); clear hb) | (go_at_call 40; refine (same_zero _).mono ?_; rintro e w7 ⟨rfl, hb⟩; have B7 := Aside0.mk (below_step B6.out hb); clear hb) | (go_at_call 30; refine (nl_Len _).mono ?_; rintro e w5 ⟨rfl, rfl⟩))
  go_ret
  exact ⟨rfl, B7.out⟩
def marginalialaw05_ArenaNil.f (a0 : ByteArray) (a1 : Int) (a2 : Int) : Option (Bool) := some true
theorem marginalialaw05_ArenaNil.calls (a0 : ByteArray) (a1 : Int) (a2 : Int) (r : Bool) (w : World) (h : marginalialaw05_ArenaNil.f a0 a1 a2 = some r) :
    Calls Try.prog 13 #[.string a0, .int .i64 a1, .int .i64 a2] w fun e w' => e = .returned (.bool r) ∧ Below w.heap.size w w' := by
  obtain rfl := Option.some.inj h
  exact law_Nil a0 a1 a2 w

end Go.Proofs.Ytnkaidaflegnlaa.A
