/- The functions of the program that these laws reach, each as a plain Lean function, and the proof that the machine's call comes to it; no condition beyond those that each theorem names. Made by wip/xprint.py. -/
import Derived.Test.YtepipgneefcoiaaTW2
import Derived.Test.YtepipgneefcoiaaDx0
namespace Go.Proofs.Ytepipgneefcoiaa.D
open Go.RowKit Go.Proofs.YtepipgneefcoiaaW.PrintWords Go.Proofs.YtepipgneefcoiaaW.PrintLast Go.Proofs.YtepipgneefcoiaaW.PrintMore
attribute [local go_sem] max2_int min2_int max_two min_two max_three min_three max_four min_four
set_option linter.unusedVariables false
set_option linter.unusedSimpArgs false
section
variable {w0 w w' : World} {p q n c : Nat} {l l' : Wl} {s s' : Dk} {A : Option Addr} {O OV O' : Nat → Prop}
theorem L_Reset (h : LG w0 p q l s O w) (e : Int) (l' : Wl) (r : Int) (hx : rex l e = (l', r)) : Calls Try.prog 47 #[.pointer (some ⟨p, 0, none⟩), .int .u64 e] w fun e w' => e = .returned (.int .i64 r) ∧ LG w0 p q l' s O w' ∧ ∀ k, O k → k ≠ p → w'.heap[k]? = w.heap[k]? := by
  obtain ⟨A, n, c, OV, h⟩ := h
  obtain ⟨y0, y1, y2, y3, y4, y5, y6, y7⟩ := LX_cells h
  unfold rex at hx
  obtain ⟨b, hb⟩ : ∃ b, b = l.br := ⟨_, rfl⟩
  rw [← hb] at hx y7
  cases b with
  | true =>
    rw [if_pos rfl] at hx
    have H := Aside0.mk h
    have HX := Aside0.mk hx
    clear h hx hb y0 y1 y2 y3 y4 y5 y6
    go_enter Try.func47, Try.ntmps47
    go_wp2
    go_ret
    have hx := HX.out
    injection hx with e1 e2
    subst e1 e2
    exact ⟨rfl, ⟨A, n, c, OV, H.out⟩, fun _ _ _ => rfl⟩
  | false =>
    rw [if_neg (by decide)] at hx
    obtain ⟨ep, hep⟩ : ∃ ep, ep = l.ep := ⟨_, rfl⟩
    rw [← hep] at hx y3
    by_cases d : e ≤ ep
    · rw [if_pos d] at hx
      have db : decide (e ≤ ep) = true := decide_eq_true d
      have H := Aside0.mk h
      have HX := Aside0.mk hx
      clear h hx hb hep y0 y1 y2 y4 y5 y6 d
      go_enter Try.func47, Try.ntmps47
      go_wp2
      go_ret
      have hx := HX.out
      injection hx with e1 e2
      subst e1 e2
      exact ⟨rfl, ⟨A, n, c, OV, H.out⟩, fun _ _ _ => rfl⟩
    · rw [if_neg d] at hx
      have db : decide (e ≤ ep) = false := decide_eq_false d
      have H := Aside0.mk h
      have HX := Aside0.mk hx
      have HB := Aside0.mk hb
      have fz := fun i => blk_frozen h.box i
      obtain ⟨w1, hw1⟩ : ∃ w1, w1 = ((w.setCell ⟨p, 3, none⟩ (.int .u64 e)).setCell ⟨p, 5, none⟩ (.int .i64 0)).setCell ⟨p, 6, none⟩ (.slice none 0 0) := ⟨_, rfl⟩
      have W1 := Aside0.mk hw1
      clear h hx hb hep d hw1
      go_enter Try.func47, Try.ntmps47
      go_wp2
      go_ret
      have hx := HX.out
      injection hx with e1 e2
      subst e1 e2
      have far : ∀ k, k ≠ p → (((w.setCell ⟨p, 3, none⟩ (.int .u64 e)).setCell ⟨p, 5, none⟩ (.int .i64 0)).setCell ⟨p, 6, none⟩ (.slice none 0 0)).heap[k]? = w.heap[k]? := fun k hk => (Below.heap_setCell _ ⟨p, 6, none⟩ _ k hk).trans ((Below.heap_setCell _ ⟨p, 5, none⟩ _ k hk).trans (Below.heap_setCell w ⟨p, 3, none⟩ _ k hk))
      refine ⟨rfl, ⟨none, 0, 0, fun _ => False, JO_write (JO_write (JO_write H.out.d H.out.op H.out.lp _) H.out.op H.out.lp _) H.out.op H.out.lp _, ?_, H.out.op, H.out.lp, fun _ hk => hk.elim, Kd.V_mk (Nat.le_refl _) (Kd.F_nil _ _ _), rfl, H.out.xo⟩, fun k _ hkp => far k hkp⟩
      exact blk_put (blk_put (blk_put H.out.box 3 _ rfl) 5 _ rfl) 6 _ (by unfold lgc; rw [← HB.out]; rfl)
def rmx (l : Wl) : Int := if l.br = true then 0 else mn (((l.si : Int) * 4 - (l.en : Int)) * 39) 6000
theorem L_Room (h : LG w0 p q l s O w) (hs : l.si ≤ 4096) (he : l.en ≤ l.si * 4) (r : Int) (hr : rmx l = r) : Calls Try.prog 40 #[.pointer (some ⟨p, 0, none⟩)] w fun e w' => e = .returned (.int .i64 r) ∧ Below w.heap.size w w' := by
  obtain ⟨A, n, c, OV, h⟩ := h
  obtain ⟨y0, y1, y2, y3, y4, y5, y6, y7⟩ := LX_cells h
  unfold rmx at hr
  obtain ⟨b, hb⟩ : ∃ b, b = l.br := ⟨_, rfl⟩
  rw [← hb] at hr y7
  cases b with
  | true =>
    rw [if_pos rfl] at hr
    subst hr
    clear h hb y0 y1 y2 y3 y4 y5 y6 hs he
    go_enter Try.func40, Try.ntmps40
    go_wp2
    go_ret
    exact ⟨rfl, Below.refl _ _⟩
  | false =>
    rw [if_neg (by decide)] at hr
    obtain ⟨si, hsi⟩ : ∃ si, si = l.si := ⟨_, rfl⟩
    obtain ⟨en, hen⟩ : ∃ en, en = l.en := ⟨_, rfl⟩
    rw [← hsi] at hr y2 hs he
    rw [← hen] at hr y5 he
    have HR := Aside0.mk hr
    have f1 : wrap64 ((si : Int) * 4) = (si : Int) * 4 := by unfold wrap64; omega
    have f2 : wrap64 ((si : Int) * 4 - (en : Int)) = (si : Int) * 4 - (en : Int) := by unfold wrap64; omega
    have f3 : wrap64 (((si : Int) * 4 - (en : Int)) * 39) = ((si : Int) * 4 - (en : Int)) * 39 := by unfold wrap64; omega
    clear h hb hsi hen hr hs he y0 y1 y3 y4 y6
    go_enter Try.func40, Try.ntmps40
    go_upto_region 3 with (fail)
    refine start_ (n := 13) (S := fun w' => w'.cell? ⟨p, 2, none⟩ = some (.int .i64 (si : Int)) ∧ w'.cell? ⟨p, 5, none⟩ = some (.int .i64 (en : Int))) (ds := []) #[false, false, false, false, false, false, false, false, false, false, false, false, false] (by kernel_rfl) rfl rfl ⟨y2, y5⟩ (fun hHeld => ?_)
    refine pure_ (i := 0) (N := some 11) (v := ?_) (a' := ?_) #[true, false, false, false, false, false, false, false, false, false, false, false, false] rfl rfl (by kernel_rfl) (fun _ _ _ h => h) (Or.inl ⟨by rfl, ?_⟩) ?_ ?_
    rotate_left
    · intro w'
      go_simp
      with_reducible rfl
    rotate_left
    · simp only [Act.put, List.setIfInBounds_toArray, List.set_cons_zero, List.set_cons_succ, i64_w, i32_w]
      rfl
    refine pure_ (i := 1) (N := some 12) (v := ?_) (a' := ?_) #[true, true, false, false, false, false, false, false, false, false, false, false, false] rfl rfl (by kernel_rfl) (fun _ _ _ h => h) (Or.inl ⟨by rfl, ?_⟩) ?_ ?_
    rotate_left
    · intro w'
      go_simp
      with_reducible rfl
    rotate_left
    · simp only [Act.put, List.setIfInBounds_toArray, List.set_cons_zero, List.set_cons_succ, i64_w, i32_w]
      rfl
    refine pure_ (i := 2) (N := some 13) (v := ?_) (a' := ?_) #[true, true, true, false, false, false, false, false, false, false, false, false, false] rfl rfl (by kernel_rfl) (fun _ _ _ h => h) (Or.inl ⟨by rfl, ?_⟩) ?_ ?_
    rotate_left
    · intro w'
      go_simp
      with_reducible rfl
    rotate_left
    · simp only [Act.put, List.setIfInBounds_toArray, List.set_cons_zero, List.set_cons_succ, i64_w, i32_w]
      rfl
    refine pure_ (i := 5) (N := some 16) (v := ?_) (a' := ?_) #[true, true, true, false, false, true, false, false, false, false, false, false, false] rfl rfl (by kernel_rfl) (fun _ _ _ h => h) (Or.inl ⟨by rfl, ?_⟩) ?_ ?_
    rotate_left
    · intro w'
      go_simp
      with_reducible rfl
    rotate_left
    · simp only [Act.put, List.setIfInBounds_toArray, List.set_cons_zero, List.set_cons_succ, i64_w, i32_w]
      rfl
    refine pure_ (i := 6) (N := some 17) (v := ?_) (a' := ?_) #[true, true, true, false, false, true, true, false, false, false, false, false, false] rfl rfl (by kernel_rfl) (fun _ _ _ h => h) (Or.inl ⟨by rfl, ?_⟩) ?_ ?_
    rotate_left
    · intro w'
      go_simp
      with_reducible rfl
    rotate_left
    · simp only [Act.put, List.setIfInBounds_toArray, List.set_cons_zero, List.set_cons_succ, i64_w, i32_w]
      rfl
    refine pure_ (i := 7) (N := some 18) (v := ?_) (a' := ?_) #[true, true, true, false, false, true, true, true, false, false, false, false, false] rfl rfl (by kernel_rfl) (fun _ _ _ h => h) (Or.inl ⟨by rfl, ?_⟩) ?_ ?_
    rotate_left
    · intro w'
      go_simp
      with_reducible rfl
    rotate_left
    · simp only [Act.put, List.setIfInBounds_toArray, List.set_cons_zero, List.set_cons_succ, i64_w, i32_w]
      rfl
    refine take_ (i := 3) (N := some 14) (v := ?_) (a' := ?_) #[true, true, true, true, false, true, true, true, false, false, false, false, false] rfl rfl (by kernel_rfl) (fun _ _ _ h => h) (Or.inl ⟨by rfl, ?_⟩) hHeld ?_ ?_
    rotate_left
    · rintro w' ⟨s0, s1⟩
      go_simp
      with_reducible rfl
    rotate_left
    · simp only [Act.put, List.setIfInBounds_toArray, List.set_cons_zero, List.set_cons_succ, i64_w, i32_w]
      rfl
    refine pure_ (i := 4) (N := some 15) (v := ?_) (a' := ?_) #[true, true, true, true, true, true, true, true, false, false, false, false, false] rfl rfl (by kernel_rfl) (fun _ _ _ h => h) (Or.inl ⟨by rfl, ?_⟩) ?_ ?_
    rotate_left
    · intro w'
      go_simp
      with_reducible rfl
    rotate_left
    · simp only [Act.put, List.setIfInBounds_toArray, List.set_cons_zero, List.set_cons_succ, i64_w, i32_w]
      rfl
    refine take_ (i := 8) (N := some 19) (v := ?_) (a' := ?_) #[true, true, true, true, true, true, true, true, true, false, false, false, false] rfl rfl (by kernel_rfl) (fun _ _ _ h => h) (Or.inl ⟨by rfl, ?_⟩) hHeld ?_ ?_
    rotate_left
    · rintro w' ⟨s0, s1⟩
      go_simp
      with_reducible rfl
    rotate_left
    · simp only [Act.put, List.setIfInBounds_toArray, List.set_cons_zero, List.set_cons_succ, i64_w, i32_w]
      rfl
    refine pure_ (i := 9) (N := some 20) (v := ?_) (a' := ?_) #[true, true, true, true, true, true, true, true, true, true, false, false, false] rfl rfl (by kernel_rfl) (fun _ _ _ h => h) (Or.inl ⟨by rfl, ?_⟩) ?_ ?_
    rotate_left
    · intro w'
      go_simp
      with_reducible rfl
    rotate_left
    · simp only [Act.put, List.setIfInBounds_toArray, List.set_cons_zero, List.set_cons_succ, i64_w, i32_w]
      rfl
    refine pure_ (i := 10) (N := some 21) (v := ?_) (a' := ?_) #[true, true, true, true, true, true, true, true, true, true, true, false, false] rfl rfl (by kernel_rfl) (fun _ _ _ h => h) (Or.inl ⟨by rfl, ?_⟩) ?_ ?_
    rotate_left
    · intro w'
      go_simp
      with_reducible rfl
    rotate_left
    · simp only [Act.put, List.setIfInBounds_toArray, List.set_cons_zero, List.set_cons_succ, i64_w, i32_w]
      rfl
    refine pure_ (i := 11) (N := some 22) (v := ?_) (a' := ?_) #[true, true, true, true, true, true, true, true, true, true, true, true, false] rfl rfl (by kernel_rfl) (fun _ _ _ h => h) (Or.inl ⟨by rfl, ?_⟩) ?_ ?_
    rotate_left
    · intro w'
      go_simp
      with_reducible rfl
    rotate_left
    · simp only [Act.put, List.setIfInBounds_toArray, List.set_cons_zero, List.set_cons_succ, i64_w, i32_w]
      rfl
    refine pure_ (i := 12) (N := some 2) (v := ?_) (a' := ?_) #[true, true, true, true, true, true, true, true, true, true, true, true, true] rfl rfl (by kernel_rfl) (fun _ _ _ h => h) (Or.inl ⟨by rfl, ?_⟩) ?_ ?_
    rotate_left
    · intro w'
      go_simp
      with_reducible rfl
    rotate_left
    · simp only [Act.put, List.setIfInBounds_toArray, List.set_cons_zero, List.set_cons_succ, i64_w, i32_w]
      rfl
    refine done_ (by kernel_rfl) ?_
    go_wp2
    all_goals
      go_ret
      exact ⟨by rw [← HR.out]; unfold mn; first | rfl | (split <;> first | rfl | (exfalso; omega)), below_drew (Below.refl _ _)⟩
end
end Go.Proofs.Ytepipgneefcoiaa.D
