/- The functions of the program that these laws reach, each as a plain Lean function, and the proof that the machine's call comes to it; no condition beyond those that each theorem names. Made by wip/xprint.py. -/
import Derived.Test.YtmdmoohkdkooaaaSx0
import Derived.Test.YtmdmoohkdkooaaaSf12
import Derived.Test.YtmdmoohkdkooaaaSf35
import Derived.Test.YtmdmoohkdkooaaaSh
namespace Go.Proofs.Ytmdmoohkdkooaaa.S
open Go.RowKit Go.Proofs.YtmdmoohkdkooaaaW.PrintWords Go.Proofs.YtmdmoohkdkooaaaW.PrintLast Go.Proofs.YtmdmoohkdkooaaaW.PrintMore
attribute [local go_sem] max2_int min2_int max_two min_two max_three min_three max_four min_four   -- for this text's walks alone
set_option linter.unusedVariables false
set_option linter.unusedSimpArgs false
-- NOT PRINTED: function 48 (space_Space_Only)

/-! ### marginalialaw18_SpaceMade: function 9: by hand -/
theorem rep_tkn (n : Nat) (i : Int) : tkn (List.replicate n false) i = false := by
  unfold tkn
  have : rdOf false (List.replicate n false) i = false := by
    simp only [rdOf, List.getD_eq_getElem?_getD, List.getElem?_replicate]
    split <;> rfl
  rw [this]
  simp
theorem rep_fre : ∀ (n k : Nat), (fre k (List.replicate n false)).length = n
  | 0, k => rfl
  | n + 1, k => by
    rw [List.replicate_succ]
    unfold fre
    simp [rep_fre n (k + 1)]
set_option maxRecDepth 20000 in
set_option maxHeartbeats 8000000 in
theorem law_Made (n : Int) (w : World) : Calls Try.prog 9 #[.int .i64 n] w fun e w' => e = .returned (.bool true) ∧ Below w.heap.size w w' := by
  have N0 : Kd.R Kd.bool 4 w w.heap.size (fun _ => True) (.slice none 0 0) [] := Kd.R_nil _ _ _ _ _
  by_cases c1 : 1 ≤ n
  · have c1b : decide (1 ≤ n) = true := decide_eq_true c1
    by_cases c2 : n ≤ 4096
    · have c2b : decide (n ≤ 4096) = true := decide_eq_true c2
      have w1 : IntKind.i64.wrap (n - 1) = n - 1 := by rw [i64_w]; exact IntWalk.wrap64_in _ (by omega)
      have L0 := Aside0.mk (show ((fre 0 (List.replicate n.toNat false)).length : Int) = n by rw [rep_fre]; omega)
      have C0 := Aside0.mk (And.intro c1 c2)
      clear c1 c2
      go_enter Try.func9, Try.ntmps9
      go_wp2_with (first | (go_at_call 34; refine (J_New (w0 := w) (Below.refl _ _) N0 n C0.out.1 C0.out.2).mono ?_; rintro e w1 ⟨p, rfl, hJ⟩; have J1 := Aside0.mk hJ; clear hJ) | (go_at_call 35; refine (space_alive _).mono ?_; rintro e w2 ⟨rfl, hb⟩; have B2 := Aside0.mk hb; have J2 := Aside0.mk (J_deep J1.out hb); clear hb J1) | (go_at_call 36; refine (J_Free J2.out).mono ?_; rintro e w3 ⟨e3, hJ, _⟩; rw [L0.out] at e3; subst e3; have J3 := Aside0.mk hJ; clear hJ J2) | (go_at_call 37; refine (J_Taken J3.out _ false (rep_tkn _ _)).mono ?_; rintro e w4 ⟨rfl, hJ, _⟩; have J4 := Aside0.mk hJ; clear hJ J3) | (go_at_call 37; refine (J_Taken J4.out _ false (rep_tkn _ _)).mono ?_; rintro e w5 ⟨rfl, hJ, _⟩; have J5 := Aside0.mk hJ; clear hJ J4))
      trace_state
      go_ret
      exact ⟨rfl, J_below J5.out⟩
    · have c2b : decide (n ≤ 4096) = false := decide_eq_false c2
      have C0 := Aside0.mk (show n < 1 ∨ 4096 < n from .inr (by omega))
      clear c1 c2
      go_enter Try.func9, Try.ntmps9
      go_wp2_with (first | (go_at_call 34; refine (sp_NewNot n _ C0.out).mono ?_; rintro e w1 ⟨rfl, hd⟩; have B1 := Aside0.mk (drawn_below hd); clear hd) | (go_at_call 35; refine (space_alive _).mono ?_; rintro e w2 ⟨rfl, hb⟩; have B2 := Aside0.mk (below_step B1.out hb); clear hb B1))
      go_ret
      exact ⟨rfl, B2.out⟩
  · have c1b : decide (1 ≤ n) = false := decide_eq_false c1
    have C0 := Aside0.mk (show n < 1 ∨ 4096 < n from .inl (by omega))
    clear c1
    go_enter Try.func9, Try.ntmps9
    go_wp2_with (first | (go_at_call 34; refine (sp_NewNot n _ C0.out).mono ?_; rintro e w1 ⟨rfl, hd⟩; have B1 := Aside0.mk (drawn_below hd); clear hd) | (go_at_call 35; refine (space_alive _).mono ?_; rintro e w2 ⟨rfl, hb⟩; have B2 := Aside0.mk (below_step B1.out hb); clear hb B1))
    go_ret
    exact ⟨rfl, B2.out⟩
def marginalialaw18_SpaceMade.f (a0 : Int) : Option (Bool) := some true
theorem marginalialaw18_SpaceMade.calls (a0 : Int) (r : Bool) (w : World) (h : marginalialaw18_SpaceMade.f a0 = some r) :
    Calls Try.prog 9 #[.int .i64 a0] w fun e w' => e = .returned (.bool r) ∧ Below w.heap.size w w' := by
  obtain rfl := Option.some.inj h
  exact law_Made a0 w

end Go.Proofs.Ytmdmoohkdkooaaa.S
