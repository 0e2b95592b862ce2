/- The functions of the program that these laws reach, each as a plain Lean function, and the proof that the machine's call comes to it; no condition beyond those that each theorem names. Made by wip/xprint.py. -/
import Derived.Test.YtnkaidaflegnlaaAx0
import Derived.Test.YtnkaidaflegnlaaAe1
import Derived.Test.YtnkaidaflegnlaaAf27
import Derived.Test.YtnkaidaflegnlaaAh
namespace Go.Proofs.Ytnkaidaflegnlaa.A
open Go.RowKit Go.Proofs.YtnkaidaflegnlaaW.PrintWords Go.Proofs.YtnkaidaflegnlaaW.PrintLast Go.Proofs.YtnkaidaflegnlaaW.PrintMore
attribute [local go_sem] max2_int min2_int max_two min_two max_three min_three max_four min_four   -- for this text's walks alone
set_option linter.unusedVariables false
set_option linter.unusedSimpArgs false
attribute [local go_sem high] eqA103
-- NOT PRINTED: function 29 (arena_Tree_Comment)
-- NOT PRINTED: function 30 (arena_Tree_Len)
-- NOT PRINTED: function 31 (arena_Tree_Copy)
-- NOT PRINTED: function 37 (arena_Tree_Parent)
-- NOT PRINTED: function 38 (arena_Tree_Value)
-- NOT PRINTED: function 39 (arena_Tree_Remove)

/-! ### marginalialaw05_ArenaFull: function 8: by hand -/
/- ArenaFull. -/
def fuS (s : ByteArray) (k : Nat) : List S96 := root96 :: List.replicate k ⟨⟨2, 0, ⟨#[]⟩, [], s⟩, -1, []⟩
theorem fu_len (s : ByteArray) (k : Nat) : (fuS s k).length = k + 1 := by simp [fuS]
theorem fu_mk (s : ByteArray) (k : Nat) (h : k + 1 < 2000) : mkS (fuS s k) ⟨2, 0, ⟨#[]⟩, [], s⟩ = (fuS s (k + 1), ((k + 1 : Nat) : Int)) := by
  unfold mkS
  rw [fu_len, if_neg (by omega)]
  unfold fuS
  rw [List.replicate_succ' (n := k), List.cons_append]
theorem fu_full (s : ByteArray) (x : S94) : mkS (fuS s 1999) x = (fuS s 1999, -1) := by
  unfold mkS
  rw [fu_len, if_pos (by omega)]
theorem fu_fa (s : ByteArray) (k i : Nat) : (faS (fuS s k) i).f3 = [] := by
  unfold faS
  cases h : (fuS s k)[i]? with
  | none => rfl
  | some x =>
    have hm := List.mem_of_getElem? h
    rcases List.mem_cons.1 hm with e | e
    · rw [e]; rfl
    · rw [(List.mem_replicate.1 e).2]
theorem fu_cp (s : ByteArray) (n : Int) : cpS (fuS s 1999) n = (fuS s 1999, -1) := by
  unfold cpS
  split
  · split
    · exact fu_full s _
    · rfl
  · rfl
theorem fu_F (s : ByteArray) : ∀ k, k < 2000 → FoS (fuS s k)
  | 0, _ => FoS_root
  | k + 1, h => by
    have := FoS_mk (fu_F s k (by omega)) ⟨2, 0, ⟨#[]⟩, [], s⟩
    rw [fu_mk s k h] at this
    exact this
theorem fu_ap (s : ByteArray) : (apS (fuS s 1999) 0 1999).2 = 0 := by
  unfold apS
  have h1 : inZ (fuS s 1999).length 0 = true := by rw [fu_len]; decide
  have h2 : inZ (fuS s 1999).length 1999 = true := by rw [fu_len]; decide
  have h3 : (faS (fuS s 1999) (0 : Int).toNat).f0 = 0 := rfl
  have h4 : subB (fuS s 1999) (1999 : Int).toNat (0 : Int).toNat = false := by
    unfold subB
    rw [fu_len]
    unfold upS
    rw [if_neg (by decide), if_pos (by show paS (fuS s 1999) 0 < 0; exact (by decide : (-1 : Int) < 0))]
  rw [h1, h2, h3, h4, if_pos (by decide), if_neg (by decide)]
set_option maxRecDepth 20000 in
set_option maxHeartbeats 8000000 in
theorem law_Full (s : ByteArray) (n : Int) (w : World) : Calls Try.prog 8 #[.string s, .int .i64 n] w fun e w' => e = .returned (.bool true) ∧ Below w.heap.size w w' := by
  go_enter Try.func8, Try.ntmps8
  by_cases c : 20 < s.size
  · have c1 : decide (20 < s.size) = true := decide_eq_true c
    have c2 : (20 : Int) < (s.size : Int) := by omega
    go_wp2_with (go_at_call 25; refine (J_New _).mono ?_; rintro e w1 ⟨p, rfl, hJ, hb⟩; have J1 := Aside0.mk (show JA w w1 p (fuS s 0) (fun _ => False) from JA_mono hJ (fun _ h => h.elim)); clear hJ hb)
    go_ret
    exact ⟨rfl, JA_below J1.out⟩
  · have c1 : decide (20 < s.size) = false := decide_eq_false c
    have c2 : ¬ (20 : Int) < (s.size : Int) := by omega
    go_wp2_with (go_at_call 25; refine (J_New _).mono ?_; rintro e w1 ⟨p, rfl, hJ, hb⟩; have J1 := Aside0.mk (show JA w w1 p (fuS s 0) (fun _ => False) from JA_mono hJ (fun _ h => h.elim)); clear hJ hb)
    go_loopw [6] (fun v6 wr => ∃ j : Nat, v6 = .int .i64 (((j + 1 : Nat)) : Int) ∧ j < 2000 ∧ Aside0 (JA w wr p (fuS s j) (fun _ => False))) (fun v6 _ => 2000 - (intOf v6).toNat)
    case atStart => exact ⟨0, rfl, by omega, J1⟩
    case round =>
      obtain ⟨j, rfl, hj, HJ⟩ := hrel
      clear J1
      by_cases d : j + 1 < 2000
      · have d1 : (((j + 1 : Nat)) : Int) < 2000 := by omega
        have HD := Aside0.mk d
        clear d
        go_wp2_with (go_at_call 26; refine (J_Text HJ.out s _ _ (fu_mk s j HD.out)).mono ?_; rintro e w2 ⟨rfl, hJ, hk⟩; have J2 := Aside0.mk hJ; clear hJ hk)
        go_roundw
        case rel => exact ⟨j + 1, by go_num, HD.out, J2⟩
        case measure => simp [intOf]; omega
      · have d1 : ¬ (((j + 1 : Nat)) : Int) < 2000 := by omega
        obtain rfl : j = 1999 := by omega
        obtain ⟨T, hT⟩ : ∃ T, T = (apS (fuS s 1999) 0 1999).1 := ⟨_, rfl⟩
        have E := Aside0.mk (show apS (fuS s 1999) 0 1999 = (T, 0) by rw [hT]; exact pair_of (fu_ap s))
        clear hT d hj
        go_wp2_with (first | (go_at_call 27; refine (arena_alive _).mono ?_; rintro e w2 ⟨rfl, hb⟩; have J2 := Aside0.mk (JA_step HJ.out hb); clear hb) | (go_at_call 26; refine (J_Text J2.out s _ _ (fu_full s _)).mono ?_; rintro e w3 ⟨rfl, hJ, hk⟩; have J3 := Aside0.mk hJ; clear hJ hk) | (go_at_call 28; refine (J_Element J3.out 0 s none 0 [] (by decide) (Kd.C_nil _ _) (Nat.le_refl _) _ _ (fu_full s _)).mono ?_; rintro e w4 ⟨rfl, hJ, hk⟩; have J4 := Aside0.mk hJ; clear hJ hk) | (go_at_call 29; refine (J_Comment J4.out s _ _ (fu_full s _)).mono ?_; rintro e w5 ⟨rfl, hJ, hk⟩; have J5 := Aside0.mk hJ; clear hJ hk) | (go_at_call 30; refine (J_Len J5.out).mono ?_; rintro e w6 ⟨rfl, rfl⟩; rw [fu_len]) | (go_at_call 31; refine (J_Copy J5.out (fun i => by rw [fu_fa]; decide) n _ _ (fu_cp s n)).mono ?_; rintro e w7 ⟨rfl, hJ, hk⟩; have J7 := Aside0.mk hJ; clear hJ hk) | (go_at_call 32; refine (J_Append J7.out (fu_F s 1999 (by decide)) (by rw [fu_len]; decide) 0 1999 _ _ E.out).mono ?_; rintro e w8 ⟨rfl, hJ, hk⟩; have J8 := Aside0.mk hJ; clear hJ hk))
        go_ret
        exact ⟨rfl, JA_below J8.out⟩
def marginalialaw05_ArenaFull.f (a0 : ByteArray) (a1 : Int) : Option (Bool) := some true
theorem marginalialaw05_ArenaFull.calls (a0 : ByteArray) (a1 : Int) (r : Bool) (w : World) (h : marginalialaw05_ArenaFull.f a0 a1 = some r) :
    Calls Try.prog 8 #[.string a0, .int .i64 a1] w fun e w' => e = .returned (.bool r) ∧ Below w.heap.size w w' := by
  obtain rfl := Option.some.inj h
  exact law_Full a0 a1 w

end Go.Proofs.Ytnkaidaflegnlaa.A
