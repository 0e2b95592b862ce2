/- The functions of the program that these laws reach, each as a plain Lean function, and the proof that the machine's call comes to it; no condition beyond those that each theorem names. Made by wip/xprint.py. -/
import Derived.Test.YtepipgneefcoiaaTW5p
import Derived.Test.YtepipgneefcoiaaDf80
import Derived.Test.YtepipgneefcoiaaDx0
namespace Go.Proofs.Ytepipgneefcoiaa.D
open Go.RowKit Go.Proofs.YtepipgneefcoiaaW.PrintWords Go.Proofs.YtepipgneefcoiaaW.PrintLast Go.Proofs.YtepipgneefcoiaaW.PrintMore
attribute [local go_sem] max2_int min2_int max_two min_two max_three min_three max_four min_four
set_option linter.unusedVariables false
set_option linter.unusedSimpArgs false
/- The record that begins with cells. -/
theorem join_at {w : World} {A : Option Addr} {m c : Nat} {l : List S106} {b : List Int} {ok : Bool} {j : Nat} (hm : m = l.length) (hc : m ≤ c) (hC : Kd.C k106 w A l.length l) (h : cell_Join.f j l = some (b, ok)) :
    Calls Try.prog 80 #[.slice A m c] w fun e w' => ∃ (A' : Option Addr) (m' c' : Nat), e = .returned (.tuple #[.slice A' m' c', .bool ok]) ∧ Kd.R (Kd.int .u8) 5 w' w.heap.size (fun _ => True) (.slice A' m' c') b ∧ Below w.heap.size w w' := by
  subst hm
  refine (cell_Join.calls j A c l b ok w hC hc h).mono ?_
  rintro e w' ⟨v, rfl, hR, hb⟩
  obtain ⟨A', c', rfl⟩ := Kd.R_slice hR
  exact ⟨A', _, c', rfl, hR, hb⟩
theorem ad_zero (ad : Addr) : ad.add 0 = ad := by cases ad; unfold Addr.add; split <;> simp_all
def RecOut (w : World) (cs : List S106) (ep : Int) (e : Ending) (w' : World) : Prop := ∃ (A2 : Option Addr) (m2 c2 : Nat) (b : List Int) (r2 r3 r4 r5 : Int) (A5 : Option Addr) (m5 c5 : Nat) (ok : Bool), e = .returned (.tuple #[.slice A2 m2 c2, .agg #[.int .u64 r2, .int .u64 r3, .int .i64 r4, .int .i64 r5, .slice A5 m5 c5], .bool ok]) ∧ RecIs (rec1 cs ep) b r3 r5 ok ∧ Kd.R (Kd.int .u8) 5 w' w.heap.size (fun _ => True) (.slice A2 m2 c2) b ∧ Below w.heap.size w w'
set_option maxRecDepth 20000 in
set_option maxHeartbeats 16000000 in
theorem L_record {w : World} {A : Option Addr} {n c : Nat} {cs : List S106} (hn : n = cs.length) (hc : n ≤ c) (hC : Kd.C k106 w A n cs) (ep : Int) (hl : cs.length ≤ 1000) (ho : ∀ c ∈ cs, CellOk c) :
    Calls Try.prog 68 #[.slice A n c, .int .u64 ep] w (RecOut w cs ep) := by
  have HN := Aside0.mk hn
  have HCC := Aside0.mk hc
  have HC := Aside0.mk hC
  have HL := Aside0.mk hl
  have HO := Aside0.mk ho
  have nb : n ≤ 1000 := by omega
  clear hC hc hl ho
  go_enter Try.func68, Try.ntmps68
  go_upto_region 1 with (fail)
  obtain ⟨g5, hg5⟩ : ∃ g5, g5 = w.heap.size := ⟨_, rfl⟩
  obtain ⟨W0, hW0⟩ : ∃ W0, W0 = w.alloc (.cells #[.int .u64 0, .int .u64 0, .int .i64 0, .int .i64 0, .slice none 0 0] 106) := ⟨_, rfl⟩
  have B0 := Aside0.mk (show Below w.heap.size w W0 by rw [hW0]; exact below_alloc (Below.refl _ _) _)
  have K5 := Aside0.mk (show W0.heap[g5]? = some (.cells #[.int .u64 0, .int .u64 0, .int .i64 0, .int .i64 0, .slice none 0 0] 106 (0, 0)) by rw [hW0, hg5]; exact blk_new _ _)
  have L5 := Aside0.mk (show w.heap.size ≤ g5 by omega)
  rw [← hW0, ← hg5]
  clear hW0 hg5 hn
  have fz := fun i => blk_frozen K5.out i
  have z0 := (blk_cell K5.out 0).trans (rfl : (#[.int .u64 0, .int .u64 0, .int .i64 0, .int .i64 0, .slice none 0 0] : Array Value)[0]? = some (.int .u64 0))
  have z1 := (blk_cell K5.out 1).trans (rfl : (#[.int .u64 0, .int .u64 0, .int .i64 0, .int .i64 0, .slice none 0 0] : Array Value)[1]? = some (.int .u64 0))
  have z2 := (blk_cell K5.out 2).trans (rfl : (#[.int .u64 0, .int .u64 0, .int .i64 0, .int .i64 0, .slice none 0 0] : Array Value)[2]? = some (.int .i64 0))
  have z3 := (blk_cell K5.out 3).trans (rfl : (#[.int .u64 0, .int .u64 0, .int .i64 0, .int .i64 0, .slice none 0 0] : Array Value)[3]? = some (.int .i64 0))
  have z4 := (blk_cell K5.out 4).trans (rfl : (#[.int .u64 0, .int .u64 0, .int .i64 0, .int .i64 0, .slice none 0 0] : Array Value)[4]? = some (.slice none 0 0))
  by_cases c1 : n = 0
  · have c1b : ((n : Int) == 0) = true := by simp [c1]
    have HR := Aside0.mk (show RecIs (rec1 cs ep) [] 0 0 false from .inl ⟨by unfold rec1; rw [if_pos (by rw [← HN.out]; exact c1)], rfl⟩)
    subst c1
    go_wp2
    refine bodyPost_ret (results_list (rs := [.tmp 4, .cell 5 106, .tmp 6]) rfl (by simp) (.tmp (.cell g5 106 #[.int .u64 0, .int .u64 0, .int .i64 0, .int .i64 0, .slice none 0 0] (0, 0) _ rfl (by exact blk_put (cs := #[.int .u64 0, .int .u64 0, .int .i64 0, .int .i64 0, .slice none 0 0]) (blk_put (cs := #[.int .u64 0, .int .u64 0, .int .i64 0, .int .i64 0, .slice none 0 0]) (blk_put (cs := #[.int .u64 0, .int .u64 0, .int .i64 0, .int .i64 0, .slice none 0 0]) (blk_put (cs := #[.int .u64 0, .int .u64 0, .int .i64 0, .int .i64 0, .slice none 0 0]) (blk_put (cs := #[.int .u64 0, .int .u64 0, .int .i64 0, .int .i64 0, .slice none 0 0]) K5.out 0 _ rfl) 1 _ rfl) 2 _ rfl) 3 _ rfl) 4 _ rfl) Try.underlying106 rfl (by kernel_rfl) (.tmp .nil)))) rfl ?_
    exact ⟨_, _, _, [], _, _, _, _, _, _, _, _, rfl, HR.out, Kd.R_nil _ _ _ _ _, below_set (below_set (below_set (below_set (below_set B0.out L5.out) L5.out) L5.out) L5.out) L5.out⟩
  · have c1b : ((n : Int) == 0) = false := by simp [c1]
    have npos : (0 : Int) < (n : Int) := by omega
    have npos2 : 0 < n := by omega
    obtain ⟨ad, A4, c4, rfl, y0, y1, y2, y3, y4, l4, C4⟩ := at_T106 HC.out 0 (by omega) (by omega)
    rw [show (0 : Int).toNat * 5 = 0 from rfl, ad_zero] at y0 y1 y2 y3 y4
    obtain ⟨x, hx⟩ : ∃ x, x = rd_T106 cs 0 := ⟨_, rfl⟩
    have HX := Aside0.mk hx
    rw [← hx] at y0 y1 y2 y3 y4 l4 C4
    have XO := Aside0.mk (show CellOk x from HO.out x (by rw [hx]; unfold rd_T106; rw [show (0 : Int).toNat = 0 from rfl, List.getD_eq_getElem?_getD, List.getElem?_eq_getElem (by rw [← HN.out]; omega)]; exact List.getElem_mem _))
    obtain ⟨x0, x1, x2, x3, x4⟩ := x
    dsimp only at y0 y1 y2 y3 y4 l4 C4
    obtain ⟨m4, hm4⟩ : ∃ m4, m4 = x4.length := ⟨_, rfl⟩
    rw [← hm4] at y4
    have Y := Aside0.mk (show w.cell? ad = some (.int .u64 x0) ∧ w.cell? ⟨ad.block, ad.off + 1, none⟩ = some (.int .u64 x1) ∧ w.cell? ⟨ad.block, ad.off + 2, none⟩ = some (.int .i64 x2) ∧ w.cell? ⟨ad.block, ad.off + 3, none⟩ = some (.int .i64 x3) ∧ w.cell? ⟨ad.block, ad.off + 4, none⟩ = some (.slice A4 m4 c4) from ⟨y0, y1, y2, y3, y4⟩)
    have y0 := pw_cell_below B0.out Y.out.1
    have y3 := pw_cell_below B0.out Y.out.2.2.2.1
    have HCL := Aside0.mk (show cs.length ≠ 0 by rw [← HN.out]; exact c1)
    clear hx y1 y2 y4 l4 C4 hm4 c1
    by_cases c2 : x3 = 0
    · have c2b : (x3 == 0) = true := by simp [c2]
      have HR := Aside0.mk (show RecIs (rec1 cs ep) [] 0 0 false from .inl ⟨by unfold rec1; rw [if_neg HCL.out, if_pos (by rw [← HX.out]; exact c2)], rfl⟩)
      subst c2
      go_wp2
      refine bodyPost_ret (results_list (rs := [.tmp 4, .cell 5 106, .tmp 6]) rfl (by simp) (.tmp (.cell g5 106 #[.int .u64 0, .int .u64 0, .int .i64 0, .int .i64 0, .slice none 0 0] (0, 0) _ rfl (by exact blk_put (cs := #[.int .u64 0, .int .u64 0, .int .i64 0, .int .i64 0, .slice none 0 0]) (blk_put (cs := #[.int .u64 0, .int .u64 0, .int .i64 0, .int .i64 0, .slice none 0 0]) (blk_put (cs := #[.int .u64 0, .int .u64 0, .int .i64 0, .int .i64 0, .slice none 0 0]) (blk_put (cs := #[.int .u64 0, .int .u64 0, .int .i64 0, .int .i64 0, .slice none 0 0]) (blk_put (cs := #[.int .u64 0, .int .u64 0, .int .i64 0, .int .i64 0, .slice none 0 0]) K5.out 0 _ rfl) 1 _ rfl) 2 _ rfl) 3 _ rfl) 4 _ rfl) Try.underlying106 rfl (by kernel_rfl) (.tmp .nil)))) rfl ?_
      exact ⟨_, _, _, [], _, _, _, _, _, _, _, _, rfl, HR.out, Kd.R_nil _ _ _ _ _, below_set (below_set (below_set (below_set (below_set B0.out L5.out) L5.out) L5.out) L5.out) L5.out⟩
    · have c2b : (x3 == 0) = false := by simp [c2]
      by_cases c3 : x3 > (n : Int)
      · have c3b : decide (x3 > (n : Int)) = true := decide_eq_true c3
        have c3c : (n : Int) < x3 := c3
        have c3d : decide ((n : Int) < x3) = true := decide_eq_true c3
        have HR := Aside0.mk (show RecIs (rec1 cs ep) [] 0 0 false from .inl ⟨by unfold rec1; rw [if_neg HCL.out, if_neg (by rw [← HX.out]; exact c2), if_pos (by rw [← HX.out, ← HN.out]; exact c3)], rfl⟩)
        clear c2 c3
        go_wp2
        refine bodyPost_ret (results_list (rs := [.tmp 4, .cell 5 106, .tmp 6]) rfl (by simp) (.tmp (.cell g5 106 #[.int .u64 0, .int .u64 0, .int .i64 0, .int .i64 0, .slice none 0 0] (0, 0) _ rfl (by exact blk_put (cs := #[.int .u64 0, .int .u64 0, .int .i64 0, .int .i64 0, .slice none 0 0]) (blk_put (cs := #[.int .u64 0, .int .u64 0, .int .i64 0, .int .i64 0, .slice none 0 0]) (blk_put (cs := #[.int .u64 0, .int .u64 0, .int .i64 0, .int .i64 0, .slice none 0 0]) (blk_put (cs := #[.int .u64 0, .int .u64 0, .int .i64 0, .int .i64 0, .slice none 0 0]) (blk_put (cs := #[.int .u64 0, .int .u64 0, .int .i64 0, .int .i64 0, .slice none 0 0]) K5.out 0 _ rfl) 1 _ rfl) 2 _ rfl) 3 _ rfl) 4 _ rfl) Try.underlying106 rfl (by kernel_rfl) (.tmp .nil)))) rfl ?_
        exact ⟨_, _, _, [], _, _, _, _, _, _, _, _, rfl, HR.out, Kd.R_nil _ _ _ _ _, below_set (below_set (below_set (below_set (below_set B0.out L5.out) L5.out) L5.out) L5.out) L5.out⟩
      · have c3b : decide (x3 > (n : Int)) = false := decide_eq_false c3
        have c3d : decide ((n : Int) < x3) = false := decide_eq_false c3
        by_cases c4 : x0 = ep
        · have c4b : (x0 != ep) = false := by simp [c4]
          obtain ⟨k, rfl⟩ : ∃ k : Nat, x3 = (k : Int) := ⟨x3.toNat, by have := XO.out.f3; dsimp only at this; omega⟩
          have k0 : 0 < k := by omega
          have kn : k ≤ n := by omega
          have kc : k ≤ c := by have := HCC.out; omega
          have kn1 : (k : Int) ≤ (n : Int) := by omega
          have kc1 : (k : Int) ≤ (c : Int) := by omega
          obtain ⟨b, ok, hj, hrec⟩ : ∃ b ok, Ev (fun j => cell_Join.f j (cs.take k)) (b, ok) ∧ RecIs (rec1 cs ep) b x1 (k : Int) ok := by
            have hne : cs.take k ≠ [] := by
              intro e
              have h1 : (cs.take k).length = 0 := by rw [e]; rfl
              rw [List.length_take] at h1
              have h2 := HN.out
              omega
            have hj := CellLaws.join_ev (l := cs.take k) (by rw [List.length_take]; have := HL.out; omega) (fun j hj => by
              have := (HO.out _ (List.mem_of_mem_take (List.getElem_mem hj))).f4
              omega)
            unfold rec1
            rw [if_neg HCL.out, if_neg (by rw [← HX.out]; exact c2), if_neg (by rw [← HX.out, ← HN.out]; exact c3), if_neg (by rw [← HX.out]; simpa using c4), ← HX.out]
            dsimp only
            rw [Int.toNat_natCast]
            by_cases c5 : CellLaws.Row (cs.take k)
            · rw [if_pos c5]
              rw [if_pos ⟨c5, hne⟩] at hj
              exact ⟨_, _, hj, .inr ⟨k, rfl, rfl, rfl, k0⟩⟩
            · rw [if_neg c5]
              rw [if_neg (fun h => c5 h.1)] at hj
              exact ⟨_, _, hj, .inl ⟨rfl, rfl⟩⟩
          obtain ⟨j, hj⟩ := Ev.rounds hj
          have EJ := Aside0.mk hj
          have HR := Aside0.mk hrec
          have KT := Aside0.mk (show k = (cs.take k).length by rw [List.length_take, ← HN.out]; omega)
          have CT := Aside0.mk (show Kd.C k106 w (some ad) (cs.take k).length (cs.take k) from Kd.C_take (by rw [← HN.out]; exact HC.out) (by rw [← HN.out]; exact kn))
          clear c2 c3 c4 hj hrec
          go_upto_region 4 with (go_at_call 80; refine (join_at KT.out kc (Kd.C_below CT.out B0.out) EJ.out).mono ?_; rintro e w2 ⟨A2, m2, c2', rfl, hR, hb⟩; have R2 := Aside0.mk hR; have B2 := Aside0.mk (below_step B0.out hb); have D5 := Aside0.mk (blk_below K5.out hb); clear hR hb)
          have BX := Aside0.mk (below_step B2.out (below_drew (Below.refl _ w2)))
          have DX := Aside0.mk (blk_below D5.out (below_drew (Below.refl _ w2)))
          have RX := Aside0.mk (Kd.R_below R2.out (below_drew (Below.refl _ w2)))
          refine start_ (n := 8) (S := fun w' => w'.cell? ad = some (.int .u64 x0) ∧ w'.cell? ⟨ad.block, ad.off + 1, none⟩ = some (.int .u64 x1) ∧ w'.cell? ⟨ad.block, ad.off + 2, none⟩ = some (.int .i64 x2) ∧ w'.cell? ⟨ad.block, ad.off + 3, none⟩ = some (.int .i64 (k : Int)) ∧ w'.cell? ⟨ad.block, ad.off + 4, none⟩ = some (.slice A4 m4 c4)) (ds := [6]) #[false, false, false, false, false, false, false, false] (by kernel_rfl) rfl rfl ⟨(pw_cell_below (below_step B2.out (below_drew (Below.refl _ _))) Y.out.1), (pw_cell_below (below_step B2.out (below_drew (Below.refl _ _))) Y.out.2.1), (pw_cell_below (below_step B2.out (below_drew (Below.refl _ _))) Y.out.2.2.1), (pw_cell_below (below_step B2.out (below_drew (Below.refl _ _))) Y.out.2.2.2.1), (pw_cell_below (below_step B2.out (below_drew (Below.refl _ _))) Y.out.2.2.2.2)⟩ (fun hHeld => ?_)
          generalize w2.drew = W1 at hHeld BX DX RX ⊢
          have fz := fun i => blk_frozen DX.out i
          have z0 := (blk_cell DX.out 0).trans (rfl : (#[.int .u64 0, .int .u64 0, .int .i64 0, .int .i64 0, .slice none 0 0] : Array Value)[0]? = some (.int .u64 0))
          have z1 := (blk_cell DX.out 1).trans (rfl : (#[.int .u64 0, .int .u64 0, .int .i64 0, .int .i64 0, .slice none 0 0] : Array Value)[1]? = some (.int .u64 0))
          have z2 := (blk_cell DX.out 2).trans (rfl : (#[.int .u64 0, .int .u64 0, .int .i64 0, .int .i64 0, .slice none 0 0] : Array Value)[2]? = some (.int .i64 0))
          have z3 := (blk_cell DX.out 3).trans (rfl : (#[.int .u64 0, .int .u64 0, .int .i64 0, .int .i64 0, .slice none 0 0] : Array Value)[3]? = some (.int .i64 0))
          have z4 := (blk_cell DX.out 4).trans (rfl : (#[.int .u64 0, .int .u64 0, .int .i64 0, .int .i64 0, .slice none 0 0] : Array Value)[4]? = some (.slice none 0 0))
          refine pure_ (i := 0) (N := some 47) (v := ?_) (a' := ?_) #[true, false, false, false, false, false, false, false] rfl rfl (by kernel_rfl) (fun _ _ _ h => h) (Or.inl ⟨by rfl, ?_⟩) ?_ ?_
          rotate_left
          · intro w'
            go_simp
            with_reducible rfl
          rotate_left
          · simp only [Act.put, List.setIfInBounds_toArray, List.set_cons_zero, List.set_cons_succ, i64_w, i32_w]
            rfl
          refine pure_ (i := 1) (N := some 48) (v := ?_) (a' := ?_) #[true, true, false, false, false, false, false, false] rfl rfl (by kernel_rfl) (fun _ _ _ h => h) (Or.inl ⟨by rfl, ?_⟩) ?_ ?_
          rotate_left
          · intro w'
            go_simp
            with_reducible rfl
          rotate_left
          · simp only [Act.put, List.setIfInBounds_toArray, List.set_cons_zero, List.set_cons_succ, i64_w, i32_w]
            rfl
          refine pure_ (i := 2) (N := some 49) (v := ?_) (a' := ?_) #[true, true, true, false, false, false, false, false] rfl rfl (by kernel_rfl) (fun _ _ _ h => h) (Or.inl ⟨by rfl, ?_⟩) ?_ ?_
          rotate_left
          · intro w'
            go_simp
            with_reducible rfl
          rotate_left
          · simp only [Act.put, List.setIfInBounds_toArray, List.set_cons_zero, List.set_cons_succ, i64_w, i32_w]
            rfl
          refine pure_ (i := 4) (N := some 51) (v := ?_) (a' := ?_) #[true, true, true, false, true, false, false, false] rfl rfl (by kernel_rfl) (fun _ _ _ h => h) (Or.inl ⟨by rfl, ?_⟩) ?_ ?_
          rotate_left
          · intro w'
            go_simp
            with_reducible rfl
          rotate_left
          · simp only [Act.put, List.setIfInBounds_toArray, List.set_cons_zero, List.set_cons_succ, i64_w, i32_w]
            rfl
          refine pure_ (i := 5) (N := some 4) (v := ?_) (a' := ?_) #[true, true, true, false, true, true, false, false] rfl rfl (by kernel_rfl) (fun _ _ _ h => h) (Or.inl ⟨by rfl, ?_⟩) ?_ ?_
          rotate_left
          · intro w'
            go_simp
            with_reducible rfl
          rotate_left
          · simp only [Act.put, List.setIfInBounds_toArray, List.set_cons_zero, List.set_cons_succ, i64_w, i32_w]
            rfl
          refine take_ (i := 3) (N := some 50) (v := ?_) (a' := ?_) #[true, true, true, true, true, true, false, false] rfl rfl (by kernel_rfl) (fun _ _ _ h => h) (Or.inl ⟨by rfl, ?_⟩) hHeld ?_ ?_
          rotate_left
          · rintro w' ⟨s0, s1, s2, s3, s4⟩
            go_simp
            with_reducible rfl
          rotate_left
          · simp only [Act.put, List.setIfInBounds_toArray, List.set_cons_zero, List.set_cons_succ, i64_w, i32_w]
            rfl
          refine last_ (i := 6) (N := none) #[true, true, true, true, true, true, true, false] rfl rfl (by kernel_rfl) (by decide) (fun K hK => ?_)
          refine skip_ (w1 := ?_) (by rfl) rfl ?_ ?_
          rotate_left
          · go_simp
            rfl
          refine hK.out _ _ ?_
          clear hK K
          refine pure_ (i := 7) (N := some 6) (v := ?_) (a' := ?_) #[true, true, true, true, true, true, true, true] rfl rfl (by kernel_rfl) (fun _ _ _ h => h) (Or.inl ⟨by rfl, ?_⟩) ?_ ?_
          rotate_left
          · intro w'
            go_simp
            with_reducible rfl
          rotate_left
          · simp only [Act.put, List.setIfInBounds_toArray, List.set_cons_zero, List.set_cons_succ, i64_w, i32_w]
            rfl
          refine done_ (by kernel_rfl) ?_
          go_wp2
          have hD := DX.out
          refine bodyPost_ret (results_list (rs := [.tmp 4, .cell 5 106, .tmp 6]) rfl (by simp) (.tmp (.cell g5 106 #[.int .u64 x0, .int .u64 x1, .int .i64 x2, .int .i64 (k : Int), .slice A4 m4 c4] (0, 0) _ rfl (by exact blk_put (blk_put (blk_put (blk_put (blk_put (cs := #[.int .u64 0, .int .u64 0, .int .i64 0, .int .i64 0, .slice none 0 0]) hD 0 (.int .u64 x0) rfl) 1 (.int .u64 x1) rfl) 2 (.int .i64 x2) rfl) 3 (.int .i64 (k : Int)) rfl) 4 (.slice A4 m4 c4) rfl) Try.underlying106 rfl (by kernel_rfl) (.tmp .nil)))) rfl ?_
          have hb5 : ∀ v, Below w.heap.size w _ := fun v => below_set (j := 4) (v := v) (below_set (j := 3) (v := .int .i64 (k : Int)) (below_set (j := 2) (v := .int .i64 x2) (below_set (j := 1) (v := .int .u64 x1) (below_set (j := 0) (v := .int .u64 x0) BX.out L5.out) L5.out) L5.out) L5.out) L5.out
          refine ⟨_, _, _, b, _, _, _, _, _, _, _, ok, rfl, HR.out, ?_, hb5 _⟩
          have far : ∀ q, q ≠ g5 → (((((W1.setCell ⟨g5, 0, none⟩ (.int .u64 x0)).setCell ⟨g5, 1, none⟩ (.int .u64 x1)).setCell ⟨g5, 2, none⟩ (.int .i64 x2)).setCell ⟨g5, 3, none⟩ (.int .i64 (k : Int))).setCell ⟨g5, 4, none⟩ (.slice A4 m4 c4)).heap[q]? = W1.heap[q]? := fun q hq => (Below.heap_setCell _ ⟨g5, 4, none⟩ _ q hq).trans ((Below.heap_setCell _ ⟨g5, 3, none⟩ _ q hq).trans ((Below.heap_setCell _ ⟨g5, 2, none⟩ _ q hq).trans ((Below.heap_setCell _ ⟨g5, 1, none⟩ _ q hq).trans (Below.heap_setCell _ ⟨g5, 0, none⟩ _ q hq))))
          refine Kd.R_mono (Kd.R_move (Kd.R_tight rfl (Kd.R_lower RX.out B0.out.size)) (fun q hq => far q (fun e => ?_))) (fun _ _ => trivial)
          obtain ⟨cc, hcc⟩ := Kd.R_typed RX.out q hq.symm
          rw [e] at hcc
          exact absurd rfl (blk_ne hcc DX.out (by decide))
        · have c4b : (x0 != ep) = true := by simp [c4]
          have HR := Aside0.mk (show RecIs (rec1 cs ep) [] 0 0 false from .inl ⟨by unfold rec1; rw [if_neg HCL.out, if_neg (by rw [← HX.out]; exact c2), if_neg (by rw [← HX.out, ← HN.out]; exact c3), if_pos (by rw [← HX.out]; exact c4)], rfl⟩)
          clear c2 c3 c4
          go_wp2
          refine bodyPost_ret (results_list (rs := [.tmp 4, .cell 5 106, .tmp 6]) rfl (by simp) (.tmp (.cell g5 106 #[.int .u64 0, .int .u64 0, .int .i64 0, .int .i64 0, .slice none 0 0] (0, 0) _ rfl (by exact blk_put (cs := #[.int .u64 0, .int .u64 0, .int .i64 0, .int .i64 0, .slice none 0 0]) (blk_put (cs := #[.int .u64 0, .int .u64 0, .int .i64 0, .int .i64 0, .slice none 0 0]) (blk_put (cs := #[.int .u64 0, .int .u64 0, .int .i64 0, .int .i64 0, .slice none 0 0]) (blk_put (cs := #[.int .u64 0, .int .u64 0, .int .i64 0, .int .i64 0, .slice none 0 0]) (blk_put (cs := #[.int .u64 0, .int .u64 0, .int .i64 0, .int .i64 0, .slice none 0 0]) K5.out 0 _ rfl) 1 _ rfl) 2 _ rfl) 3 _ rfl) 4 _ rfl) Try.underlying106 rfl (by kernel_rfl) (.tmp .nil)))) rfl ?_
          exact ⟨_, _, _, [], _, _, _, _, _, _, _, _, rfl, HR.out, Kd.R_nil _ _ _ _ _, below_set (below_set (below_set (below_set (below_set B0.out L5.out) L5.out) L5.out) L5.out) L5.out⟩
end Go.Proofs.Ytepipgneefcoiaa.D
