/- The functions of the program that these laws reach, each as a plain Lean function, and the proof that the machine's call comes to it; no condition beyond those that each theorem names. Made by wip/xprint.py. -/
import Derived.Test.YtepipgneefcoiaaTW5
import Derived.Test.YtepipgneefcoiaaDf72
import Derived.Test.YtepipgneefcoiaaDx0
namespace Go.Proofs.Ytepipgneefcoiaa.D
open Go.RowKit Go.Proofs.YtepipgneefcoiaaW.PrintWords Go.Proofs.YtepipgneefcoiaaW.PrintLast Go.Proofs.YtepipgneefcoiaaW.PrintMore
attribute [local go_sem] max2_int min2_int max_two min_two max_three min_three max_four min_four
set_option linter.unusedVariables false
set_option linter.unusedSimpArgs false
theorem L_OpenOff {w0 w : World} {q : Nat} {s : Dk} {O : Nat → Prop} (h : JO w0 w q s O) (ho : s.of = true) (fi si : Nat) (ep : Int) (h1 : 1 ≤ si) (hf : fi + si ≤ s.nb) :
    Calls Try.prog 35 #[.pointer (some ⟨q, 0, none⟩), .int .i64 (fi : Int), .int .i64 (si : Int), .int .u64 ep] w fun e w' => e = .returned (.tuple #[.pointer none, .int .i64 9]) ∧ Below w.heap.size w w' := by
  have H := Aside0.mk h
  have OKD := Aside0.mk (J_ok (JO_J h))
  have HO := Aside0.mk ho
  have HF := Aside0.mk hf
  have H1 := Aside0.mk h1
  obtain ⟨nb, hnb'⟩ : ∃ nb, nb = s.nb := ⟨_, rfl⟩
  have nb1 : nb ≤ 4096 := by rw [hnb']; exact OKD.out.nb1
  rw [← hnb'] at hf
  have HB := Aside0.mk hnb'
  have BL := Aside0.mk (fun (e : Ending) (w' : World) (he : e = .returned (.int .i64 (s.nb : Int)) ∧ Below w.heap.size w w') => (by rw [← HB.out] at he; exact he : e = .returned (.int .i64 (nb : Int)) ∧ Below w.heap.size w w'))
  have c1b : decide ((fi : Int) < 0) = false := decide_eq_false (by omega)
  have c2b : decide ((si : Int) < 1) = false := decide_eq_false (by omega)
  have c3b : decide ((si : Int) > (nb : Int)) = false := decide_eq_false (by omega)
  have c3c : decide ((nb : Int) < (si : Int)) = false := decide_eq_false (by omega)
  have c3d : decide (nb < si) = false := decide_eq_false (by omega)
  have wq : wrap64 ((nb : Int) - (si : Int)) = (nb : Int) - (si : Int) := by unfold wrap64; omega
  have c4b : decide ((fi : Int) > (nb : Int) - (si : Int)) = false := decide_eq_false (by omega)
  have c4c : decide ((nb : Int) - (si : Int) < (fi : Int)) = false := decide_eq_false (by omega)
  clear h ho hnb'
  go_enter Try.func35, Try.ntmps35
  go_wp2_with (first | (go_at_call 17; refine ((JO_Blocks H.out).mono BL.out).mono ?_; rintro e w1 ⟨rfl, hb⟩; have B1 := Aside0.mk hb; clear hb) | (go_at_call 66; refine (L_readOff (JO_step H.out B1.out) HO.out fi si H1.out HF.out OKD.out.nb1).mono ?_; rintro e w2 ⟨rfl, hb⟩; have B2 := Aside0.mk (below_step B1.out hb); clear hb))
  go_ret2
  exact ⟨rfl, B2.out⟩
/- What a log has, told anew. -/
theorem clone_ev {l : List Int} (h : l.length ≤ 100000) : slices_Clone_byte_byte.f l = some l := by
  unfold slices_Clone_byte_byte.f
  rw [Option.bind_some, if_pos (by simp; omega), List.nil_append]
theorem clone_at {w : World} {A : Option Addr} {m c : Nat} {l : List Int} (hm : m = l.length) (hc : m ≤ c) (hl : l.length ≤ 100000) (hC : Kd.C (Kd.int .u8) w A l.length l) :
    Calls Try.prog 72 #[.slice A m c] w fun e w' => ∃ (A' : Option Addr) (c' : Nat), e = .returned (.slice A' m c') ∧ Kd.R (Kd.int .u8) 5 w' w.heap.size (fun _ => True) (.slice A' m c') l ∧ Below w.heap.size w w' := by
  subst hm
  refine (slices_Clone_byte_byte.calls A c l l w hC hc (clone_ev hl)).mono ?_
  rintro e w' ⟨v, rfl, hR, hb⟩
  obtain ⟨A', c', rfl⟩ := Kd.R_slice hR
  exact ⟨A', c', rfl, hR, hb⟩
theorem kL_M {w : World} {base base' : Nat} {ok : Nat → Prop} {A : Option Addr} {m c : Nat} {l : List Int} (hm : m = l.length) (h : Kd.R (Kd.int .u8) 5 w base ok (.slice A m c) l) (hb : base' ≤ base) : kL.M w base' ok l [.slice A m c] := ⟨_, rfl, Kd.R_lower h hb⟩
set_option maxRecDepth 20000 in
set_option maxHeartbeats 16000000 in
theorem L_Records {w0 w : World} {p q : Nat} {l : Wl} {s : Dk} {O : Nat → Prop} (h : LG w0 p q l s O w) (hn : l.rs.length ≤ 16384) (hr : ∀ r ∈ l.rs, r.length ≤ 100000) :
    Calls Try.prog 39 #[.pointer (some ⟨p, 0, none⟩)] w fun e w' => ∃ (A : Option Addr) (n c : Nat), e = .returned (.slice A n c) ∧ n = l.rs.length ∧ Kd.R kL 27 w' w.heap.size (fun _ => True) (.slice A n c) l.rs ∧ Below w.heap.size w w' := by
  obtain ⟨A, n, c, OV, h⟩ := h
  have y6 : w.cell? ⟨p, 6, none⟩ = some (.slice A n c) := (blk_cell h.box 6).trans rfl
  have HV := Aside0.mk (show Kd.V kL 27 w 0 (fun k => k < w.heap.size) (.slice A n c) l.rs from Kd.V_mono (Kd.V_bound h.v) (fun k hk => hk.2))
  have HN := Aside0.mk h.hn
  have HL := Aside0.mk hn
  have HR := Aside0.mk hr
  have nb : n ≤ 16384 := by rw [h.hn]; exact hn
  obtain ⟨rs, hrs⟩ : ∃ rs, rs = l.rs := ⟨_, rfl⟩
  rw [← hrs] at HV HN HL HR ⊢
  clear h hn hr hrs
  go_enter Try.func39, Try.ntmps39
  go_wp2
  go_loopw [3, 5, 13] (fun v3 v5 v13 wr => ∃ (j m : Nat) (A' : Option Addr) (c' : Nat), v13 = .int .i64 (j : Int) ∧ v3 = .slice A' m c' ∧ j ≤ n ∧ Aside0 (m = j) ∧ Aside0 (Below w.heap.size w wr) ∧ Aside0 (Kd.R kL 27 wr w.heap.size (fun _ => True) (.slice A' m c') (rs.take j))) (fun v3 v5 v13 _ => n - (intOf v13).toNat)
  case atStart => exact ⟨0, 0, none, 0, rfl, rfl, Nat.zero_le _, ⟨rfl⟩, ⟨Below.refl _ _⟩, ⟨Kd.R_nil _ _ _ _ _⟩⟩
  case round =>
    obtain ⟨j, m, A', c', rfl, rfl, hj, HM, HB, HO⟩ := hrel
    by_cases d : j < n
    · have d1 : (j : Int) < (n : Int) := by omega
      have db : decide (j < n) = true := decide_eq_true d
      have DD := Aside0.mk d
      have JL := Aside0.mk (show j < rs.length by rw [← HN.out]; exact d)
      have VB := Kd.V_step HV.out (fun k hk _ => HB.out.block k hk)
      obtain ⟨hl1, hl2, hC⟩ := Kd.V_reads' VB
      obtain ⟨ad, AE, cE, eA, y, lE, CE⟩ := at_L3 hC (j : Int) (by omega) (by rw [← HN.out]; exact d1)
      subst eA
      rw [Int.toNat_natCast] at y
      obtain ⟨r, hrj⟩ : ∃ r, r = rd_L3 rs (j : Int) := ⟨_, rfl⟩
      have RJ := Aside0.mk (show rs.take (j + 1) = rs.take j ++ [r] by
        rw [List.take_succ_eq_append_getElem JL.out, hrj]
        unfold rd_L3
        rw [Int.toNat_natCast, List.getD_eq_getElem?_getD, List.getElem?_eq_getElem JL.out]; rfl)
      have RM := Aside0.mk (show r.length ≤ 100000 from HR.out r (by rw [hrj]; unfold rd_L3; rw [Int.toNat_natCast, List.getD_eq_getElem?_getD, List.getElem?_eq_getElem JL.out]; exact List.getElem_mem _))
      rw [← hrj] at y lE CE
      obtain ⟨mE, hmE⟩ : ∃ mE, mE = r.length := ⟨_, rfl⟩
      rw [← hmE] at y lE
      have ME := Aside0.mk hmE
      have LE_ := Aside0.mk lE
      have CE' := Aside0.mk CE
      clear hl1 hl2 hC VB hrj hmE lE CE d
      go_wp2_with (first | (go_at_call 72; refine (clone_at ME.out LE_.out RM.out CE'.out).mono ?_; rintro e w2 ⟨A2, c2, rfl, hR, hb⟩; have R2 := Aside0.mk hR; have B2 := Aside0.mk (below_step HB.out hb); have O2 := Aside0.mk (Kd.R_below HO.out hb); have S2 := Aside0.mk (Nat.le_trans HB.out.size (Nat.le_refl wr.heap.size)); clear hR hb) | ((with_reducible refine gate_builtin (b := .append) (xs := #[.tmp 17, .tmp 20]) rfl ?_); at_builtin; refine Kd.R_append kL (w0 := w) w.heap.size rfl (.tmp 17) (.tmp 20) 46 27 (.slice none 0 0) 24 rfl Try.underlying46 info27w rfl (by decide) (by omega) (.slice A' m c') (rs.take j) r _ (fun _ => True) (fun k => some k = (Value.slice A2 mE c2).ownBlock) rfl rfl ?aP ?aK (fun _ _ => trivial) O2.out B2.out B2.out.size ?aL ?_; (case aP => exact kL_M ME.out (Kd.R_tight rfl R2.out) HB.out.size); (case aL => rw [List.length_take]; have h1 := HL.out; omega); (case aK => intro k hk; refine ⟨trivial, fun e => ?_⟩; obtain ⟨q1, h1⟩ := Kd.R_typed R2.out k hk.symm; obtain ⟨q2, h2⟩ := Kd.R_typed O2.out k e.symm; exact absurd rfl (blk_ne h1 h2 (by decide))); intro v9 w5 hN hb hg hat; have N5 := Aside0.mk hN; have B5 := Aside0.mk hb; obtain ⟨A9, c9, e9⟩ := Kd.R_slice hN; obtain ⟨m9, hm9⟩ : ∃ m9, m9 = (rs.take j ++ [r]).length := ⟨_, rfl⟩; have M9 := Aside0.mk hm9; rw [← hm9] at e9; subst e9; clear hN hb hg hat hm9))
      go_roundw
      case rel => exact ⟨j + 1, m9, A9, c9, by go_num, rfl, DD.out, ⟨by rw [M9.out, List.length_append, List.length_take]; have := JL.out; simp; omega⟩, B5, ⟨by have := N5.out; rw [← RJ.out] at this; exact this⟩⟩
      case measure => have := DD.out; simp [intOf]; omega
    · have d1 : ¬ (j : Int) < (n : Int) := by omega
      have db : decide (j < n) = false := decide_eq_false d
      obtain rfl : j = n := by omega
      go_wp2
      go_ret
      have hO := HO.out
      rw [List.take_of_length_le (by rw [← HN.out]; exact Nat.le_refl _)] at hO
      exact ⟨A', m, c', rfl, by rw [HM.out]; exact HN.out, hO, HB.out⟩
end Go.Proofs.Ytepipgneefcoiaa.D
