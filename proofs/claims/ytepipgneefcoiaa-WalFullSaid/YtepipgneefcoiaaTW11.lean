/- The functions of the program that these laws reach, each as a plain Lean function, and the proof that the machine's call comes to it; no condition beyond those that each theorem names. Made by wip/xprint.py. -/
import Derived.Test.YtepipgneefcoiaaTW10
import Derived.Lib.SlBytesConst
import Derived.Test.YtepipgneefcoiaaDx0
namespace Go.Proofs.Ytepipgneefcoiaa.D
open Go.RowKit Go.Proofs.YtepipgneefcoiaaW.PrintWords Go.Proofs.YtepipgneefcoiaaW.PrintLast Go.Proofs.YtepipgneefcoiaaW.PrintMore
attribute [local go_sem] max2_int min2_int max_two min_two max_three min_three max_four min_four
set_option linter.unusedVariables false
set_option linter.unusedSimpArgs false
/- The live question. -/
theorem A_New (w : World) : Calls Try.prog 14 #[.int .i64 1] w fun e w' => ∃ q, e = .returned (.tuple #[.pointer (some ⟨q, 0, none⟩), .int .i64 0]) ∧ JO w w' q (new8 1) (fun _ => False) := by
  refine Calls.mono (J_New w 1 (by omega) (by omega)) ?_
  rintro e w' ⟨p, rfl, h⟩
  exact ⟨p, rfl, J_JO h⟩
theorem A_Open {w0 w : World} {q : Nat} {s : Dk} {O : Nat → Prop} (h : JO w0 w q s O) (hby : CrcK.Bytes s.now) (ho : s.of = false) (hnb : s.nb = 1) (cs : List S106) (hcs : (secL s.now 0 4).map decZ = cs) (hl : lmax cs < 18446744073709551615) (l : Wl) (hlx : (⟨0, 1, 5, lmax cs + 1, (prs 5 (cs.length + 1) cs 0).2, (prs 5 (cs.length + 1) cs 0).1, false, fun _ => False⟩ : Wl) = l) :
    Calls Try.prog 35 #[.pointer (some ⟨q, 0, none⟩), .int .i64 0, .int .i64 1, .int .u64 5] w fun e w' => ∃ p, e = .returned (.tuple #[.pointer (some ⟨p, 0, none⟩), .int .i64 0]) ∧ LG w0 p q l s (fun k => O k ∨ (w.heap.size ≤ k ∧ k < w'.heap.size)) w' ∧ Below w.heap.size w w' := by
  refine L_Open0 h (fun _ => False) (fun _ hk => hk.elim) hby ho 0 1 5 (by omega) (by omega) (by omega) cs hcs.symm _ (fun e => by omega) (fun _ p w' l' e hG hb => ?_)
  subst e
  exact ⟨p, rfl, by rw [← hlx]; exact hG, hb⟩
theorem new8_cs : (secL (new8 1).now 0 4).map decZ = List.replicate 4 zc6 := by
  unfold new8
  exact sec_nought (by omega)
theorem LG_JO {w0 w : World} {p q : Nat} {l : Wl} {s : Dk} {O : Nat → Prop} (h : LG w0 p q l s O w) : JO w0 w q s O := by obtain ⟨_, _, _, _, h⟩ := h; exact h.d
theorem conv27 (W : World) : Sem.run Try.prog (convert 27 27 (.slice (some ⟨W.heap.size, 0, none⟩) 2 2)) (W.alloc (.cells #[.int .u8 97, .int .u8 98] 5)) = .ok (.slice (some ⟨W.heap.size, 0, none⟩) 2 2) (W.alloc (.cells #[.int .u8 97, .int .u8 98] 5 (2, 3))) :=
  Go.Lib.run_convert_bytes_const W 27 5 _ 2 2 Try.underlying27 Try.underlying5
set_option maxRecDepth 20000 in
theorem A_Append {w0 w : World} {p q : Nat} {O : Nat → Prop} (h : LG w0 p q ab0 (new8 1) O w) :
    Calls Try.prog 45 #[.pointer (some ⟨p, 0, none⟩), .slice (some ⟨w.heap.size, 0, none⟩) 2 2] (w.alloc (.cells #[.int .u8 97, .int .u8 98] 5 (2, 3))) fun e w' => e = .returned (.int .i64 0) ∧ ∃ O', (∀ k, O k → O' k) ∧ LG w0 p q ⟨0, 1, 5, 1, 1, [[97, 98]], false, fun _ => False⟩ abS O' w' := by
  obtain ⟨A, n, c, OV, hX⟩ := h
  have hlt := JO_O hX.d hX.op
  have hd := LX_deep hX (below_alloc (Below.refl _ _) (.cells #[.int .u8 97, .int .u8 98] 5 (2, 3)))
  have hb := blk_new w (.cells #[.int .u8 97, .int .u8 98] 5 (2, 3))
  refine (L_Append ⟨A, n, c, OV, hd⟩ (by decide) (by decide) (by decide) (by decide) (by decide) (some ⟨w.heap.size, 0, none⟩) 2 2 [97, 98] rfl (by decide) (fun W _ hk => ?_) (by intro x hx; simp at hx; omega) _ _ _ ab_apx).mono ?_
  · have e := (hk.2 w.heap.size ⟨.inr ⟨Nat.le_refl _, by simp⟩, by omega⟩).trans hb
    refine C_lit_int (k := .u8) [97, 98] (by decide) (fun j p hj => ?_)
    have h1 := cell_of_row W w.heap.size j _ 5 (2, 3) e
    rw [h1]
    match j, hj with
    | 0, hj => simpa using hj
    | 1, hj => simpa using hj
    | j + 2, hj => simp at hj
  · rintro e w' ⟨rfl, ⟨O', ho, hG⟩, _⟩
    exact ⟨rfl, O', fun k hk => ho k (.inl hk), hG⟩
set_option maxRecDepth 20000 in
set_option maxHeartbeats 40000000 in
theorem ab_pend : abS.pend.length ≤ 100000 := by
  unfold abS wrx
  rw [if_pos ⟨by decide, abD_len⟩]
  exact (by decide : 4 ≤ 100000)
theorem A_Sync {w0 w : World} {p q : Nat} {O : Nat → Prop} {S : Dk} (h : LG w0 p q ⟨0, 1, 5, 1, 1, [[97, 98]], false, fun _ => False⟩ abS O w) (hf : flx abS = (S, 0)) :
    Calls Try.prog 46 #[.pointer (some ⟨p, 0, none⟩)] w fun e w' => e = .returned (.int .i64 0) ∧ LG w0 p q ⟨0, 1, 5, 1, 1, [[97, 98]], false, fun _ => False⟩ S O w' := by
  refine (L_Sync h ab_pend ⟨0, 1, 5, 1, 1, [[97, 98]], false, fun _ => False⟩ S 0 (by unfold syx; rw [if_neg (by decide), hf]; rfl)).mono ?_
  rintro e w' ⟨rfl, hG, _⟩
  exact ⟨rfl, hG⟩
theorem A_held {w W : World} {A8 : Option Addr} {c8 : Nat} {ad : Addr} {v : Value} (hC : (Kd.int .u8).C w A8 [97, 98].length [97, 98]) (hz : w.cell? ad = some v) (hb : Below w.heap.size w W) :
    Sem.run Try.prog (convert 27 9 (.slice A8 2 c8)) W = .ok (.string ⟨#[97, 98]⟩) W ∧ W.cell? ad = some v := by
  refine ⟨Kd.C_string (P := Try.prog) (A := A8) (c := c8) Try.underlying27 Try.underlying5 Try.underlying9 (Kd.C_below hC hb), ?_⟩
  have hlt : ad.block < w.heap.size := by
    rcases Nat.lt_or_ge ad.block w.heap.size with h' | h'
    · exact h'
    · simp [World.cell?, Array.getElem?_eq_none h'] at hz
  exact (hb.cell hlt).trans hz
set_option maxRecDepth 20000 in
set_option maxHeartbeats 40000000 in
theorem L_alive (w : World) : Calls Try.prog 37 #[] w fun e w' => e = .returned (.bool true) ∧ Below w.heap.size w w' := by
  go_enter Try.func37, Try.ntmps37
  go_upto_region 6 with (first
    | (go_at_call 14; refine (A_New _).mono ?_; rintro e w1 ⟨q, rfl, hj⟩; have J1 := Aside0.mk hj; clear hj)
    | (go_at_call 35; refine (A_Open J1.out (zeros_bytes _) rfl rfl (List.replicate 4 zc6) new8_cs (by rw [lmax_z]; decide) ab0 (by rw [lmax_z, prs_z]; rfl)).mono ?_; rintro e w2 ⟨p, rfl, hg, hb⟩; have G2 := Aside0.mk hg; have B2 := Aside0.mk hb; clear hg hb)
    | (go_at_call 40; refine (L_Room G2.out (by decide) (by decide) 156 (by decide)).mono ?_; rintro e w3 ⟨rfl, hb⟩; have B3 := Aside0.mk hb; have G3 := Aside0.mk (LG_step G2.out hb); clear hb))
  have cv := conv27
  obtain ⟨S, hS, s1, s2, s3⟩ := ab_flx
  have FL := Aside0.mk hS
  have S1 := Aside0.mk s1
  have S2 := Aside0.mk s2
  have S3 := Aside0.mk s3
  clear hS s1 s2 s3
  go_upto_region 11 with (first
    | (go_at_call 45; refine (A_Append G3.out).mono ?_; rintro e w4 ⟨rfl, O4, ho, hg⟩; have G4 := Aside0.mk hg; clear hg ho)
    | (go_at_call 46; refine (A_Sync G4.out FL.out).mono ?_; rintro e w5 ⟨rfl, hg⟩; have G5 := Aside0.mk hg; clear hg)
    | (go_at_call 35; refine (A_Open (LG_JO G5.out) (by rw [S1.out]; exact abD_bytes) S2.out S3.out (ab1 :: List.replicate 3 zc6) (by rw [S1.out]; exact ab_secs) (by rw [ab_lmax]; decide) ⟨0, 1, 5, 2, 1, [[97, 98]], false, fun _ => False⟩ (by rw [ab_lmax, ab_prs]; rfl)).mono ?_; rintro e w6 ⟨p2, rfl, hg, hb⟩; have G6 := Aside0.mk hg; clear hg hb))
  go_upto_region 12 with (first
    | (go_at_call 39; refine (L_Records G6.out (by decide) (by decide)).mono ?_; rintro e w7 ⟨A7, n7, c7, rfl, hn7, hR, hb⟩; have G7 := Aside0.mk (LG_step G6.out hb); have N7 := Aside0.mk hn7; have R7 := Aside0.mk hR; clear hR hb hn7))
  obtain ⟨hn7, hc7, hC7⟩ := Kd.R_reads' R7.out
  obtain ⟨_, _, hrow⟩ := hC7
  obtain ⟨ad, rfl, hat⟩ := hrow (by decide)
  obtain ⟨vs, _, ⟨A8, c8, rfl, _, hC8⟩, hcell⟩ := hat 0 [97, 98] rfl
  have hz := hcell 0 _ rfl
  have had : ad.add (0 * kL.sz + 0) = ad := by rw [Nat.zero_mul]; unfold Addr.add; split <;> simp_all
  rw [had] at hz
  have C8 := Aside0.mk hC8
  have Z8 := Aside0.mk (show w7.cell? ad = some (.slice A8 2 c8) from hz)
  have hn1 : n7 = 1 := hn7
  subst hn1
  clear hz had hC8 hcell hat hrow hn7 hc7 N7
  go_wp2_with (first
    | (go_at_call 40; refine (L_Room G7.out (by decide) (by decide) 117 (by decide)).mono ?_; rintro e w8 ⟨rfl, hb⟩; have hh := A_held (c8 := c8) C8.out Z8.out hb; have h1 := hh.1; have h2 := hh.2; have G8 := Aside0.mk (LG_step G7.out hb); clear hb hh)
    | (go_at_call 42; refine (L_Life G8.out).mono ?_; rintro e w9 ⟨rfl, rfl⟩)
    | (go_at_call 43; refine (L_Epoch G8.out).mono ?_; rintro e w10 ⟨rfl, rfl⟩))
  go_ret
  exact ⟨rfl, JO_below (LG_JO G8.out)⟩
end Go.Proofs.Ytepipgneefcoiaa.D
