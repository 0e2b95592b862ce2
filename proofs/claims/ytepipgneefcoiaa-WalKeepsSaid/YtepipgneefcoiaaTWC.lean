/- The functions of the program that these laws reach, each as a plain Lean function, and the proof that the machine's call comes to it; no condition beyond those that each theorem names. Made by wip/xprint.py. -/
import Derived.Test.YtepipgneefcoiaaTWB
import Derived.Test.YtepipgneefcoiaaDf72
import Derived.Test.YtepipgneefcoiaaMPut
import Derived.Test.YtepipgneefcoiaaDf83
import Derived.Test.YtepipgneefcoiaaDx0
namespace Go.Proofs.Ytepipgneefcoiaa.D
open Go.RowKit Go.Proofs.YtepipgneefcoiaaW.PrintWords Go.Proofs.YtepipgneefcoiaaW.PrintLast Go.Proofs.YtepipgneefcoiaaW.PrintMore
attribute [local go_sem] max2_int min2_int max_two min_two max_three min_three max_four min_four
set_option linter.unusedVariables false
set_option linter.unusedSimpArgs false
theorem L_OpenOff {w0 w : World} {q : Nat} {s : Dk} {O : Nat → Prop} (h : JO w0 w q s O) (ho : s.of = true) (fi si : Nat) (ep : Int) (h1 : 1 ≤ si) (hf : fi + si ≤ s.nb) :
    Calls Try.prog 35 #[.pointer (some ⟨q, 0, none⟩), .int .i64 (fi : Int), .int .i64 (si : Int), .int .u64 ep] w fun e w' => e = .returned (.tuple #[.pointer none, .int .i64 9]) ∧ Below w.heap.size w w' := by
  have H := Aside0.mk h
  have OKD := Aside0.mk (J_ok (JO_J h))
  have HO := Aside0.mk ho
  have HF := Aside0.mk hf
  have H1 := Aside0.mk h1
  obtain ⟨nb, hnb'⟩ : ∃ nb, nb = s.nb := ⟨_, rfl⟩
  have nb1 : nb ≤ 4096 := by rw [hnb']; exact OKD.out.nb1
  rw [← hnb'] at hf
  have HB := Aside0.mk hnb'
  have BL := Aside0.mk (fun (e : Ending) (w' : World) (he : e = .returned (.int .i64 (s.nb : Int)) ∧ Below w.heap.size w w') => (by rw [← HB.out] at he; exact he : e = .returned (.int .i64 (nb : Int)) ∧ Below w.heap.size w w'))
  have c1b : decide ((fi : Int) < 0) = false := decide_eq_false (by omega)
  have c2b : decide ((si : Int) < 1) = false := decide_eq_false (by omega)
  have c3b : decide ((si : Int) > (nb : Int)) = false := decide_eq_false (by omega)
  have c3c : decide ((nb : Int) < (si : Int)) = false := decide_eq_false (by omega)
  have c3d : decide (nb < si) = false := decide_eq_false (by omega)
  have wq : wrap64 ((nb : Int) - (si : Int)) = (nb : Int) - (si : Int) := by unfold wrap64; omega
  have c4b : decide ((fi : Int) > (nb : Int) - (si : Int)) = false := decide_eq_false (by omega)
  have c4c : decide ((nb : Int) - (si : Int) < (fi : Int)) = false := decide_eq_false (by omega)
  clear h ho hnb'
  go_enter Try.func35, Try.ntmps35
  go_wp2_with (first | (go_at_call 17; refine ((JO_Blocks H.out).mono BL.out).mono ?_; rintro e w1 ⟨rfl, hb⟩; have B1 := Aside0.mk hb; clear hb) | (go_at_call 66; refine (L_readOff (JO_step H.out B1.out) HO.out fi si H1.out HF.out OKD.out.nb1).mono ?_; rintro e w2 ⟨rfl, hb⟩; have B2 := Aside0.mk (below_step B1.out hb); clear hb))
  go_ret2
  exact ⟨rfl, B2.out⟩
/- What a log has, told anew. -/
theorem clone_ev {l : List Int} (h : l.length ≤ 100000) : slices_Clone_byte_byte.f l = some l := by
  unfold slices_Clone_byte_byte.f
  rw [Option.bind_some, if_pos (by simp; omega), List.nil_append]
theorem clone_at {w : World} {A : Option Addr} {m c : Nat} {l : List Int} (hm : m = l.length) (hc : m ≤ c) (hl : l.length ≤ 100000) (hC : Kd.C (Kd.int .u8) w A l.length l) :
    Calls Try.prog 72 #[.slice A m c] w fun e w' => ∃ (A' : Option Addr) (c' : Nat), e = .returned (.slice A' m c') ∧ Kd.R (Kd.int .u8) 5 w' w.heap.size (fun _ => True) (.slice A' m c') l ∧ Below w.heap.size w w' := by
  subst hm
  refine (slices_Clone_byte_byte.calls A c l l w hC hc (clone_ev hl)).mono ?_
  rintro e w' ⟨v, rfl, hR, hb⟩
  obtain ⟨A', c', rfl⟩ := Kd.R_slice hR
  exact ⟨A', c', rfl, hR, hb⟩
theorem kL_M {w : World} {base base' : Nat} {ok : Nat → Prop} {A : Option Addr} {m c : Nat} {l : List Int} (hm : m = l.length) (h : Kd.R (Kd.int .u8) 5 w base ok (.slice A m c) l) (hb : base' ≤ base) : kL.M w base' ok l [.slice A m c] := ⟨_, rfl, Kd.R_lower h hb⟩
set_option maxRecDepth 20000 in
set_option maxHeartbeats 16000000 in
theorem L_Records {w0 w : World} {p q : Nat} {l : Wl} {s : Dk} {O : Nat → Prop} (h : LG w0 p q l s O w) (hn : l.rs.length ≤ 16384) (hr : ∀ r ∈ l.rs, r.length ≤ 100000) :
    Calls Try.prog 39 #[.pointer (some ⟨p, 0, none⟩)] w fun e w' => ∃ (A : Option Addr) (n c : Nat), e = .returned (.slice A n c) ∧ n = l.rs.length ∧ Kd.R kL 27 w' w.heap.size (fun _ => True) (.slice A n c) l.rs ∧ Below w.heap.size w w' := by
  obtain ⟨A, n, c, OV, h⟩ := h
  have y6 : w.cell? ⟨p, 6, none⟩ = some (.slice A n c) := (blk_cell h.box 6).trans rfl
  have HV := Aside0.mk (show Kd.V kL 27 w 0 (fun k => k < w.heap.size) (.slice A n c) l.rs from Kd.V_mono (Kd.V_bound h.v) (fun k hk => hk.2))
  have HN := Aside0.mk h.hn
  have HL := Aside0.mk hn
  have HR := Aside0.mk hr
  have nb : n ≤ 16384 := by rw [h.hn]; exact hn
  obtain ⟨rs, hrs⟩ : ∃ rs, rs = l.rs := ⟨_, rfl⟩
  rw [← hrs] at HV HN HL HR ⊢
  clear h hn hr hrs
  go_enter Try.func39, Try.ntmps39
  go_wp2
  go_loopw [3, 5, 13] (fun v3 v5 v13 wr => ∃ (j m : Nat) (A' : Option Addr) (c' : Nat), v13 = .int .i64 (j : Int) ∧ v3 = .slice A' m c' ∧ j ≤ n ∧ Aside0 (m = j) ∧ Aside0 (Below w.heap.size w wr) ∧ Aside0 (Kd.R kL 27 wr w.heap.size (fun _ => True) (.slice A' m c') (rs.take j))) (fun v3 v5 v13 _ => n - (intOf v13).toNat)
  case atStart => exact ⟨0, 0, none, 0, rfl, rfl, Nat.zero_le _, ⟨rfl⟩, ⟨Below.refl _ _⟩, ⟨Kd.R_nil _ _ _ _ _⟩⟩
  case round =>
    obtain ⟨j, m, A', c', rfl, rfl, hj, HM, HB, HO⟩ := hrel
    by_cases d : j < n
    · have d1 : (j : Int) < (n : Int) := by omega
      have db : decide (j < n) = true := decide_eq_true d
      have DD := Aside0.mk d
      have JL := Aside0.mk (show j < rs.length by rw [← HN.out]; exact d)
      have VB := Kd.V_step HV.out (fun k hk _ => HB.out.block k hk)
      obtain ⟨hl1, hl2, hC⟩ := Kd.V_reads' VB
      obtain ⟨ad, AE, cE, eA, y, lE, CE⟩ := at_L3 hC (j : Int) (by omega) (by rw [← HN.out]; exact d1)
      subst eA
      rw [Int.toNat_natCast] at y
      obtain ⟨r, hrj⟩ : ∃ r, r = rd_L3 rs (j : Int) := ⟨_, rfl⟩
      have RJ := Aside0.mk (show rs.take (j + 1) = rs.take j ++ [r] by
        rw [List.take_succ_eq_append_getElem JL.out, hrj]
        unfold rd_L3
        rw [Int.toNat_natCast, List.getD_eq_getElem?_getD, List.getElem?_eq_getElem JL.out]; rfl)
      have RM := Aside0.mk (show r.length ≤ 100000 from HR.out r (by rw [hrj]; unfold rd_L3; rw [Int.toNat_natCast, List.getD_eq_getElem?_getD, List.getElem?_eq_getElem JL.out]; exact List.getElem_mem _))
      rw [← hrj] at y lE CE
      obtain ⟨mE, hmE⟩ : ∃ mE, mE = r.length := ⟨_, rfl⟩
      rw [← hmE] at y lE
      have ME := Aside0.mk hmE
      have LE_ := Aside0.mk lE
      have CE' := Aside0.mk CE
      clear hl1 hl2 hC VB hrj hmE lE CE d
      go_wp2_with (first | (go_at_call 72; refine (clone_at ME.out LE_.out RM.out CE'.out).mono ?_; rintro e w2 ⟨A2, c2, rfl, hR, hb⟩; have R2 := Aside0.mk hR; have B2 := Aside0.mk (below_step HB.out hb); have O2 := Aside0.mk (Kd.R_below HO.out hb); have S2 := Aside0.mk (Nat.le_trans HB.out.size (Nat.le_refl wr.heap.size)); clear hR hb) | ((with_reducible refine gate_builtin (b := .append) (xs := #[.tmp 17, .tmp 20]) rfl ?_); at_builtin; refine Kd.R_append kL (w0 := w) w.heap.size rfl (.tmp 17) (.tmp 20) 46 27 (.slice none 0 0) 24 rfl Try.underlying46 info27w rfl (by decide) (by omega) (.slice A' m c') (rs.take j) r _ (fun _ => True) (fun k => some k = (Value.slice A2 mE c2).ownBlock) rfl rfl ?aP ?aK (fun _ _ => trivial) O2.out B2.out B2.out.size ?aL ?_; (case aP => exact kL_M ME.out (Kd.R_tight rfl R2.out) HB.out.size); (case aL => rw [List.length_take]; have h1 := HL.out; omega); (case aK => intro k hk; refine ⟨trivial, fun e => ?_⟩; obtain ⟨q1, h1⟩ := Kd.R_typed R2.out k hk.symm; obtain ⟨q2, h2⟩ := Kd.R_typed O2.out k e.symm; exact absurd rfl (blk_ne h1 h2 (by decide))); intro v9 w5 hN hb hg hat; have N5 := Aside0.mk hN; have B5 := Aside0.mk hb; obtain ⟨A9, c9, e9⟩ := Kd.R_slice hN; obtain ⟨m9, hm9⟩ : ∃ m9, m9 = (rs.take j ++ [r]).length := ⟨_, rfl⟩; have M9 := Aside0.mk hm9; rw [← hm9] at e9; subst e9; clear hN hb hg hat hm9))
      go_roundw
      case rel => exact ⟨j + 1, m9, A9, c9, by go_num, rfl, DD.out, ⟨by rw [M9.out, List.length_append, List.length_take]; have := JL.out; simp; omega⟩, B5, ⟨by have := N5.out; rw [← RJ.out] at this; exact this⟩⟩
      case measure => have := DD.out; simp [intOf]; omega
    · have d1 : ¬ (j : Int) < (n : Int) := by omega
      have db : decide (j < n) = false := decide_eq_false d
      obtain rfl : j = n := by omega
      go_wp2
      go_ret
      have hO := HO.out
      rw [List.take_of_length_le (by rw [← HN.out]; exact Nat.le_refl _)] at hO
      exact ⟨A', m, c', rfl, by rw [HM.out]; exact HN.out, hO, HB.out⟩
/- Cells are laid into blocks. -/
def encC (c : S106) : List Int := CellLaws.enc c.f0 c.f1 c.f2 c.f3 c.f4
structure MayC (c : S106) : Prop where
  may : CellLaws.May c.f2 c.f3 c.f4
  by_ : CrcK.Bytes c.f4
def layx (fi : Nat) : Nat → Dk → Nat → List (List Int) → Dk × Int
  | 0, s, _, _ => (s, 0)
  | f + 1, s, a, ps => if ps.length = 0 then (s, 0) else if s.of = true then (s, 9) else
      if (wrx s ((fi + a / 4 : Nat) : Int) (sp8 (cut8 s.now ((fi + a / 4) * 256) 256) (a % 4 * 64) (ps.take (4 - a % 4)).flatten)).2 ≠ 0
      then wrx s ((fi + a / 4 : Nat) : Int) (sp8 (cut8 s.now ((fi + a / 4) * 256) 256) (a % 4 * 64) (ps.take (4 - a % 4)).flatten)
      else layx fi f (wrx s ((fi + a / 4 : Nat) : Int) (sp8 (cut8 s.now ((fi + a / 4) * 256) 256) (a % 4 * 64) (ps.take (4 - a % 4)).flatten)).1 (a + min (4 - a % 4) ps.length) (ps.drop (4 - a % 4))
theorem JO_grown {w0 w w' : World} {q g : Nat} {s : Dk} {O : Nat → Prop} (h : JO w0 w q s O) (hO : O g) (hg : w0.heap.size ≤ g) (hw : w.grownBy w' (some g)) : JO w0 w' q s O := by
  obtain ⟨a, b, v, h1, h2, h3⟩ := h
  have hn := (h3 g hO).2
  have far : ∀ k, k < w.heap.size → k ≠ g → w'.heap[k]? = w.heap[k]? := fun k hl hk => hw.block k hl (fun e => hk (by injection e))
  have hsz := hw.size
  refine ⟨a, b, v, ⟨(far q (blk_lt h1.box) (fun e => hn (.inl e.symm))).trans h1.box, (far a (blk_lt h1.now) (fun e => hn (.inr (.inl e.symm)))).trans h1.now, (far b (blk_lt h1.safe) (fun e => hn (.inr (.inr (.inl e.symm))))).trans h1.safe, Kd.R_mono (Kd.R_move (Kd.R_tight rfl h1.pend) (fun k hk => far k (dS_lt h1 (.inr (.inr (.inr hk)))) (fun e => hn (by rw [← e]; exact .inr (.inr (.inr hk)))))) (fun _ _ => trivial), h1.ne, h1.hp, h1.hn, h1.hf, h1.ok⟩, pw_below_grown h2 _ (below_size h2) hw (fun k e => by injection e with e; rw [← e]; exact hg), fun k hk => ⟨Nat.lt_of_lt_of_le (h3 k hk).1 hsz, (h3 k hk).2⟩⟩
theorem enc_at {w : World} {A : Option Addr} {m c : Nat} {x : S106} (hm : m = x.f4.length) (hc : m ≤ c) (hx : MayC x) (hC : Kd.C (Kd.int .u8) w A x.f4.length x.f4) :
    Calls Try.prog 83 #[.agg #[.int .u64 x.f0, .int .u64 x.f1, .int .i64 x.f2, .int .i64 x.f3, .slice A m c]] w fun e w' => ∃ (A' : Option Addr) (c' : Nat), e = .returned (.tuple #[.slice A' 64 c', .int .i64 0]) ∧ 64 ≤ c' ∧ Kd.C (Kd.int .u8) w' A' 64 (encC x) ∧ Below w.heap.size w w' := by
  subst hm
  obtain ⟨k, hk⟩ := (CellLaws.encode_ev (a0 := x.f0) (a1 := x.f1) hx.by_ hx.may).rounds
  have hl : (encC x).length = 64 := CellLaws.enc_length hx.may.2.2.2
  refine (cell_Encode.calls k x.f0 x.f1 x.f2 x.f3 A c x.f4 _ _ w hC hc hk).mono ?_
  rintro e w' ⟨v, rfl, hV, hb⟩
  obtain ⟨A', c', rfl⟩ := Kd.V_slice hV
  obtain ⟨h1, h2, h3⟩ := Kd.V_reads' hV
  have hl' : (CellLaws.enc x.f0 x.f1 x.f2 x.f3 x.f4).length = 64 := hl
  rw [hl'] at h2 h3 ⊢
  exact ⟨A', c', rfl, h2, h3, hb⟩
theorem from106' (A : Option Addr) (n c : Nat) (h : 1 ≤ n) (W : World) : (Instr.slice 62 (.slice A n c) (some (.int .i64 1)) none none).run Try.prog W = .ok (.slice (if c = 1 then A else A.map (·.add (1 * 5))) (n - 1) (c - 1)) W := from106 A n c 1 h W
theorem flat_take {ps : List (List Int)} {j : Nat} (hj : j < ps.length) : (ps.take (j + 1)).flatten = (ps.take j).flatten ++ ps[j] := by
  rw [List.take_succ_eq_append_getElem hj, List.flatten_append]; simp
theorem flat_len64 {ps : List (List Int)} (h : ∀ x ∈ ps, x.length = 64) : ps.flatten.length = ps.length * 64 := by
  induction ps with
  | nil => rfl
  | cons x l ih => rw [List.flatten_cons, List.length_append, ih (fun y hy => h y (List.mem_cons_of_mem _ hy)), h x List.mem_cons_self, List.length_cons]; omega
theorem sp8_gt {L X : List Int} {o : Nat} (h : o + X.length ≤ L.length) (i : Nat) : (sp8 L o X)[i]? = if o ≤ i ∧ i < o + X.length then X[i - o]? else L[i]? := by
  unfold sp8
  by_cases c1 : i < o
  · rw [if_neg (by omega), List.append_assoc, List.getElem?_append_left (by rw [List.length_take]; omega), List.getElem?_take, if_pos c1]
  · by_cases c2 : i < o + X.length
    · rw [if_pos ⟨by omega, c2⟩, List.getElem?_append_left (by rw [List.length_append, List.length_take]; omega), List.getElem?_append_right (by rw [List.length_take]; omega), List.length_take, Nat.min_eq_left (by omega)]
    · rw [if_neg (by omega), List.getElem?_append_right (by rw [List.length_append, List.length_take]; omega), List.length_append, List.length_take, List.getElem?_drop]
      congr 1
      omega
theorem sp8_app {L X Y : List Int} {o : Nat} (h : o + X.length + Y.length ≤ L.length) : sp8 (sp8 L o X) (o + X.length) Y = sp8 L o (X ++ Y) := by
  apply List.ext_getElem?
  intro i
  have hl := sp8_len (L := L) (X := X) (o := o) (by omega)
  rw [sp8_gt (by rw [hl]; omega), sp8_gt (by omega), sp8_gt (by rw [List.length_append]; omega), List.length_append]
  by_cases c1 : o ≤ i ∧ i < o + X.length
  · rw [if_neg (by omega), if_pos c1, if_pos (by omega), List.getElem?_append_left (by omega)]
  · rw [if_neg c1]
    by_cases c2 : o + X.length ≤ i ∧ i < o + X.length + Y.length
    · rw [if_pos c2, if_pos (by omega), List.getElem?_append_right (by omega)]
      congr 1; omega
    · rw [if_neg c2, if_neg (by omega)]
/- lay. -/
theorem pwx_kp2 (s : Dk) : (pwx s).1.nb = s.nb ∧ (pwx s).1.pend = s.pend ∧ (pwx s).1.now = s.now ∧ (pwx s).1.safe = s.safe := by
  unfold pwx
  split <;> exact ⟨rfl, rfl, rfl, rfl⟩
theorem wrx_small (s : Dk) (i : Int) (b : List Int) : (wrx s i b).1.nb = s.nb ∧ (wrx s i b).1.pend.length ≤ s.pend.length + 4 := by
  obtain ⟨h1, h2, _⟩ := pwx_kp2 s
  unfold wrx
  split
  · split
    · refine ⟨h1, ?_⟩
      show ((pwx s).1.pend ++ pcs i b).length ≤ _
      rw [List.length_append, h2]
      exact Nat.le_refl _
    · exact ⟨h1, by show (pwx s).1.pend.length ≤ _; rw [h2]; omega⟩
  · exact ⟨rfl, Nat.le_add_right _ _⟩
theorem rdlay {fi x nb : Nat} (h : fi + x / 4 < nb) (hb : nb ≤ 4096) : wrap64 ((fi : Int) + ((x / 4 : Nat) : Int)) = ((fi + x / 4 : Nat) : Int) := by unfold wrap64; omega
theorem at106 {w : World} {A : Option Addr} {n : Nat} {cs : List S106} (hn : n = cs.length) (hV : Kd.C k106 w A n cs) (h0 : 0 < n) : ∃ (ad : Addr) (A4 : Option Addr) (m4 c4 : Nat) (x : S106), A = some ad ∧ cs[0]? = some x ∧ w.cell? ad = some (.int .u64 x.f0) ∧ w.cell? ⟨ad.block, ad.off + 1, none⟩ = some (.int .u64 x.f1) ∧ w.cell? ⟨ad.block, ad.off + 2, none⟩ = some (.int .i64 x.f2) ∧ w.cell? ⟨ad.block, ad.off + 3, none⟩ = some (.int .i64 x.f3) ∧ w.cell? ⟨ad.block, ad.off + 4, none⟩ = some (.slice A4 m4 c4) ∧ m4 = x.f4.length ∧ m4 ≤ c4 ∧ Kd.C (Kd.int .u8) w A4 x.f4.length x.f4 := by
  obtain ⟨ad, A4, c4, rfl, y0, y1, y2, y3, y4, l4, C4⟩ := at_T106 hV 0 (by omega) (by omega)
  rw [show (0 : Int).toNat * 5 = 0 from rfl, ad_zero] at y0 y1 y2 y3 y4
  have hx : cs[0]? = some (rd_T106 cs 0) := by
    have h1 : 0 < cs.length := by omega
    unfold rd_T106
    rw [show (0 : Int).toNat = 0 from rfl, List.getD_eq_getElem?_getD, List.getElem?_eq_getElem h1]; rfl
  exact ⟨ad, A4, _, c4, _, rfl, hx, y0, y1, y2, y3, y4, rfl, l4, C4⟩
set_option maxRecDepth 20000 in
set_option maxHeartbeats 40000000 in
theorem L_lay {w0 w : World} {p q : Nat} {l : Wl} {s : Dk} {O OC : Nat → Prop} {A : Option Addr} {n c : Nat} {cs : List S106} (h : LG w0 p q l s O w) (hV : Kd.V k106 106 w 0 OC (.slice A n c) cs) (hOC : ∀ k, OC k → O k ∧ k ≠ p) (hn : n = cs.length) (hm : ∀ x ∈ cs, MayC x) (hbd : l.fi * 4 + l.en + cs.length ≤ s.nb * 4) (hpd : s.pend.length + 4 * cs.length ≤ 90000) (s' : Dk) (e' : Int) (hx : layx l.fi (cs.length + 1) s l.en (cs.map encC) = (s', e')) :
    Calls Try.prog 74 #[.pointer (some ⟨p, 0, none⟩), .slice A n c] w fun e w' => e = .returned (.int .i64 e') ∧ LG w0 p q l s' O w' ∧ kO O w w' := by
  have HM := Aside0.mk hm
  have HOC := Aside0.mk hOC
  have NB := Aside0.mk (J_ok (JO_J (LG_d h))).nb1
  have HBD := Aside0.mk hbd
  have HPD := Aside0.mk hpd
  have H := Aside0.mk h
  have HV := Aside0.mk hV
  have HN := Aside0.mk hn
  obtain ⟨y0, y1, y5⟩ : w.cell? ⟨p, 0, none⟩ = some (.pointer (some ⟨q, 0, none⟩)) ∧ w.cell? ⟨p, 1, none⟩ = some (.int .i64 (l.fi : Int)) ∧ w.cell? ⟨p, 5, none⟩ = some (.int .i64 (l.en : Int)) := by
    obtain ⟨A, n, c, OV, h⟩ := h
    have := LX_cells h
    exact ⟨this.1, this.2.1, this.2.2.2.2.2.1⟩
  obtain ⟨fi, hfi⟩ : ∃ fi, fi = l.fi := ⟨_, rfl⟩
  obtain ⟨en, hen⟩ : ∃ en, en = l.en := ⟨_, rfl⟩
  have FIN := Aside0.mk (show ∃ f, cs.length - 0 < f ∧ layx fi f s (en + 0) ((cs.drop 0).map encC) = (s', e') from ⟨cs.length + 1, by omega, by rw [hfi, hen]; exact hx⟩)
  have FI := Aside0.mk hfi
  have EN := Aside0.mk hen
  rw [← hfi, ← hen] at HBD
  rw [← hfi] at y1
  rw [← hen] at y5
  clear h hV hm hOC hbd hpd hx hfi hen hn y0 y1
  go_enter Try.func74, Try.ntmps74
  go_wp2
  go_loopw [1, 5, 6, 7, 8, 9, 10, 11, 12] (fun v1 v5 v6 v7 v8 v9 v10 v11 v12 wr => ∃ (d : Nat) (s1 : Dk) (A : Option Addr) (n c x : Nat), v1 = .slice A n c ∧ v5 = .int .i64 (x : Int) ∧ Aside0 (x = en + d ∧ d + n = cs.length) ∧ Aside0 (Kd.V k106 106 wr 0 OC (.slice A n c) (cs.drop d)) ∧ Aside0 (LG w0 p q l s1 O wr) ∧ Aside0 (kO O w wr) ∧ Aside0 (∃ f, cs.length - d < f ∧ layx fi f s1 (en + d) ((cs.drop d).map encC) = (s', e')) ∧ Aside0 (s1.nb = s.nb ∧ s1.pend.length ≤ s.pend.length + 4 * d)) (fun v1 v5 v6 v7 v8 v9 v10 v11 v12 _ => match v1 with | .slice _ n _ => n | _ => 0)
  case atStart => exact ⟨0, s, A, n, c, en, rfl, rfl, ⟨rfl, by rw [HN.out]; omega⟩, HV, H, ⟨kO_refl _ _⟩, FIN, ⟨rfl, by omega⟩⟩
  case round =>
    clear H HV FIN HN y5
    obtain ⟨d, s1, A, n, c, x, rfl, rfl, HD, HV, HJ, HK, FIN, HP⟩ := hrel
    by_cases dn : 0 < n
    · have dn1 : (n : Int) > 0 := by omega
      have dnb : decide ((n : Int) > 0) = true := decide_eq_true dn1
      have dnc : decide (0 < n) = true := decide_eq_true dn
      obtain ⟨y0, y1⟩ : wr.cell? ⟨p, 0, none⟩ = some (.pointer (some ⟨q, 0, none⟩)) ∧ wr.cell? ⟨p, 1, none⟩ = some (.int .i64 (fi : Int)) := by
        obtain ⟨A, n, c, OV, h⟩ := HJ.out
        have := LX_cells h
        exact ⟨this.1, by rw [FI.out]; exact this.2.1⟩
      obtain ⟨xq, hxq⟩ : ∃ xq, xq = x / 4 := ⟨_, rfl⟩
      obtain ⟨nn, hnn⟩ : ∃ nn, nn = fi + xq := ⟨_, rfl⟩
      obtain ⟨i, hi⟩ : ∃ i, i = x % 4 := ⟨_, rfl⟩
      have NNL := Aside0.mk (show nn < s1.nb by have h1 := HP.out.1; have h2 := HBD.out; have h3 := HD.out; omega)
      have wq : Int.tdiv (x : Int) 4 = (xq : Int) := by rw [hxq, Int.ofNat_tdiv]; rfl
      have wr4 : Int.tmod (x : Int) 4 = (i : Int) := by rw [hi, Int.ofNat_tmod]; rfl
      have wn : wrap64 ((fi : Int) + (xq : Int)) = (nn : Int) := by have h1 := NNL.out; have h2 := HP.out.1; have h3 := NB.out; unfold wrap64; omega
      have wx : wrap64 (xq : Int) = (xq : Int) := by have h1 := NNL.out; have h2 := HP.out.1; have h3 := NB.out; unfold wrap64; omega
      have I4 := Aside0.mk (show i < 4 by omega)
      have HI := Aside0.mk hi
      have HNN := Aside0.mk (show nn = fi + x / 4 by rw [hnn, hxq])
      have DN := Aside0.mk dn
      clear hnn hxq hi dn
      cases ho : s1.of with
      | true =>
        have HX := Aside0.mk (rdx_off ho NNL.out)
        have HO := Aside0.mk ho
        clear ho
        go_wp2_with (go_at_call 16; refine (JO_Read (LG_d HJ.out) (nn : Int) [] 9 HX.out).mono ?_; rintro e w2 ⟨v, rfl, hf, hB⟩; have B2 := Aside0.mk hB; clear hf hB)
        go_ret
        obtain ⟨f, h1, h2⟩ := FIN.out
        obtain ⟨f, rfl⟩ : ∃ f', f = f' + 1 := ⟨f - 1, by omega⟩
        rw [layx, if_neg (by rw [List.length_map, List.length_drop]; have h3 := HD.out; have h4 := DN.out; omega), if_pos HO.out] at h2
        injection h2 with e1 e2
        subst e1 e2
        exact ⟨rfl, LG_step HJ.out B2.out, kO_trans HK.out (kO_below (LG_d HJ.out) B2.out)⟩
      | false =>
        have HO := Aside0.mk ho
        obtain ⟨b0, hb0⟩ : ∃ b0, b0 = cut8 s1.now (nn * 256) 256 := ⟨_, rfl⟩
        have HB0 := Aside0.mk hb0
        have OK1 := Aside0.mk (J_ok (JO_J (LG_d HJ.out)))
        have BL0 := Aside0.mk (show b0.length = 256 by rw [hb0]; exact cut8_len (by rw [OK1.out.now]; have := NNL.out; omega))
        obtain ⟨ps, hps⟩ : ∃ ps, ps = (cs.drop d).map encC := ⟨_, rfl⟩
        have PSL := Aside0.mk (show ps.length = n by rw [hps, List.length_map, List.length_drop]; have := HD.out; omega)
        have PSD := Aside0.mk hps
        have PS64 := Aside0.mk (show ∀ y ∈ ps, y.length = 64 from fun y hy => by
          rw [hps] at hy
          obtain ⟨z, hz, rfl⟩ := List.mem_map.1 hy
          exact CellLaws.enc_length (HM.out z (List.mem_of_mem_drop hz)).may.2.2.2)
        clear ho hb0 hps
        go_upto_region 7 with (go_at_call 16; refine (JO_ReadIn (LG_d HJ.out) HO.out nn NNL.out (nn : Int) rfl).mono ?_; rintro e w2 ⟨g, rfl, hg, hb, hB⟩; have G2 := Aside0.mk hb; have B2 := Aside0.mk hB; have GS := Aside0.mk hg; clear hg hb hB)
        rw [← HB0.out] at G2
        have NOG := Aside0.mk (fun (e : O g) => (by have h1 := JO_O (LG_d HJ.out) e; have h2 := GS.out; omega : False))
        have LB := Aside0.mk (Nat.le_trans (LG_below HJ.out).size GS.out)
        have JG := Aside0.mk (show JO w0 w2 q s1 (fun k => O k ∨ k = g) from JO_mono (JO_deep (LG_d HJ.out) B2.out) (fun k hk => by rcases hk with hk | hk; exact .inl hk; exact .inr (by rw [hk]; exact ⟨GS.out, blk_lt G2.out⟩)))
        have HJ2 := Aside0.mk (LG_step HJ.out B2.out)
        have HK2 := Aside0.mk (kO_trans HK.out (kO_below (LG_d HJ.out) B2.out))
        have HV2 := Aside0.mk (Kd.V_step HV.out (fun k hk hl => B2.out.block k hl))
        have G3 := Aside0.mk (show w2.heap[g]? = some (.cells (by8 (sp8 b0 (i * 64) (ps.take 0).flatten)).toArray 96 (0, 0)) by rw [show sp8 b0 (i * 64) (ps.take 0).flatten = b0 by simp [sp8]]; exact G2.out)
        clear HJ HK HV G2 y0 y1 wq wn wx
        go_upto_block 2 with (fail)
        go_cut [1, 5, 9, 10, 11] from 17 to 76 (fun v1 v5 v9 v10 v11 wc => ∃ (j : Nat) (A : Option Addr) (n2 c2 x2 : Nat), v1 = .slice A n2 c2 ∧ v5 = .int .i64 (x2 : Int) ∧ Aside0 (j = min (4 - i) ps.length ∧ x2 = en + d + j ∧ d + j + n2 = cs.length) ∧ Aside0 (Kd.V k106 106 wc 0 OC (.slice A n2 c2) (cs.drop (d + j))) ∧ Aside0 (LG w0 p q l s1 O wc) ∧ Aside0 (kO O w wc) ∧ Aside0 (JO w0 wc q s1 (fun k => O k ∨ k = g)) ∧ Aside0 (wc.heap[g]? = some (.cells (by8 (sp8 b0 (i * 64) (ps.take j).flatten)).toArray 96 (0, 0))))
        case first =>
          go_wp2
          go_loopw [1, 5, 9, 10, 11] (fun v1 v5 v9 v10 v11 wc => ∃ (j : Nat) (A : Option Addr) (n2 c2 x2 i9 : Nat), v1 = .slice A n2 c2 ∧ v5 = .int .i64 (x2 : Int) ∧ v9 = .int .i64 (i9 : Int) ∧ Aside0 (i9 = i + j ∧ i9 ≤ 4 ∧ x2 = en + d + j ∧ d + j + n2 = cs.length) ∧ Aside0 (Kd.V k106 106 wc 0 OC (.slice A n2 c2) (cs.drop (d + j))) ∧ Aside0 (LG w0 p q l s1 O wc) ∧ Aside0 (kO O w wc) ∧ Aside0 (JO w0 wc q s1 (fun k => O k ∨ k = g)) ∧ Aside0 (wc.heap[g]? = some (.cells (by8 (sp8 b0 (i * 64) (ps.take j).flatten)).toArray 96 (0, 0)))) (fun v1 v5 v9 v10 v11 _ => 4 - (intOf v9).toNat)
          case atStart => exact ⟨0, A, n, c, x, i, rfl, rfl, rfl, ⟨by omega, by have := I4.out; omega, by have := HD.out; omega, by have := HD.out; omega⟩, HV2, HJ2, HK2, JG, G3⟩
          case round =>
            clear HV2 HJ2 HK2 JG G3
            obtain ⟨j, A, n2, c2, x2, i9, rfl, rfl, rfl, HX, HV, HJ, HK, JG, G3⟩ := hrel
            have i4b : i9 ≤ 4 := HX.out.2.1
            by_cases c1 : i9 < 4
            · have c1a : (i9 : Int) < 4 := by omega
              have c1b : decide ((i9 : Int) < 4) = true := decide_eq_true c1a
              have c1c : decide (i9 < 4) = true := decide_eq_true c1
              by_cases c2' : 0 < n2
              · have d1 : (n2 : Int) > 0 := by omega
                have d1b : decide ((n2 : Int) > 0) = true := decide_eq_true d1
                have d1c : decide (0 < n2) = true := decide_eq_true c2'
                have hh := Kd.V_reads' HV.out
                have cc1 := hh.2.1
                have hC := hh.2.2
                clear hh
                have NL2 := Aside0.mk (show n2 = (cs.drop (d + j)).length by rw [List.length_drop]; have := HX.out; omega)
                obtain ⟨ad, A4, m4, c4, y, rfl, hy, z0, z1, z2, z3, z4, hm4, hc4, hC4⟩ := at106 NL2.out (by rw [NL2.out]; exact hC) c2'
                have hy' : cs[d + j]? = some y := by rw [List.getElem?_drop, Nat.add_zero] at hy; exact hy
                have YM := Aside0.mk (HM.out y (List.mem_of_getElem? hy'))
                have M4 := Aside0.mk hm4
                have C4 := Aside0.mk hc4
                have CC4 := Aside0.mk hC4
                have JP := Aside0.mk (show j < ps.length by have h1 := HX.out; have h2 := PSL.out; have h3 := HD.out; omega)
                have PJ := Aside0.mk (show (ps.take (j + 1)).flatten = (ps.take j).flatten ++ encC y from by
                  rw [flat_take JP.out]
                  congr 1
                  have h1 : ps[j]? = some (encC y) := by rw [PSD.out, List.getElem?_map, List.getElem?_drop, hy']; rfl
                  rw [List.getElem?_eq_getElem JP.out] at h1
                  exact Option.some.inj h1)
                have FL := Aside0.mk (show (ps.take j).flatten.length = j * 64 by rw [flat_len64 (fun z hz => PS64.out z (List.mem_of_mem_take hz)), List.length_take]; have := JP.out; congr 1; omega)
                have EL := Aside0.mk (show (encC y).length = 64 from CellLaws.enc_length YM.out.may.2.2.2)
                obtain ⟨F, hF⟩ : ∃ F, F = (ps.take j).flatten := ⟨_, rfl⟩
                rw [← hF] at PJ FL G3
                obtain ⟨buf, hbuf⟩ : ∃ buf, buf = sp8 b0 (i * 64) F := ⟨_, rfl⟩
                have BL := Aside0.mk (show buf.length = 256 by rw [hbuf, sp8_len (by rw [FL.out, BL0.out]; have := HX.out; omega)]; exact BL0.out)
                have BA := Aside0.mk (show sp8 buf (i9 * 64) (encC y) = sp8 b0 (i * 64) (F ++ encC y) by
                  rw [hbuf, show i9 * 64 = i * 64 + F.length by rw [FL.out]; have := HX.out; omega]
                  exact sp8_app (by rw [FL.out, EL.out, BL0.out]; have := HX.out; omega))
                rw [← hbuf] at G3
                obtain ⟨E, hE⟩ : ∃ E, E = encC y := ⟨_, rfl⟩
                rw [← hE] at PJ EL BA
                have HE := Aside0.mk hE
                have x2b : x2 ≤ 16384 := by have h1 := HX.out; have h2 := HBD.out; have h3 := NB.out; omega
                have w64a : wrap64 ((i9 : Int) * 64) = (i9 : Int) * 64 := by unfold wrap64; omega
                have VD := Aside0.mk (show ∀ W, Kd.V k106 106 W 0 OC (.slice (some ad) n2 c2) (cs.drop (d + j)) → Kd.V k106 106 W 0 OC (.slice (if c2 = 1 then some ad else some ⟨ad.block, ad.off + 5, none⟩) (n2 - 1) (c2 - 1)) (cs.drop (d + (j + 1))) from fun W hv => by
                  have h1 := (Kd.V_at hv).2.2
                  have h2 := (Kd.V_at hv).2.1
                  have h3 := Kd.F_cut (m := 1) (c := c2) h1 (by rw [← NL2.out]; exact c2') (by rw [← NL2.out]; exact h2)
                  rw [List.drop_drop] at h3
                  have hl : (cs.drop (d + (j + 1))).length = n2 - 1 := by rw [List.length_drop]; have := HX.out; omega
                  have h4 : cs.drop (d + j + 1) = cs.drop (d + (j + 1)) := by rw [Nat.add_assoc]
                  rw [h4] at h3
                  rw [← hl]
                  exact Kd.V_mk (by rw [hl]; omega) h3)
                have N21 := Aside0.mk (show 0 < n2 from c2')
                have I94 := Aside0.mk c1
                clear hC hy hy' hm4 hc4 hC4 hF hbuf hE c1 c2' cc1
                go_upto_region 11 with (go_at_call 83; refine (enc_at M4.out C4.out YM.out CC4.out).mono ?_; rintro e w3 ⟨A5, c5, rfl, h5, hC, hb⟩; have L5 := Aside0.mk h5; have C5 := Aside0.mk hC; have B5 := Aside0.mk hb; clear h5 hC hb z0 z1 z2 z3 z4)
                rw [← HE.out] at C5
                have G4 := Aside0.mk (blk_below G3.out B5.out)
                have JG4 := Aside0.mk (JO_step JG.out B5.out)
                have HJ4 := Aside0.mk (LG_step HJ.out B5.out)
                have HK4 := Aside0.mk (kO_trans HK.out (kO_below (LG_d HJ.out) B5.out))
                have HV4 := Aside0.mk (Kd.V_step HV.out (fun k hk hl => B5.out.block k hl))
                clear HJ HK HV G3 JG
                go_wp2_with ((with_reducible refine gate_dst (N := 62) rfl ?_); refine wpl_copy_at rfl (.tmp 60) (.tmp 61) 27 27 rfl 5 Try.underlying27 info5s _ _ (256 - i9 * 64) _ _ _ rfl rfl g (i9 * 64) (by8 buf) 96 G4.out (by8 E) ?hn ?hpos ?hfit (by8_one _) ?_; (case hn => rw [by8_len, EL.out]; have := I94.out; exact (Nat.min_eq_left (by omega)).symm); (case hpos => intro h0; obtain ⟨ad5, ea5, hc5⟩ := C_cells C5.out (by decide); exact ⟨rfl, ad5, ea5, hc5⟩); (case hfit => rw [by8_len, by8_len, EL.out, BL.out]; have := I94.out; omega); intro w4 hb4 hg4; have hs4 := hb4.out; rw [← by8_sp, BA.out, ← PJ.out] at hs4; have G5 := Aside0.mk hs4; have GR := Aside0.mk hg4.out; clear hs4 hb4 hg4)
                have JG5 := Aside0.mk (JO_grown JG4.out (.inr rfl) LB.out GR.out)
                have K5 := Aside0.mk (show kO O w3 w4 from ⟨GR.out.size, fun k hk => GR.out.block k (JO_O (LG_d HJ4.out) hk) (fun e => by injection e with e; exact NOG.out (by rw [← e]; exact hk))⟩)
                have HJ5 := Aside0.mk (LG_act HJ4.out (JO_mono JG5.out (fun k hk => .inl hk)) K5.out)
                have HV5 := Aside0.mk (VD.out _ (Kd.V_step HV4.out (fun k hk hl => K5.out.2 k (HOC.out k hk).1)))
                go_roundw
                case rel => exact ⟨j + 1, _, n2 - 1, c2 - 1, x2 + 1, i9 + 1, rfl, by go_num, by go_num, ⟨by have := HX.out; omega, by have := I94.out; omega, by have := HX.out; omega, by have := HX.out; have := N21.out; omega⟩, HV5, HJ5, ⟨kO_trans HK4.out K5.out⟩, JG5, G5⟩
                case measure => have := I94.out; simp [intOf]; omega
              · have d1 : ¬ (n2 : Int) > 0 := by omega
                have d1b : decide ((n2 : Int) > 0) = false := decide_eq_false d1
                have d1c : decide (0 < n2) = false := decide_eq_false c2'
                have JJ := Aside0.mk (show j = min (4 - i) ps.length ∧ x2 = en + d + j ∧ d + j + n2 = cs.length by have h1 := HX.out; have h2 := PSL.out; have h3 := HD.out; omega)
                go_wp2
                go_meet
                case rel => exact ⟨j, A, n2, c2, x2, rfl, rfl, JJ, HV, HJ, HK, JG, G3⟩
            · have c1a : ¬ (i9 : Int) < 4 := by omega
              have c1b : decide ((i9 : Int) < 4) = false := decide_eq_false c1a
              have c1c : decide (i9 < 4) = false := decide_eq_false c1
              have JJ := Aside0.mk (show j = min (4 - i) ps.length ∧ x2 = en + d + j ∧ d + j + n2 = cs.length by have h1 := HX.out; have h2 := PSL.out; have h3 := HD.out; omega)
              go_wp2
              go_meet
              case rel => exact ⟨j, A, n2, c2, x2, rfl, rfl, JJ, HV, HJ, HK, JG, G3⟩
        case rest =>
          obtain ⟨j, A, n2, c2, x2, rfl, rfl, HX, HV, HJ, HK, JG, G3⟩ := hcut
          have C6 := Aside0.mk (fun (W : World) (hk : kO (fun k => O k ∨ k = g) wc W) => (by
            have hb := (hk.2 g (.inr rfl)).trans G3.out
            have hlen : (sp8 b0 (i * 64) (ps.take j).flatten).length = 256 := by
              rw [sp8_len (by rw [flat_len64 (fun z hz => PS64.out z (List.mem_of_mem_take hz)), List.length_take, BL0.out]; have h1 := HX.out; have h2 := I4.out; omega)]
              exact BL0.out
            have h1 := C_blk (o := 0) (m := 256) hb (by rw [hlen]; omega) (by decide)
            have h2 : cut8 (sp8 b0 (i * 64) (ps.take j).flatten) 0 256 = sp8 b0 (i * 64) (ps.take j).flatten := by unfold cut8; rw [List.drop_zero, List.take_of_length_le (by omega)]
            rw [h2] at h1
            exact h1 : Kd.C (Kd.int .u8) W (some ⟨g, 0, none⟩) 256 (sp8 b0 (i * 64) (ps.take j).flatten)))
          have BLJ := Aside0.mk (show (sp8 b0 (i * 64) (ps.take j).flatten).length = 256 by
            rw [sp8_len (by rw [flat_len64 (fun z hz => PS64.out z (List.mem_of_mem_take hz)), List.length_take, BL0.out]; have h1 := HX.out; have h2 := I4.out; omega)]
            exact BL0.out)
          have TK := Aside0.mk (show (ps.take j).flatten = (ps.take (4 - i)).flatten by
            have h1 := HX.out.1
            rcases Nat.le_total (4 - i) ps.length with h2 | h2
            · rw [h1, Nat.min_eq_left h2]
            · rw [h1, Nat.min_eq_right h2, List.take_length, List.take_of_length_le h2])
          have XW := Aside0.mk (wrx_small s1 ((fi + (en + d) / 4 : Nat) : Int) (sp8 b0 (i * 64) (ps.take j).flatten))
          obtain ⟨⟨s2, e2⟩, hw⟩ : ∃ r, r = wrx s1 (nn : Int) (sp8 b0 (i * 64) (ps.take j).flatten) := ⟨_, rfl⟩
          have HW := Aside0.mk hw.symm
          have XD := Aside0.mk (show x = en + d from HD.out.1)
          have FN := Aside0.mk (show ∃ f, cs.length - d < f + 1 ∧ (if e2 ≠ 0 then (s2, e2) else layx fi f s2 (x + min (4 - i) ps.length) (ps.drop (4 - i))) = (s', e') by
            obtain ⟨f, h1, h2⟩ := FIN.out
            obtain ⟨f, rfl⟩ : ∃ f', f = f' + 1 := ⟨f - 1, by omega⟩
            refine ⟨f, h1, ?_⟩
            rw [layx, if_neg (by rw [List.length_map, List.length_drop]; have h3 := HD.out; have h4 := DN.out; omega), if_neg (by rw [HO.out]; decide), ← PSD.out, ← XD.out, ← HNN.out, ← HI.out, ← HB0.out, ← TK.out, ← hw] at h2
            dsimp only at h2
            exact h2)
          rw [← XD.out, ← HNN.out, ← hw] at XW
          have wl1 : ∀ e : Int, e = e2 → True := fun _ _ => trivial
          clear hw FIN wl1
          obtain ⟨y0', _⟩ : wc.cell? ⟨p, 0, none⟩ = some (.pointer (some ⟨q, 0, none⟩)) ∧ True := by
            obtain ⟨A, n, c, OV, h⟩ := HJ.out
            exact ⟨(LX_cells h).1, trivial⟩
          go_upto_region 15 with (go_at_call 22; refine (JO_Write JG.out (by have h1 := HP.out.2; have h2 := HPD.out; have h3 := HD.out; omega) (nn : Int) (some ⟨g, 0, none⟩) 256 _ BLJ.out (Nat.le_refl _) C6.out s2 e2 HW.out).mono ?_; rintro e w6 ⟨rfl, hj, hk⟩; have J6 := Aside0.mk hj; have K6 := Aside0.mk hk; clear hj hk)
          have HJ6 := Aside0.mk (LG_act HJ.out (JO_mono J6.out (fun k hk => .inl hk)) (kO_mono K6.out (fun k hk => .inl hk)))
          have HK6 := Aside0.mk (kO_trans HK.out (kO_mono K6.out (fun k hk => .inl hk)))
          have HV6 := Aside0.mk (Kd.V_step HV.out (fun k hk hl => K6.out.2 k (.inl (HOC.out k hk).1)))
          clear y0'
          by_cases ce : e2 = 0
          · subst ce
            have FN2 := Aside0.mk (show ∃ f, cs.length - (d + j) < f ∧ layx fi f s2 (en + (d + j)) ((cs.drop (d + j)).map encC) = (s', e') by
              obtain ⟨f, h1, h2⟩ := FN.out
              rw [if_neg (by simp)] at h2
              have h3 := HX.out
              have h4 := PSL.out
              have h5 := HD.out
              have h6 := DN.out
              have h7 := I4.out
              refine ⟨f, by omega, ?_⟩
              have e1 : x + min (4 - i) ps.length = en + (d + j) := by omega
              have e2 : ps.drop (4 - i) = (cs.drop (d + j)).map encC := by
                rw [PSD.out, ← List.map_drop, List.drop_drop]
                congr 1
                rcases Nat.le_total (4 - i) ps.length with h8 | h8
                · congr 1; omega
                · rw [List.drop_of_length_le (by omega), List.drop_of_length_le (by omega)]
              rw [← e1, ← e2]
              exact h2)
            go_wp2
            go_roundw
            case rel => exact ⟨d + j, s2, A, n2, c2, x2, rfl, rfl, ⟨by have := HX.out; omega, by have := HX.out; omega⟩, HV6, HJ6, HK6, FN2, ⟨by rw [XW.out.1]; exact HP.out.1, by have h1 := XW.out.2; have h2 := HP.out.2; have h3 := HX.out; have h4 := PSL.out; have h5 := DN.out; have h6 := I4.out; omega⟩⟩
            case measure => have h1 := HX.out; have h2 := HD.out; have h3 := PSL.out; have h4 := DN.out; have h5 := I4.out; show n2 < n; omega
          · have ceb : (e2 != 0) = true := by simp [ce]
            have FN2 := Aside0.mk (show s2 = s' ∧ e2 = e' by
              obtain ⟨f, h1, h2⟩ := FN.out
              rw [if_pos ce] at h2
              injection h2 with h3 h4
              exact ⟨h3, h4⟩)
            clear ce
            go_wp2
            go_ret
            exact ⟨by rw [FN2.out.2]; rfl, by rw [← FN2.out.1]; exact HJ6.out, HK6.out⟩
    · have dn1 : ¬ (n : Int) > 0 := by omega
      have dnb : decide ((n : Int) > 0) = false := decide_eq_false dn1
      have dnc : decide (0 < n) = false := decide_eq_false dn
      have N0 := Aside0.mk (show n = 0 by omega)
      clear dn
      go_wp2
      go_ret
      obtain ⟨f, h1, h2⟩ := FIN.out
      obtain ⟨f, rfl⟩ : ∃ f', f = f' + 1 := ⟨f - 1, by omega⟩
      rw [layx, if_pos (by rw [List.length_map, List.length_drop]; have h3 := HD.out; have h4 := N0.out; omega)] at h2
      injection h2 with e1 e2
      subst e1 e2
      exact ⟨rfl, HJ.out, HK.out⟩
end Go.Proofs.Ytepipgneefcoiaa.D
