/- The functions of the program that these laws reach, each as a plain Lean function, and the proof that the machine's call comes to it; no condition beyond those that each theorem names. Made by wip/xprint.py. -/
import Derived.Test.YtepipgneefcoiaaTW13
import Derived.Test.YtepipgneefcoiaaTW15m
import Derived.Test.YtepipgneefcoiaaDf32
import Derived.Test.YtepipgneefcoiaaDf44
import Derived.Test.YtepipgneefcoiaaDx0
namespace Go.Proofs.Ytepipgneefcoiaa.D
open Go.RowKit Go.Proofs.YtepipgneefcoiaaW.PrintWords Go.Proofs.YtepipgneefcoiaaW.PrintLast Go.Proofs.YtepipgneefcoiaaW.PrintMore
attribute [local go_sem] max2_int min2_int max_two min_two max_three min_three max_four min_four
set_option linter.unusedVariables false
set_option linter.unusedSimpArgs false
/- WalFull: a log that is filled. -/
structure Fl (n j : Nat) (l : Wl) (s : Dk) : Prop where
  sx : Sx s
  nb : s.nb = n
  of : s.of = false
  fu : s.fu = false
  pd : s.pend.length ≤ 800 * j
  fi : l.fi = 0
  si : l.si = n
  en : l.en ≤ n * 4
  rs : l.rs.length ≤ j
  br : l.br = false
theorem Fl_room {n j : Nat} {l : Wl} {s : Dk} (h : Fl n j l s) (hn : n ≤ 8) : rmx l = (((n * 4 - l.en) * 39 : Nat) : Int) := by
  have h1 := h.en
  unfold rmx mn
  rw [h.br, if_neg (by simp), h.si]
  split <;> omega
theorem encs_len {b : List Int} (hb : CrcK.Bytes b) (h6 : b.length ≤ 6000) (ep li : Int) : ∀ x ∈ (CellLaws.cutn b ep li (CellLaws.many b.length : Int) (CellLaws.many b.length)).map encC, x.length = 64 := by
  intro x hx
  obtain ⟨c, hc, rfl⟩ := List.mem_map.1 hx
  exact encC_len (cut_may hb h6 ep li c hc)
theorem Fl_ok {n j : Nat} {l : Wl} {s : Dk} (h : Fl n j l s) (hn : n ≤ 8) {b : List Int} (hb : CrcK.Bytes b) (h0 : b.length ≠ 0) (hr : b.length ≤ (n * 4 - l.en) * 39) : ∃ l' s', apx l s b = (l', s', 0) ∧ Fl n (j + 1) l' s' ∧ l.en < l'.en := by
  have hm := Fl_room h hn
  have h6 : b.length ≤ 6000 := by omega
  have hr2 : ¬ rmx l < (b.length : Int) := by rw [hm]; omega
  have he := h.en
  obtain ⟨g1, g2⟩ := room_many hr2 h6 (by rw [h.si]; exact he)
  have hl : ((CellLaws.cutn b l.ep l.li (CellLaws.many b.length : Int) (CellLaws.many b.length)).map encC).length = CellLaws.many b.length := by rw [List.length_map, CellLaws.cutn_length]
  have hp : 0 < CellLaws.many b.length := by unfold CellLaws.many; omega
  rw [h.si] at g1
  have LE := encs_len hb h6 l.ep l.li
  obtain ⟨ps, hps⟩ : ∃ ps, ps = (CellLaws.cutn b l.ep l.li (CellLaws.many b.length : Int) (CellLaws.many b.length)).map encC := ⟨_, rfl⟩
  rw [← hps] at hl LE
  obtain ⟨⟨s', e⟩, hx⟩ : ∃ q, layx l.fi (CellLaws.many b.length + 1) s l.en ps = q := ⟨_, rfl⟩
  obtain ⟨q1, q2, q3, q4, _⟩ := layx_sec _ s l.en ps (by omega) LE h.sx (by rw [h.fi, h.nb, hl]; omega) s' e hx
  obtain ⟨e0, o1, o2⟩ := q4 h.of h.fu
  refine ⟨{l with en := l.en + CellLaws.many b.length, rs := l.rs ++ [b]}, s', ?_, ⟨q1, q2.trans h.nb, o1, o2, ?_, h.fi, h.si, g1, ?_, h.br⟩, ?_⟩
  · unfold apx
    rw [if_neg h0, if_neg (by omega), h.br, if_neg (by simp), if_neg hr2, ← hps, hx, e0, if_neg (by simp)]
  · have := h.pd
    rw [hl] at q3
    omega
  · show (l.rs ++ [b]).length ≤ j + 1
    rw [List.length_append]
    have := h.rs
    simp
    omega
  · show l.en < l.en + CellLaws.many b.length
    omega
theorem Fl_no {n j : Nat} {l : Wl} {s : Dk} (h : Fl n j l s) (hn : n ≤ 8) {b : List Int} (h0 : b.length ≠ 0) (hr : ¬ b.length ≤ (n * 4 - l.en) * 39) : apx l s b = (l, s, if 6000 < b.length then 4 else 3) := by
  have hm := Fl_room h hn
  unfold apx
  rw [if_neg h0]
  by_cases c : 6000 < b.length
  · rw [if_pos c, if_pos c]
  · rw [if_neg c, if_neg c, h.br, if_neg (by simp), if_pos (by rw [hm]; omega)]
theorem Fl_mono {n j k : Nat} {l : Wl} {s : Dk} (h : Fl n j l s) (hk : j ≤ k) : Fl n k l s :=
  ⟨h.sx, h.nb, h.of, h.fu, by have := h.pd; omega, h.fi, h.si, h.en, by have := h.rs; omega, h.br⟩
theorem new_Sx {n : Nat} (h0 : 1 ≤ n) (h1 : n ≤ 4096) : Sx (new8 n) := ⟨new_Nw n (by omega) h1, fun y hy => by unfold new8 at hy; cases hy⟩
theorem new_Fl {n : Nat} (h0 : 1 ≤ n) (h1 : n ≤ 8) : Fl n 0 ⟨0, n, 1, 1, 0, [], false, fun _ => False⟩ (new8 n) :=
  ⟨new_Sx h0 (by omega), rfl, rfl, rfl, Nat.zero_le _, rfl, rfl, Nat.zero_le _, Nat.zero_le _, rfl⟩
theorem pick17 (a0 m : Int) (h0 : 0 < m) (h1 : m ≤ 100) : ∃ r : Nat, marginalialaw17_pick.f a0 m = some (r : Int) ∧ (r : Int) < m := by
  unfold marginalialaw17_pick.f
  rw [if_neg (by omega)]
  have h1 : -m < Int.tmod a0 m ∧ Int.tmod a0 m < m := by
    have := Int.tmod_lt_of_pos a0 h0
    have h2 := Int.neg_tmod a0 m
    have := Int.tmod_lt_of_pos (-a0) h0
    omega
  have e : wrap64 (Int.tmod a0 m + m) = Int.tmod a0 m + m := IntWalk.wrap64_in _ (by omega)
  rw [e]
  have h3 : 0 ≤ Int.tmod (Int.tmod a0 m + m) m := Int.tmod_nonneg _ (by omega)
  exact ⟨(Int.tmod (Int.tmod a0 m + m) m).toNat, by rw [Int.toNat_of_nonneg h3], by rw [Int.toNat_of_nonneg h3]; exact Int.tmod_lt_of_pos _ h0⟩
theorem small17 {x : S79} (c : x.f2.length ≤ 600 ∧ x.f3.length ≤ 400) : marginalialaw17_Act_small.f x.f0 x.f1 x.f2 x.f3 = some true := by
  unfold marginalialaw17_Act_small.f
  rw [if_pos (by omega)]
  have : (x.f3.length : Int) ≤ 400 := by omega
  simp [this]
theorem small17n {x : S79} (c : ¬ (x.f2.length ≤ 600 ∧ x.f3.length ≤ 400)) : marginalialaw17_Act_small.f x.f0 x.f1 x.f2 x.f3 = some false := by
  unfold marginalialaw17_Act_small.f
  split
  · have : ¬ (x.f3.length : Int) ≤ 400 := by omega
    simp [this]
  · rfl
/- An act of a script, wherever the world has come to. -/
theorem act79 {w0 : World} {A : Option Addr} {l : List S79} (h : Kd.C k79 w0 A l.length l) (j : Nat) (hj : j < l.length) : ∃ (ad : Addr) (A2 : Option Addr) (c2 : Nat) (A3 : Option Addr) (c3 : Nat) (x : S79), A = some ad ∧ x = l[j] ∧ (∀ w, Below w0.heap.size w0 w → w.cell? (ad.add (j * 4)) = some (.int .i64 x.f0) ∧ w.cell? ⟨(ad.add (j * 4)).block, (ad.add (j * 4)).off + 1, none⟩ = some (.int .i64 x.f1) ∧ w.cell? ⟨(ad.add (j * 4)).block, (ad.add (j * 4)).off + 2, none⟩ = some (.slice A2 x.f2.length c2) ∧ w.cell? ⟨(ad.add (j * 4)).block, (ad.add (j * 4)).off + 3, none⟩ = some (.slice A3 x.f3.length c3)) ∧ x.f2.length ≤ c2 ∧ Kd.C (Kd.int .u8) w0 A2 x.f2.length x.f2 ∧ x.f3.length ≤ c3 ∧ Kd.C Kd.bool w0 A3 x.f3.length x.f3 := by
  obtain ⟨ad, A2, c2, A3, c3, ea, y0, y1, y2, y3, l2, C2, l3, C3⟩ := at_T79 h (j : Int) (by omega) (by omega)
  have e : rd_T79 l (j : Int) = l[j] := by
    unfold rd_T79
    rw [Int.toNat_natCast, List.getD_eq_getElem?_getD, List.getElem?_eq_getElem hj]; rfl
  simp only [Int.toNat_natCast] at y0 y1 y2 y3
  rw [e] at y0 y1 y2 y3 l2 C2 l3 C3
  exact ⟨ad, A2, c2, A3, c3, _, ea, rfl, fun w hb => ⟨pw_cell_below hb y0, pw_cell_below hb y1, pw_cell_below hb y2, pw_cell_below hb y3⟩, l2, C2, l3, C3⟩
/- A new row of noughts is appended. -/
theorem mk5_is (n : Nat) : madeCells (Value.int .u8 0).cells n = (by8 (List.replicate n 0)).toArray := by
  have hz : ∀ k, (Value.int .u8 0).cells[k % (Value.int .u8 0).cells.size]! = (.int .u8 0 : Value) := by
    intro k
    show (#[Value.int .u8 0] : Array Value)[k % 1]! = _
    rw [Nat.mod_one]; rfl
  unfold madeCells
  apply Array.toList_inj.1
  simp only [hz]
  simp [by8, List.map_const']
theorem run_mkn (w : World) (n : Nat) (h : n ≤ 100000) : Sem.run Try.prog (Instr.makeSlice 27 (.int .i64 (n : Int)) (.int .i64 (n : Int))) w = .ok (.slice (some ⟨w.heap.size, 0, none⟩) n n) (w.alloc (.cells (by8 (List.replicate n 0)).toArray 5 (0, 0))) := by
  obtain ⟨i, hi, hzz⟩ := Option.map_eq_some_iff.1 (show (Try.prog.info? 5).map (fun i => (i.zero, i.size, i.bytes)) = some (some (.int .u8 0), 1, 1) by kernel_rfl)
  simp only [Prod.mk.injEq] at hzz
  obtain ⟨hz, hs, hb⟩ := hzz
  have hr := run_make (P := Try.prog) w 27 5 i (.int .u8 0) Try.underlying27 hi hz .i64 .i64 n n (by omega) (Int.le_refl _) (by rw [hb]; omega) (by omega)
  have e : (n : Int).toNat * i.size = n := by rw [hs, Int.toNat_natCast, Nat.mul_one]
  rw [e, mk5_is, Int.toNat_natCast] at hr
  exact hr
theorem Z_Append {w0 w : World} {p q : Nat} {l : Wl} {s : Dk} {O : Nat → Prop} (h : LG w0 p q l s O w) (hs : l.si ≤ 4096) (he : l.en ≤ l.si * 4) (hfs : l.fi + l.si ≤ s.nb) (hrs : l.rs.length ≤ 16384) (hpd : s.pend.length + 800 ≤ 90000) (n : Nat) (hn : n ≤ 100000) (Z : Array Value) (hZ : Z = (by8 (List.replicate n 0)).toArray) (l' : Wl) (s' : Dk) (e' : Int) (hx : apx l s (List.replicate n 0) = (l', s', e')) :
    Calls Try.prog 45 #[.pointer (some ⟨p, 0, none⟩), .slice (some ⟨w.heap.size, 0, none⟩) n n] (w.alloc (.cells Z 5 (0, 0))) fun e w' => e = .returned (.int .i64 e') ∧ ∃ O', LG w0 p q l' s' O' w' := by
  subst hZ
  obtain ⟨A, m, c, OV, hX⟩ := h
  have hlt := JO_O hX.d hX.op
  have hd := LX_deep hX (below_alloc (Below.refl _ _) (.cells (by8 (List.replicate n 0)).toArray 5 (0, 0)))
  have hb := blk_new w (.cells (by8 (List.replicate n 0)).toArray 5 (0, 0))
  refine (L_Append ⟨A, m, c, OV, hd⟩ hs he hfs hrs hpd (some ⟨w.heap.size, 0, none⟩) n n (List.replicate n 0) (by simp) (Nat.le_refl _) (fun W _ hk => ?_) (zeros_bytes n) _ _ _ hx).mono ?_
  · have e := (hk.2 w.heap.size ⟨.inr ⟨Nat.le_refl _, by simp⟩, by omega⟩).trans hb
    have := C_blk (o := 0) (m := n) e (by simp) (by omega)
    have e2 : cut8 (List.replicate n (0 : Int)) 0 n = List.replicate n 0 := by unfold cut8; simp
    rw [e2] at this
    rw [List.length_replicate]
    exact this
  · rintro e w' ⟨rfl, ⟨O', ho, hG⟩, _⟩
    exact ⟨rfl, O', hG⟩
/- Nothing is appended. -/
theorem E_Append {w0 w : World} {p q : Nat} {l : Wl} {s : Dk} {O : Nat → Prop} (h : LG w0 p q l s O w) (hs : l.si ≤ 4096) (he : l.en ≤ l.si * 4) (hfs : l.fi + l.si ≤ s.nb) (hrs : l.rs.length ≤ 16384) (hpd : s.pend.length + 800 ≤ 90000) :
    Calls Try.prog 45 #[.pointer (some ⟨p, 0, none⟩), .slice none 0 0] w fun e w' => e = .returned (.int .i64 1) ∧ ∃ O', LG w0 p q l s O' w' := by
  refine (L_Append h hs he hfs hrs hpd none 0 0 [] rfl (Nat.le_refl _) (fun W _ _ => Kd.C_nil _ _) (by intro x hx; cases hx) l s 1 (by unfold apx; rw [if_pos (show ([] : List Int).length = 0 from rfl)])).mono ?_
  rintro e w' ⟨rfl, ⟨O', ho, hG⟩, _⟩
  exact ⟨rfl, O', hG⟩
theorem F_Append {w0 w : World} {p q n j : Nat} {l : Wl} {s : Dk} {O : Nat → Prop} (h : LG w0 p q l s O w) (hF : Fl n j l s) (hn : n ≤ 8) (hj : j ≤ 42) (Ab : Option Addr) (cb : Nat) (b : List Int) (hmb : b.length ≤ cb) (hC : Kd.C (Kd.int .u8) w0 Ab b.length b) (hby : CrcK.Bytes b) (l' : Wl) (s' : Dk) (e' : Int) (hx : apx l s b = (l', s', e')) :
    Calls Try.prog 45 #[.pointer (some ⟨p, 0, none⟩), .slice Ab b.length cb] w fun e w' => e = .returned (.int .i64 e') ∧ ∃ O', LG w0 p q l' s' O' w' := by
  refine (L_Append h (by rw [hF.si]; omega) (by rw [hF.si]; exact hF.en) (by rw [hF.fi, hF.si, hF.nb]; omega) (by have := hF.rs; omega) (by have := hF.pd; omega) Ab cb b.length b rfl hmb (fun W hW _ => Kd.C_below hC hW) hby l' s' e' hx).mono ?_
  rintro e w' ⟨rfl, ⟨O', ho, hG⟩, _⟩
  exact ⟨rfl, O', hG⟩
theorem F_Room {w0 w : World} {p q n j : Nat} {l : Wl} {s : Dk} {O : Nat → Prop} (h : LG w0 p q l s O w) (hF : Fl n j l s) (hn : n ≤ 8) (rm : Nat) (hr : rm = (n * 4 - l.en) * 39) :
    Calls Try.prog 40 #[.pointer (some ⟨p, 0, none⟩)] w fun e w' => e = .returned (.int .i64 (rm : Int)) ∧ LG w0 p q l s O w' := by
  refine (L_Room h (by rw [hF.si]; omega) (by rw [hF.si]; exact hF.en) (rm : Int) (by rw [Fl_room hF hn, hr])).mono ?_
  rintro e w' ⟨rfl, hb⟩
  exact ⟨rfl, LG_step h hb⟩
set_option maxRecDepth 20000 in
set_option maxHeartbeats 40000000 in
theorem law_WFull (a0 : Int) (A1 : Option Addr) (c1 : Nat) (l1 : List S79) (w : World) (hr1 : Kd.C k79 w A1 l1.length l1) (hc1 : l1.length ≤ c1) (hb : ∀ x ∈ l1, (∀ b ∈ x.f2, 0 ≤ b ∧ b < 256) ∧ (-9223372036854775808 ≤ x.f1 ∧ x.f1 ≤ 9223372036854775807)) : Calls Try.prog 10 #[.int .i64 a0, .slice A1 l1.length c1] w fun e w' => e = .returned (.bool true) ∧ Below w.heap.size w w' := by
  have HR1 := Aside0.mk hr1
  have HB := Aside0.mk hb
  have m1 := Kd.C_max hr1
  obtain ⟨r, hr, hr8⟩ := pick17 a0 8 (by omega) (by omega)
  have PK := Aside0.mk hr
  obtain ⟨n, hn⟩ : ∃ n : Nat, n = 1 + r := ⟨_, rfl⟩
  have e1 : wrap64 (1 + (r : Int)) = ((n : Nat) : Int) := by unfold wrap64; omega
  have N1 := Aside0.mk (show 1 ≤ n ∧ n ≤ 8 by omega)
  clear hr1 hc1 hb hr hr8 hn
  go_enter Try.func10, Try.ntmps10
  go_upto_region 4 with (first
    | (go_at_call 32; refine (marginalialaw17_pick.calls a0 8 _ _ PK.out).mono ?_; rintro e w1 ⟨rfl, hb⟩; have B1 := Aside0.mk hb; clear hb)
    | (go_at_call 14; refine (Z_New _ n N1.out.1 (by have := N1.out.2; omega) _ rfl).mono ?_; rintro e w2 ⟨q, rfl, hj⟩; have J2 := Aside0.mk hj; clear hj)
    | (go_at_call 35; refine (Z_Open J2.out 0 n N1.out.1 (by have := N1.out.2; omega) (by omega) _ _ 1 rfl rfl).mono ?_; rintro e w3 ⟨p, rfl, hg, hb⟩; have G3 := Aside0.mk hg; clear hg hb))
  have CR := Aside0.mk (Kd.C_below HR1.out (drawn_below B1.out))
  have F3 := Aside0.mk (new_Fl N1.out.1 N1.out.2)
  have B0 := Aside0.mk (drawn_below B1.out)
  clear HR1 B1 PK e1 J2
  go_wp2
  go_loopw [10, 11, 12] (fun v10 v11 v12 wr => ∃ (j : Nat) (l : Wl) (s : Dk) (O : Nat → Prop), v10 = .int .i64 (j : Int) ∧ j ≤ l1.length ∧ j ≤ 40 ∧ Aside0 (Fl n j l s) ∧ Aside0 (LG w1 p q l s O wr)) (fun v10 v11 v12 _ => l1.length - (intOf v10).toNat)
  case atStart => exact ⟨0, _, _, _, rfl, Nat.zero_le _, Nat.zero_le _, F3, G3⟩
  case round =>
    clear G3 F3
    obtain ⟨j, l, s, O, rfl, hj, hj2, HF, HG⟩ := hrel
    by_cases d0 : j < l1.length ∧ j < 40
    · obtain ⟨d1, d2⟩ := d0
      have d1b : decide (j < l1.length) = true := decide_eq_true d1
      have d2b : decide (j < 40) = true := decide_eq_true d2
      obtain ⟨ad, A2, cc2, A3, cc3, x, rfl, hxe, hy, l2, C2, l3, C3⟩ := act79 CR.out j d1
      have HY := Aside0.mk hy
      have L2 := Aside0.mk l2
      have C2 := Aside0.mk C2
      have L3 := Aside0.mk l3
      have C3 := Aside0.mk C3
      have BY := Aside0.mk (show CrcK.Bytes x.f2 from fun b hb => by have := (HB.out x (by rw [hxe]; exact List.getElem_mem d1)).1 b hb; omega)
      obtain ⟨y0, y1, y2, y3⟩ := hy _ (LG_below HG.out)
      clear hy l2 l3 hxe
      by_cases e1 : x.f2.length ≤ 600 ∧ x.f3.length ≤ 400
      · have EV := Aside0.mk (small17 e1)
        by_cases e2 : x.f2.length = 0
        · have e2b : ((x.f2.length : Int) == 0) = true := by rw [e2]; rfl
          clear e1 e2
          go_wp2_with (first
            | (go_at_call 44; refine (marginalialaw17_Act_small.calls _ _ _ _ _ _ _ _ true _ (Kd.C_below C2.out (LG_below HG.out)) L2.out (Kd.C_below C3.out (LG_below HG.out)) L3.out EV.out).mono ?_; rintro e w4 ⟨rfl, hb⟩; have G4 := Aside0.mk (LG_step HG.out hb); clear hb HG y0 y1 y2 y3))
          go_roundw
          case rel => exact ⟨j + 1, l, s, O, by go_num, by omega, by omega, ⟨Fl_mono HF.out (by omega)⟩, G4⟩
          case measure => simp [intOf]; omega
        · have e2b : ((x.f2.length : Int) == 0) = false := by simp; intro h; exact e2 (by rw [h]; rfl)
          have E2 := Aside0.mk e2
          obtain ⟨rm, hrm⟩ : ∃ rm, rm = (n * 4 - l.en) * 39 := ⟨_, rfl⟩
          have RM := Aside0.mk hrm
          by_cases e3 : x.f2.length ≤ rm
          · have e3b : decide (x.f2.length ≤ rm) = true := decide_eq_true e3
            obtain ⟨l', s', q1, q2, q3⟩ := Fl_ok HF.out N1.out.2 BY.out e2 (by rw [← hrm]; exact e3)
            have AP := Aside0.mk q1
            have F5 := Aside0.mk q2
            obtain ⟨rm', hrm'⟩ : ∃ rm', rm' = (n * 4 - l'.en) * 39 := ⟨_, rfl⟩
            have RM' := Aside0.mk hrm'
            have e4 : ¬ rm ≤ rm' := by have := q2.en; omega
            have e4b : decide (rm ≤ rm') = false := decide_eq_false e4
            clear e1 e2 hrm hrm' e3 q1 q2 q3 e4
            go_wp2_with (first
              | (go_at_call 44; refine (marginalialaw17_Act_small.calls _ _ _ _ _ _ _ _ true _ (Kd.C_below C2.out (LG_below HG.out)) L2.out (Kd.C_below C3.out (LG_below HG.out)) L3.out EV.out).mono ?_; rintro e w4 ⟨rfl, hb⟩; have G4 := Aside0.mk (LG_step HG.out hb); clear hb HG y0 y1 y2 y3)
              | (go_at_call 45; refine (F_Append G5.out HF.out N1.out.2 (by omega) _ _ _ L2.out C2.out BY.out l' s' 0 AP.out).mono ?_; rintro e w6 ⟨rfl, O6, hG⟩; have G6 := Aside0.mk hG; clear hG G5)
              | (go_at_call 40; refine (F_Room G4.out HF.out N1.out.2 rm RM.out).mono ?_; rintro e w5 ⟨rfl, hG⟩; have G5 := Aside0.mk hG; clear hG G4)
              | (go_at_call 40; refine (F_Room G6.out F5.out N1.out.2 rm' RM'.out).mono ?_; rintro e w7 ⟨rfl, hG⟩; have G7 := Aside0.mk hG; clear hG G6))
            go_roundw
            case rel => exact ⟨j + 1, l', s', O6, by go_num, by omega, by omega, F5, G7⟩
            case measure => simp [intOf]; omega
          · have e3b : decide (x.f2.length ≤ rm) = false := decide_eq_false e3
            have AP := Aside0.mk (Fl_no HF.out N1.out.2 e2 (by rw [← hrm]; exact e3))
            have E6 := Aside0.mk (show (if 6000 < x.f2.length then (4 : Int) else 3) = 3 from if_neg (by omega))
            rw [E6.out] at AP
            clear e1 e2 hrm e3
            go_wp2_with (first
              | (go_at_call 44; refine (marginalialaw17_Act_small.calls _ _ _ _ _ _ _ _ true _ (Kd.C_below C2.out (LG_below HG.out)) L2.out (Kd.C_below C3.out (LG_below HG.out)) L3.out EV.out).mono ?_; rintro e w4 ⟨rfl, hb⟩; have G4 := Aside0.mk (LG_step HG.out hb); clear hb HG y0 y1 y2 y3)
              | (go_at_call 45; refine (F_Append G5.out HF.out N1.out.2 (by omega) _ _ _ L2.out C2.out BY.out l s 3 AP.out).mono ?_; rintro e w6 ⟨rfl, O6, hG⟩; have G6 := Aside0.mk hG; clear hG G5)
              | (go_at_call 40; refine (F_Room G4.out HF.out N1.out.2 rm RM.out).mono ?_; rintro e w5 ⟨rfl, hG⟩; have G5 := Aside0.mk hG; clear hG G4))
            go_roundw
            case rel => exact ⟨j + 1, l, s, O6, by go_num, by omega, by omega, ⟨Fl_mono HF.out (by omega)⟩, G6⟩
            case measure => simp [intOf]; omega
      · have EV := Aside0.mk (small17n e1)
        clear e1
        go_wp2_with (first
          | (go_at_call 44; refine (marginalialaw17_Act_small.calls _ _ _ _ _ _ _ _ false _ (Kd.C_below C2.out (LG_below HG.out)) L2.out (Kd.C_below C3.out (LG_below HG.out)) L3.out EV.out).mono ?_; rintro e w4 ⟨rfl, hb⟩; have G4 := Aside0.mk (LG_step HG.out hb); clear hb HG y0 y1 y2 y3))
        go_roundw
        case rel => exact ⟨j + 1, l, s, O, by go_num, by omega, by omega, ⟨Fl_mono HF.out (by omega)⟩, G4⟩
        case measure => simp [intOf]; omega
    · have dd : (decide (j < l1.length) && decide (j < 40)) = false := by
        cases h1 : decide (j < l1.length) with
        | false => rfl
        | true => cases h2 : decide (j < 40) with
          | false => rfl
          | true => exact absurd ⟨of_decide_eq_true h1, of_decide_eq_true h2⟩ d0
      have FIN : ∀ W l s O', LG w1 p q l s O' W → Below w.heap.size w W := fun W l s O' h => below_step B0.out (LG_below h)
      have e2b : ∀ k : Nat, k ≠ 0 → ((k : Int) == 0) = false := fun k hk => by simp; omega
      obtain ⟨rm, hrm⟩ : ∃ rm, rm = (n * 4 - l.en) * 39 := ⟨_, rfl⟩
      have RM := Aside0.mk hrm
      have HRM := Aside0.mk (show rm ≤ 1248 by rw [hrm]; have := N1.out.2; have : (n * 4 - l.en) * 39 ≤ 32 * 39 := Nat.mul_le_mul_right _ (by omega); omega)
      have AP := Aside0.mk (show apx l s (List.replicate (rm + 1) 0) = (l, s, 3) from by
        have h := Fl_no HF.out N1.out.2 (b := List.replicate (rm + 1) 0) (by simp) (by rw [← hrm, List.length_replicate]; omega)
        rw [h, List.length_replicate, if_neg (by have := HRM.out; omega)])
      have wj : wrap64 ((rm : Int) + 1) = (rm : Int) + 1 := by have := HRM.out; unfold wrap64; omega
      obtain ⟨Z, hZ⟩ : ∃ Z, Z = (by8 (List.replicate (rm + 1) 0)).toArray := ⟨_, rfl⟩
      have ZZ := Aside0.mk hZ
      have mk : ∀ w' : World, Sem.run Try.prog (Instr.makeSlice 27 (.int .i64 ((rm : Int) + 1)) (.int .i64 ((rm : Int) + 1))) w' = .ok (.slice (some ⟨w'.heap.size, 0, none⟩) (rm + 1) (rm + 1)) (w'.alloc (.cells Z 5 (0, 0))) := by intro w'; rw [hZ]; exact run_mkn w' (rm + 1) (by have := HRM.out; omega)
      have CD := Aside0.mk (show l.si ≤ 4096 ∧ l.en ≤ l.si * 4 ∧ l.fi + l.si ≤ s.nb ∧ l.rs.length ≤ 16384 ∧ s.pend.length + 800 ≤ 90000 by
        have h := HF.out
        have := N1.out.2
        have h1 := h.en
        have h2 := h.rs
        have h3 := h.pd
        rw [h.si, h.fi, h.nb]
        omega)
      clear hrm hZ e2b d0
      by_cases d1 : j < l1.length
      · have d1b : decide (j < l1.length) = true := decide_eq_true d1
        have d2 : ¬ j < 40 := by rw [d1b] at dd; simpa using dd
        have d2b : decide (j < 40) = false := decide_eq_false d2
        clear dd
        go_upto_region 15 with (first
          | (go_at_call 40; refine (F_Room HG.out HF.out N1.out.2 rm RM.out).mono ?_; rintro e w5 ⟨rfl, hG⟩; have G5 := Aside0.mk hG; clear hG HG))
        go_upto_region 16 with (first
          | (go_at_call 45; refine (Z_Append G5.out CD.out.1 CD.out.2.1 CD.out.2.2.1 CD.out.2.2.2.1 CD.out.2.2.2.2 (rm + 1) (by have := HRM.out; omega) Z ZZ.out l s 3 AP.out).mono ?_; rintro e w6 ⟨rfl, O6, hG⟩; have G6 := Aside0.mk hG; clear hG G5))
        clear mk wj
        go_upto_region 18 with (first
          | (go_at_call 40; refine (F_Room G6.out HF.out N1.out.2 rm RM.out).mono ?_; rintro e w7 ⟨rfl, hG⟩; have G7 := Aside0.mk hG; clear hG G6))
        by_cases z0 : rm = 0
        · have z0b : ((rm : Int) == 0) = true := by rw [z0]; rfl
          clear z0
          go_wp2_with (first
            | (go_at_call 37; refine (L_alive _).mono ?_; rintro e w8 ⟨rfl, hb⟩; have G8 := Aside0.mk (LG_step G7.out hb); clear hb G7)
            | (go_at_call 45; refine (E_Append G8.out CD.out.1 CD.out.2.1 CD.out.2.2.1 CD.out.2.2.2.1 CD.out.2.2.2.2).mono ?_; rintro e w9 ⟨rfl, O9, hG⟩; have G9 := Aside0.mk hG; clear hG G8))
          go_ret
          exact ⟨rfl, FIN _ _ _ _ G9.out⟩
        · have z0b : ((rm : Int) == 0) = false := by simp; omega
          obtain ⟨Z2, hZ⟩ : ∃ Z, Z = (by8 (List.replicate rm 0)).toArray := ⟨_, rfl⟩
          have ZZ2 := Aside0.mk hZ
          have mk : ∀ w' : World, Sem.run Try.prog (Instr.makeSlice 27 (.int .i64 (rm : Int)) (.int .i64 (rm : Int))) w' = .ok (.slice (some ⟨w'.heap.size, 0, none⟩) rm rm) (w'.alloc (.cells Z2 5 (0, 0))) := by intro w'; rw [hZ]; exact run_mkn w' rm (by have := HRM.out; omega)
          obtain ⟨l', s', q1, q2, _⟩ := Fl_ok HF.out N1.out.2 (zeros_bytes rm) (by rw [List.length_replicate]; exact z0) (by rw [← RM.out, List.length_replicate]; exact Nat.le_refl _)
          have AP2 := Aside0.mk q1
          have CD2 := Aside0.mk (show l'.si ≤ 4096 ∧ l'.en ≤ l'.si * 4 ∧ l'.fi + l'.si ≤ s'.nb ∧ l'.rs.length ≤ 16384 ∧ s'.pend.length + 800 ≤ 90000 by
            have h := q2
            have := N1.out.2
            have h1 := h.en
            have h2 := h.rs
            have h3 := h.pd
            rw [h.si, h.fi, h.nb]
            omega)
          clear z0 hZ q1 q2
          go_wp2_with (first
            | (go_at_call 37; refine (L_alive _).mono ?_; rintro e w8 ⟨rfl, hb⟩; have G8 := Aside0.mk (LG_step G7.out hb); clear hb G7)
            | (go_at_call 45; refine (Z_Append G8.out CD.out.1 CD.out.2.1 CD.out.2.2.1 CD.out.2.2.2.1 CD.out.2.2.2.2 rm (by have := HRM.out; omega) Z2 ZZ2.out l' s' 0 AP2.out).mono ?_; rintro e w9 ⟨rfl, O9, hG⟩; have G9 := Aside0.mk hG; clear hG G8 mk)
            | (go_at_call 45; refine (E_Append G9.out CD2.out.1 CD2.out.2.1 CD2.out.2.2.1 CD2.out.2.2.2.1 CD2.out.2.2.2.2).mono ?_; rintro e w10 ⟨rfl, O10, hG⟩; have G10 := Aside0.mk hG; clear hG G9))
          go_ret
          exact ⟨rfl, FIN _ _ _ _ G10.out⟩
      · have d1b : decide (j < l1.length) = false := decide_eq_false d1
        clear dd d1
        go_upto_region 15 with (first
          | (go_at_call 40; refine (F_Room HG.out HF.out N1.out.2 rm RM.out).mono ?_; rintro e w5 ⟨rfl, hG⟩; have G5 := Aside0.mk hG; clear hG HG))
        go_upto_region 16 with (first
          | (go_at_call 45; refine (Z_Append G5.out CD.out.1 CD.out.2.1 CD.out.2.2.1 CD.out.2.2.2.1 CD.out.2.2.2.2 (rm + 1) (by have := HRM.out; omega) Z ZZ.out l s 3 AP.out).mono ?_; rintro e w6 ⟨rfl, O6, hG⟩; have G6 := Aside0.mk hG; clear hG G5))
        clear mk wj
        go_upto_region 18 with (first
          | (go_at_call 40; refine (F_Room G6.out HF.out N1.out.2 rm RM.out).mono ?_; rintro e w7 ⟨rfl, hG⟩; have G7 := Aside0.mk hG; clear hG G6))
        by_cases z0 : rm = 0
        · have z0b : ((rm : Int) == 0) = true := by rw [z0]; rfl
          clear z0
          go_wp2_with (first
            | (go_at_call 37; refine (L_alive _).mono ?_; rintro e w8 ⟨rfl, hb⟩; have G8 := Aside0.mk (LG_step G7.out hb); clear hb G7)
            | (go_at_call 45; refine (E_Append G8.out CD.out.1 CD.out.2.1 CD.out.2.2.1 CD.out.2.2.2.1 CD.out.2.2.2.2).mono ?_; rintro e w9 ⟨rfl, O9, hG⟩; have G9 := Aside0.mk hG; clear hG G8))
          go_ret
          exact ⟨rfl, FIN _ _ _ _ G9.out⟩
        · have z0b : ((rm : Int) == 0) = false := by simp; omega
          obtain ⟨Z2, hZ⟩ : ∃ Z, Z = (by8 (List.replicate rm 0)).toArray := ⟨_, rfl⟩
          have ZZ2 := Aside0.mk hZ
          have mk : ∀ w' : World, Sem.run Try.prog (Instr.makeSlice 27 (.int .i64 (rm : Int)) (.int .i64 (rm : Int))) w' = .ok (.slice (some ⟨w'.heap.size, 0, none⟩) rm rm) (w'.alloc (.cells Z2 5 (0, 0))) := by intro w'; rw [hZ]; exact run_mkn w' rm (by have := HRM.out; omega)
          obtain ⟨l', s', q1, q2, _⟩ := Fl_ok HF.out N1.out.2 (zeros_bytes rm) (by rw [List.length_replicate]; exact z0) (by rw [← RM.out, List.length_replicate]; exact Nat.le_refl _)
          have AP2 := Aside0.mk q1
          have CD2 := Aside0.mk (show l'.si ≤ 4096 ∧ l'.en ≤ l'.si * 4 ∧ l'.fi + l'.si ≤ s'.nb ∧ l'.rs.length ≤ 16384 ∧ s'.pend.length + 800 ≤ 90000 by
            have h := q2
            have := N1.out.2
            have h1 := h.en
            have h2 := h.rs
            have h3 := h.pd
            rw [h.si, h.fi, h.nb]
            omega)
          clear z0 hZ q1 q2
          go_wp2_with (first
            | (go_at_call 37; refine (L_alive _).mono ?_; rintro e w8 ⟨rfl, hb⟩; have G8 := Aside0.mk (LG_step G7.out hb); clear hb G7)
            | (go_at_call 45; refine (Z_Append G8.out CD.out.1 CD.out.2.1 CD.out.2.2.1 CD.out.2.2.2.1 CD.out.2.2.2.2 rm (by have := HRM.out; omega) Z2 ZZ2.out l' s' 0 AP2.out).mono ?_; rintro e w9 ⟨rfl, O9, hG⟩; have G9 := Aside0.mk hG; clear hG G8 mk)
            | (go_at_call 45; refine (E_Append G9.out CD2.out.1 CD2.out.2.1 CD2.out.2.2.1 CD2.out.2.2.2.1 CD2.out.2.2.2.2).mono ?_; rintro e w10 ⟨rfl, O10, hG⟩; have G10 := Aside0.mk hG; clear hG G9))
          go_ret
          exact ⟨rfl, FIN _ _ _ _ G10.out⟩
end Go.Proofs.Ytepipgneefcoiaa.D
