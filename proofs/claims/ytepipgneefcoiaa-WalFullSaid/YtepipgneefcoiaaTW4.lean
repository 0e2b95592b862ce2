/- The functions of the program that these laws reach, each as a plain Lean function, and the proof that the machine's call comes to it; no condition beyond those that each theorem names. Made by wip/xprint.py. -/
import Derived.Test.YtepipgneefcoiaaTW3
import Derived.Test.YtepipgneefcoiaaDx0
namespace Go.Proofs.Ytepipgneefcoiaa.D
open Go.RowKit Go.Proofs.YtepipgneefcoiaaW.PrintWords Go.Proofs.YtepipgneefcoiaaW.PrintLast Go.Proofs.YtepipgneefcoiaaW.PrintMore
attribute [local go_sem] max2_int min2_int max_two min_two max_three min_three max_four min_four
set_option linter.unusedVariables false
set_option linter.unusedSimpArgs false
/- All sectors of a region. -/
def secL (L : List Int) (o m : Nat) : List (List Int) := (List.range m).map fun i => cut8 L ((o + i) * 64) 64
theorem secL_len (L : List Int) (o m : Nat) : (secL L o m).length = m := by simp [secL]
theorem secL_succ (L : List Int) (o m : Nat) : secL L o (m + 1) = secL L o m ++ [cut8 L ((o + m) * 64) 64] := by simp [secL, List.range_succ]
theorem cut_cut {L : List Int} {a b o n : Nat} (h : o + n ≤ b) : cut8 (cut8 L a b) o n = cut8 L (a + o) n := by
  apply List.ext_getElem?
  intro i
  unfold cut8
  by_cases c : i < n
  · rw [List.getElem?_take_of_lt c, List.getElem?_take_of_lt c, List.getElem?_drop, List.getElem?_take_of_lt (by omega), List.getElem?_drop, List.getElem?_drop, Nat.add_assoc]
  · rw [List.getElem?_eq_none (by rw [List.length_take]; omega), List.getElem?_eq_none (by rw [List.length_take]; omega)]
theorem FK_cut {W : World} {g o m c : Nat} {L : List Int} (h : W.heap[g]? = some (.cells (by8 L).toArray 96 (0, 0))) (hf : o + m ≤ L.length) (hm : m ≤ 1000000000) (hc : m ≤ c) : Kd.FK kL W (fun k => k = g) (cut8 L o m) [.slice (some ⟨g, o, none⟩) m c] := by
  intro W' hW
  have hb := (hW g rfl (blk_lt h)).trans h
  have hC := C_blk (o := o) (m := m) hb hf hm
  have hl := cut8_len (L := L) (o := o) (n := m) hf
  exact ⟨some ⟨g, o, none⟩, c, by rw [hl], by rw [hl]; exact hc, by rw [hl]; exact hC⟩
theorem rdx_in {s : Dk} (ho : s.of = false) {i : Nat} (hi : i < s.nb) : rdx s (i : Int) = (cut8 s.now (i * 256) 256, 0) := by
  have h1 : hasB s (i : Int) = true := by unfold hasB; rw [decide_eq_true (by omega), decide_eq_true (by omega)]; rfl
  unfold rdx
  rw [if_pos h1, ho, if_neg (by decide), Int.toNat_natCast]
theorem rdx_off {s : Dk} (ho : s.of = true) {i : Nat} (hi : i < s.nb) : rdx s (i : Int) = ([], 9) := by
  have h1 : hasB s (i : Int) = true := by unfold hasB; rw [decide_eq_true (by omega), decide_eq_true (by omega)]; rfl
  unfold rdx
  rw [if_pos h1, ho, if_pos rfl]
theorem JO_ReadIn {w0 w : World} {p : Nat} {s : Dk} {O : Nat → Prop} (h : JO w0 w p s O) (ho : s.of = false) (i : Nat) (hi : i < s.nb) (m : Int) (hm : m = (i : Int)) :
    Calls Try.prog 16 #[.pointer (some ⟨p, 0, none⟩), .int .i64 m] w fun e w' => ∃ g, e = .returned (.tuple #[.slice (some ⟨g, 0, none⟩) 256 256, .int .i64 0]) ∧ w.heap.size ≤ g ∧ w'.heap[g]? = some (.cells (by8 (cut8 s.now (i * 256) 256)).toArray 96 (0, 0)) ∧ Below w.heap.size w w' := by
  subst hm
  obtain ⟨a, b, v, h1, h2, h3⟩ := h
  exact dk_Read h1 i hi ho
theorem info27w : (Try.prog.info? 27).map (fun i => (i.zero, i.size, i.bytes)) = some (some (.slice none 0 0), 1, 24) := by kernel_rfl
set_option maxRecDepth 20000 in
set_option maxHeartbeats 16000000 in
theorem L_read {w0 w : World} {q : Nat} {s : Dk} {O : Nat → Prop} (h : JO w0 w q s O) (ho : s.of = false) (fi si : Nat) (hf : fi + si ≤ s.nb) (hn : s.nb ≤ 4096) (hL : s.now.length = s.nb * 256) :
    Calls Try.prog 66 #[.pointer (some ⟨q, 0, none⟩), .int .i64 (fi : Int), .int .i64 (si : Int)] w fun e w' => ∃ A m c, e = .returned (.tuple #[.slice A m c, .int .i64 0]) ∧ m = si * 4 ∧ Kd.V kL 27 w' 0 (fun k => w.heap.size ≤ k) (.slice A m c) (secL s.now (fi * 4) (si * 4)) ∧ Below w.heap.size w w' := by
  have H := Aside0.mk h
  have HO := Aside0.mk ho
  have HF := Aside0.mk hf
  have HN := Aside0.mk hn
  have HL := Aside0.mk hL
  clear h ho hL
  go_enter Try.func66, Try.ntmps66
  go_wp2
  go_loopw [8, 9, 10, 11, 12, 14] (fun v8 v9 v10 v11 v12 v14 wr => ∃ (i m : Nat) (A : Option Addr) (c : Nat), v14 = .int .i64 (i : Int) ∧ v8 = .slice A m c ∧ i ≤ si ∧ Aside0 (m = i * 4) ∧ Aside0 (Below w.heap.size w wr) ∧ Aside0 (Kd.N kL 27 wr w.heap.size (fun k => w.heap.size ≤ k) (.slice A m c) (secL s.now (fi * 4) (i * 4)))) (fun v8 v9 v10 v11 v12 v14 _ => si - (intOf v14).toNat)
  case atStart => exact ⟨0, 0, none, 0, rfl, rfl, Nat.zero_le _, ⟨rfl⟩, ⟨Below.refl _ _⟩, ⟨Kd.N_nil _ _ _ _ _⟩⟩
  case round =>
    obtain ⟨i, m, A, c, rfl, rfl, hi, HM, HB, HR⟩ := hrel
    by_cases d : i < si
    · have d1 : (i : Int) < (si : Int) := by omega
      have db : decide (i < si) = true := decide_eq_true d
      have DD := Aside0.mk d
      have FI := Aside0.mk (show fi + i < s.nb by omega)
      have wf : wrap64 ((fi : Int) + (i : Int)) = (fi : Int) + (i : Int) := by unfold wrap64; omega
      clear d
      go_upto_region 6 with (go_at_call 16; refine (JO_ReadIn (JO_step H.out HB.out) HO.out (fi + i) FI.out _ (by push_cast; rfl)).mono ?_; rintro e w2 ⟨g, rfl, hg, hb, hB⟩; have G2 := Aside0.mk (show w.heap.size ≤ g from Nat.le_trans HB.out.size hg); have BK := Aside0.mk hb; have B2 := Aside0.mk (below_step HB.out hB); have R2 := Aside0.mk (Kd.N_below HR.out hB); clear hg hb hB HR HB)
      go_wp2
      go_loopw [8, 12] (fun v8 v12 wr => ∃ (j m : Nat) (A : Option Addr) (c : Nat), v12 = .int .i64 ((j : Int) * 64) ∧ v8 = .slice A m c ∧ j ≤ 4 ∧ Aside0 (m = i * 4 + j) ∧ Aside0 (Below w.heap.size w wr) ∧ Aside0 (wr.heap[g]? = some (.cells (by8 (cut8 s.now ((fi + i) * 256) 256)).toArray 96 (0, 0))) ∧ Aside0 (Kd.N kL 27 wr w.heap.size (fun k => w.heap.size ≤ k) (.slice A m c) (secL s.now (fi * 4) (i * 4 + j)))) (fun v8 v12 _ => 256 - (intOf v12).toNat)
      case atStart => exact ⟨0, m, A, c, rfl, rfl, by omega, HM, B2, BK, R2⟩
      case round =>
        clear R2 B2 BK HM
        obtain ⟨j, m, A, c, rfl, rfl, hj, HM, HB, BK, HR⟩ := hrel
        by_cases f : j < 4
        · have f1 : (j : Int) * 64 < 256 := by omega
          have fb : decide ((j : Int) * 64 < 256) = true := decide_eq_true f1
          have FF := Aside0.mk f
          have wj : wrap64 ((j : Int) * 64 + 64) = (j : Int) * 64 + 64 := by unfold wrap64; omega
          have ME := Aside0.mk (show m ≤ 16384 by have h1 := HM.out; have h2 := HN.out; have h3 := HF.out; have h4 := DD.out; omega)
          have CL := Aside0.mk (show (cut8 s.now ((fi + i) * 256) 256).length = 256 from cut8_len (by rw [HL.out]; have h1 := FI.out; omega))
          have CC := Aside0.mk (show cut8 (cut8 s.now ((fi + i) * 256) 256) (j * 64) 64 = cut8 s.now ((fi * 4 + (i * 4 + j)) * 64) 64 by rw [cut_cut (by omega)]; congr 1; omega)
          have FKj := Aside0.mk (FK_cut (o := j * 64) (m := 64) (c := 256 - j * 64) BK.out (by rw [CL.out]; omega) (by decide) (by omega))
          rw [CC.out] at FKj
          obtain ⟨x, hx⟩ : ∃ x, x = cut8 s.now ((fi * 4 + (i * 4 + j)) * 64) 64 := ⟨_, rfl⟩
          have SX := Aside0.mk (secL_succ s.now (fi * 4) (i * 4 + j))
          rw [← hx] at FKj SX
          obtain ⟨xs, hxs⟩ : ∃ xs, xs = secL s.now (fi * 4) (i * 4 + j) := ⟨_, rfl⟩
          have XL := Aside0.mk (show xs.length = m by rw [hxs, secL_len]; exact HM.out.symm)
          rw [← hxs] at HR SX
          have NG := Aside0.mk (fun (e : some g = (Value.slice A m c).ownBlock) => (by obtain ⟨cc, hc⟩ := Kd.N_typed HR.out g e.symm; exact absurd rfl (blk_ne BK.out hc (by decide)) : False))
          clear hx hxs CC CL f
          go_wp2_with ((with_reducible refine gate_builtin (b := .append) (xs := #[.tmp 34, .tmp 40]) rfl ?_); at_builtin; refine Kd.N_append kL (w0 := w) w.heap.size rfl (.tmp 34) (.tmp 40) 46 27 (.slice none 0 0) 24 rfl Try.underlying46 info27w rfl (by decide) (by omega) (.slice A m c) xs x _ (fun k => w.heap.size ≤ k) (fun k => k = g) rfl rfl (Kd.FK_below FKj.out (Below.refl _ _)) ?aK ?aF HR.out HB.out HB.out.size ?aL ?_; (case aK => exact fun k hk => ⟨by rw [hk]; exact G2.out, fun e => by rw [hk] at e; exact NG.out e⟩); (case aF => exact fun k hk => Nat.le_trans HB.out.size hk); (case aL => have h1 := XL.out; have h2 := ME.out; omega); intro v9 w5 hN hb hg hat; have N5 := Aside0.mk hN; have B5 := Aside0.mk hb; have K5 := Aside0.mk (blk_grown BK.out hg (fun e => NG.out e)); obtain ⟨A9, c9, e9⟩ := Kd.N_slice hN; obtain ⟨m9, hm9⟩ : ∃ m9, m9 = (xs ++ [x]).length := ⟨_, rfl⟩; have M9 := Aside0.mk hm9; rw [← hm9] at e9; subst e9; clear hN hb hg hat hm9)
          go_roundw
          case rel => exact ⟨j + 1, m9, A9, c9, by first | rfl | (congr 1; omega) | (simp; omega), rfl, by have := FF.out; omega, ⟨by rw [M9.out, List.length_append, XL.out, HM.out]; simp; omega⟩, B5, K5, ⟨by have := N5.out; rw [← SX.out] at this; exact this⟩⟩
          case measure => have := FF.out; simp [intOf]; omega
        · have f1 : ¬ (j : Int) * 64 < 256 := by omega
          have fb : decide ((j : Int) * 64 < 256) = false := decide_eq_false f1
          obtain rfl : j = 4 := by omega
          have NX := Aside0.mk HM.out
          go_wp2
          go_roundw
          case rel => exact ⟨i + 1, m, A, c, by go_num, rfl, DD.out, ⟨by rw [NX.out]; omega⟩, HB, ⟨by have := HR.out; rw [show i * 4 + 4 = (i + 1) * 4 by omega] at this; exact this⟩⟩
          case measure => have := DD.out; simp [intOf]; omega
    · have d1 : ¬ (i : Int) < (si : Int) := by omega
      have db : decide (i < si) = false := decide_eq_false d
      obtain rfl : i = si := by omega
      go_wp2
      go_ret2
      exact ⟨A, m, c, rfl, HM.out, Kd.N_V HR.out, HB.out⟩
theorem L_readOff {w0 w : World} {q : Nat} {s : Dk} {O : Nat → Prop} (h : JO w0 w q s O) (ho : s.of = true) (fi si : Nat) (hs : 1 ≤ si) (hf : fi + si ≤ s.nb) (hn : s.nb ≤ 4096) :
    Calls Try.prog 66 #[.pointer (some ⟨q, 0, none⟩), .int .i64 (fi : Int), .int .i64 (si : Int)] w fun e w' => e = .returned (.tuple #[.slice none 0 0, .int .i64 9]) ∧ Below w.heap.size w w' := by
  have H := Aside0.mk h
  have HX := Aside0.mk (rdx_off ho (i := fi) (by omega))
  have s1 : (0 : Int) < (si : Int) := by omega
  have wf : wrap64 ((fi : Int) + 0) = (fi : Int) := by unfold wrap64; omega
  clear h ho
  go_enter Try.func66, Try.ntmps66
  go_wp2
  go_loopw [8, 9, 10, 11, 12, 14] (fun v8 v9 v10 v11 v12 v14 wr => v14 = .int .i64 0 ∧ wr = w) (fun v8 v9 v10 v11 v12 v14 _ => 0)
  case atStart => exact ⟨rfl, rfl⟩
  case round =>
    obtain ⟨rfl, rfl⟩ := hrel
    go_wp2_with (go_at_call 16; refine (JO_Read H.out (fi : Int) [] 9 HX.out).mono ?_; rintro e w2 ⟨v, rfl, hf, hB⟩; have B2 := Aside0.mk hB; clear hf hB)
    go_ret2
    exact ⟨rfl, B2.out⟩
end Go.Proofs.Ytepipgneefcoiaa.D
