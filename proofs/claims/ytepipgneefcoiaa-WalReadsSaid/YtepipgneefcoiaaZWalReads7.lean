/- What the law WalReads rests on, part 7: words on memory, the functions that it reaches as plain Lean functions with the proofs that the machine's calls come to them, and the mathematics; no condition beyond those that each theorem names. -/
import Derived.Test.YtepipgneefcoiaaZWalReads6
set_option linter.unusedVariables false
set_option linter.unusedSimpArgs false
namespace Go.Proofs.Ytepipgneefcoiaa.D
open Go.RowKit Go.Proofs.YtepipgneefcoiaaW.PrintWords Go.Proofs.YtepipgneefcoiaaW.PrintLast Go.Proofs.YtepipgneefcoiaaW.PrintMore
mutual
def marginaliaref17_record.j0 : Nat → List ByteArray → Int → Bool → Int → Int → Int → Int → List Int → Option (List Int × Int × Int)
  | 0, _, _, _, _, _, _, _, _ => none
  | k + 1, x0, x1, x51, x351000, x351001, x351002, x351003, x351004 => if x51 = true then (some (([] : List Int), 0, 0)) else (marginaliaref17_record.l0 k x0 x1 (([] : List (S106))) 0 x351000 x351001 x351002 x351003 x351004)
def marginaliaref17_record.l0 : Nat → List ByteArray → Int → List (S106) → Int → Int → Int → Int → Int → List Int → Option (List Int × Int × Int)
  | 0, _, _, _, _, _, _, _, _, _ => none
  | k + 1, x0, x1, x11, x12, x351000, x351001, x351002, x351003, x351004 => if x12 < x351003 then (if 0 ≤ (wrap64 (x1 + x12)) then (if (wrap64 (x1 + x12)) < (x0.length : Int) then ((conv_Decode.f k (rdOf ByteArray.empty x0 (wrap64 (x1 + x12)))).bind fun bt355 => (if bt355.2.2.2.2.2 = 0 then (if x11.length < 2513169434916 then (marginaliaref17_record.l0 k x0 x1 (x11 ++ [(⟨bt355.1, bt355.2.1, bt355.2.2.1, bt355.2.2.2.1, bt355.2.2.2.2.1⟩ : S106)]) (wrap64 (x12 + 1)) x351000 x351001 x351002 x351003 x351004) else (none)) else (some (([] : List Int), 0, 0)))) else (none)) else (none)) else ((marginaliaref16_Join.f k x11).bind fun bt367 => (if bt367.2 = true then (some (bt367.1, x351001, x351003)) else (some (([] : List Int), 0, 0))))
end
def marginaliaref17_record.f (k : Nat) (l0 : List ByteArray) (a1 : Int) (a2 : Int) : Option (List Int × Int × Int) := if a1 ≥ (l0.length : Int) then (some (([] : List Int), 0, 0)) else (if 0 ≤ a1 then (if a1 < (l0.length : Int) then ((conv_Decode.f k (rdOf ByteArray.empty l0 a1)).bind fun bt342 => (if bt342.2.2.2.2.2 = 0 then (if bt342.1 = a2 then (if bt342.2.2.1 = 0 then (marginaliaref17_record.j0 k l0 a1 (decide (bt342.2.2.2.1 > (wrap64 ((l0.length : Int) - a1)))) bt342.1 bt342.2.1 bt342.2.2.1 bt342.2.2.2.1 bt342.2.2.2.2.1) else (marginaliaref17_record.j0 k l0 a1 true bt342.1 bt342.2.1 bt342.2.2.1 bt342.2.2.2.1 bt342.2.2.2.2.1)) else (marginaliaref17_record.j0 k l0 a1 true bt342.1 bt342.2.1 bt342.2.2.1 bt342.2.2.2.1 bt342.2.2.2.2.1)) else (marginaliaref17_record.j0 k l0 a1 true bt342.1 bt342.2.1 bt342.2.2.1 bt342.2.2.2.1 bt342.2.2.2.2.1))) else (none)) else (none))
set_option maxHeartbeats 8000000 in
set_option maxRecDepth 100000 in
theorem marginaliaref17_record.calls (k : Nat) (A0 : Option Addr) (c0 : Nat) (l0 : List ByteArray) (a1 : Int) (a2 : Int) (r1 : List Int) (r2 : Int) (r3 : Int) (w : World) (hr0 : Kd.C Kd.string w A0 l0.length l0) (hc0 : l0.length ≤ c0) (h : marginaliaref17_record.f k l0 a1 a2 = some (r1, r2, r3)) :
    Calls Try.prog 71 #[.slice A0 l0.length c0, .int .i64 a1, .int .u64 a2] w fun e w' => ∃ v0_ : Value, e = .returned (.tuple #[v0_, .int .u64 r2, .int .i64 r3]) ∧ Kd.R (Kd.int .u8) 5 w' w.heap.size (fun _ => True) v0_ r1 ∧ Below w.heap.size w w' := by
 have hu106 := Try.underlying106
 have HR0 := Aside0.mk hr0
 have HC0 := Aside0.mk hc0
 clear hr0 hc0
 have HB := Aside0.mk (Below.refl w.heap.size w)
 have H : (if a1 ≥ (l0.length : Int) then (some (([] : List Int), 0, 0)) else (if 0 ≤ a1 then (if a1 < (l0.length : Int) then ((conv_Decode.f k (rdOf ByteArray.empty l0 a1)).bind fun bt342 => (if bt342.2.2.2.2.2 = 0 then (if bt342.1 = a2 then (if bt342.2.2.1 = 0 then (marginaliaref17_record.j0 k l0 a1 (decide (bt342.2.2.2.1 > (wrap64 ((l0.length : Int) - a1)))) bt342.1 bt342.2.1 bt342.2.2.1 bt342.2.2.2.1 bt342.2.2.2.2.1) else (marginaliaref17_record.j0 k l0 a1 true bt342.1 bt342.2.1 bt342.2.2.1 bt342.2.2.2.1 bt342.2.2.2.2.1)) else (marginaliaref17_record.j0 k l0 a1 true bt342.1 bt342.2.1 bt342.2.2.1 bt342.2.2.2.1 bt342.2.2.2.2.1)) else (marginaliaref17_record.j0 k l0 a1 true bt342.1 bt342.2.1 bt342.2.2.1 bt342.2.2.2.1 bt342.2.2.2.2.1))) else (none)) else (none))) = some (r1, r2, r3) := h
 clear h
 by_cases c4 : a1 ≥ (l0.length : Int)
 · rw [if_pos c4] at H
   have c4b0 := decide_eq_true c4
   clear c4
   simp only [Option.some.injEq, Prod.mk.injEq] at H
   obtain ⟨rfl, rfl, rfl⟩ := H
   have cv_ := fun (W_ : World) (s_ : ByteArray) => Lib.run_convert_string_bytes (P := Try.prog) W_ 9 27 5 s_ Try.underlying9 Try.underlying27 Try.underlying5
   go_enter Try.func71, Try.ntmps71
   go_wp2
   repeat (go_quiet (fail); try go_wp2)
   go_ret3
   exact ⟨_, er, rn, b_w HB⟩
 rw [if_neg c4] at H
 have c4b0 := decide_eq_false c4
 clear c4
 obtain ⟨c5, H⟩ := ifN H
 have c5b0 := decide_eq_true c5
 clear c5
 obtain ⟨c6, H⟩ := ifN H
 have c6b0 := decide_eq_true c6
 clear c6
 replace H := Option.bind_eq_some_iff.mp H
 obtain ⟨⟨t342, t343, t344, t345, t346, t349⟩, A70, H⟩ := H
 replace H : (if t349 = 0 then (if t342 = a2 then (if t344 = 0 then (marginaliaref17_record.j0 k l0 a1 (decide (t345 > (wrap64 ((l0.length : Int) - a1)))) t342 t343 t344 t345 t346) else (marginaliaref17_record.j0 k l0 a1 true t342 t343 t344 t345 t346)) else (marginaliaref17_record.j0 k l0 a1 true t342 t343 t344 t345 t346)) else (marginaliaref17_record.j0 k l0 a1 true t342 t343 t344 t345 t346)) = some (r1, r2, r3) := H
 have A7 := Aside0.mk A70
 clear A70
 have HC8 := Aside0.mk H
 clear H
 have p341 : 0 ≤ (a1 : Int) := od
 have q341 : a1 < (l0.length : Int) := od
 obtain ⟨ad341, e341, hx341_0⟩ := Kd.at_string HR0.out a1 p341 q341
 cases e341
 replace p341 := eq_true p341
 replace q341 := eq_true q341
 have cv_ := fun (W_ : World) (s_ : ByteArray) => Lib.run_convert_string_bytes (P := Try.prog) W_ 9 27 5 s_ Try.underlying9 Try.underlying27 Try.underlying5
 go_enter Try.func71, Try.ntmps71
 go_upto_region 4 with (first | (go_at_call 70; (with_reducible refine (conv_Decode.calls k (rdOf ByteArray.empty l0 a1) t342 t343 t344 t345 t346 t349 _ A7.out).mono ?_); rintro e w9 ⟨v347, rfl, ho0, hb⟩; have HO348 := Aside0.mk (Kd.R_lower ho0 (below_size (b_w HB))); replace HB := bs HB hb; clear hb; (try clear ho0)) | ((with_reducible refine gate_dst (N := 9) rfl ?_); (try (refine gate_guard (by rfl) ?_; dsimp only)); refine bx 9 #[.int .u64 0, .int .u64 0, .int .i64 0, .int .i64 0, .slice none 0 0] 106 ?_; intro gb350 hg w10 hbox hb; replace HO348 := Aside0.mk (Kd.R_below (kR' HO348) hb); have BK350 := Aside0.mk (hbox); have GW350 := gs HB hg; have GE350 := gs HB hg; replace HB := bs HB hb; clear hb hbox hg; obtain ⟨_,_,_,_,_,_,_,_,_,_⟩ := cz5 BK350.out; obtain ⟨Ao12, co12, eo12⟩ := Kd.R_slice HO348.out; subst eo12))
 (try simp only [Act.put, List.setIfInBounds_toArray, List.set_cons_zero, List.set_cons_succ])
 go_cut [51] (fun v51 wc => ∃ (kq : Nat) (x51_7 : Bool), v51 = .bool x51_7 ∧ Aside0 (marginaliaref17_record.j0 kq l0 a1 x51_7 t342 t343 t344 t345 t346 = some (r1, r2, r3)) ∧ Aside0 (kq ≤ k) ∧ Aside0 (Kd.R (Kd.int .u8) 5 wc w.heap.size (fun _ => True) (.slice Ao12 t346.length co12) t346) ∧ Aside0 (wc.heap[gb350]? = some (.cells #[.int .u64 t342, .int .u64 t343, .int .i64 t344, .int .i64 t345, (.slice Ao12 t346.length co12)] 106 (0, 0))) ∧ Aside0 (Below w.heap.size w wc))
 case first =>
  have H := HC8.out
  clear HC8
  by_cases c13 : t349 = 0
  rotate_left
  · rw [if_neg c13] at H
    have c13b0 := beq_eq_false_iff_ne.mpr c13
    have c13b1 := bne_iff_ne.mpr c13
    (first | rw [c13b0] | (simp only [i64_w, i32_w]; rw [c13b0]) | skip)
    have H' := Aside0.mk H
    clear H
    go_wp2
    go_meet
    case rel => exact ⟨_, (true), sm, H', ⟨om⟩, ⟨rR (Kd.R_mono (fR5 (tR HO348 BK350) (fun _ hk => hk.2)) (fun _ hk => trivial))⟩, ⟨bp BK350⟩, ⟨b_w HB⟩⟩
  rw [if_pos c13] at H
  have c13b0 := beq_iff_eq.mpr c13
  have c13b1 := bne_eq_false_iff_eq.mpr c13
  clear c13
  (first | rw [c13b0] | (simp only [i64_w, i32_w]; rw [c13b0]) | skip)
  by_cases c14 : t342 = a2
  rotate_left
  · rw [if_neg c14] at H
    have c14b0 := beq_eq_false_iff_ne.mpr c14
    have c14b1 := bne_iff_ne.mpr c14
    have H' := Aside0.mk H
    clear H
    obtain ⟨_,_,_,_,_,_,_,_,_,_⟩ := cz5 BK350.out
    go_wp2
    go_meet
    case rel => exact ⟨_, (true), sm, H', ⟨om⟩, ⟨rR (Kd.R_mono (fR5 (tR HO348 BK350) (fun _ hk => hk.2)) (fun _ hk => trivial))⟩, ⟨bp BK350⟩, ⟨b_w HB⟩⟩
  rw [if_pos c14] at H
  have c14b0 := beq_iff_eq.mpr c14
  have c14b1 := bne_eq_false_iff_eq.mpr c14
  clear c14
  by_cases c15 : t344 = 0
  rotate_left
  · rw [if_neg c15] at H
    have c15b0 := beq_eq_false_iff_ne.mpr c15
    have c15b1 := bne_iff_ne.mpr c15
    have H' := Aside0.mk H
    clear H
    obtain ⟨_,_,_,_,_,_,_,_,_,_⟩ := cz5 BK350.out
    go_wp2
    go_meet
    case rel => exact ⟨_, (true), sm, H', ⟨om⟩, ⟨rR (Kd.R_mono (fR5 (tR HO348 BK350) (fun _ hk => hk.2)) (fun _ hk => trivial))⟩, ⟨bp BK350⟩, ⟨b_w HB⟩⟩
  rw [if_pos c15] at H
  have c15b0 := beq_iff_eq.mpr c15
  have c15b1 := bne_eq_false_iff_eq.mpr c15
  clear c15
  have H' := Aside0.mk H
  clear H
  obtain ⟨_,_,_,_,_,_,_,_,_,_⟩ := cz5 BK350.out
  go_wp2
  go_meet
  case rel => exact ⟨_, (decide (t345 > (wrap64 ((l0.length : Int) - a1)))), sm, H', ⟨om⟩, ⟨rR (Kd.R_mono (fR5 (tR HO348 BK350) (fun _ hk => hk.2)) (fun _ hk => trivial))⟩, ⟨bp BK350⟩, ⟨b_w HB⟩⟩
 clear HC8
 try clear c1
 try clear p2
 try clear p3
 try clear q3
 try clear hx3
 try clear c4
 try clear c4b0
 try clear c5
 try clear c5b0
 try clear c6
 try clear c6b0
 try clear p6
 try clear c7
 try clear c13
 try clear c13b0
 try clear c13b1
 try clear c14
 try clear c14b0
 try clear c14b1
 try clear c15
 try clear c15b0
 try clear c15b1
 try clear hx341_0
 try clear p341
 try clear q341
 obtain ⟨kq, x51_7, rfl, HA, HJ7, HO_351004, BK350, HB⟩ := hcut
 cases kq with
 | zero => exact absurd HA.out (by simp [marginaliaref17_record.j0])
 | succ kj7 => ?_
 have H := HA.out
 clear HA
 simp only [marginaliaref17_record.j0] at H
 by_cases c19 : x51_7 = true
 · subst c19
   replace H := it H
   simp only [Option.some.injEq, Prod.mk.injEq] at H
   obtain ⟨rfl, rfl, rfl⟩ := H
   go_wp2
   repeat (go_quiet (fail); try go_wp2)
   go_ret3
   exact ⟨_, er, rn, b_w HB⟩
 replace c19 := Bool.eq_false_iff.mpr c19
 subst c19
 replace H := fi H
 obtain ⟨y351, Ny351⟩ := yy ((([] : List (S106))) : List (S106))
 replace H : (marginaliaref17_record.l0 kj7 l0 a1 y351 0 t342 t343 t344 t345 t346) = some (r1, r2, r3) := yx Ny351 H
 have H' := Aside0.mk H
 clear H
 go_wp2_with (first | ((with_reducible refine gate_dst (N := 52) rfl ?_); (try (refine gate_guard (by rfl) ?_; dsimp only)); refine Kd.S_lit k106 _ 106 ?hg (N := 52) ?hd (xs := ([] : List (S106))) (inner := []) (ok := fun _ => True) (okp := fun _ => True) ?hr ?hp (fun _ hk => hk) trivial (Below.refl _ _) (Nat.le_refl _) (by simp) ?_; (case hd => rfl); (case hg => rfl); (case hr => first | (go_simp; done) | (go_simp; rfl)); (case hp => exact (Reps.none _ _)); intro v352 w20 ho21 hb hg_ hnew_; clear hg_ hnew_; (first | rw [← Ny351.out] at ho21 | (simp only [Int.reduceToNat] at ho21; rw [← Ny351.out] at ho21)); have HO353 := Aside0.mk (Kd.S_lower (Kd.S_newB (Kd.S_new' ho21 (Kd.R_lt (kR' HO_351004))) (g := gb350) (o := .cells #[.int .u64 t342, .int .u64 t343, .int .i64 t344, .int .i64 t345, .slice Ao12 t346.length co12] 106 (0, 0)) (bk BK350)) (below_size (b_w HB))); replace HO_351004 := Aside0.mk (Kd.R_below (kR' HO_351004) hb); replace BK350 := bb BK350 hb; replace HB := bs HB hb; clear hb ho21))
 go_loopg [11, 12] kj7 (fun kq v11 v12 w' => ∃ (x11_2 : List (S106)) (x12_2 : Int), v12 = .int .i64 x12_2 ∧ Aside0 (marginaliaref17_record.l0 kq l0 a1 x11_2 x12_2 t342 t343 t344 t345 t346 = some (r1, r2, r3)) ∧ Aside0 (kq ≤ kj7) ∧ Aside0 (Kd.S k106 106 w' w.heap.size (fun k_ => some k_ ≠ ((.slice Ao12 t346.length co12) : Value).ownBlock ∧ k_ ≠ gb350) v11 x11_2) ∧ Aside0 (Kd.R (Kd.int .u8) 5 w' w.heap.size (fun _ => True) (.slice Ao12 t346.length co12) t346) ∧ Aside0 (w'.heap[gb350]? = some (.cells #[.int .u64 t342, .int .u64 t343, .int .i64 t344, .int .i64 t345, (.slice Ao12 t346.length co12)] 106 (0, 0))) ∧ Aside0 (Below w.heap.size w w'))
 case atStart => exact ⟨(y351), (0), sm, H', ⟨Nat.le_refl _⟩, ⟨by (with_reducible repeat (first | apply Kd.S_alloc | apply Kd.S_drewN | apply Kd.S_drew)); exact Kd.S_mono HO353.out (fun _ hk => ⟨hk.1.2, hk.2⟩)⟩, ⟨kR' HO_351004⟩, ⟨bk BK350⟩, ⟨b_w HB⟩⟩
 clear H'
 try clear c1
 try clear p2
 try clear p3
 try clear q3
 try clear hx3
 try clear c4
 try clear c4b0
 try clear c5
 try clear c5b0
 try clear c6
 try clear c6b0
 try clear p6
 try clear c7
 try clear c13
 try clear c13b0
 try clear c13b1
 try clear c14
 try clear c14b0
 try clear c14b1
 try clear c15
 try clear c15b0
 try clear c15b1
 try clear c19
 try clear hx341_0
 try clear p2
 try clear p3
 try clear p341
 try clear p6
 try clear q3
 try clear q341
 obtain ⟨x11_2, x12_2, rfl, HA, HK2, HO_11, HO_351004, BK350, HB⟩ := hrel
 cases gk with
 | zero => exact absurd HA.out (by simp [marginaliaref17_record.l0])
 | succ k2 => ?_
 have H := HA.out
 clear HA
 simp only [marginaliaref17_record.l0] at H
 by_cases c22 : x12_2 < t345
 rotate_left
 · rw [if_neg c22] at H
   have c22b0 := decide_eq_false c22
   clear c22
   replace H := Option.bind_eq_some_iff.mp H
   obtain ⟨⟨t367, t368⟩, A440, H⟩ := H
   replace H : (if t368 = true then (some (t367, t343, t345)) else (some (([] : List Int), 0, 0))) = some (r1, r2, r3) := H
   have A44 := Aside0.mk A440
   clear A440
   by_cases c45 : t368 = true
   rotate_left
   · replace c45 := Bool.eq_false_iff.mpr c45
     subst c45
     replace H := fi H
     simp only [Option.some.injEq, Prod.mk.injEq] at H
     obtain ⟨rfl, rfl, rfl⟩ := H
     obtain ⟨_,_,_,_,_,_,_,_,_,_⟩ := cz5 BK350.out
     obtain ⟨Ao51, co51, eo51⟩ := Kd.S_slice HO_11.out
     subst eo51
     go_wp2_with (first | (go_at_call 82; (with_reducible refine (marginaliaref16_Join.calls k2 _ _ x11_2 t367 false _ ?side1 ?side2 A44.out).mono ?_); (case side1 => repeat (first | exact (Kd.S_reads' HO_11.out).2.2 | (with_reducible refine Kd.C_alloc ?_ _) | (with_reducible refine Kd.C_drewN ?_ _) | (with_reducible refine Kd.C_drew ?_))); (case side2 => exact (Kd.S_reads' HO_11.out).2.1); rintro e w52 ⟨v369, rfl, ho0, hb⟩; replace HO_11 := Aside0.mk (Kd.S_elder' (kS' HO_11) (Kd.R_base ho0) hb); have HO370 := Aside0.mk (Kd.R_lower (Kd.R_new' ho0 (Kd.R_lt (kR' HO_351004))) (below_size (b_w HB))); replace HO_351004 := Aside0.mk (Kd.R_elder' (kR' HO_351004) (Kd.R_base ho0) hb); replace BK350 := bb BK350 hb; replace HB := bs HB hb; clear hb; (try clear ho0)))
     repeat (go_quiet (first | (go_at_call 82; (with_reducible refine (marginaliaref16_Join.calls k2 _ _ x11_2 t367 false _ ?side1 ?side2 A44.out).mono ?_); (case side1 => repeat (first | exact (Kd.S_reads' HO_11.out).2.2 | (with_reducible refine Kd.C_alloc ?_ _) | (with_reducible refine Kd.C_drewN ?_ _) | (with_reducible refine Kd.C_drew ?_))); (case side2 => exact (Kd.S_reads' HO_11.out).2.1); rintro e w52 ⟨v369, rfl, ho0, hb⟩; replace HO_11 := Aside0.mk (Kd.S_elder' (kS' HO_11) (Kd.R_base ho0) hb); have HO370 := Aside0.mk (Kd.R_lower (Kd.R_new' ho0 (Kd.R_lt (kR' HO_351004))) (below_size (b_w HB))); replace HO_351004 := Aside0.mk (Kd.R_elder' (kR' HO_351004) (Kd.R_base ho0) hb); replace BK350 := bb BK350 hb; replace HB := bs HB hb; clear hb; (try clear ho0))); try go_wp2_with (first | (go_at_call 82; (with_reducible refine (marginaliaref16_Join.calls k2 _ _ x11_2 t367 false _ ?side1 ?side2 A44.out).mono ?_); (case side1 => repeat (first | exact (Kd.S_reads' HO_11.out).2.2 | (with_reducible refine Kd.C_alloc ?_ _) | (with_reducible refine Kd.C_drewN ?_ _) | (with_reducible refine Kd.C_drew ?_))); (case side2 => exact (Kd.S_reads' HO_11.out).2.1); rintro e w52 ⟨v369, rfl, ho0, hb⟩; replace HO_11 := Aside0.mk (Kd.S_elder' (kS' HO_11) (Kd.R_base ho0) hb); have HO370 := Aside0.mk (Kd.R_lower (Kd.R_new' ho0 (Kd.R_lt (kR' HO_351004))) (below_size (b_w HB))); replace HO_351004 := Aside0.mk (Kd.R_elder' (kR' HO_351004) (Kd.R_base ho0) hb); replace BK350 := bb BK350 hb; replace HB := bs HB hb; clear hb; (try clear ho0))))
     go_ret3
     exact ⟨_, er, rn, b_w HB⟩
   subst c45
   replace H := it H
   simp only [Option.some.injEq, Prod.mk.injEq] at H
   obtain ⟨rfl, rfl, rfl⟩ := H
   obtain ⟨_,_,_,_,_,_,_,_,_,_⟩ := cz5 BK350.out
   obtain ⟨Ao47, co47, eo47⟩ := Kd.S_slice HO_11.out
   subst eo47
   go_wp2_with (first | (go_at_call 82; (with_reducible refine (marginaliaref16_Join.calls k2 _ _ x11_2 t367 true _ ?side1 ?side2 A44.out).mono ?_); (case side1 => repeat (first | exact (Kd.S_reads' HO_11.out).2.2 | (with_reducible refine Kd.C_alloc ?_ _) | (with_reducible refine Kd.C_drewN ?_ _) | (with_reducible refine Kd.C_drew ?_))); (case side2 => exact (Kd.S_reads' HO_11.out).2.1); rintro e w48 ⟨v369, rfl, ho0, hb⟩; replace HO_11 := Aside0.mk (Kd.S_elder' (kS' HO_11) (Kd.R_base ho0) hb); have HO370 := Aside0.mk (Kd.R_lower (Kd.R_new' ho0 (Kd.R_lt (kR' HO_351004))) (below_size (b_w HB))); replace HO_351004 := Aside0.mk (Kd.R_elder' (kR' HO_351004) (Kd.R_base ho0) hb); replace BK350 := bb BK350 hb; replace HB := bs HB hb; clear hb; (try clear ho0); obtain ⟨hcz49_0,hcz49_1,hcz49_2,hcz49_3,hcz49_4,hfz49_0,hfz49_1,hfz49_2,hfz49_3,hfz49_4⟩ := cz5 BK350.out))
   repeat (go_quiet (first | (go_at_call 82; (with_reducible refine (marginaliaref16_Join.calls k2 _ _ x11_2 t367 true _ ?side1 ?side2 A44.out).mono ?_); (case side1 => repeat (first | exact (Kd.S_reads' HO_11.out).2.2 | (with_reducible refine Kd.C_alloc ?_ _) | (with_reducible refine Kd.C_drewN ?_ _) | (with_reducible refine Kd.C_drew ?_))); (case side2 => exact (Kd.S_reads' HO_11.out).2.1); rintro e w48 ⟨v369, rfl, ho0, hb⟩; replace HO_11 := Aside0.mk (Kd.S_elder' (kS' HO_11) (Kd.R_base ho0) hb); have HO370 := Aside0.mk (Kd.R_lower (Kd.R_new' ho0 (Kd.R_lt (kR' HO_351004))) (below_size (b_w HB))); replace HO_351004 := Aside0.mk (Kd.R_elder' (kR' HO_351004) (Kd.R_base ho0) hb); replace BK350 := bb BK350 hb; replace HB := bs HB hb; clear hb; (try clear ho0); obtain ⟨hcz49_0,hcz49_1,hcz49_2,hcz49_3,hcz49_4,hfz49_0,hfz49_1,hfz49_2,hfz49_3,hfz49_4⟩ := cz5 BK350.out)); try go_wp2_with (first | (go_at_call 82; (with_reducible refine (marginaliaref16_Join.calls k2 _ _ x11_2 t367 true _ ?side1 ?side2 A44.out).mono ?_); (case side1 => repeat (first | exact (Kd.S_reads' HO_11.out).2.2 | (with_reducible refine Kd.C_alloc ?_ _) | (with_reducible refine Kd.C_drewN ?_ _) | (with_reducible refine Kd.C_drew ?_))); (case side2 => exact (Kd.S_reads' HO_11.out).2.1); rintro e w48 ⟨v369, rfl, ho0, hb⟩; replace HO_11 := Aside0.mk (Kd.S_elder' (kS' HO_11) (Kd.R_base ho0) hb); have HO370 := Aside0.mk (Kd.R_lower (Kd.R_new' ho0 (Kd.R_lt (kR' HO_351004))) (below_size (b_w HB))); replace HO_351004 := Aside0.mk (Kd.R_elder' (kR' HO_351004) (Kd.R_base ho0) hb); replace BK350 := bb BK350 hb; replace HB := bs HB hb; clear hb; (try clear ho0); obtain ⟨hcz49_0,hcz49_1,hcz49_2,hcz49_3,hcz49_4,hfz49_0,hfz49_1,hfz49_2,hfz49_3,hfz49_4⟩ := cz5 BK350.out)))
   go_ret3
   exact ⟨_, er, rR (Kd.R_mono (HO370.out) (fun _ hk => trivial)), b_w HB⟩
 rw [if_pos c22] at H
 have c22b0 := decide_eq_true c22
 clear c22
 obtain ⟨ji23, hji23⟩ : ∃ j_ : Int, (wrap64 (a1 + x12_2)) = j_ := ⟨_, rfl⟩
 replace H : (if 0 ≤ (ji23) then (if (ji23) < (l0.length : Int) then ((conv_Decode.f k2 (rdOf ByteArray.empty l0 (ji23))).bind fun bt355 => (if bt355.2.2.2.2.2 = 0 then (if x11_2.length < 2513169434916 then (marginaliaref17_record.l0 k2 l0 a1 (x11_2 ++ [(⟨bt355.1, bt355.2.1, bt355.2.2.1, bt355.2.2.2.1, bt355.2.2.2.2.1⟩ : S106)]) (wrap64 (x12_2 + 1)) t342 t343 t344 t345 t346) else (none)) else (some (([] : List Int), 0, 0)))) else (none)) else (none)) = some (r1, r2, r3) := by first | (rw [hji23] at H; exact H) | (simp only [hji23] at H ⊢; exact H)
 have hji23w : (IntKind.i64.wrap (a1 + x12_2)) = ji23 := (i64_w _).trans hji23
 obtain ⟨c24, H⟩ := ifN H
 have c24b0 := decide_eq_true c24
 clear c24
 obtain ⟨c25, H⟩ := ifN H
 have c25b0 := decide_eq_true c25
 clear c25
 replace H := Option.bind_eq_some_iff.mp H
 obtain ⟨⟨t355, t356, t357, t358, t359, t362⟩, A260, H⟩ := H
 replace H : (if t362 = 0 then (if x11_2.length < 2513169434916 then (marginaliaref17_record.l0 k2 l0 a1 (x11_2 ++ [(⟨t355, t356, t357, t358, t359⟩ : S106)]) (wrap64 (x12_2 + 1)) t342 t343 t344 t345 t346) else (none)) else (some (([] : List Int), 0, 0))) = some (r1, r2, r3) := H
 have A26 := Aside0.mk A260
 clear A260
 by_cases c27 : t362 = 0
 rotate_left
 · rw [if_neg c27] at H
   have c27b0 := beq_eq_false_iff_ne.mpr c27
   have c27b1 := bne_iff_ne.mpr c27
   simp only [Option.some.injEq, Prod.mk.injEq] at H
   obtain ⟨rfl, rfl, rfl⟩ := H
   obtain ⟨_,_,_,_,_,_,_,_,_,_⟩ := cz5 BK350.out
   have p354 : 0 ≤ ((ji23) : Int) := od
   have q354 : (ji23) < (l0.length : Int) := od
   obtain ⟨ad354, e354, hx354_0⟩ := Kd.at_string HR0.out (ji23) p354 q354
   obtain rfl : ad341 = ad354 := (by injection e354)
   replace hx354_0 := xb HB hx354_0
   replace p354 := eq_true p354
   replace q354 := eq_true q354
   go_wp2_with (first | (go_at_call 70; (with_reducible refine (conv_Decode.calls k2 (rdOf ByteArray.empty l0 (ji23)) t355 t356 t357 t358 t359 t362 _ A26.out).mono ?_); rintro e w39 ⟨v360, rfl, ho0, hb⟩; replace HO_11 := Aside0.mk (Kd.S_elder' (kS' HO_11) (Kd.R_base ho0) hb); have HO361 := Aside0.mk (Kd.R_lower (Kd.R_new' ho0 (Kd.R_lt (kR' HO_351004))) (below_size (b_w HB))); replace HO_351004 := Aside0.mk (Kd.R_elder' (kR' HO_351004) (Kd.R_base ho0) hb); replace BK350 := bb BK350 hb; replace HB := bs HB hb; clear hb; (try clear ho0)) | ((with_reducible refine gate_dst (N := 13) rfl ?_); (try (refine gate_guard (by rfl) ?_; dsimp only)); refine bx 13 #[.int .u64 0, .int .u64 0, .int .i64 0, .int .i64 0, .slice none 0 0] 106 ?_; intro gb363 hg w40 hbox hb; replace HO_11 := Aside0.mk (Kd.S_below (Kd.S_elderB (kS' HO_11) gb363 (Nat.le_of_eq hg.symm)) hb); replace HO_351004 := Aside0.mk (Kd.R_below (kR' HO_351004) hb); replace HO361 := Aside0.mk (Kd.R_below (kR' HO361) hb); have BK363 := Aside0.mk (hbox); have GW363 := gs HB hg; have GE363 := gs HB hg; replace HB := bs HB hb; have NB350_363 := nl BK350 hg; have NB363_350 := ng BK350 hg; replace BK350 := bb BK350 hb; clear hb hbox hg; have hnb41 := NB363_350.out; have hnc41 := NB350_363.out; obtain ⟨_,_,_,_,_,_,_,_,_,_⟩ := cz5 BK363.out; obtain ⟨Ao43, co43, eo43⟩ := Kd.R_slice HO361.out; subst eo43))
   go_ret3
   exact ⟨_, by first | rfl | (simp [errW_none, errW_some] <;> rfl) | (simp only [← hji23]; first | rfl | (simp [errW_none, errW_some] <;> rfl)) | (simp [*, errW_none, errW_some] <;> rfl), rn, b_w HB⟩
 rw [if_pos c27] at H
 have c27b0 := beq_iff_eq.mpr c27
 have c27b1 := bne_eq_false_iff_eq.mpr c27
 clear c27
 obtain ⟨c28, H⟩ := ifN H
 have LMc28 := Aside0.mk c28
 clear c28
 obtain ⟨y364, Ny364⟩ := yy ((x11_2 ++ [(⟨t355, t356, t357, t358, t359⟩ : S106)]) : List (S106))
 replace H : (marginaliaref17_record.l0 k2 l0 a1 y364 (wrap64 (x12_2 + 1)) t342 t343 t344 t345 t346) = some (r1, r2, r3) := yx Ny364 H
 have H' := Aside0.mk H
 clear H
 obtain ⟨_,_,_,_,_,_,_,_,_,_⟩ := cz5 BK350.out
 have p354 : 0 ≤ ((ji23) : Int) := od
 have q354 : (ji23) < (l0.length : Int) := od
 obtain ⟨ad354, e354, hx354_0⟩ := Kd.at_string HR0.out (ji23) p354 q354
 obtain rfl : ad341 = ad354 := (by injection e354)
 replace hx354_0 := xb HB hx354_0
 replace p354 := eq_true p354
 replace q354 := eq_true q354
 go_wp2_with (first | (go_at_call 70; (with_reducible refine (conv_Decode.calls k2 (rdOf ByteArray.empty l0 (ji23)) t355 t356 t357 t358 t359 t362 _ A26.out).mono ?_); rintro e w30 ⟨v360, rfl, ho0, hb⟩; replace HO_11 := Aside0.mk (Kd.S_elder' (kS' HO_11) (Kd.R_base ho0) hb); have HO361 := Aside0.mk (Kd.R_lower (Kd.R_new' ho0 (Kd.R_lt (kR' HO_351004))) (below_size (b_w HB))); replace HO_351004 := Aside0.mk (Kd.R_elder' (kR' HO_351004) (Kd.R_base ho0) hb); replace BK350 := bb BK350 hb; replace HB := bs HB hb; clear hb; (try clear ho0)) | ((with_reducible refine gate_dst (N := 13) rfl ?_); (try (refine gate_guard (by rfl) ?_; dsimp only)); refine bx 13 #[.int .u64 0, .int .u64 0, .int .i64 0, .int .i64 0, .slice none 0 0] 106 ?_; intro gb363 hg w31 hbox hb; replace HO_11 := Aside0.mk (Kd.S_below (Kd.S_elderB (kS' HO_11) gb363 (Nat.le_of_eq hg.symm)) hb); replace HO_351004 := Aside0.mk (Kd.R_below (kR' HO_351004) hb); replace HO361 := Aside0.mk (Kd.R_below (kR' HO361) hb); have BK363 := Aside0.mk (hbox); have GW363 := gs HB hg; have GE363 := gs HB hg; replace HB := bs HB hb; have NB350_363 := nl BK350 hg; have NB363_350 := ng BK350 hg; replace BK350 := bb BK350 hb; clear hb hbox hg; have hnb32 := NB363_350.out; have hnc32 := NB350_363.out; obtain ⟨_,_,_,_,_,_,_,_,_,_⟩ := cz5 BK363.out; obtain ⟨Ao34, co34, eo34⟩ := Kd.R_slice HO361.out; subst eo34) | ((with_reducible refine gate_store (t := 106) (p := 13) rfl ?_); (try (rw [drewN_self w31]; generalize hq_ : World.drewN w31 _ = w31; replace HO_11 := Aside0.mk (Kd.S_at hq_ HO_11.out); replace HO_351004 := Aside0.mk (Kd.R_at hq_ HO_351004.out); replace HO361 := Aside0.mk (Kd.R_at hq_ HO361.out); replace BK350 := Aside0.mk (blk_at hq_ BK350.out); replace BK363 := Aside0.mk (blk_at hq_ BK363.out); replace HB := Aside0.mk (below_at hq_ HB.out); clear hq_)); refine store_event (t := 106) (p := 13) (v := ?vo_w35) (w1 := (((((w31.setCell ⟨gb363, 0, none⟩ (.int .u64 t355)).setCell ⟨gb363, 1, none⟩ (.int .u64 t356)).setCell ⟨gb363, 2, none⟩ (.int .i64 t357)).setCell ⟨gb363, 3, none⟩ (.int .i64 t358)).setCell ⟨gb363, 4, none⟩ (.slice Ao34 t359.length co34))) ?hg ?ho ?hn ?hr ?_; (case ho => rfl); (case hg => rfl); (case hn => rfl); (case hr => first | (go_simp; done) | (go_simp; rfl)); intro w35 hw; have n0_ : Aside0 (Kd.S k106 106 w35 w.heap.size (fun k_ => some k_ ≠ (.slice Ao12 t346.length co12 : Value).ownBlock ∧ some k_ ≠ (.slice Ao34 t359.length co34 : Value).ownBlock ∧ k_ ≠ gb350 ∧ k_ ≠ gb363) u11 x11_2) := ⟨(by rw [hw]; exact (by (with_reducible repeat (first | apply Kd.S_alloc | apply Kd.S_drewN | apply Kd.S_drew)); exact Kd.S_mono (Kd.S_far (p := ⟨gb363, 4, none⟩) (Kd.S_far (p := ⟨gb363, 3, none⟩) (Kd.S_far (p := ⟨gb363, 2, none⟩) (Kd.S_far (p := ⟨gb363, 1, none⟩) (Kd.S_far (p := ⟨gb363, 0, none⟩) (Kd.S_mono HO_11.out (fun k_ hk => (⟨hk, hk.2⟩ : _ ∧ k_ ≠ gb363))) (fun _ hk => hk.2) (.int .u64 t355)) (fun _ hk => hk.2) (.int .u64 t356)) (fun _ hk => hk.2) (.int .i64 t357)) (fun _ hk => hk.2) (.int .i64 t358)) (fun _ hk => hk.2) (.slice Ao34 t359.length co34)) (fun _ hk => ⟨hk.1.1.1.1, ⟨hk.1.1.2, ⟨hk.1.1.1.2, hk.1.2⟩⟩⟩)))⟩; have n1_ : Aside0 (Kd.R (Kd.int .u8) 5 w35 w.heap.size (fun k_ => some k_ ≠ (.slice Ao34 t359.length co34 : Value).ownBlock) (.slice Ao12 t346.length co12) t346) := ⟨(by rw [hw]; exact (rR (Kd.R_mono (fR5 (tR HO_351004 BK363) (fun _ hk => hk.2)) (fun _ hk => hk.1.2))))⟩; have n2_ : Aside0 (Kd.R (Kd.int .u8) 5 w35 w.heap.size (fun k_ => some k_ ≠ (.slice Ao12 t346.length co12 : Value).ownBlock) (.slice Ao34 t359.length co34) t359) := ⟨(by rw [hw]; exact (rR (Kd.R_mono (fR5 (tR HO361 BK363) (fun _ hk => hk.2)) (fun _ hk => hk.1.2))))⟩; have n3_ : Aside0 (w35.heap[gb350]? = some (.cells #[.int .u64 t342, .int .u64 t343, .int .i64 t344, .int .i64 t345, .slice Ao12 t346.length co12] 106 (0, 0))) := ⟨(by rw [hw]; exact (bp BK350))⟩; have n4_ : Aside0 (w35.heap[gb363]? = some (.cells #[.int .u64 t355, .int .u64 t356, .int .i64 t357, .int .i64 t358, .slice Ao34 t359.length co34] 106 (0, 0))) := ⟨(by rw [hw]; exact (bp BK363))⟩; have n5_ : Aside0 (Below w.heap.size w w35) := ⟨(by rw [hw]; exact (b_w HB))⟩; clear hw; clear HO_11; clear HO_351004; clear HO361; clear BK350; clear BK363; clear HB; have HO_11 := n0_; have HO_351004 := n1_; have HO361 := n2_; have BK350 := n3_; have BK363 := n4_; have HB := n5_; clear n0_ n1_ n2_ n3_ n4_ n5_; obtain ⟨_,_,_,_,_,_,_,_,_,_⟩ := cz5 BK363.out) | ((with_reducible refine gate_builtin (b := .append) (xs := #[.tmp 72, .tmp 74]) rfl ?_); (try (refine gate_guard (by rfl) ?_; dsimp only)); at_builtin; refine Kd.S_append k106 (w0 := w) w.heap.size rfl (.tmp 72) (.tmp 74) 62 106 (.agg #[(.int .u64 0), (.int .u64 0), (.int .i64 0), (.int .i64 0), (.slice none 0 0)]) 56 rfl Try.underlying62 info106 rfl (by decide) (by omega) u11 x11_2 (⟨t355, t356, t357, t358, t359⟩ : S106) [.int .u64 t355, .int .u64 t356, .int .i64 t357, .int .i64 t358, .slice Ao34 t359.length co34] (fun k_ => some k_ ≠ (.slice Ao12 t346.length co12 : Value).ownBlock ∧ k_ ≠ gb350 ∧ k_ ≠ gb363) (fun k_ => some k_ = (.slice Ao34 t359.length co34 : Value).ownBlock) rfl rfl ?aP (fun k_ hk_ => ((Kd.R_mono (ok' := fun k_ => ((fun k_ => some k_ ≠ (.slice Ao12 t346.length co12 : Value).ownBlock ∧ k_ ≠ gb350 ∧ k_ ≠ gb363)) k_ ∧ some k_ ≠ (u11 : Value).ownBlock) (Kd.R_types (Kd.R_types (Kd.R_apart' (HO361.out) (Kd.S_typed HO_11.out) (by decide)) BK350.out (by decide)) BK363.out (by decide)) (fun k_ hk => ⟨⟨hk.1.1.1, ⟨hk.1.2, hk.2⟩⟩, hk.1.1.2⟩))).1 k_ hk_.symm) ?aF ?aO ?aB ?aS ?aL ?_; (case aP => exact k106_mkM _ _ _ (⟨t355, t356, t357, t358, t359⟩ : S106) (Kd.R_mono (Kd.R_tight rfl (Kd.R_mono (ok' := fun k_ => ((fun k_ => some k_ ≠ (.slice Ao12 t346.length co12 : Value).ownBlock ∧ k_ ≠ gb350 ∧ k_ ≠ gb363)) k_ ∧ some k_ ≠ (u11 : Value).ownBlock) (Kd.R_types (Kd.R_types (Kd.R_apart' (HO361.out) (Kd.S_typed HO_11.out) (by decide)) BK350.out (by decide)) BK363.out (by decide)) (fun k_ hk => ⟨⟨hk.1.1.1, ⟨hk.1.2, hk.2⟩⟩, hk.1.1.2⟩))) (fun _ h_ => h_))); (case aB => exact (b_w HB)); (case aF => exact (fun k_ hk => ⟨Kd.fresh' (Kd.R_lt (kR' HO_351004)) k_ hk, Kd.freshB (g := gb350) (o := .cells #[.int .u64 t342, .int .u64 t343, .int .i64 t344, .int .i64 t345, .slice Ao12 t346.length co12] 106 (0, 0)) (bk BK350) k_ hk, Kd.freshB (g := gb363) (o := .cells #[.int .u64 t355, .int .u64 t356, .int .i64 t357, .int .i64 t358, .slice Ao34 t359.length co34] 106 (0, 0)) (bk BK363) k_ hk⟩)); (case aO => exact (by (with_reducible repeat (first | apply Kd.S_alloc | apply Kd.S_drewN | apply Kd.S_drew)); exact Kd.S_mono HO_11.out (fun k_ hk => ⟨⟨hk.1, ⟨hk.2.2.1, hk.2.2.2⟩⟩, fun e_ => hk.2.1 e_⟩))); (case aS => exact (below_size (b_w HB))); (case aL => have := LMc28.out; omega); intro v365 w37 ho hb hg hat; rw [← Ny364.out] at ho; replace HO_351004 := Aside0.mk (Kd.R_over' (kR' HO_351004) (Kd.S_typed (kS' HO_11)) (by decide) hg); replace BK350 := Aside0.mk (blk_grown (g := gb350) (o := .cells #[.int .u64 t342, .int .u64 t343, .int .i64 t344, .int .i64 t345, .slice Ao12 t346.length co12] 106 (0, 0)) (bk BK350) hg (Kd.S_away HO_11.out (fun _ hk => hk.2.2.1))); replace BK363 := Aside0.mk (blk_grown (g := gb363) (o := .cells #[.int .u64 t355, .int .u64 t356, .int .i64 t357, .int .i64 t358, .slice Ao34 t359.length co34] 106 (0, 0)) (bk BK363) hg (Kd.S_away HO_11.out (fun _ hk => hk.2.2.2))); replace HB := Aside0.mk (hb); have HO366 := Aside0.mk (ho); clear HO_11 HO361; clear ho hb hg hat))
 go_roundg k2
 case measure => have := HJ7.out; have := HK2.out; omega
 case rel => exact ⟨(y364), (wrap64 (x12_2 + 1)), sm, H', ⟨by have := HJ7.out; have := HK2.out; omega⟩, ⟨by (with_reducible repeat (first | apply Kd.S_alloc | apply Kd.S_drewN | apply Kd.S_drew)); exact Kd.S_mono HO366.out (fun _ hk => ⟨hk.1, hk.2.1⟩)⟩, ⟨rR (Kd.R_mono (HO_351004.out) (fun _ hk => trivial))⟩, ⟨bk BK350⟩, ⟨b_w HB⟩⟩
end Go.Proofs.Ytepipgneefcoiaa.D
namespace Go.Proofs.Ytepipgneefcoiaa.D
open Go.RowKit Go.Proofs.YtepipgneefcoiaaW.PrintWords Go.Proofs.YtepipgneefcoiaaW.PrintLast Go.Proofs.YtepipgneefcoiaaW.PrintMore
mutual
def marginaliaref17_Open.j0 : Nat → Int → Int → Int → Bool → List ByteArray → List (S111) → Int → Bool → Bool → Option (Int × Int × Int × Int × Int × (List (List Int)) × Bool × Int)
  | 0, _, _, _, _, _, _, _, _, _ => none
  | k + 1, x1, x2, x3, x42, x372000, x372001, x372002, x372003, x372004 => if x42 = true then (some (0, 0, 0, 0, 0, ([] : List (List Int)), false, 1)) else (if x372004 = true then (some (0, 0, 0, 0, 0, ([] : List (List Int)), false, 9)) else ((marginaliaref17_sectors.f k x372000 x372001 x372002 x372003 x372004 x1 x2).bind fun t373 => (marginaliaref17_Open.l0 k x1 x2 x3 t373 0 0)))
def marginaliaref17_Open.l0 : Nat → Int → Int → Int → List ByteArray → Int → Int → Option (Int × Int × Int × Int × Int × (List (List Int)) × Bool × Int)
  | 0, _, _, _, _, _, _ => none
  | k + 1, x1, x2, x3, x11, x12, x13 => if x13 < (x11.length : Int) then (if 0 ≤ x13 then ((conv_Decode.f k (rdOf ByteArray.empty x11 x13)).bind fun bt377 => (if bt377.2.2.2.2.2 = 0 then (if bt377.2.1 > x12 then (marginaliaref17_Open.l0 k x1 x2 x3 x11 bt377.2.1 (wrap64 (x13 + 1))) else (marginaliaref17_Open.l0 k x1 x2 x3 x11 x12 (wrap64 (x13 + 1)))) else (marginaliaref17_Open.l0 k x1 x2 x3 x11 x12 (wrap64 (x13 + 1))))) else (none)) else (if x12 = 18446744073709551615 then (some (0, 0, 0, 0, 0, ([] : List (List Int)), false, 8)) else ((marginaliaref17_record.f k x11 0 x3).bind fun bt387 => (marginaliaref17_Open.l1 k x3 x11 0 bt387.1 bt387.2.1 bt387.2.2 x1 x2 x3 (IntKind.u64.wrap (x12 + 1)) 0 ([] : List (List Int)) false)))
def marginaliaref17_Open.l1 : Nat → Int → List ByteArray → Int → List Int → Int → Int → Int → Int → Int → Int → Int → List (List Int) → Bool → Option (Int × Int × Int × Int × Int × (List (List Int)) × Bool × Int)
  | 0, _, _, _, _, _, _, _, _, _, _, _, _, _ => none
  | k + 1, x3, x11, x17, x18, x19, x20, x387000, x387001, x387002, x387003, x387004, x387005, x387006 => if x20 > 0 then (if x19 ≥ x17 then (if x387005.length < 5864062014805 then ((marginaliaref17_record.f k x11 (wrap64 (x387004 + x20)) x3).bind fun bt395 => (marginaliaref17_Open.l1 k x3 x11 x19 bt395.1 bt395.2.1 bt395.2.2 x387000 x387001 x387002 x387003 (wrap64 (x387004 + x20)) (x387005 ++ [x18]) x387006)) else (none)) else (some (x387000, x387001, x387002, x387003, x387004, x387005, x387006, 0))) else (some (x387000, x387001, x387002, x387003, x387004, x387005, x387006, 0))
end
def marginaliaref17_Open.f (k : Nat) (l0_0 : List ByteArray) (l0_1 : List (S111)) (a0_2 : Int) (a0_3 : Bool) (a0_4 : Bool) (a1 : Int) (a2 : Int) (a3 : Int) : Option (Int × Int × Int × Int × Int × (List (List Int)) × Bool × Int) := if a1 < 0 then (marginaliaref17_Open.j0 k a1 a2 a3 true l0_0 l0_1 a0_2 a0_3 a0_4) else (if a2 < 1 then (marginaliaref17_Open.j0 k a1 a2 a3 true l0_0 l0_1 a0_2 a0_3 a0_4) else (if a2 > (wrap64 ((l0_0.length : Int) / 4)) then (marginaliaref17_Open.j0 k a1 a2 a3 true l0_0 l0_1 a0_2 a0_3 a0_4) else (marginaliaref17_Open.j0 k a1 a2 a3 (decide (a1 > (wrap64 ((wrap64 ((l0_0.length : Int) / 4)) - a2)))) l0_0 l0_1 a0_2 a0_3 a0_4)))
set_option maxHeartbeats 8000000 in
set_option maxRecDepth 100000 in
theorem marginaliaref17_Open.calls (k : Nat) (A0_0 : Option Addr) (c0_0 : Nat) (l0_0 : List ByteArray) (A0_1 : Option Addr) (c0_1 : Nat) (l0_1 : List (S111)) (a0_2 : Int) (a0_3 : Bool) (a0_4 : Bool) (a1 : Int) (a2 : Int) (a3 : Int) (r1 : Int) (r2 : Int) (r3 : Int) (r4 : Int) (r5 : Int) (r6 : List (List Int)) (r7 : Bool) (r8 : Int) (w : World) (hr0_0 : Kd.C Kd.string w A0_0 l0_0.length l0_0) (hc0_0 : l0_0.length ≤ c0_0) (hr0_1 : Kd.C k111 w A0_1 l0_1.length l0_1) (hc0_1 : l0_1.length ≤ c0_1) (h : marginaliaref17_Open.f k l0_0 l0_1 a0_2 a0_3 a0_4 a1 a2 a3 = some (r1, r2, r3, r4, r5, r6, r7, r8)) :
    Calls Try.prog 36 #[.agg #[.slice A0_0 l0_0.length c0_0, .slice A0_1 l0_1.length c0_1, .int .i64 a0_2, .bool a0_3, .bool a0_4], .int .i64 a1, .int .i64 a2, .int .u64 a3] w fun e w' => ∃ v5_ : Value, e = .returned (.tuple #[.agg #[.int .i64 r1, .int .i64 r2, .int .u64 r3, .int .u64 r4, .int .i64 r5, v5_, .bool r7], .int .i64 r8]) ∧ Kd.S (Kd.slice 5 (Kd.int .u8)) 27 w' w.heap.size (fun _ => True) v5_ r6 ∧ Below w.heap.size w w' := by
 have hu51 := Try.underlying51
 have hu69 := Try.underlying69
 have hu106 := Try.underlying106
 have HR0_0 := Aside0.mk hr0_0
 have HC0_0 := Aside0.mk hc0_0
 clear hr0_0 hc0_0
 have HR0_1 := Aside0.mk hr0_1
 have HC0_1 := Aside0.mk hc0_1
 clear hr0_1 hc0_1
 have HB := Aside0.mk (Below.refl w.heap.size w)
 have H : (if a1 < 0 then (marginaliaref17_Open.j0 k a1 a2 a3 true l0_0 l0_1 a0_2 a0_3 a0_4) else (if a2 < 1 then (marginaliaref17_Open.j0 k a1 a2 a3 true l0_0 l0_1 a0_2 a0_3 a0_4) else (if a2 > (wrap64 ((l0_0.length : Int) / 4)) then (marginaliaref17_Open.j0 k a1 a2 a3 true l0_0 l0_1 a0_2 a0_3 a0_4) else (marginaliaref17_Open.j0 k a1 a2 a3 (decide (a1 > (wrap64 ((wrap64 ((l0_0.length : Int) / 4)) - a2)))) l0_0 l0_1 a0_2 a0_3 a0_4)))) = some (r1, r2, r3, r4, r5, r6, r7, r8) := h
 clear h
 have HC5 := Aside0.mk H
 clear H
 have cv_ := fun (W_ : World) (s_ : ByteArray) => Lib.run_convert_string_bytes (P := Try.prog) W_ 9 27 5 s_ Try.underlying9 Try.underlying27 Try.underlying5
 go_enter Try.func36, Try.ntmps36
 go_upto_region 2 with (first | ((with_reducible refine gate_dst (N := 4) rfl ?_); refine bx 4 #[.slice A0_0 l0_0.length c0_0, .slice A0_1 l0_1.length c0_1, .int .i64 a0_2, .bool a0_3, .bool a0_4] 51 ?_; intro gb371 hg w6 hbox hb; have BK371 := Aside0.mk (hbox); have GW371 := gs HB hg; have GE371 := gs HB hg; replace HB := bs HB hb; clear hb hbox hg) | ((with_reducible refine gate_dst (N := 8) rfl ?_); refine bx 8 #[.int .i64 0, .int .i64 0, .int .u64 0, .int .u64 0, .int .i64 0, .slice none 0 0, .bool false] 69 ?_; intro gb372 hg w7 hbox hb; have BK372 := Aside0.mk (hbox); have GW372 := gs HB hg; have GE372 := gs HB hg; replace HB := bs HB hb; have NB371_372 := nl BK371 hg; have NB372_371 := ng BK371 hg; replace BK371 := bb BK371 hb; clear hb hbox hg; have hnb8 := NB371_372.out; have hnc8 := NB372_371.out; obtain ⟨_,_,_,_,_,_,_,_,_,_⟩ := cz5 BK371.out))
 (try simp only [Act.put, List.setIfInBounds_toArray, List.set_cons_zero, List.set_cons_succ])
 go_cut [42] (fun v42 wc => ∃ (kq : Nat) (x42_4 : Bool), v42 = .bool x42_4 ∧ Aside0 (marginaliaref17_Open.j0 kq a1 a2 a3 x42_4 l0_0 l0_1 a0_2 a0_3 a0_4 = some (r1, r2, r3, r4, r5, r6, r7, r8)) ∧ Aside0 (kq ≤ k) ∧ Aside0 (wc.heap[gb371]? = some (.cells #[(.slice A0_0 l0_0.length c0_0), (.slice A0_1 l0_1.length c0_1), .int .i64 a0_2, .bool a0_3, .bool a0_4] 51 (0, 0))) ∧ Aside0 (wc.heap[gb372]? = some (.cells #[.int .i64 0, .int .i64 0, .int .u64 0, .int .u64 0, .int .i64 0, (.slice none 0 0), .bool false] 69 (0, 0))) ∧ Aside0 (Below w.heap.size w wc))
 case first =>
  have H := HC5.out
  clear HC5
  by_cases c10 : a1 < 0
  · rw [if_pos c10] at H
    have c10b0 := decide_eq_true c10
    clear c10
    (first | rw [c10b0] | (simp only [i64_w, i32_w]; rw [c10b0]) | skip)
    have H' := Aside0.mk H
    clear H
    go_wp2
    go_meet
    case rel => exact ⟨_, (true), sm, H', ⟨om⟩, ⟨bk BK371⟩, ⟨bk BK372⟩, ⟨b_w HB⟩⟩
  rw [if_neg c10] at H
  have c10b0 := decide_eq_false c10
  clear c10
  (first | rw [c10b0] | (simp only [i64_w, i32_w]; rw [c10b0]) | skip)
  by_cases c11 : a2 < 1
  · rw [if_pos c11] at H
    have c11b0 := decide_eq_true c11
    clear c11
    have H' := Aside0.mk H
    clear H
    go_wp2
    go_meet
    case rel => exact ⟨_, (true), sm, H', ⟨om⟩, ⟨bk BK371⟩, ⟨bk BK372⟩, ⟨b_w HB⟩⟩
  rw [if_neg c11] at H
  have c11b0 := decide_eq_false c11
  clear c11
  by_cases c12 : a2 > (wrap64 ((l0_0.length : Int) / 4))
  · rw [if_pos c12] at H
    have c12b0 := decide_eq_true c12
    clear c12
    have H' := Aside0.mk H
    clear H
    go_wp2
    go_meet
    case rel => exact ⟨_, (true), sm, H', ⟨om⟩, ⟨bk BK371⟩, ⟨bk BK372⟩, ⟨b_w HB⟩⟩
  rw [if_neg c12] at H
  have c12b0 := decide_eq_false c12
  clear c12
  have H' := Aside0.mk H
  clear H
  go_wp2
  go_meet
  case rel => exact ⟨_, (decide (a1 > (wrap64 ((wrap64 ((l0_0.length : Int) / 4)) - a2)))), sm, H', ⟨om⟩, ⟨bk BK371⟩, ⟨bk BK372⟩, ⟨b_w HB⟩⟩
 clear HC5
 try clear c1
 try clear p2
 try clear c3
 try clear p6
 try clear c8
 try clear c10
 try clear c10b0
 try clear c11
 try clear c11b0
 try clear c12
 try clear c12b0
 obtain ⟨kq, x42_4, rfl, HA, HJ4, BK371, BK372, HB⟩ := hcut
 cases kq with
 | zero => exact absurd HA.out (by simp [marginaliaref17_Open.j0])
 | succ kj4 => ?_
 have H := HA.out
 clear HA
 simp only [marginaliaref17_Open.j0] at H
 by_cases c13 : x42_4 = true
 · subst c13
   replace H := it H
   simp only [Option.some.injEq, Prod.mk.injEq] at H
   obtain ⟨rfl, rfl, rfl, rfl, rfl, rfl, rfl, rfl⟩ := H
   have hnb14 := NB372_371.out
   have hnc14 := NB371_372.out
   obtain ⟨_,_,_,_,_,_,_,_,_,_,_,_,_,_⟩ := cz7 BK372.out
   go_wp2
   refine bodyPost_ret (results_ct rfl _ _ gb372 69 #[.int .i64 0, .int .i64 0, .int .u64 0, .int .u64 0, .int .i64 0, .slice none 0 0, .bool false] (0, 0) _ rfl (bp BK372) Try.underlying69 rfl (by kernel_rfl)) rfl ?_
   exact ⟨_, er, rn, b_w HB⟩
 replace c13 := Bool.eq_false_iff.mpr c13
 subst c13
 replace H := fi H
 by_cases c16 : a0_4 = true
 · subst c16
   replace H := it H
   simp only [Option.some.injEq, Prod.mk.injEq] at H
   obtain ⟨rfl, rfl, rfl, rfl, rfl, rfl, rfl, rfl⟩ := H
   have hnb17 := NB371_372.out
   have hnc17 := NB372_371.out
   obtain ⟨_,_,_,_,_,_,_,_,_,_⟩ := cz5 BK371.out
   obtain ⟨_,_,_,_,_,_,_,_,_,_,_,_,_,_⟩ := cz7 BK372.out
   go_wp2
   refine bodyPost_ret (results_ct rfl _ _ gb372 69 #[.int .i64 0, .int .i64 0, .int .u64 0, .int .u64 0, .int .i64 0, .slice none 0 0, .bool false] (0, 0) _ rfl (bp BK372) Try.underlying69 rfl (by kernel_rfl)) rfl ?_
   exact ⟨_, er, rn, b_w HB⟩
 replace c16 := Bool.eq_false_iff.mpr c16
 subst c16
 replace H := fi H
 obtain ⟨t373, A20, H⟩ := bnd H
 have H' := Aside0.mk H
 clear H
 have hnb21 := NB371_372.out
 have hnc21 := NB372_371.out
 obtain ⟨_,_,_,_,_,_,_,_,_,_⟩ := cz5 BK371.out
 go_wp2_with (first | ((with_reducible refine gate_callee (f := 69) rfl ?_); refine gl 50 Try.func69 #[.agg #[.slice A0_0 l0_0.length c0_0, .slice A0_1 l0_1.length c0_1, .int .i64 a0_2, .bool a0_3, .bool false], .int .i64 a1, .int .i64 a2] ?_; (with_reducible refine (marginaliaref17_sectors.calls kj4 _ _ l0_0 _ _ l0_1 a0_2 a0_3 false a1 a2 t373 _ ?side1 ?side2 ?side3 ?side4 A20.out).mono ?_); (case side1 => exact kc HR0_0 HB); (case side2 => exact HC0_0.out); (case side3 => exact kc HR0_1 HB); (case side4 => exact HC0_1.out); rintro e w23 ⟨v374, rfl, ho0, hb⟩; refine ⟨_, rfl, ?_⟩; have HO375 := Aside0.mk (Kd.V_lower (Kd.V_mono (ok' := fun k_ => k_ ≠ gb371 ∧ k_ ≠ gb372) ho0 (fun k_ hk_ => ⟨(Kd.freshB (g := gb371) (o := .cells #[.slice A0_0 l0_0.length c0_0, .slice A0_1 l0_1.length c0_1, .int .i64 a0_2, .bool a0_3, .bool false] 51 (0, 0)) (bk BK371) k_ hk_), (Kd.freshB (g := gb372) (o := .cells #[.int .i64 0, .int .i64 0, .int .u64 0, .int .u64 0, .int .i64 0, .slice none 0 0, .bool false] 69 (0, 0)) (bk BK372) k_ hk_)⟩)) (below_size (b_w HB))); replace BK371 := bb BK371 hb; replace BK372 := bb BK372 hb; replace HB := bs HB hb; clear hb; (try clear ho0)))
 go_loopg [12, 13] kj4 (fun kq v12 v13 w' => ∃ (x12_2 : Int) (x13_2 : Int), v12 = .int .u64 x12_2 ∧ v13 = .int .i64 x13_2 ∧ Aside0 (marginaliaref17_Open.l0 kq a1 a2 a3 t373 x12_2 x13_2 = some (r1, r2, r3, r4, r5, r6, r7, r8)) ∧ Aside0 (kq ≤ kj4) ∧ Aside0 (Kd.V Kd.string 9 w' w.heap.size (fun k_ => k_ ≠ gb371 ∧ k_ ≠ gb372) v374 t373) ∧ Aside0 (w'.heap[gb371]? = some (.cells #[(.slice A0_0 l0_0.length c0_0), (.slice A0_1 l0_1.length c0_1), .int .i64 a0_2, .bool a0_3, .bool false] 51 (0, 0))) ∧ Aside0 (w'.heap[gb372]? = some (.cells #[.int .i64 0, .int .i64 0, .int .u64 0, .int .u64 0, .int .i64 0, (.slice none 0 0), .bool false] 69 (0, 0))) ∧ Aside0 (Below w.heap.size w w'))
 case atStart => exact ⟨(0), (0), sm, sm, H', ⟨Nat.le_refl _⟩, ⟨kV' HO375⟩, ⟨bk BK371⟩, ⟨bk BK372⟩, ⟨b_w HB⟩⟩
 clear H'
 try clear c1
 try clear c2
 try clear p2
 try clear c3
 try clear c6
 try clear p6
 try clear c8
 try clear c10
 try clear c10b0
 try clear c11
 try clear c11b0
 try clear c12
 try clear c12b0
 try clear c13
 try clear c14
 try clear c16
 try clear c17
 try clear c21
 try clear p2
 try clear p6
 obtain ⟨x12_2, x13_2, rfl, rfl, HA, HK2, HO_11, BK371, BK372, HB⟩ := hrel
 cases gk with
 | zero => exact absurd HA.out (by simp [marginaliaref17_Open.l0])
 | succ k2 => ?_
 have H := HA.out
 clear HA
 simp only [marginaliaref17_Open.l0] at H
 by_cases c24 : x13_2 < (t373.length : Int)
 · rw [if_pos c24] at H
   have c24b0 := decide_eq_true c24
   clear c24
   obtain ⟨c25, H⟩ := ifN H
   have c25b0 := decide_eq_true c25
   clear c25
   replace H := Option.bind_eq_some_iff.mp H
   obtain ⟨⟨t377, t378, t379, t380, t381, t384⟩, A260, H⟩ := H
   replace H : (if t384 = 0 then (if t378 > x12_2 then (marginaliaref17_Open.l0 k2 a1 a2 a3 t373 t378 (wrap64 (x13_2 + 1))) else (marginaliaref17_Open.l0 k2 a1 a2 a3 t373 x12_2 (wrap64 (x13_2 + 1)))) else (marginaliaref17_Open.l0 k2 a1 a2 a3 t373 x12_2 (wrap64 (x13_2 + 1)))) = some (r1, r2, r3, r4, r5, r6, r7, r8) := H
   have A26 := Aside0.mk A260
   clear A260
   by_cases c27 : t384 = 0
   rotate_left
   · rw [if_neg c27] at H
     have c27b0 := beq_eq_false_iff_ne.mpr c27
     have c27b1 := bne_iff_ne.mpr c27
     have H' := Aside0.mk H
     clear H
     obtain ⟨Ao43, co43, eo43⟩ := Kd.V_slice HO_11.out
     subst eo43
     have p376 : 0 ≤ (x13_2 : Int) := od
     have q376 : x13_2 < (t373.length : Int) := od
     obtain ⟨ad376, e376, hx376_0⟩ := Kd.at_string (Kd.V_reads' HO_11.out).2.2 x13_2 p376 q376
     cases e376
     replace p376 := eq_true p376
     replace q376 := eq_true q376
     go_wp2_with (first | (go_at_call 70; (with_reducible refine (conv_Decode.calls k2 (rdOf ByteArray.empty t373 x13_2) t377 t378 t379 t380 t381 t384 _ A26.out).mono ?_); rintro e w44 ⟨v382, rfl, ho0, hb⟩; replace HO_11 := Aside0.mk (Kd.V_elder' (kV' HO_11) (Kd.R_base ho0) hb); have HO383 := Aside0.mk (Kd.R_lower ho0 (below_size (b_w HB))); replace BK371 := bb BK371 hb; replace BK372 := bb BK372 hb; replace HB := bs HB hb; clear hb; (try clear ho0)) | ((with_reducible refine gate_dst (N := 14) rfl ?_); refine bx 14 #[.int .u64 0, .int .u64 0, .int .i64 0, .int .i64 0, .slice none 0 0] 106 ?_; intro gb385 hg w45 hbox hb; replace HO_11 := Aside0.mk (Kd.V_below (Kd.V_elderB (kV' HO_11) gb385 (Nat.le_of_eq hg.symm)) hb); replace HO383 := Aside0.mk (Kd.R_below (kR' HO383) hb); have BK385 := Aside0.mk (hbox); have GW385 := gs HB hg; have GE385 := gs HB hg; replace HB := bs HB hb; have NB371_385 := nl BK371 hg; have NB385_371 := ng BK371 hg; replace BK371 := bb BK371 hb; have NB372_385 := nl BK372 hg; have NB385_372 := ng BK372 hg; replace BK372 := bb BK372 hb; clear hb hbox hg; have hnb46 := NB385_371.out; have hnc46 := NB371_385.out; have hnb47 := NB385_372.out; have hnc47 := NB372_385.out; obtain ⟨_,_,_,_,_,_,_,_,_,_⟩ := cz5 BK385.out; obtain ⟨Ao49, co49, eo49⟩ := Kd.R_slice HO383.out; subst eo49))
     go_roundg k2
     case measure => have := HJ4.out; have := HK2.out; omega
     case rel => exact ⟨(x12_2), (wrap64 (x13_2 + 1)), sm, sm, H', ⟨by have := HJ4.out; have := HK2.out; omega⟩, ⟨by (with_reducible repeat (first | apply Kd.V_alloc | apply Kd.V_drewN | apply Kd.V_drew)); exact Kd.V_mono (Kd.V_far (p := ⟨gb385, 4, none⟩) (Kd.V_far (p := ⟨gb385, 3, none⟩) (Kd.V_far (p := ⟨gb385, 2, none⟩) (Kd.V_far (p := ⟨gb385, 1, none⟩) (Kd.V_far (p := ⟨gb385, 0, none⟩) (Kd.V_mono HO_11.out (fun k_ hk => (⟨hk, hk.2⟩ : _ ∧ k_ ≠ gb385))) (fun _ hk => hk.2) (.int .u64 t377)) (fun _ hk => hk.2) (.int .u64 t378)) (fun _ hk => hk.2) (.int .i64 t379)) (fun _ hk => hk.2) (.int .i64 t380)) (fun _ hk => hk.2) (.slice Ao49 t381.length co49)) (fun _ hk => ⟨hk.1.1.1.1, hk.1.1.1.2⟩)⟩, ⟨bp BK371⟩, ⟨bp BK372⟩, ⟨b_w HB⟩⟩
   rw [if_pos c27] at H
   have c27b0 := beq_iff_eq.mpr c27
   have c27b1 := bne_eq_false_iff_eq.mpr c27
   clear c27
   by_cases c28 : t378 > x12_2
   · rw [if_pos c28] at H
     have c28b0 := decide_eq_true c28
     clear c28
     have H' := Aside0.mk H
     clear H
     obtain ⟨Ao29, co29, eo29⟩ := Kd.V_slice HO_11.out
     subst eo29
     have p376 : 0 ≤ (x13_2 : Int) := od
     have q376 : x13_2 < (t373.length : Int) := od
     obtain ⟨ad376, e376, hx376_0⟩ := Kd.at_string (Kd.V_reads' HO_11.out).2.2 x13_2 p376 q376
     cases e376
     replace p376 := eq_true p376
     replace q376 := eq_true q376
     go_wp2_with (first | (go_at_call 70; (with_reducible refine (conv_Decode.calls k2 (rdOf ByteArray.empty t373 x13_2) t377 t378 t379 t380 t381 t384 _ A26.out).mono ?_); rintro e w30 ⟨v382, rfl, ho0, hb⟩; replace HO_11 := Aside0.mk (Kd.V_elder' (kV' HO_11) (Kd.R_base ho0) hb); have HO383 := Aside0.mk (Kd.R_lower ho0 (below_size (b_w HB))); replace BK371 := bb BK371 hb; replace BK372 := bb BK372 hb; replace HB := bs HB hb; clear hb; (try clear ho0)) | ((with_reducible refine gate_dst (N := 14) rfl ?_); refine bx 14 #[.int .u64 0, .int .u64 0, .int .i64 0, .int .i64 0, .slice none 0 0] 106 ?_; intro gb385 hg w31 hbox hb; replace HO_11 := Aside0.mk (Kd.V_below (Kd.V_elderB (kV' HO_11) gb385 (Nat.le_of_eq hg.symm)) hb); replace HO383 := Aside0.mk (Kd.R_below (kR' HO383) hb); have BK385 := Aside0.mk (hbox); have GW385 := gs HB hg; have GE385 := gs HB hg; replace HB := bs HB hb; have NB371_385 := nl BK371 hg; have NB385_371 := ng BK371 hg; replace BK371 := bb BK371 hb; have NB372_385 := nl BK372 hg; have NB385_372 := ng BK372 hg; replace BK372 := bb BK372 hb; clear hb hbox hg; have hnb32 := NB385_371.out; have hnc32 := NB371_385.out; have hnb33 := NB385_372.out; have hnc33 := NB372_385.out; obtain ⟨_,_,_,_,_,_,_,_,_,_⟩ := cz5 BK385.out; obtain ⟨Ao35, co35, eo35⟩ := Kd.R_slice HO383.out; subst eo35))
     go_roundg k2
     case measure => have := HJ4.out; have := HK2.out; omega
     case rel => exact ⟨(t378), (wrap64 (x13_2 + 1)), sm, sm, H', ⟨by have := HJ4.out; have := HK2.out; omega⟩, ⟨by (with_reducible repeat (first | apply Kd.V_alloc | apply Kd.V_drewN | apply Kd.V_drew)); exact Kd.V_mono (Kd.V_far (p := ⟨gb385, 4, none⟩) (Kd.V_far (p := ⟨gb385, 3, none⟩) (Kd.V_far (p := ⟨gb385, 2, none⟩) (Kd.V_far (p := ⟨gb385, 1, none⟩) (Kd.V_far (p := ⟨gb385, 0, none⟩) (Kd.V_mono HO_11.out (fun k_ hk => (⟨hk, hk.2⟩ : _ ∧ k_ ≠ gb385))) (fun _ hk => hk.2) (.int .u64 t377)) (fun _ hk => hk.2) (.int .u64 t378)) (fun _ hk => hk.2) (.int .i64 t379)) (fun _ hk => hk.2) (.int .i64 t380)) (fun _ hk => hk.2) (.slice Ao35 t381.length co35)) (fun _ hk => ⟨hk.1.1.1.1, hk.1.1.1.2⟩)⟩, ⟨bp BK371⟩, ⟨bp BK372⟩, ⟨b_w HB⟩⟩
   rw [if_neg c28] at H
   have c28b0 := decide_eq_false c28
   clear c28
   have H' := Aside0.mk H
   clear H
   obtain ⟨Ao36, co36, eo36⟩ := Kd.V_slice HO_11.out
   subst eo36
   have p376 : 0 ≤ (x13_2 : Int) := od
   have q376 : x13_2 < (t373.length : Int) := od
   obtain ⟨ad376, e376, hx376_0⟩ := Kd.at_string (Kd.V_reads' HO_11.out).2.2 x13_2 p376 q376
   cases e376
   replace p376 := eq_true p376
   replace q376 := eq_true q376
   go_wp2_with (first | (go_at_call 70; (with_reducible refine (conv_Decode.calls k2 (rdOf ByteArray.empty t373 x13_2) t377 t378 t379 t380 t381 t384 _ A26.out).mono ?_); rintro e w37 ⟨v382, rfl, ho0, hb⟩; replace HO_11 := Aside0.mk (Kd.V_elder' (kV' HO_11) (Kd.R_base ho0) hb); have HO383 := Aside0.mk (Kd.R_lower ho0 (below_size (b_w HB))); replace BK371 := bb BK371 hb; replace BK372 := bb BK372 hb; replace HB := bs HB hb; clear hb; (try clear ho0)) | ((with_reducible refine gate_dst (N := 14) rfl ?_); refine bx 14 #[.int .u64 0, .int .u64 0, .int .i64 0, .int .i64 0, .slice none 0 0] 106 ?_; intro gb385 hg w38 hbox hb; replace HO_11 := Aside0.mk (Kd.V_below (Kd.V_elderB (kV' HO_11) gb385 (Nat.le_of_eq hg.symm)) hb); replace HO383 := Aside0.mk (Kd.R_below (kR' HO383) hb); have BK385 := Aside0.mk (hbox); have GW385 := gs HB hg; have GE385 := gs HB hg; replace HB := bs HB hb; have NB371_385 := nl BK371 hg; have NB385_371 := ng BK371 hg; replace BK371 := bb BK371 hb; have NB372_385 := nl BK372 hg; have NB385_372 := ng BK372 hg; replace BK372 := bb BK372 hb; clear hb hbox hg; have hnb39 := NB385_371.out; have hnc39 := NB371_385.out; have hnb40 := NB385_372.out; have hnc40 := NB372_385.out; obtain ⟨_,_,_,_,_,_,_,_,_,_⟩ := cz5 BK385.out; obtain ⟨Ao42, co42, eo42⟩ := Kd.R_slice HO383.out; subst eo42))
   go_roundg k2
   case measure => have := HJ4.out; have := HK2.out; omega
   case rel => exact ⟨(x12_2), (wrap64 (x13_2 + 1)), sm, sm, H', ⟨by have := HJ4.out; have := HK2.out; omega⟩, ⟨by (with_reducible repeat (first | apply Kd.V_alloc | apply Kd.V_drewN | apply Kd.V_drew)); exact Kd.V_mono (Kd.V_far (p := ⟨gb385, 4, none⟩) (Kd.V_far (p := ⟨gb385, 3, none⟩) (Kd.V_far (p := ⟨gb385, 2, none⟩) (Kd.V_far (p := ⟨gb385, 1, none⟩) (Kd.V_far (p := ⟨gb385, 0, none⟩) (Kd.V_mono HO_11.out (fun k_ hk => (⟨hk, hk.2⟩ : _ ∧ k_ ≠ gb385))) (fun _ hk => hk.2) (.int .u64 t377)) (fun _ hk => hk.2) (.int .u64 t378)) (fun _ hk => hk.2) (.int .i64 t379)) (fun _ hk => hk.2) (.int .i64 t380)) (fun _ hk => hk.2) (.slice Ao42 t381.length co42)) (fun _ hk => ⟨hk.1.1.1.1, hk.1.1.1.2⟩)⟩, ⟨bp BK371⟩, ⟨bp BK372⟩, ⟨b_w HB⟩⟩
 rw [if_neg c24] at H
 have c24b0 := decide_eq_false c24
 clear c24
 by_cases c50 : x12_2 = 18446744073709551615
 · rw [if_pos c50] at H
   have c50b0 := beq_iff_eq.mpr c50
   have c50b1 := bne_eq_false_iff_eq.mpr c50
   clear c50
   simp only [Option.some.injEq, Prod.mk.injEq] at H
   obtain ⟨rfl, rfl, rfl, rfl, rfl, rfl, rfl, rfl⟩ := H
   obtain ⟨Ao51, co51, eo51⟩ := Kd.V_slice HO_11.out
   subst eo51
   have hnb52 := NB372_371.out
   have hnc52 := NB371_372.out
   obtain ⟨_,_,_,_,_,_,_,_,_,_,_,_,_,_⟩ := cz7 BK372.out
   go_wp2
   refine bodyPost_ret (results_ct rfl _ _ gb372 69 #[.int .i64 0, .int .i64 0, .int .u64 0, .int .u64 0, .int .i64 0, .slice none 0 0, .bool false] (0, 0) _ rfl (bp BK372) Try.underlying69 rfl (by kernel_rfl)) rfl ?_
   exact ⟨_, er, rn, b_w HB⟩
 rw [if_neg c50] at H
 have c50b0 := beq_eq_false_iff_ne.mpr c50
 have c50b1 := bne_iff_ne.mpr c50
 replace H := Option.bind_eq_some_iff.mp H
 obtain ⟨⟨t387, t388, t389⟩, A540, H⟩ := H
 replace H : (marginaliaref17_Open.l1 k2 a3 t373 0 t387 t388 t389 a1 a2 a3 (IntKind.u64.wrap (x12_2 + 1)) 0 ([] : List (List Int)) false) = some (r1, r2, r3, r4, r5, r6, r7, r8) := H
 have A54 := Aside0.mk A540
 clear A540
 have H' := Aside0.mk H
 clear H
 obtain ⟨Ao55, co55, eo55⟩ := Kd.V_slice HO_11.out
 subst eo55
 go_wp2_with (first | ((with_reducible refine gate_dst (N := 16) rfl ?_); refine bx 16 #[.int .i64 0, .int .i64 0, .int .u64 0, .int .u64 0, .int .i64 0, .slice none 0 0, .bool false] 69 ?_; intro gb386 hg w56 hbox hb; replace HO_11 := Aside0.mk (Kd.V_below (Kd.V_elderB (kV' HO_11) gb386 (Nat.le_of_eq hg.symm)) hb); have BK386 := Aside0.mk (hbox); have GW386 := gs HB hg; have GE386 := gs HB hg; replace HB := bs HB hb; have NB371_386 := nl BK371 hg; have NB386_371 := ng BK371 hg; replace BK371 := bb BK371 hb; have NB372_386 := nl BK372 hg; have NB386_372 := ng BK372 hg; replace BK372 := bb BK372 hb; clear hb hbox hg; have hnb57 := NB386_371.out; have hnc57 := NB371_386.out; have hnb58 := NB386_372.out; have hnc58 := NB372_386.out; obtain ⟨_,_,_,_,_,_,_,_,_,_,_,_,_,_⟩ := cz7 BK386.out) | ((with_reducible refine gate_callee (f := 71) rfl ?_); refine gl 88 Try.func71 #[.slice Ao55 t373.length co55, .int .i64 0, .int .u64 a3] ?_; (with_reducible refine (marginaliaref17_record.calls k2 _ _ t373 0 a3 t387 t388 t389 _ ?side1 ?side2 A54.out).mono ?_); (case side1 => refine (Kd.V_reads' (e := 9) (base := w.heap.size) (ok := fun k_ => ((k_ ≠ gb371 ∧ k_ ≠ gb372) ∧ k_ ≠ gb386)) (n := t373.length) (c := co55) ?_).2.2; exact (by (with_reducible repeat (first | apply Kd.V_alloc | apply Kd.V_drewN | apply Kd.V_drew)); exact (Kd.V_mono (Kd.V_far (p := ⟨gb386, 6, none⟩) (Kd.V_far (p := ⟨gb386, 5, none⟩) (Kd.V_far (p := ⟨gb386, 4, none⟩) (Kd.V_far (p := ⟨gb386, 3, none⟩) (Kd.V_far (p := ⟨gb386, 2, none⟩) (Kd.V_far (p := ⟨gb386, 1, none⟩) (Kd.V_far (p := ⟨gb386, 0, none⟩) (Kd.V_mono HO_11.out (fun k_ hk => (⟨hk, hk.2⟩ : _ ∧ k_ ≠ gb386))) (fun _ hk => hk.2) (.int .i64 a1)) (fun _ hk => hk.2) (.int .i64 a2)) (fun _ hk => hk.2) (.int .u64 a3)) (fun _ hk => hk.2) (.int .u64 (IntKind.u64.wrap (x12_2 + 1)))) (fun _ hk => hk.2) (.int .i64 0)) (fun _ hk => hk.2) (.slice none 0 0)) (fun _ hk => hk.2) (.bool false)) (fun _ h_ => h_.1)))); (case side2 => exact (Kd.V_reads' HO_11.out).2.1); rintro e w60 ⟨v390, rfl, ho0, hb⟩; refine ⟨_, rfl, ?_⟩; replace HO_11 := Aside0.mk (Kd.V_elder' (by (with_reducible repeat (first | apply Kd.V_alloc | apply Kd.V_drewN | apply Kd.V_drew)); exact (Kd.V_mono (Kd.V_far (p := ⟨gb386, 6, none⟩) (Kd.V_far (p := ⟨gb386, 5, none⟩) (Kd.V_far (p := ⟨gb386, 4, none⟩) (Kd.V_far (p := ⟨gb386, 3, none⟩) (Kd.V_far (p := ⟨gb386, 2, none⟩) (Kd.V_far (p := ⟨gb386, 1, none⟩) (Kd.V_far (p := ⟨gb386, 0, none⟩) (Kd.V_mono HO_11.out (fun k_ hk => (⟨hk, hk.2⟩ : _ ∧ k_ ≠ gb386))) (fun _ hk => hk.2) (.int .i64 a1)) (fun _ hk => hk.2) (.int .i64 a2)) (fun _ hk => hk.2) (.int .u64 a3)) (fun _ hk => hk.2) (.int .u64 (IntKind.u64.wrap (x12_2 + 1)))) (fun _ hk => hk.2) (.int .i64 0)) (fun _ hk => hk.2) (.slice none 0 0)) (fun _ hk => hk.2) (.bool false)) (fun _ h_ => h_.1))) (Kd.R_base ho0) hb); have HO391 := Aside0.mk (Kd.R_lower ho0 (below_size (b_w HB))); replace BK371 := Aside0.mk (blk_below (g := gb371) (o := .cells #[.slice A0_0 l0_0.length c0_0, .slice A0_1 l0_1.length c0_1, .int .i64 a0_2, .bool a0_3, .bool false] 51 (0, 0)) (bp BK371) hb); replace BK372 := Aside0.mk (blk_below (g := gb372) (o := .cells #[.int .i64 0, .int .i64 0, .int .u64 0, .int .u64 0, .int .i64 0, .slice none 0 0, .bool false] 69 (0, 0)) (bp BK372) hb); replace BK386 := Aside0.mk (blk_below (g := gb386) (o := .cells #[.int .i64 a1, .int .i64 a2, .int .u64 a3, .int .u64 (IntKind.u64.wrap (x12_2 + 1)), .int .i64 0, .slice none 0 0, .bool false] 69 (0, 0)) (bp BK386) hb); replace HB := bs HB hb; clear hb; (try clear ho0)))
 go_loopg [17, 18, 19, 20] k2 (fun kq v17 v18 v19 v20 w' => ∃ (x17_3 : Int) (x18_3 : List Int) (x19_3 : Int) (x20_3 : Int) (x387004_3 : Int) (x387005_3 : List (List Int)) (u387005 : Value), v17 = .int .u64 x17_3 ∧ v19 = .int .u64 x19_3 ∧ v20 = .int .i64 x20_3 ∧ Aside0 (marginaliaref17_Open.l1 kq a3 t373 x17_3 x18_3 x19_3 x20_3 a1 a2 a3 (IntKind.u64.wrap (x12_2 + 1)) x387004_3 x387005_3 false = some (r1, r2, r3, r4, r5, r6, r7, r8)) ∧ Aside0 (kq ≤ k2) ∧ Aside0 (Kd.V Kd.string 9 w' w.heap.size (fun k_ => some k_ ≠ (v18 : Value).ownBlock ∧ some k_ ≠ (u387005 : Value).ownBlock ∧ k_ ≠ gb371 ∧ k_ ≠ gb372 ∧ k_ ≠ gb386) (.slice Ao55 t373.length co55) t373) ∧ Aside0 (Kd.R (Kd.int .u8) 5 w' w.heap.size (fun _ => True) v18 x18_3) ∧ Aside0 (Kd.S (Kd.slice 5 (Kd.int .u8)) 27 w' w.heap.size (fun k_ => some k_ ≠ (v18 : Value).ownBlock) u387005 x387005_3) ∧ Aside0 (w'.heap[gb371]? = some (.cells #[(.slice A0_0 l0_0.length c0_0), (.slice A0_1 l0_1.length c0_1), .int .i64 a0_2, .bool a0_3, .bool false] 51 (0, 0))) ∧ Aside0 (w'.heap[gb372]? = some (.cells #[.int .i64 0, .int .i64 0, .int .u64 0, .int .u64 0, .int .i64 0, (.slice none 0 0), .bool false] 69 (0, 0))) ∧ Aside0 (w'.heap[gb386]? = some (.cells #[.int .i64 a1, .int .i64 a2, .int .u64 a3, .int .u64 (IntKind.u64.wrap (x12_2 + 1)), .int .i64 x387004_3, u387005, .bool false] 69 (0, 0))) ∧ Aside0 (Below w.heap.size w w'))
 case atStart => exact ⟨(0), (t387), (t388), (t389), (0), (([] : List (List Int))), (.slice none 0 0), sm, sm, sm, H', ⟨Nat.le_refl _⟩, ⟨by (with_reducible repeat (first | apply Kd.V_alloc | apply Kd.V_drewN | apply Kd.V_drew)); exact Kd.V_mono HO_11.out (fun _ hk => ⟨hk.2, ⟨(by simp [Value.ownBlock]), ⟨hk.1.1.1, ⟨hk.1.1.2, hk.1.2⟩⟩⟩⟩)⟩, ⟨kR' HO391⟩, ⟨rn⟩, ⟨bk BK371⟩, ⟨bk BK372⟩, ⟨bk BK386⟩, ⟨b_w HB⟩⟩
 clear H'
 try clear c1
 try clear c2
 try clear p2
 try clear c3
 try clear p3
 try clear q3
 try clear hx3
 try clear c4
 try clear c5
 try clear c6
 try clear p6
 try clear c7
 try clear c8
 try clear c10
 try clear c10b0
 try clear c11
 try clear c11b0
 try clear c12
 try clear c12b0
 try clear c13
 try clear c14
 try clear c16
 try clear c17
 try clear c21
 try clear c24
 try clear c24b0
 try clear c25
 try clear c25b0
 try clear c27
 try clear c27b0
 try clear c27b1
 try clear c28
 try clear c28b0
 try clear c32
 try clear c33
 try clear c36
 try clear p37
 try clear q37
 try clear hx37
 try clear c39
 try clear c40
 try clear c46
 try clear c47
 try clear c50
 try clear c50b0
 try clear c50b1
 try clear c52
 try clear c57
 try clear c58
 try clear hx376_0
 try clear p2
 try clear p376
 try clear p6
 try clear q376
 obtain ⟨x17_3, x18_3, x19_3, x20_3, x387004_3, x387005_3, u387005, rfl, rfl, rfl, HA, HK3, HO_11, HO_18, HO_387005, BK371, BK372, BK386, HB⟩ := hrel
 cases gk with
 | zero => exact absurd HA.out (by simp [marginaliaref17_Open.l1])
 | succ k3 => ?_
 have H := HA.out
 clear HA
 simp only [marginaliaref17_Open.l1] at H
 by_cases c61 : x20_3 > 0
 rotate_left
 · rw [if_neg c61] at H
   have c61b0 := decide_eq_false c61
   clear c61
   simp only [Option.some.injEq, Prod.mk.injEq] at H
   obtain ⟨rfl, rfl, rfl, rfl, rfl, rfl, rfl, rfl⟩ := H
   have hnb79 := NB386_371.out
   have hnc79 := NB371_386.out
   have hnb80 := NB386_372.out
   have hnc80 := NB372_386.out
   obtain ⟨_,_,_,_,_,_,_,_,_,_,_,_,_,_⟩ := cz7 BK386.out
   have hnb82 := NB372_371.out
   have hnc82 := NB371_372.out
   obtain ⟨_,_,_,_,_,_,_,_,_,_,_,_,_,_⟩ := cz7 BK372.out
   obtain ⟨Ao84, co84, eo84⟩ := Kd.S_slice HO_387005.out
   subst eo84
   go_wp2
   refine bodyPost_ret (results_ct rfl _ _ gb372 69 #[.int .i64 a1, .int .i64 a2, .int .u64 a3, .int .u64 (IntKind.u64.wrap (x12_2 + 1)), .int .i64 x387004_3, .slice Ao84 x387005_3.length co84, .bool false] (0, 0) _ rfl (bp BK372) Try.underlying69 rfl (by kernel_rfl)) rfl ?_
   exact ⟨_, er, rS (Kd.S_mono (fS7 (tS HO_387005 BK372) (fun _ hk => hk.2)) (fun _ hk => trivial)), b_w HB⟩
 rw [if_pos c61] at H
 have c61b0 := decide_eq_true c61
 clear c61
 by_cases c62 : x19_3 ≥ x17_3
 rotate_left
 · rw [if_neg c62] at H
   have c62b0 := decide_eq_false c62
   clear c62
   simp only [Option.some.injEq, Prod.mk.injEq] at H
   obtain ⟨rfl, rfl, rfl, rfl, rfl, rfl, rfl, rfl⟩ := H
   have hnb73 := NB386_371.out
   have hnc73 := NB371_386.out
   have hnb74 := NB386_372.out
   have hnc74 := NB372_386.out
   obtain ⟨_,_,_,_,_,_,_,_,_,_,_,_,_,_⟩ := cz7 BK386.out
   have hnb76 := NB372_371.out
   have hnc76 := NB371_372.out
   obtain ⟨_,_,_,_,_,_,_,_,_,_,_,_,_,_⟩ := cz7 BK372.out
   obtain ⟨Ao78, co78, eo78⟩ := Kd.S_slice HO_387005.out
   subst eo78
   go_wp2
   refine bodyPost_ret (results_ct rfl _ _ gb372 69 #[.int .i64 a1, .int .i64 a2, .int .u64 a3, .int .u64 (IntKind.u64.wrap (x12_2 + 1)), .int .i64 x387004_3, .slice Ao78 x387005_3.length co78, .bool false] (0, 0) _ rfl (bp BK372) Try.underlying69 rfl (by kernel_rfl)) rfl ?_
   exact ⟨_, er, rS (Kd.S_mono (fS7 (tS HO_387005 BK372) (fun _ hk => hk.2)) (fun _ hk => trivial)), b_w HB⟩
 rw [if_pos c62] at H
 have c62b0 := decide_eq_true c62
 clear c62
 obtain ⟨c63, H⟩ := ifN H
 have LMc63 := Aside0.mk c63
 clear c63
 obtain ⟨y392, Ny392⟩ := yy ((x387005_3 ++ [x18_3]) : List (List Int))
 replace H : ((marginaliaref17_record.f k3 t373 (wrap64 (x387004_3 + x20_3)) a3).bind fun bt395 => (marginaliaref17_Open.l1 k3 a3 t373 x19_3 bt395.1 bt395.2.1 bt395.2.2 a1 a2 a3 (IntKind.u64.wrap (x12_2 + 1)) (wrap64 (x387004_3 + x20_3)) y392 false)) = some (r1, r2, r3, r4, r5, r6, r7, r8) := yx Ny392 H
 replace H := Option.bind_eq_some_iff.mp H
 obtain ⟨⟨t395, t396, t397⟩, A640, H⟩ := H
 replace H : (marginaliaref17_Open.l1 k3 a3 t373 x19_3 t395 t396 t397 a1 a2 a3 (IntKind.u64.wrap (x12_2 + 1)) (wrap64 (x387004_3 + x20_3)) y392 false) = some (r1, r2, r3, r4, r5, r6, r7, r8) := H
 have A64 := Aside0.mk A640
 clear A640
 have H' := Aside0.mk H
 clear H
 have hnb65 := NB386_371.out
 have hnc65 := NB371_386.out
 have hnb66 := NB386_372.out
 have hnc66 := NB372_386.out
 obtain ⟨_,_,_,_,_,_,_,_,_,_,_,_,_,_⟩ := cz7 BK386.out
 obtain ⟨Ao69, co69, eo69⟩ := Kd.R_slice HO_18.out
 subst eo69
 go_wp2_with (first | ((with_reducible refine gate_builtin (b := .append) (xs := #[.tmp 100, .tmp 102]) rfl ?_); at_builtin; refine Kd.S_append (Kd.slice 5 (Kd.int .u8)) (w0 := w) w.heap.size rfl (.tmp 100) (.tmp 102) 46 27 (.slice none 0 0) 24 rfl Try.underlying46 info27 rfl (by decide) (by omega) u387005 x387005_3 x18_3 [.slice Ao69 x18_3.length co69] (fun _ => True) (fun k_ => some k_ = (.slice Ao69 x18_3.length co69 : Value).ownBlock) rfl rfl ?aP (fun k_ hk_ => ((Kd.R_mono (ok' := fun k_ => ((fun _ => True)) k_ ∧ some k_ ≠ (u387005 : Value).ownBlock) (Kd.R_apart' (HO_18.out) (Kd.S_typed HO_387005.out) (by decide)) (fun k_ hk => ⟨trivial, hk.2⟩))).1 k_ hk_.symm) ?aF ?aO ?aB ?aS ?aL ?_; (case aP => exact Kd.M_row (Kd.R_mono (Kd.R_tight rfl (Kd.R_mono (ok' := fun k_ => ((fun _ => True)) k_ ∧ some k_ ≠ (u387005 : Value).ownBlock) (Kd.R_apart' (HO_18.out) (Kd.S_typed HO_387005.out) (by decide)) (fun k_ hk => ⟨trivial, hk.2⟩))) (fun _ h_ => h_))); (case aB => exact (b_w HB)); (case aF => exact (fun _ _ => trivial)); (case aO => exact (by (with_reducible repeat (first | apply Kd.S_alloc | apply Kd.S_drewN | apply Kd.S_drew)); exact Kd.S_mono HO_387005.out (fun k_ hk => ⟨trivial, fun e_ => hk e_⟩))); (case aS => exact (below_size (b_w HB))); (case aL => have := LMc63.out; omega); intro v393 w68 ho hb hg hat; rw [← Ny392.out] at ho; replace HO_11 := Aside0.mk (Kd.V_afterv (ok := (fun k_ => some k_ ≠ (.slice Ao69 x18_3.length co69 : Value).ownBlock ∧ k_ ≠ gb371 ∧ k_ ≠ gb372 ∧ k_ ≠ gb386)) (by (with_reducible repeat (first | apply Kd.V_alloc | apply Kd.V_drewN | apply Kd.V_drew)); exact Kd.V_mono HO_11.out (fun _ hk => ⟨⟨hk.1, ⟨hk.2.2.1, ⟨hk.2.2.2.1, hk.2.2.2.2⟩⟩⟩, hk.2.1⟩)) hg hat); replace BK371 := Aside0.mk (blk_grown (g := gb371) (o := .cells #[.slice A0_0 l0_0.length c0_0, .slice A0_1 l0_1.length c0_1, .int .i64 a0_2, .bool a0_3, .bool false] 51 (0, 0)) (bk BK371) hg (Kd.S_ne HO_387005.out BK371.out (by decide))); replace BK372 := Aside0.mk (blk_grown (g := gb372) (o := .cells #[.int .i64 0, .int .i64 0, .int .u64 0, .int .u64 0, .int .i64 0, .slice none 0 0, .bool false] 69 (0, 0)) (bk BK372) hg (Kd.S_ne HO_387005.out BK372.out (by decide))); replace BK386 := Aside0.mk (blk_grown (g := gb386) (o := .cells #[.int .i64 a1, .int .i64 a2, .int .u64 a3, .int .u64 (IntKind.u64.wrap (x12_2 + 1)), .int .i64 x387004_3, u387005, .bool false] 69 (0, 0)) (bk BK386) hg (Kd.S_ne HO_387005.out BK386.out (by decide))); replace HB := Aside0.mk (hb); have HO394 := Aside0.mk (ho); clear HO_387005 HO_18; clear ho hb hg hat; obtain ⟨Ao70, co70, eo70⟩ := Kd.S_slice HO394.out; subst eo70; obtain ⟨_,_,_,_,_,_,_,_,_,_,_,_,_,_⟩ := cz7 BK386.out) | ((with_reducible refine gate_callee (f := 71) rfl ?_); refine gl 116 Try.func71 #[.slice Ao55 t373.length co55, .int .i64 (wrap64 (x387004_3 + x20_3)), .int .u64 a3] ?_; (with_reducible refine (marginaliaref17_record.calls k3 _ _ t373 (wrap64 (x387004_3 + x20_3)) a3 t395 t396 t397 _ ?side1 ?side2 A64.out).mono ?_); (case side1 => exact (Kd.V_reads' (e := 9) (base := w.heap.size) (n := t373.length) (c := co55) (by (with_reducible repeat (first | apply Kd.V_alloc | apply Kd.V_drewN | apply Kd.V_drew)); exact (Kd.V_mono (Kd.V_far (p := ⟨gb386, 4, none⟩) (Kd.V_far (p := ⟨gb386, 5, none⟩) (Kd.V_mono HO_11.out (fun k_ hk => (⟨hk, hk.1.2.2.2⟩ : _ ∧ k_ ≠ gb386))) (fun _ hk => hk.2) (.slice Ao70 y392.length co70)) (fun _ hk => hk.2) (.int .i64 (wrap64 (x387004_3 + x20_3)))) (fun _ h_ => h_.1)))).2.2); (case side2 => exact (Kd.V_reads' HO_11.out).2.1); rintro e w72 ⟨v398, rfl, ho0, hb⟩; refine ⟨_, rfl, ?_⟩; replace HO_11 := Aside0.mk (Kd.V_elder' (by (with_reducible repeat (first | apply Kd.V_alloc | apply Kd.V_drewN | apply Kd.V_drew)); exact (Kd.V_mono (Kd.V_far (p := ⟨gb386, 4, none⟩) (Kd.V_far (p := ⟨gb386, 5, none⟩) (Kd.V_mono HO_11.out (fun k_ hk => (⟨hk, hk.1.2.2.2⟩ : _ ∧ k_ ≠ gb386))) (fun _ hk => hk.2) (.slice Ao70 y392.length co70)) (fun _ hk => hk.2) (.int .i64 (wrap64 (x387004_3 + x20_3)))) (fun _ h_ => h_.1))) (Kd.R_base ho0) hb); replace HO394 := Aside0.mk (Kd.S_elder' (by (with_reducible repeat (first | apply Kd.S_alloc | apply Kd.S_drewN | apply Kd.S_drew)); exact (Kd.S_mono (Kd.S_far (p := ⟨gb386, 4, none⟩) (Kd.S_far (p := ⟨gb386, 5, none⟩) (Kd.S_types HO394.out BK386.out (by decide)) (fun _ hk => hk.2) (.slice Ao70 y392.length co70)) (fun _ hk => hk.2) (.int .i64 (wrap64 (x387004_3 + x20_3)))) (fun _ h_ => h_.1))) (Kd.R_base ho0) hb); have HO399 := Aside0.mk (Kd.R_lower ho0 (below_size (b_w HB))); replace BK371 := Aside0.mk (blk_below (g := gb371) (o := .cells #[.slice A0_0 l0_0.length c0_0, .slice A0_1 l0_1.length c0_1, .int .i64 a0_2, .bool a0_3, .bool false] 51 (0, 0)) (bp BK371) hb); replace BK372 := Aside0.mk (blk_below (g := gb372) (o := .cells #[.int .i64 0, .int .i64 0, .int .u64 0, .int .u64 0, .int .i64 0, .slice none 0 0, .bool false] 69 (0, 0)) (bp BK372) hb); replace BK386 := Aside0.mk (blk_below (g := gb386) (o := .cells #[.int .i64 a1, .int .i64 a2, .int .u64 a3, .int .u64 (IntKind.u64.wrap (x12_2 + 1)), .int .i64 (wrap64 (x387004_3 + x20_3)), .slice Ao70 y392.length co70, .bool false] 69 (0, 0)) (bp BK386) hb); replace HB := bs HB hb; clear hb; (try clear ho0)))
 go_roundg k3
 case measure => have := HJ4.out; have := HK2.out; have := HK3.out; omega
 case rel => exact ⟨(x19_3), (t395), (t396), (t397), (wrap64 (x387004_3 + x20_3)), (y392), (.slice Ao70 y392.length co70), sm, sm, sm, H', ⟨by have := HJ4.out; have := HK2.out; have := HK3.out; omega⟩, ⟨by (with_reducible repeat (first | apply Kd.V_alloc | apply Kd.V_drewN | apply Kd.V_drew)); exact Kd.V_mono HO_11.out (fun _ hk => ⟨hk.2, ⟨hk.1.2, ⟨hk.1.1.2.1, ⟨hk.1.1.2.2.1, hk.1.1.2.2.2⟩⟩⟩⟩)⟩, ⟨kR' HO399⟩, ⟨rS (Kd.S_mono (HO394.out) (fun _ hk => hk.2))⟩, ⟨bk BK371⟩, ⟨bk BK372⟩, ⟨bk BK386⟩, ⟨b_w HB⟩⟩
end Go.Proofs.Ytepipgneefcoiaa.D
namespace Go.Proofs.Ytepipgneefcoiaa.D
open Go.RowKit Go.Proofs.YtepipgneefcoiaaW.PrintWords Go.Proofs.YtepipgneefcoiaaW.PrintLast Go.Proofs.YtepipgneefcoiaaW.PrintMore
mutual
def marginalialaw17_sectors.l0 : Nat → List (S106) → Int → List Int → Int → Option (List Int)
  | 0, _, _, _, _ => none
  | k + 1, x0, x1, x5, x6 => if x6 < 4 then (if 64 ≤ 281474976710656 then ((some (List.replicate 64 0 : List Int)).bind fun y228 => (if (wrap64 (x1 + x6)) < (x0.length : Int) then (if 0 ≤ (wrap64 (x1 + x6)) then (marginalialaw17_sectors.j1 k x0 x1 x5 x6 y228 (decide ((((rd_T106 x0 (wrap64 (x1 + x6))).f4).length : Int) ≤ 39))) else (none)) else (marginalialaw17_sectors.j1 k x0 x1 x5 x6 y228 false))) else (none)) else (some x5)
def marginalialaw17_sectors.j1 : Nat → List (S106) → Int → List Int → Int → List Int → Bool → Option (List Int)
  | 0, _, _, _, _, _, _ => none
  | k + 1, x0, x1, x5, x6, x7, x32 => if x32 = true then (if 0 ≤ (wrap64 (x1 + x6)) then (if (wrap64 (x1 + x6)) < (x0.length : Int) then ((marginaliaref16_Encode.f k ((rd_T106 x0 (wrap64 (x1 + x6))).f0) ((rd_T106 x0 (wrap64 (x1 + x6))).f1) ((rd_T106 x0 (wrap64 (x1 + x6))).f2) ((rd_T106 x0 (wrap64 (x1 + x6))).f3) ((rd_T106 x0 (wrap64 (x1 + x6))).f4)).bind fun bt233 => (if bt233.2 = 0 then (if x5.length + bt233.1.length < 140737488355328 then (marginalialaw17_sectors.l0 k x0 x1 (x5 ++ bt233.1) (wrap64 (x6 + 1))) else (none)) else (if x5.length + x7.length < 140737488355328 then (marginalialaw17_sectors.l0 k x0 x1 (x5 ++ x7) (wrap64 (x6 + 1))) else (none)))) else (none)) else (none)) else (if x5.length + x7.length < 140737488355328 then (marginalialaw17_sectors.l0 k x0 x1 (x5 ++ x7) (wrap64 (x6 + 1))) else (none))
end
def marginalialaw17_sectors.f (k : Nat) (l0 : List (S106)) (a1 : Int) : Option (List Int) := marginalialaw17_sectors.l0 k l0 a1 (([] : List Int)) 0
set_option maxHeartbeats 8000000 in
set_option maxRecDepth 100000 in
theorem marginalialaw17_sectors.calls (k : Nat) (A0 : Option Addr) (c0 : Nat) (l0 : List (S106)) (a1 : Int) (r : List Int) (w : World) (hr0 : Kd.C k106 w A0 l0.length l0) (hc0 : l0.length ≤ c0) (h : marginalialaw17_sectors.f k l0 a1 = some r) :
    Calls Try.prog 33 #[.slice A0 l0.length c0, .int .i64 a1] w fun e w' => ∃ v0_ : Value, e = .returned (v0_) ∧ Kd.R (Kd.int .u8) 5 w' w.heap.size (fun _ => True) v0_ r ∧ Below w.heap.size w w' := by
 have hu106 := Try.underlying106
 have HR0 := Aside0.mk hr0
 have HC0 := Aside0.mk hc0
 clear hr0 hc0
 have HB := Aside0.mk (Below.refl w.heap.size w)
 have H : (marginalialaw17_sectors.l0 k l0 a1 (([] : List Int)) 0) = some r := h
 clear h
 obtain ⟨y225, Ny225⟩ := yy ((([] : List Int)) : List Int)
 replace H : (marginalialaw17_sectors.l0 k l0 a1 y225 0) = some r := yx Ny225 H
 have H' := Aside0.mk H
 clear H
 go_enter Try.func33, Try.ntmps33
 go_wp2_with (first | ((with_reducible refine gate_dst (N := 10) rfl ?_); (try (refine gate_guard (by rfl) ?_; dsimp only)); refine Kd.R_lit (Kd.int .u8) _ 5 ?hg (N := 10) ?hd (xs := ([] : List Int)) (inner := []) (ok := fun _ => True) (okp := fun _ => True) ?hr ?hp (fun _ hk => hk) trivial (Below.refl _ _) (Nat.le_refl _) (by simp) ?_; (case hd => rfl); (case hg => rfl); (case hr => first | (go_simp; done) | (go_simp; rfl)); (case hp => exact (Reps.none _ _)); intro v226 w3 ho4 hb hg_ hnew_; clear hg_ hnew_; (first | rw [← Ny225.out] at ho4 | (simp only [Int.reduceToNat] at ho4; rw [← Ny225.out] at ho4)); have HO227 := Aside0.mk (Kd.R_lower ho4 (below_size (b_w HB))); replace HB := bs HB hb; clear hb ho4))
 go_loopg [5, 6] k (fun kq v5 v6 w' => ∃ (x5_1 : List Int) (x6_1 : Int), v6 = .int .i64 x6_1 ∧ Aside0 (marginalialaw17_sectors.l0 kq l0 a1 x5_1 x6_1 = some r) ∧ Aside0 (kq ≤ k) ∧ Aside0 (Kd.R (Kd.int .u8) 5 w' w.heap.size (fun _ => True) v5 x5_1) ∧ Aside0 (Below w.heap.size w w'))
 case atStart => exact ⟨(y225), (0), sm, H', ⟨Nat.le_refl _⟩, ⟨kR' HO227⟩, ⟨b_w HB⟩⟩
 clear H'
 try clear p2
 try clear c3
 obtain ⟨x5_1, x6_1, rfl, HA, HK1, HO_5, HB⟩ := hrel
 cases gk with
 | zero => exact absurd HA.out (by simp [marginalialaw17_sectors.l0])
 | succ k1 => ?_
 have H := HA.out
 clear HA
 simp only [marginalialaw17_sectors.l0] at H
 by_cases c5 : x6_1 < 4
 rotate_left
 · rw [if_neg c5] at H
   have c5b0 := decide_eq_false c5
   clear c5
   obtain rfl := Option.some.inj H
   go_wp2
   go_ret
   exact ⟨_, er, kR' HO_5, b_w HB⟩
 rw [if_pos c5] at H
 have c5b0 := decide_eq_true c5
 clear c5
 obtain ⟨c6, H⟩ := ifN H
 have c6b0 := eq_true c6
 have c6b1 := decide_eq_true c6
 clear c6
 obtain ⟨y228, Ny228⟩ := yy ((List.replicate 64 0) : List Int)
 replace H : (if (wrap64 (a1 + x6_1)) < (l0.length : Int) then (if 0 ≤ (wrap64 (a1 + x6_1)) then (marginalialaw17_sectors.j1 k1 l0 a1 x5_1 x6_1 y228 (decide ((((rd_T106 l0 (wrap64 (a1 + x6_1))).f4).length : Int) ≤ 39))) else (none)) else (marginalialaw17_sectors.j1 k1 l0 a1 x5_1 x6_1 y228 false)) = some r := yx Ny228 H
 have HC7 := Aside0.mk H
 clear H
 go_upto_region 6 with (first | ((with_reducible refine gate_dst (N := 15) rfl ?_); (try (refine gate_guard (by rfl) ?_; dsimp only)); refine Kd.R_make (Kd.int .u8) _ 5 rfl (N := 15) rfl 27 _ _ rfl 64 rfl rfl Try.underlying27 (.int .u8 0) 1 info5 rfl (by decide) (by omega) 0 (ok := fun _ => True) (okp := fun _ => True) rfl (fun _ hk => hk) trivial (by omega) (by omega) (Below.refl _ _) (Nat.le_refl _) ?_; intro v229 w8 ho9 hb hg_ hnew_; clear hg_ hnew_; (first | rw [← Ny228.out] at ho9 | (simp only [Int.reduceToNat] at ho9; rw [← Ny228.out] at ho9)); have HO230 := Aside0.mk (Kd.R_lower (Kd.R_new' ho9 (Kd.R_lt (kR' HO_5))) (below_size (b_w HB))); replace HO_5 := Aside0.mk (Kd.R_elder' (kR' HO_5) (Kd.R_base ho9) hb); replace HB := bs HB hb; clear hb ho9))
 (try simp only [Act.put, List.setIfInBounds_toArray, List.set_cons_zero, List.set_cons_succ])
 go_cut [32] (fun v32 wc => ∃ (kq : Nat) (x32_6 : Bool), v32 = .bool x32_6 ∧ Aside0 (marginalialaw17_sectors.j1 kq l0 a1 x5_1 x6_1 y228 x32_6 = some r) ∧ Aside0 (kq ≤ k1) ∧ Aside0 (Kd.R (Kd.int .u8) 5 wc w.heap.size (fun k_ => some k_ ≠ (v229 : Value).ownBlock) u5 x5_1) ∧ Aside0 (Kd.R (Kd.int .u8) 5 wc w.heap.size (fun k_ => some k_ ≠ (u5 : Value).ownBlock) v229 y228) ∧ Aside0 (Below w.heap.size w wc))
 case first =>
  have H := HC7.out
  clear HC7
  by_cases c10 : (wrap64 (a1 + x6_1)) < (l0.length : Int)
  rotate_left
  · rw [if_neg c10] at H
    have c10b0 := decide_eq_false c10
    clear c10
    (first | rw [c10b0] | (simp only [i64_w, i32_w]; rw [c10b0]) | skip)
    have H' := Aside0.mk H
    clear H
    go_wp2
    go_meet
    case rel => exact ⟨_, (false), sm, H', ⟨by have := HK1.out; first | omega | exact Nat.le_refl _⟩, ⟨rR (Kd.R_mono (HO_5.out) (fun _ hk => hk.2))⟩, ⟨rR (Kd.R_mono (HO230.out) (fun _ hk => hk.2))⟩, ⟨b_w HB⟩⟩
  rw [if_pos c10] at H
  have c10b0 := decide_eq_true c10
  clear c10
  (first | rw [c10b0] | (simp only [i64_w, i32_w]; rw [c10b0]) | skip)
  obtain ⟨ji11, hji11⟩ : ∃ j_ : Int, (wrap64 (a1 + x6_1)) = j_ := ⟨_, rfl⟩
  replace H : (if 0 ≤ (ji11) then (marginalialaw17_sectors.j1 k1 l0 a1 x5_1 x6_1 y228 (decide ((((rd_T106 l0 (ji11)).f4).length : Int) ≤ 39))) else (none)) = some r := by first | (rw [hji11] at H; exact H) | (simp only [hji11] at H ⊢; exact H)
  (try rw [hji11] at c10b0)
  have hji11w : (IntKind.i64.wrap (a1 + x6_1)) = ji11 := (i64_w _).trans hji11
  obtain ⟨c12, H⟩ := ifN H
  have c12b0 := decide_eq_true c12
  clear c12
  have H' := Aside0.mk H
  clear H
  have p231 : 0 ≤ ((ji11) : Int) := od
  have q231 : (ji11) < (l0.length : Int) := od
  obtain ⟨ad231, A231_4, c231_4, e231, hx231_0, hx231_1, hx231_2, hx231_3, hx231_4, hl231_4, hi231_4⟩ := at_T106 HR0.out (ji11) p231 q231
  cases e231
  replace hx231_0 := xb HB hx231_0
  replace hx231_1 := xb HB hx231_1
  replace hx231_2 := xb HB hx231_2
  replace hx231_3 := xb HB hx231_3
  replace hx231_4 := xb HB hx231_4
  have HR231_4 := Aside0.mk hi231_4
  have HC231_4 := Aside0.mk hl231_4
  clear hi231_4 hl231_4
  replace p231 := eq_true p231
  replace q231 := eq_true q231
  go_wp2
  go_meet
  case rel => exact ⟨_, (decide ((((rd_T106 l0 (ji11)).f4).length : Int) ≤ 39)), (by first | rfl | (simp; done) | (simp only [← hji11] <;> (first | rfl | simp)) | (simp [*]; done)), H', ⟨by have := HK1.out; first | omega | exact Nat.le_refl _⟩, ⟨rR (Kd.R_mono (HO_5.out) (fun _ hk => hk.2))⟩, ⟨rR (Kd.R_mono (HO230.out) (fun _ hk => hk.2))⟩, ⟨b_w HB⟩⟩
 clear HC7
 try clear c1
 try clear c2
 try clear p2
 try clear q2
 try clear hx2
 try clear c3
 try clear c5
 try clear c5b0
 try clear c6
 try clear c6b0
 try clear c6b1
 try clear p6
 try clear c10
 try clear c10b0
 try clear c12
 try clear c12b0
 try clear hx231_0
 try clear hx231_1
 try clear hx231_2
 try clear hx231_3
 try clear hx231_4
 try clear p2
 try clear p231
 try clear q231
 obtain ⟨kq, x32_6, rfl, HA, HJ6, HO_5, HO_7, HB⟩ := hcut
 cases kq with
 | zero => exact absurd HA.out (by simp [marginalialaw17_sectors.j1])
 | succ kj6 => ?_
 have H := HA.out
 clear HA
 simp only [marginalialaw17_sectors.j1] at H
 by_cases c13 : x32_6 = true
 rotate_left
 · replace c13 := Bool.eq_false_iff.mpr c13
   subst c13
   replace H := fi H
   obtain ⟨c27, H⟩ := ifN H
   have LMc27 := Aside0.mk c27
   clear c27
   obtain ⟨y243, Ny243⟩ := yy ((x5_1 ++ y228) : List Int)
   replace H : (marginalialaw17_sectors.l0 kj6 l0 a1 y243 (wrap64 (x6_1 + 1))) = some r := yx Ny243 H
   have H' := Aside0.mk H
   clear H
   obtain ⟨Ao29, co29, eo29⟩ := Kd.R_slice HO_7.out
   subst eo29
   go_wp2_with (first | ((with_reducible refine gate_builtin (b := .append) (xs := #[.tmp 46, .tmp 47]) rfl ?_); (try (refine gate_guard (by rfl) ?_; dsimp only)); at_builtin; refine Kd.R_append_rows (Kd.int .u8) (w0 := w) w.heap.size rfl (.tmp 46) (.tmp 47) 27 5 (.int .u8 0) 1 rfl Try.underlying27 info5 rfl (by decide) (by omega) u5 x5_1 y228 _ _ _ (fun k_ => some k_ ≠ (.slice Ao29 y228.length co29 : Value).ownBlock) (fun _ => False) rfl rfl ?aO ?aR (fun _ _ h => h) (fun _ h => h.elim) ?aF ?aB ?aS ?aL ?_; (case aR => repeat (first | exact (Kd.R_reads' HO_7.out).2.2 | (with_reducible refine Kd.C_alloc ?_ _) | (with_reducible refine Kd.C_drewN ?_ _) | (with_reducible refine Kd.C_drew ?_))); (case aB => exact (b_w HB)); (case aF => exact (fun k_ hk => Kd.fresh' (Kd.R_lt (kR' HO_7)) k_ hk)); (case aO => exact (kR' HO_5)); (case aS => exact (below_size (b_w HB))); (case aL => have := LMc27.out; omega); intro v244 w28 ho hb hg hat; rw [← Ny243.out] at ho; replace HO_7 := Aside0.mk (Kd.R_after (ok := (fun _ => True)) (by (with_reducible repeat (first | apply Kd.R_alloc | apply Kd.R_drewN | apply Kd.R_drew)); exact Kd.R_mono HO_7.out (fun _ hk => ⟨trivial, hk⟩)) hg hat); replace HB := Aside0.mk (hb); have HO245 := Aside0.mk (ho); clear HO_5; clear ho hb hg hat))
   go_roundg kj6
   case measure => have := HK1.out; have := HJ6.out; omega
   case rel => exact ⟨(y243), (wrap64 (x6_1 + 1)), sm, H', ⟨by have := HK1.out; have := HJ6.out; omega⟩, ⟨rR (Kd.R_mono (HO245.out) (fun _ hk => trivial))⟩, ⟨b_w HB⟩⟩
 subst c13
 replace H := it H
 obtain ⟨ji14, hji14⟩ : ∃ j_ : Int, (wrap64 (a1 + x6_1)) = j_ := ⟨_, rfl⟩
 replace H : (if 0 ≤ (ji14) then (if (ji14) < (l0.length : Int) then ((marginaliaref16_Encode.f kj6 ((rd_T106 l0 (ji14)).f0) ((rd_T106 l0 (ji14)).f1) ((rd_T106 l0 (ji14)).f2) ((rd_T106 l0 (ji14)).f3) ((rd_T106 l0 (ji14)).f4)).bind fun bt233 => (if bt233.2 = 0 then (if x5_1.length + bt233.1.length < 140737488355328 then (marginalialaw17_sectors.l0 kj6 l0 a1 (x5_1 ++ bt233.1) (wrap64 (x6_1 + 1))) else (none)) else (if x5_1.length + y228.length < 140737488355328 then (marginalialaw17_sectors.l0 kj6 l0 a1 (x5_1 ++ y228) (wrap64 (x6_1 + 1))) else (none)))) else (none)) else (none)) = some r := by first | (rw [hji14] at H; exact H) | (simp only [hji14] at H ⊢; exact H)
 have hji14w : (IntKind.i64.wrap (a1 + x6_1)) = ji14 := (i64_w _).trans hji14
 obtain ⟨c15, H⟩ := ifN H
 have c15b0 := decide_eq_true c15
 clear c15
 obtain ⟨c16, H⟩ := ifN H
 have c16b0 := decide_eq_true c16
 clear c16
 replace H := Option.bind_eq_some_iff.mp H
 obtain ⟨⟨t233, t236⟩, A170, H⟩ := H
 replace H : (if t236 = 0 then (if x5_1.length + t233.length < 140737488355328 then (marginalialaw17_sectors.l0 kj6 l0 a1 (x5_1 ++ t233) (wrap64 (x6_1 + 1))) else (none)) else (if x5_1.length + y228.length < 140737488355328 then (marginalialaw17_sectors.l0 kj6 l0 a1 (x5_1 ++ y228) (wrap64 (x6_1 + 1))) else (none))) = some r := H
 have A17 := Aside0.mk A170
 clear A170
 by_cases c18 : t236 = 0
 rotate_left
 · rw [if_neg c18] at H
   have c18b0 := beq_eq_false_iff_ne.mpr c18
   have c18b1 := bne_iff_ne.mpr c18
   obtain ⟨c23, H⟩ := ifN H
   have LMc23 := Aside0.mk c23
   clear c23
   obtain ⟨y240, Ny240⟩ := yy ((x5_1 ++ y228) : List Int)
   replace H : (marginalialaw17_sectors.l0 kj6 l0 a1 y240 (wrap64 (x6_1 + 1))) = some r := yx Ny240 H
   have H' := Aside0.mk H
   clear H
   have p232 : 0 ≤ ((ji14) : Int) := od
   have q232 : (ji14) < (l0.length : Int) := od
   obtain ⟨ad232, A232_4, c232_4, e232, hx232_0, hx232_1, hx232_2, hx232_3, hx232_4, hl232_4, hi232_4⟩ := at_T106 HR0.out (ji14) p232 q232
   cases e232
   replace hx232_0 := xb HB hx232_0
   replace hx232_1 := xb HB hx232_1
   replace hx232_2 := xb HB hx232_2
   replace hx232_3 := xb HB hx232_3
   replace hx232_4 := xb HB hx232_4
   have HR232_4 := Aside0.mk hi232_4
   have HC232_4 := Aside0.mk hl232_4
   clear hi232_4 hl232_4
   replace p232 := eq_true p232
   replace q232 := eq_true q232
   go_wp2_with (first | ((with_reducible refine gate_callee (f := 64) rfl ?_); refine goesL_ (some 40) rfl rfl Try.func64 (by kernel_rfl) rfl #[.agg #[.int .u64 ((rd_T106 l0 (ji14)).f0), .int .u64 ((rd_T106 l0 (ji14)).f1), .int .i64 ((rd_T106 l0 (ji14)).f2), .int .i64 ((rd_T106 l0 (ji14)).f3), .slice A232_4 ((rd_T106 l0 (ji14)).f4).length c232_4]] rfl (by (try simp only [List.map_toArray, List.map_cons, List.map_nil]); first | done | (simp only [hji14]; rfl) | rfl | (simp only [List.length_drop, List.length_take]; rfl)) ?_; (with_reducible refine (marginaliaref16_Encode.calls kj6 ((rd_T106 l0 (ji14)).f0) ((rd_T106 l0 (ji14)).f1) ((rd_T106 l0 (ji14)).f2) ((rd_T106 l0 (ji14)).f3) _ _ ((rd_T106 l0 (ji14)).f4) t233 t236 _ ?side1 ?side2 A17.out).mono ?_); (case side1 => exact kc HR232_4 HB); (case side2 => exact HC232_4.out); rintro e w24 ⟨v234, rfl, ho0, hb⟩; refine ⟨_, rfl, ?_⟩; have HO235 := Aside0.mk (Kd.R_lower (Kd.R_new' (Kd.R_new' ho0 (Kd.R_lt (kR' HO_5))) (Kd.R_lt (kR' HO_7))) (below_size (b_w HB))); replace HO_5 := Aside0.mk (Kd.R_elder' (kR' HO_5) (Kd.R_base ho0) hb); replace HO_7 := Aside0.mk (Kd.R_elder' (kR' HO_7) (Kd.R_base ho0) hb); replace HB := bs HB hb; clear hb; (try clear ho0); obtain ⟨Ao26, co26, eo26⟩ := Kd.R_slice HO_7.out; subst eo26) | ((with_reducible refine gate_builtin (b := .append) (xs := #[.tmp 46, .tmp 47]) rfl ?_); (try (refine gate_guard (by rfl) ?_; dsimp only)); at_builtin; refine Kd.R_append_rows (Kd.int .u8) (w0 := w) w.heap.size rfl (.tmp 46) (.tmp 47) 27 5 (.int .u8 0) 1 rfl Try.underlying27 info5 rfl (by decide) (by omega) u5 x5_1 y228 _ _ _ (fun k_ => some k_ ≠ (.slice Ao26 y228.length co26 : Value).ownBlock ∧ some k_ ≠ (v234 : Value).ownBlock) (fun _ => False) rfl rfl ?aO ?aR (fun _ _ h => h) (fun _ h => h.elim) ?aF ?aB ?aS ?aL ?_; (case aR => repeat (first | exact (Kd.R_reads' HO_7.out).2.2 | (with_reducible refine Kd.C_alloc ?_ _) | (with_reducible refine Kd.C_drewN ?_ _) | (with_reducible refine Kd.C_drew ?_))); (case aB => exact (b_w HB)); (case aF => exact (fun k_ hk => ⟨Kd.fresh' (Kd.R_lt (kR' HO_7)) k_ hk, Kd.fresh' (Kd.R_lt (kR' HO235)) k_ hk⟩)); (case aO => exact (kR' HO_5)); (case aS => exact (below_size (b_w HB))); (case aL => have := LMc23.out; omega); intro v241 w25 ho hb hg hat; rw [← Ny240.out] at ho; replace HO_7 := Aside0.mk (Kd.R_after (ok := (fun k_ => some k_ ≠ (v234 : Value).ownBlock)) (by (with_reducible repeat (first | apply Kd.R_alloc | apply Kd.R_drewN | apply Kd.R_drew)); exact Kd.R_mono HO_7.out (fun _ hk => ⟨hk.2, hk.1⟩)) hg hat); replace HO235 := Aside0.mk (Kd.R_after (ok := (fun k_ => some k_ ≠ (.slice Ao26 y228.length co26 : Value).ownBlock)) (by (with_reducible repeat (first | apply Kd.R_alloc | apply Kd.R_drewN | apply Kd.R_drew)); exact Kd.R_mono HO235.out (fun _ hk => ⟨hk.2, hk.1.2⟩)) hg hat); replace HB := Aside0.mk (hb); have HO242 := Aside0.mk (ho); clear HO_5; clear ho hb hg hat))
   go_roundg kj6
   case measure => have := HK1.out; have := HJ6.out; omega
   case rel => exact ⟨(y240), (wrap64 (x6_1 + 1)), sm, H', ⟨by have := HK1.out; have := HJ6.out; omega⟩, ⟨rR (Kd.R_mono (HO242.out) (fun _ hk => trivial))⟩, ⟨b_w HB⟩⟩
 rw [if_pos c18] at H
 have c18b0 := beq_iff_eq.mpr c18
 have c18b1 := bne_eq_false_iff_eq.mpr c18
 clear c18
 obtain ⟨c19, H⟩ := ifN H
 have LMc19 := Aside0.mk c19
 clear c19
 obtain ⟨y237, Ny237⟩ := yy ((x5_1 ++ t233) : List Int)
 replace H : (marginalialaw17_sectors.l0 kj6 l0 a1 y237 (wrap64 (x6_1 + 1))) = some r := yx Ny237 H
 have H' := Aside0.mk H
 clear H
 have p232 : 0 ≤ ((ji14) : Int) := od
 have q232 : (ji14) < (l0.length : Int) := od
 obtain ⟨ad232, A232_4, c232_4, e232, hx232_0, hx232_1, hx232_2, hx232_3, hx232_4, hl232_4, hi232_4⟩ := at_T106 HR0.out (ji14) p232 q232
 cases e232
 replace hx232_0 := xb HB hx232_0
 replace hx232_1 := xb HB hx232_1
 replace hx232_2 := xb HB hx232_2
 replace hx232_3 := xb HB hx232_3
 replace hx232_4 := xb HB hx232_4
 have HR232_4 := Aside0.mk hi232_4
 have HC232_4 := Aside0.mk hl232_4
 clear hi232_4 hl232_4
 replace p232 := eq_true p232
 replace q232 := eq_true q232
 go_wp2_with (first | ((with_reducible refine gate_callee (f := 64) rfl ?_); refine goesL_ (some 40) rfl rfl Try.func64 (by kernel_rfl) rfl #[.agg #[.int .u64 ((rd_T106 l0 (ji14)).f0), .int .u64 ((rd_T106 l0 (ji14)).f1), .int .i64 ((rd_T106 l0 (ji14)).f2), .int .i64 ((rd_T106 l0 (ji14)).f3), .slice A232_4 ((rd_T106 l0 (ji14)).f4).length c232_4]] rfl (by (try simp only [List.map_toArray, List.map_cons, List.map_nil]); first | done | (simp only [hji14]; rfl) | rfl | (simp only [List.length_drop, List.length_take]; rfl)) ?_; (with_reducible refine (marginaliaref16_Encode.calls kj6 ((rd_T106 l0 (ji14)).f0) ((rd_T106 l0 (ji14)).f1) ((rd_T106 l0 (ji14)).f2) ((rd_T106 l0 (ji14)).f3) _ _ ((rd_T106 l0 (ji14)).f4) t233 t236 _ ?side1 ?side2 A17.out).mono ?_); (case side1 => exact kc HR232_4 HB); (case side2 => exact HC232_4.out); rintro e w20 ⟨v234, rfl, ho0, hb⟩; refine ⟨_, rfl, ?_⟩; have HO235 := Aside0.mk (Kd.R_lower (Kd.R_new' (Kd.R_new' ho0 (Kd.R_lt (kR' HO_5))) (Kd.R_lt (kR' HO_7))) (below_size (b_w HB))); replace HO_5 := Aside0.mk (Kd.R_elder' (kR' HO_5) (Kd.R_base ho0) hb); replace HO_7 := Aside0.mk (Kd.R_elder' (kR' HO_7) (Kd.R_base ho0) hb); replace HB := bs HB hb; clear hb; (try clear ho0); obtain ⟨Ao22, co22, eo22⟩ := Kd.R_slice HO235.out; subst eo22) | ((with_reducible refine gate_builtin (b := .append) (xs := #[.tmp 46, .tmp 47]) rfl ?_); (try (refine gate_guard (by rfl) ?_; dsimp only)); at_builtin; refine Kd.R_append_rows (Kd.int .u8) (w0 := w) w.heap.size rfl (.tmp 46) (.tmp 47) 27 5 (.int .u8 0) 1 rfl Try.underlying27 info5 rfl (by decide) (by omega) u5 x5_1 t233 _ _ _ (fun k_ => some k_ ≠ (v229 : Value).ownBlock ∧ some k_ ≠ (.slice Ao22 t233.length co22 : Value).ownBlock) (fun _ => False) rfl rfl ?aO ?aR (fun _ _ h => h) (fun _ h => h.elim) ?aF ?aB ?aS ?aL ?_; (case aR => repeat (first | exact (Kd.R_reads' HO235.out).2.2 | (with_reducible refine Kd.C_alloc ?_ _) | (with_reducible refine Kd.C_drewN ?_ _) | (with_reducible refine Kd.C_drew ?_))); (case aB => exact (b_w HB)); (case aF => exact (fun k_ hk => ⟨Kd.fresh' (Kd.R_lt (kR' HO_7)) k_ hk, Kd.fresh' (Kd.R_lt (kR' HO235)) k_ hk⟩)); (case aO => exact (kR' HO_5)); (case aS => exact (below_size (b_w HB))); (case aL => have := LMc19.out; omega); intro v238 w21 ho hb hg hat; rw [← Ny237.out] at ho; replace HO_7 := Aside0.mk (Kd.R_after (ok := (fun k_ => some k_ ≠ (.slice Ao22 t233.length co22 : Value).ownBlock)) (by (with_reducible repeat (first | apply Kd.R_alloc | apply Kd.R_drewN | apply Kd.R_drew)); exact Kd.R_mono HO_7.out (fun _ hk => ⟨hk.2, hk.1⟩)) hg hat); replace HO235 := Aside0.mk (Kd.R_after (ok := (fun k_ => some k_ ≠ (v229 : Value).ownBlock)) (by (with_reducible repeat (first | apply Kd.R_alloc | apply Kd.R_drewN | apply Kd.R_drew)); exact Kd.R_mono HO235.out (fun _ hk => ⟨hk.2, hk.1.2⟩)) hg hat); replace HB := Aside0.mk (hb); have HO239 := Aside0.mk (ho); clear HO_5; clear ho hb hg hat))
 go_roundg kj6
 case measure => have := HK1.out; have := HJ6.out; omega
 case rel => exact ⟨(y237), (wrap64 (x6_1 + 1)), sm, H', ⟨by have := HK1.out; have := HJ6.out; omega⟩, ⟨rR (Kd.R_mono (HO239.out) (fun _ hk => trivial))⟩, ⟨b_w HB⟩⟩
end Go.Proofs.Ytepipgneefcoiaa.D
namespace Go.Proofs.Ytepipgneefcoiaa.D
open Go.RowKit Go.Proofs.YtepipgneefcoiaaW.PrintWords Go.Proofs.YtepipgneefcoiaaW.PrintLast Go.Proofs.YtepipgneefcoiaaW.PrintMore
theorem rdT106 {l : List S106} {j : Nat} (hj : j < l.length) : rd_T106 l (j : Int) = l[j] := rd106_at hj
theorem sect_l (l : List S106) (hb : ∀ x ∈ l, CrcK.Bytes x.f4) (a : Nat) (ha : a ≤ 100000) : ∀ (m i : Nat) (X : List Int), i + m = 4 → X.length = i * 64 → CrcK.Bytes X → ∃ B, B.length = 256 ∧ CrcK.Bytes B ∧ Ev (fun k => marginalialaw17_sectors.l0 k l (a : Int) X (i : Int)) B
  | 0, i, X, hi, hX, hB => by
    obtain rfl : i = 4 := by omega
    refine ⟨X, hX, hB, Ev.step (f := fun _ => some X) (fun k => ?_) (Ev.now _)⟩
    rw [marginalialaw17_sectors.l0, if_neg (by omega)]
  | m + 1, i, X, hi, hX, hB => by
    have w1 : wrap64 ((a : Int) + (i : Int)) = ((a + i : Nat) : Int) := by unfold wrap64; omega
    have w2 : wrap64 ((i : Int) + 1) = ((i + 1 : Nat) : Int) := by unfold wrap64; omega
    obtain ⟨Y, hY, hYb, hYe⟩ : ∃ Y : List Int, Y.length = 64 ∧ CrcK.Bytes Y ∧ ∀ B, Ev (fun k => marginalialaw17_sectors.l0 k l (a : Int) (X ++ Y) ((i + 1 : Nat) : Int)) B → Ev (fun k => marginalialaw17_sectors.l0 k l (a : Int) X (i : Int)) B := by
      have no : (∀ k, marginalialaw17_sectors.l0 (k + 1) l (a : Int) X (i : Int) = marginalialaw17_sectors.j1 k l (a : Int) X (i : Int) (List.replicate 64 0) false) → ∃ Y : List Int, Y.length = 64 ∧ CrcK.Bytes Y ∧ ∀ B, Ev (fun k => marginalialaw17_sectors.l0 k l (a : Int) (X ++ Y) ((i + 1 : Nat) : Int)) B → Ev (fun k => marginalialaw17_sectors.l0 k l (a : Int) X (i : Int)) B := fun h0 => by
        refine ⟨List.replicate 64 0, List.length_replicate, zeros_bytes 64, fun B hE => ?_⟩
        refine Ev.step (fun k => h0 k) (Ev.step (fun k => ?_) hE)
        rw [marginalialaw17_sectors.j1, if_neg (by simp), if_pos (by rw [hX, List.length_replicate]; omega), w2]
      by_cases c1 : a + i < l.length
      · have e := rdT106 c1
        by_cases c2 : l[a + i].f4.length ≤ 39
        · have h0 : ∀ k, marginalialaw17_sectors.l0 (k + 1) l (a : Int) X (i : Int) = marginalialaw17_sectors.j1 k l (a : Int) X (i : Int) (List.replicate 64 0) true := fun k => by
            rw [marginalialaw17_sectors.l0, if_pos (by omega), if_pos (by omega), Option.bind_some, w1, if_pos (by omega), if_pos (by omega), e, decide_eq_true (by omega)]
          by_cases c3 : CellLaws.May l[a + i].f2 l[a + i].f3 l[a + i].f4
          · refine ⟨encC l[a + i], CellLaws.enc_length c2, CellLaws.enc_bytes c2 (hb _ (List.getElem_mem c1)), fun B hE => ?_⟩
            refine Ev.step (fun k => h0 k) (Ev.step (f := fun k => (marginaliaref16_Encode.f k (l[a + i].f0) (l[a + i].f1) (l[a + i].f2) (l[a + i].f3) (l[a + i].f4)).bind fun bt233 => (if bt233.2 = 0 then (if X.length + bt233.1.length < 140737488355328 then (marginalialaw17_sectors.l0 k l (a : Int) (X ++ bt233.1) ((i + 1 : Nat) : Int)) else (none)) else (if X.length + (List.replicate 64 (0 : Int)).length < 140737488355328 then (marginalialaw17_sectors.l0 k l (a : Int) (X ++ List.replicate 64 0) ((i + 1 : Nat) : Int)) else (none)))) (fun k => ?_) (Ev.bind (CellLaws.refEncode_ev (hb _ (List.getElem_mem c1)) c3) ?_))
            · rw [marginalialaw17_sectors.j1, if_pos rfl, w1, if_pos (by omega), if_pos (by omega), e, w2]
            · have hl : (CellLaws.enc l[a + i].f0 l[a + i].f1 l[a + i].f2 l[a + i].f3 l[a + i].f4).length = 64 := CellLaws.enc_length c2
              refine Ev.congr (fun k => ?_) hE
              dsimp only
              rw [if_pos rfl, if_pos (by rw [hX, hl]; omega)]
              rfl
          · refine ⟨List.replicate 64 0, List.length_replicate, zeros_bytes 64, fun B hE => ?_⟩
            refine Ev.step (fun k => h0 k) (Ev.step (fun k => ?_) hE)
            rw [marginalialaw17_sectors.j1, if_pos rfl, w1, if_pos (by omega), if_pos (by omega), e, w2, CellLaws.refEncode_bad c3, Option.bind_some, if_neg (by decide), if_pos (by rw [hX, List.length_replicate]; omega)]
        · refine no (fun k => ?_)
          rw [marginalialaw17_sectors.l0, if_pos (by omega), if_pos (by omega), Option.bind_some, w1, if_pos (by omega), if_pos (by omega), e, decide_eq_false (by omega)]
      · refine no (fun k => ?_)
        rw [marginalialaw17_sectors.l0, if_pos (by omega), if_pos (by omega), Option.bind_some, w1, if_neg (by omega)]
    obtain ⟨B, h1, h2, h3⟩ := sect_l l hb a ha m (i + 1) (X ++ Y) (by omega) (by rw [List.length_append, hX, hY]; omega) (fun x hx => (List.mem_append.1 hx).elim (hB x) (hYb x))
    exact ⟨B, h1, h2, hYe B h3⟩
theorem sect_ev (l : List S106) (hb : ∀ x ∈ l, CrcK.Bytes x.f4) (a : Nat) (ha : a ≤ 100000) : ∃ B, B.length = 256 ∧ CrcK.Bytes B ∧ Ev (fun k => marginalialaw17_sectors.f k l (a : Int)) B :=
  sect_l l hb a ha 4 0 [] rfl rfl (fun x hx => by cases hx)
theorem sn_back {x : List Int} (hb : CrcK.Bytes x) : bytesOf (strOfNums x) = x := by
 have h : ∀ y ∈ x, ((UInt8.ofNat y.toNat).toNat : Int) = y := fun y hy => by
   have := hb y hy
   have h2 : (UInt8.ofNat y.toNat).toNat = y.toNat := by
     simp
     omega
   rw [h2]
   omega
 unfold bytesOf strOfNums
 simp only [Array.toList_map, List.map_map, List.toList_toArray]
 conv => rhs; rw [← List.map_id x]
 apply List.map_congr_left
 intro y hy
 exact h y hy
theorem dec16 {x : List Int} (hb : CrcK.Bytes x) (hl : x.length = 64) : ∃ r6, Ev (fun k => conv_Decode.f k (strOfNums x)) ((decZ x).f0, (decZ x).f1, (decZ x).f2, (decZ x).f3, (decZ x).f4, r6) ∧ (r6 = 0 ∧ (decZ x).f3 ≠ 0 ∨ r6 = 8 ∧ decZ x = zc6) := by
 have hf : ∀ k, conv_Decode.f k (strOfNums x) = marginaliaref16_Decode.f k x := fun k => by
   unfold conv_Decode.f
   rw [if_pos (by rw [strOfNums_size, hl]; omega), sn_back hb]
 by_cases c : CellLaws.Good x
 rotate_left
 · refine ⟨8, Ev.congr hf ?_, .inr ⟨rfl, ?_⟩⟩
   · unfold decZ
     rw [if_neg c]
     exact CellLaws.refDecode_bad hb c
   unfold decZ
   rw [if_neg c]
   rfl
 refine ⟨0, Ev.congr hf ?_, .inl ⟨rfl, ?_⟩⟩
 · unfold decZ
   rw [if_pos c]
   exact CellLaws.refDecode_good hb c
 unfold decZ
 rw [if_pos c]
 have h1 := c.2.2.1
 have h2 := (CellLaws.ofs_le hb c.1)
 show CellLaws.ofs x ≠ 0
 have h3 : 0 ≤ CellLaws.pt x := by
   have := h2.1
   omega
 omega
noncomputable def r17 (cs : List S106) (ep : Int) : List Int × Int × Int := match rec1 cs ep with
  | none => ([], 0, 0)
  | some (b, li, n) => (b, li, (n : Int))
theorem r17_none {cs : List S106} {ep : Int} (h : rec1 cs ep = none) : r17 cs ep = ([], 0, 0) := by unfold r17; rw [h]
theorem r17_some {cs : List S106} {ep : Int} {b : List Int} {li : Int} {n : Nat} (h : rec1 cs ep = some (b, li, n)) : r17 cs ep = (b, li, (n : Int)) := by unfold r17; rw [h]
structure Rows (rows : List (List Int)) : Prop where
  by_ : ∀ x ∈ rows, CrcK.Bytes x
  l64 : ∀ x ∈ rows, x.length = 64
  len : rows.length ≤ 60
theorem rd_rows {rows : List (List Int)} {j : Nat} (hj : j < rows.length) : rdOf ByteArray.empty (rows.map strOfNums) (j : Int) = strOfNums rows[j] := by
 unfold rdOf
 rw [Int.toNat_natCast, List.getD_eq_getElem?_getD, List.getElem?_map, List.getElem?_eq_getElem hj]
 rfl
theorem cellsok {rows : List (List Int)} (h : Rows rows) : ∀ c ∈ rows.map decZ, CellOk c := fun c hc => by
  obtain ⟨x, hx, rfl⟩ := List.mem_map.1 hc
  exact decZ_ok (h.by_ x hx)
theorem decZ_bytes {x : List Int} (hb : CrcK.Bytes x) : CrcK.Bytes (decZ x).f4 := by
 unfold decZ
 split
 · exact CellLaws.dat_bytes hb
 intro y hy; cases hy
open Classical in
theorem rec_loop {rows : List (List Int)} (h : Rows rows) (a n : Nat) (hn0 : 0 < n) (hn : a + n ≤ rows.length) (f0 f1 f2 : Int) (f4 : List Int) : ∀ m i : Nat, i + m = n →
    Ev (fun k => marginaliaref17_record.l0 k (rows.map strOfNums) (a : Int) ((((rows.map decZ).drop a)).take i) (i : Int) f0 f1 f2 (n : Int) f4) (if CellLaws.Row (((rows.map decZ).drop a).take n) then (CellLaws.cat (((rows.map decZ).drop a).take n), f1, (n : Int)) else ([], 0, 0))
  | 0, i, hi => by
    obtain rfl : i = n := by omega
    have hl : (((rows.map decZ).drop a).take i).length = i := by rw [List.length_take, List.length_drop, List.length_map]; omega
    have hne : ((rows.map decZ).drop a).take i ≠ [] := fun e => by rw [e] at hl; simp at hl; omega
    have hmem : ∀ j (hj : j < (((rows.map decZ).drop a).take i).length), ∃ x ∈ rows, (((rows.map decZ).drop a).take i)[j] = decZ x := fun j hj => by
      obtain ⟨x, hx, e⟩ := List.mem_map.1 (List.mem_of_mem_drop (List.mem_of_mem_take (List.getElem_mem hj)))
      exact ⟨x, hx, e.symm⟩
    have hJ := CellLaws.refJoin_ev (l := ((rows.map decZ).drop a).take i) (by rw [hl]; have := h.len; omega) (fun j hj => by
      obtain ⟨x, hx, e⟩ := hmem j hj
      rw [e]
      have := (decZ_ok (h.by_ x hx)).f4
      omega) (fun j hj => by
      obtain ⟨x, hx, e⟩ := hmem j hj
      rw [e]
      exact decZ_bytes (h.by_ x hx))
    have st : ∀ k, marginaliaref17_record.l0 (k + 1) (rows.map strOfNums) (a : Int) (((rows.map decZ).drop a).take i) (i : Int) f0 f1 f2 (i : Int) f4 = (marginaliaref16_Join.f k (((rows.map decZ).drop a).take i)).bind fun bt367 => (if bt367.2 = true then (some (bt367.1, f1, (i : Int))) else (some (([] : List Int), 0, 0))) := fun k => by
      rw [marginaliaref17_record.l0, if_neg (by omega)]
    by_cases c : CellLaws.Row (((rows.map decZ).drop a).take i)
    · rw [if_pos ⟨c, hne⟩] at hJ
      rw [if_pos c]
      exact Ev.step st (Ev.bind hJ (Ev.congr (fun k => if_pos rfl) (Ev.now _)))
    · rw [if_neg (fun q => c q.1)] at hJ
      rw [if_neg c]
      exact Ev.step st (Ev.bind hJ (Ev.congr (fun k => if_neg (by simp)) (Ev.now _)))
  | m + 1, i, hi => by
    have w1 : wrap64 ((a : Int) + (i : Int)) = ((a + i : Nat) : Int) := by have := h.len; unfold wrap64; omega
    have w2 : wrap64 ((i : Int) + 1) = ((i + 1 : Nat) : Int) := by have := h.len; unfold wrap64; omega
    have hj : a + i < rows.length := by omega
    have hlen := h.len
    obtain ⟨r6, hd, hr⟩ := dec16 (h.by_ _ (List.getElem_mem hj)) (h.l64 _ (List.getElem_mem hj))
    have hl : (((rows.map decZ).drop a).take i).length = i := by rw [List.length_take, List.length_drop, List.length_map]; omega
    refine Ev.step (f := fun k => (conv_Decode.f k (strOfNums rows[a + i])).bind fun bt355 => (if bt355.2.2.2.2.2 = 0 then (if i < 2513169434916 then (marginaliaref17_record.l0 k (rows.map strOfNums) (a : Int) (((rows.map decZ).drop a).take i ++ [(⟨bt355.1, bt355.2.1, bt355.2.2.1, bt355.2.2.2.1, bt355.2.2.2.2.1⟩ : S106)]) ((i + 1 : Nat) : Int) f0 f1 f2 (n : Int) f4) else (none)) else (some (([] : List Int), 0, 0)))) (fun k => ?_) (Ev.bind hd ?_)
    · rw [marginaliaref17_record.l0, if_pos (by omega), w1, if_pos (by omega), if_pos (by rw [List.length_map]; omega), rd_rows hj, w2, hl]
    · have hget : ((rows.map decZ).drop a)[i]? = some (decZ rows[a + i]) := by rw [List.getElem?_drop, List.getElem?_map, List.getElem?_eq_getElem hj]; rfl
      rcases hr with ⟨rfl, _⟩ | ⟨rfl, hz⟩
      · refine Ev.congr (fun k => (if_pos rfl).trans (if_pos (by omega))) ?_
        have e : ((rows.map decZ).drop a).take i ++ [(⟨(decZ rows[a + i]).f0, (decZ rows[a + i]).f1, (decZ rows[a + i]).f2, (decZ rows[a + i]).f3, (decZ rows[a + i]).f4⟩ : S106)] = ((rows.map decZ).drop a).take (i + 1) := by
          rw [List.take_add_one, hget]
          rfl
        show Ev (fun k => marginaliaref17_record.l0 k (rows.map strOfNums) (a : Int) (((rows.map decZ).drop a).take i ++ [(⟨(decZ rows[a + i]).f0, (decZ rows[a + i]).f1, (decZ rows[a + i]).f2, (decZ rows[a + i]).f3, (decZ rows[a + i]).f4⟩ : S106)]) ((i + 1 : Nat) : Int) f0 f1 f2 (n : Int) f4) _
        rw [e]
        exact rec_loop h a n hn0 hn f0 f1 f2 f4 m (i + 1) (by omega)
      · refine Ev.congr (fun k => if_neg (by simp)) ?_
        have nr : ¬ CellLaws.Row (((rows.map decZ).drop a).take n) := fun hR => by
          have hln : (((rows.map decZ).drop a).take n).length = n := by rw [List.length_take, List.length_drop, List.length_map]; omega
          have h1 := hR i (by omega)
          have h2 : (((rows.map decZ).drop a).take n)[i]'(by omega) = zc6 := by
            have : (((rows.map decZ).drop a).take n)[i]? = some (decZ rows[a + i]) := by rw [List.getElem?_take_of_lt (by omega)]; exact hget
            rw [List.getElem?_eq_getElem (by omega)] at this
            rw [Option.some.inj this, hz]
          rw [h2] at h1
          have h3 := h1.2.2.2.1
          rw [hln] at h3
          have : (0 : Int) = (n : Int) := h3
          omega
        rw [if_neg nr]
        exact Ev.now _
open Classical in
theorem rec_ev {rows : List (List Int)} (h : Rows rows) (a : Nat) (ha : a ≤ rows.length) (ep : Int) : Ev (fun k => marginaliaref17_record.f k (rows.map strOfNums) (a : Int) ep) (r17 ((rows.map decZ).drop a) ep) := by
 have hlen := h.len
 have hml : (rows.map strOfNums).length = rows.length := List.length_map ..
 have hdl : ((rows.map decZ).drop a).length = rows.length - a := by rw [List.length_drop, List.length_map]
 by_cases c0 : a = rows.length
 · have e : (rows.map decZ).drop a = [] := List.eq_nil_of_length_eq_zero (by omega)
   have : r17 ((rows.map decZ).drop a) ep = ([], 0, 0) := by unfold r17 rec1; rw [e]; rfl
   rw [this]
   refine Ev.congr (fun k => ?_) (Ev.now _)
   unfold marginaliaref17_record.f
   rw [hml, if_pos (by omega)]
 have hj : a < rows.length := by omega
 obtain ⟨r6, hd, hr⟩ := dec16 (h.by_ _ (List.getElem_mem hj)) (h.l64 _ (List.getElem_mem hj))
 have h0 : rd_T106 ((rows.map decZ).drop a) 0 = decZ rows[a] := by
   have := rd106_at (cs := (rows.map decZ).drop a) (j := 0) (by omega)
   rw [show ((0 : Nat) : Int) = 0 from rfl] at this
   rw [this, List.getElem_drop, List.getElem_map]
   rfl
 have hok := decZ_ok (h.by_ _ (List.getElem_mem hj))
 have w1 : wrap64 ((rows.length : Int) - (a : Int)) = (((rows.length - a : Nat)) : Int) := by unfold wrap64; omega
 obtain ⟨d, hdd⟩ : ∃ d, d = decZ rows[a] := ⟨_, rfl⟩
 rw [← hdd] at hd hr h0 hok
 have no : ∀ v, Ev (fun k => marginaliaref17_record.j0 k (rows.map strOfNums) (a : Int) true d.f0 d.f1 d.f2 d.f3 v) ([], 0, 0) := fun v => by
   refine Ev.step (f := fun _ => some ([], 0, 0)) (fun k => ?_) (Ev.now _)
   rw [marginaliaref17_record.j0, if_pos rfl]
 refine Ev.congr (f := fun k => (conv_Decode.f k (strOfNums rows[a])).bind fun bt342 => (if bt342.2.2.2.2.2 = 0 then (if bt342.1 = ep then (if bt342.2.2.1 = 0 then (marginaliaref17_record.j0 k (rows.map strOfNums) (a : Int) (decide (bt342.2.2.2.1 > (((rows.length - a : Nat)) : Int))) bt342.1 bt342.2.1 bt342.2.2.1 bt342.2.2.2.1 bt342.2.2.2.2.1) else (marginaliaref17_record.j0 k (rows.map strOfNums) (a : Int) true bt342.1 bt342.2.1 bt342.2.2.1 bt342.2.2.2.1 bt342.2.2.2.2.1)) else (marginaliaref17_record.j0 k (rows.map strOfNums) (a : Int) true bt342.1 bt342.2.1 bt342.2.2.1 bt342.2.2.2.1 bt342.2.2.2.2.1)) else (marginaliaref17_record.j0 k (rows.map strOfNums) (a : Int) true bt342.1 bt342.2.1 bt342.2.2.1 bt342.2.2.2.1 bt342.2.2.2.2.1))) (fun k => ?_) (Ev.bind hd ?_)
 · unfold marginaliaref17_record.f
   rw [hml, if_neg (by omega), if_pos (by omega), if_pos (by omega), rd_rows hj, w1]
 have R : r17 ((rows.map decZ).drop a) ep = (if d.f3 = 0 then ([], 0, 0) else if d.f3 > (((rows.length - a : Nat)) : Int) then ([], 0, 0) else if d.f0 ≠ ep then ([], 0, 0) else if CellLaws.Row (((rows.map decZ).drop a).take d.f3.toNat) then (CellLaws.cat (((rows.map decZ).drop a).take d.f3.toNat), d.f1, (d.f3.toNat : Int)) else ([], 0, 0)) := by
   have hrec : rec1 ((rows.map decZ).drop a) ep = (if d.f3 = 0 then none else if d.f3 > (((rows.length - a : Nat)) : Int) then none else if d.f0 ≠ ep then none else if CellLaws.Row (((rows.map decZ).drop a).take d.f3.toNat) then some (CellLaws.cat (((rows.map decZ).drop a).take d.f3.toNat), d.f1, d.f3.toNat) else none) := by
     unfold rec1
     rw [h0, hdl, if_neg (by omega)]
   by_cases c1 : d.f3 = 0
   · rw [if_pos c1] at hrec
     rw [if_pos c1, r17_none hrec]
   rw [if_neg c1] at hrec
   rw [if_neg c1]
   by_cases c2 : d.f3 > (((rows.length - a : Nat)) : Int)
   · rw [if_pos c2] at hrec
     rw [if_pos c2, r17_none hrec]
   rw [if_neg c2] at hrec
   rw [if_neg c2]
   by_cases c3 : d.f0 ≠ ep
   · rw [if_pos c3] at hrec
     rw [if_pos c3, r17_none hrec]
   rw [if_neg c3] at hrec
   rw [if_neg c3]
   by_cases c4 : CellLaws.Row (((rows.map decZ).drop a).take d.f3.toNat)
   · rw [if_pos c4] at hrec
     rw [if_pos c4, r17_some hrec]
   · rw [if_neg c4] at hrec
     rw [if_neg c4, r17_none hrec]
 rw [R]
 rcases hr with ⟨rfl, hf3⟩ | ⟨rfl, hz⟩
 · rw [if_neg hf3]
   by_cases c1 : d.f0 = ep
   rotate_left
   · have hR : (if d.f3 > (((rows.length - a : Nat)) : Int) then (([] : List Int), (0 : Int), (0 : Int)) else if d.f0 ≠ ep then ([], 0, 0) else if CellLaws.Row (((rows.map decZ).drop a).take d.f3.toNat) then (CellLaws.cat (((rows.map decZ).drop a).take d.f3.toNat), d.f1, (d.f3.toNat : Int)) else ([], 0, 0)) = ([], 0, 0) := by
       by_cases c3 : d.f3 > (((rows.length - a : Nat)) : Int)
       · rw [if_pos c3]
       · rw [if_neg c3]
         exact if_pos c1
     rw [hR]
     refine Ev.congr (fun k => ?_) (no d.f4)
     dsimp only
     rw [if_pos rfl, if_neg c1]
   by_cases c2 : d.f2 = 0
   · by_cases c3 : d.f3 > (((rows.length - a : Nat)) : Int)
     · rw [if_pos c3]
       refine Ev.congr (fun k => ?_) (no d.f4)
       dsimp only
       rw [if_pos rfl, if_pos c1, if_pos c2, decide_eq_true c3]
     rw [if_neg c3, if_neg (fun q => q c1)]
     have hp := hok.f3
     obtain ⟨n, hn⟩ : ∃ n : Nat, d.f3 = (n : Int) := ⟨d.f3.toNat, by omega⟩
     have hl := rec_loop h a n (by omega) (by omega) d.f0 d.f1 d.f2 d.f4 n 0 (by omega)
     rw [hn, Int.toNat_natCast]
     refine Ev.congr (f := fun k => marginaliaref17_record.j0 k (rows.map strOfNums) (a : Int) false d.f0 d.f1 d.f2 (n : Int) d.f4) (fun k => ?_) (Ev.step (fun k => ?_) hl)
     · dsimp only
       rw [if_pos rfl, if_pos c1, if_pos c2, decide_eq_false (show ¬ (n : Int) > (((rows.length - a : Nat)) : Int) from by rw [← hn]; exact c3)]
     rw [marginaliaref17_record.j0, if_neg (by simp)]
     rfl
   have hR : (if d.f3 > (((rows.length - a : Nat)) : Int) then (([] : List Int), (0 : Int), (0 : Int)) else if d.f0 ≠ ep then ([], 0, 0) else if CellLaws.Row (((rows.map decZ).drop a).take d.f3.toNat) then (CellLaws.cat (((rows.map decZ).drop a).take d.f3.toNat), d.f1, (d.f3.toNat : Int)) else ([], 0, 0)) = ([], 0, 0) := by
     by_cases c3 : d.f3 > (((rows.length - a : Nat)) : Int)
     · rw [if_pos c3]
     · rw [if_neg c3, if_neg (fun q => q c1), if_neg (fun hR => c2 ?_)]
       have hp := hok.f3
       have hln : (((rows.map decZ).drop a).take d.f3.toNat).length = d.f3.toNat := by rw [List.length_take, hdl]; omega
       have h1 := (hR 0 (by omega)).2.2.1
       rw [List.getElem_take, ← rd106_at (j := 0) (by omega)] at h1
       rw [show ((0 : Nat) : Int) = 0 from rfl, h0] at h1
       exact h1
   rw [hR]
   refine Ev.congr (fun k => ?_) (no d.f4)
   dsimp only
   rw [if_pos rfl, if_pos c1, if_neg c2]
 rw [if_pos (by rw [hz]; rfl)]
 refine Ev.congr (fun k => ?_) (no d.f4)
 dsimp only
 rw [if_neg (by decide)]
end Go.Proofs.Ytepipgneefcoiaa.D
namespace Go.Proofs.Ytepipgneefcoiaa.D
open Go.RowKit Go.Proofs.YtepipgneefcoiaaW.PrintWords Go.Proofs.YtepipgneefcoiaaW.PrintLast Go.Proofs.YtepipgneefcoiaaW.PrintMore
theorem q_sub {r e n f : Nat} (h1 : r - e < f + 1) (h2 : 0 < n) (h3 : n ≤ r - e) : r - (e + n) < f := by omega
theorem q_add {r e n : Nat} (h1 : e ≤ r) (h3 : n ≤ r - e) : e + n ≤ r := by omega
theorem open_l1 {rows : List (List Int)} (h : Rows rows) (ep fi si L : Int) : ∀ (f en : Nat) (least : Int) (rs : List (List Int)), rows.length - en < f → en ≤ rows.length → rs.length ≤ en →
    Ev (fun k => marginaliaref17_Open.l1 k ep (rows.map strOfNums) least (r17 ((rows.map decZ).drop en) ep).1 (r17 ((rows.map decZ).drop en) ep).2.1 (r17 ((rows.map decZ).drop en) ep).2.2 fi si ep L (en : Int) rs false) (fi, si, ep, L, ((en + (prs ep f ((rows.map decZ).drop en) least).2 : Nat) : Int), rs ++ (prs ep f ((rows.map decZ).drop en) least).1, false, 0) := by
  intro f
  induction f with
  | zero => intro en least rs hf _ _; omega
  | succ f ih0 =>
    intro en least rs hf hen hrs
    have hlen := h.len
    have hdl : ((rows.map decZ).drop en).length = rows.length - en := by rw [List.length_drop, List.length_map]
    have stop : prs ep (f + 1) ((rows.map decZ).drop en) least = ([], 0) → Ev (fun _ : Nat => some (fi, si, ep, L, (en : Int), rs, false, (0 : Int))) (fi, si, ep, L, ((en + (prs ep (f + 1) ((rows.map decZ).drop en) least).2 : Nat) : Int), rs ++ (prs ep (f + 1) ((rows.map decZ).drop en) least).1, false, 0) := fun hp => by
      rw [hp, List.append_nil]
      exact Ev.now _
    cases hr : rec1 ((rows.map decZ).drop en) ep with
    | none =>
      have hp : prs ep (f + 1) ((rows.map decZ).drop en) least = ([], 0) := by unfold prs; rw [hr]
      rw [r17_none hr]
      refine Ev.step (fun k => ?_) (stop hp)
      rw [marginaliaref17_Open.l1, if_neg (by simp)]
    | some t =>
      obtain ⟨b, li, n⟩ := t
      rw [r17_some hr]
      have hle := rec1_le hr
      have h3 : 0 ≤ (rd_T106 ((rows.map decZ).drop en) 0).f3 := by
        by_cases c : 0 < ((rows.map decZ).drop en).length
        · have := rd106_at c
          rw [show ((0 : Nat) : Int) = 0 from rfl] at this
          rw [this]
          exact (cellsok h _ (List.mem_of_mem_drop (List.getElem_mem c))).f3
        · have : (rows.map decZ).drop en = [] := List.eq_nil_of_length_eq_zero (by omega)
          rw [this]
          decide
      obtain ⟨e1, e2, _⟩ := rec1_some hr h3
      have hn : 0 < n := by rw [e1]; exact mny_pos e2
      by_cases c : li < least
      · have hp : prs ep (f + 1) ((rows.map decZ).drop en) least = ([], 0) := by unfold prs; rw [hr]; exact if_pos c
        refine Ev.step (fun k => ?_) (stop hp)
        have g1 : (n : Int) > 0 := Int.ofNat_lt.2 hn
        rw [marginaliaref17_Open.l1, if_pos g1, if_neg (show ¬ li ≥ least from Int.not_le.2 c)]
      · have hp : prs ep (f + 1) ((rows.map decZ).drop en) least = (b :: (prs ep f ((rows.map decZ).drop (en + n)) li).1, n + (prs ep f ((rows.map decZ).drop (en + n)) li).2) := by
          rw [prs, hr]
          dsimp only
          rw [if_neg c, List.drop_drop]
        have w1 : wrap64 ((en : Int) + (n : Int)) = ((en + n : Nat) : Int) := by unfold wrap64; omega
        have hle2 : n ≤ rows.length - en := Nat.le_trans hle (Nat.le_of_eq hdl)
        have q1 : rows.length - (en + n) < f := q_sub hf hn hle2
        have q2 : en + n ≤ rows.length := q_add hen hle2
        have q3 : (rs ++ [b]).length ≤ en + n := by rw [List.length_append, List.length_singleton]; exact Nat.add_le_add hrs hn
        have ih := ih0 (en + n) li (rs ++ [b]) q1 q2 q3
        rw [hp]
        refine Ev.step (f := fun k => (marginaliaref17_record.f k (rows.map strOfNums) ((en + n : Nat) : Int) ep).bind fun bt395 => (marginaliaref17_Open.l1 k ep (rows.map strOfNums) li bt395.1 bt395.2.1 bt395.2.2 fi si ep L ((en + n : Nat) : Int) (rs ++ [b]) false)) (fun k => ?_) (Ev.bind (rec_ev h (en + n) q2 ep) ?_)
        · have g1 : (n : Int) > 0 := Int.ofNat_lt.2 hn
          have g2 : li ≥ least := Int.not_lt.1 c
          have g3 : rs.length < 5864062014805 := Nat.lt_of_le_of_lt (Nat.le_trans hrs (Nat.le_trans hen hlen)) (by decide)
          rw [marginaliaref17_Open.l1, if_pos g1, if_pos g2, if_pos g3, w1]
        · have e : ((en + n + (prs ep f ((rows.map decZ).drop (en + n)) li).2 : Nat) : Int) = ((en + (n + (prs ep f ((rows.map decZ).drop (en + n)) li).2) : Nat) : Int) := by rw [Nat.add_assoc]
          rw [List.append_assoc, e] at ih
          exact ih
noncomputable def o17 (cs : List S106) (fi si ep : Int) : Int × Int × Int × Int × Int × List (List Int) × Bool × Int :=
  if lmax cs = 18446744073709551615 then (0, 0, 0, 0, 0, [], false, 8) else (fi, si, ep, lmax cs + 1, ((prs ep (cs.length + 1) cs 0).2 : Int), (prs ep (cs.length + 1) cs 0).1, false, 0)
theorem open_l0 {rows : List (List Int)} (h : Rows rows) (fi si ep : Int) : ∀ m j : Nat, j + m = rows.length → Ev (fun k => marginaliaref17_Open.l0 k fi si ep (rows.map strOfNums) (lmax ((rows.map decZ).take j)) (j : Int)) (o17 (rows.map decZ) fi si ep)
  | 0, j, hj => by
    have hlen := h.len
    have hml : (rows.map strOfNums).length = rows.length := List.length_map ..
    have e : (rows.map decZ).take j = rows.map decZ := List.take_of_length_le (by rw [List.length_map]; omega)
    rw [e]
    unfold o17
    have hlr := lmax_range (cellsok h)
    by_cases c : lmax (rows.map decZ) = 18446744073709551615
    · rw [if_pos c]
      refine Ev.step (f := fun _ => some (0, 0, 0, 0, 0, [], false, 8)) (fun k => ?_) (Ev.now _)
      rw [marginaliaref17_Open.l0, if_neg (by rw [hml]; omega), if_pos c]
    · rw [if_neg c]
      have wu : IntKind.u64.wrap (lmax (rows.map decZ) + 1) = lmax (rows.map decZ) + 1 := by
        simp [IntKind.wrap, IntKind.bits, IntKind.signed]
        omega
      have hl := open_l1 h ep fi si (lmax (rows.map decZ) + 1) ((rows.map decZ).length + 1) 0 0 [] (by rw [List.length_map]; omega) (Nat.zero_le _) (Nat.le_refl _)
      rw [Nat.zero_add, List.nil_append, List.drop_zero] at hl
      refine Ev.step (f := fun k => (marginaliaref17_record.f k (rows.map strOfNums) 0 ep).bind fun bt387 => (marginaliaref17_Open.l1 k ep (rows.map strOfNums) 0 bt387.1 bt387.2.1 bt387.2.2 fi si ep (lmax (rows.map decZ) + 1) 0 ([] : List (List Int)) false)) (fun k => ?_) (Ev.bind (rec_ev h 0 (Nat.zero_le _) ep) ?_)
      · rw [marginaliaref17_Open.l0, if_neg (by rw [hml]; omega), if_neg c, wu]
      · rw [List.drop_zero]
        exact hl
  | m + 1, j, hj => by
    have hlen := h.len
    have hml : (rows.map strOfNums).length = rows.length := List.length_map ..
    have hjl : j < rows.length := by omega
    have w2 : wrap64 ((j : Int) + 1) = ((j + 1 : Nat) : Int) := by unfold wrap64; omega
    obtain ⟨r6, hd, hr⟩ := dec16 (h.by_ _ (List.getElem_mem hjl)) (h.l64 _ (List.getElem_mem hjl))
    have hs := lmax_succ (rows.map decZ) (j := j) (by rw [List.length_map]; omega)
    rw [List.getElem_map] at hs
    have h0 : 0 ≤ lmax ((rows.map decZ).take j) := (lmax_range (fun c hc => cellsok h c (List.mem_of_mem_take hc))).1
    have ih := open_l0 h fi si ep m (j + 1) (by omega)
    rw [hs] at ih
    refine Ev.step (f := fun k => (conv_Decode.f k (strOfNums rows[j])).bind fun bt377 => (if bt377.2.2.2.2.2 = 0 then (if bt377.2.1 > lmax ((rows.map decZ).take j) then (marginaliaref17_Open.l0 k fi si ep (rows.map strOfNums) bt377.2.1 ((j + 1 : Nat) : Int)) else (marginaliaref17_Open.l0 k fi si ep (rows.map strOfNums) (lmax ((rows.map decZ).take j)) ((j + 1 : Nat) : Int))) else (marginaliaref17_Open.l0 k fi si ep (rows.map strOfNums) (lmax ((rows.map decZ).take j)) ((j + 1 : Nat) : Int)))) (fun k => ?_) (Ev.bind hd ?_)
    · rw [marginaliaref17_Open.l0, if_pos (by rw [hml]; omega), if_pos (by omega), rd_rows hjl, w2]
    · rcases hr with ⟨rfl, _⟩ | ⟨rfl, hz⟩
      · by_cases c : lmax ((rows.map decZ).take j) < (decZ rows[j]).f1
        · rw [if_pos c] at ih
          refine Ev.congr (fun k => ?_) ih
          dsimp only
          rw [if_pos rfl, if_pos c]
        · rw [if_neg c] at ih
          refine Ev.congr (fun k => ?_) ih
          dsimp only
          rw [if_pos rfl, if_neg c]
      · have c : ¬ lmax ((rows.map decZ).take j) < (decZ rows[j]).f1 := by
          rw [hz]
          show ¬ lmax ((rows.map decZ).take j) < 0
          omega
        rw [if_neg c] at ih
        refine Ev.congr (fun k => ?_) ih
        dsimp only
        rw [if_neg (by decide)]
theorem sec_rows {s : Dk} (hn : Nw s) (hby : CrcK.Bytes s.now) {fi si : Nat} (h : fi + si ≤ s.nb) (h15 : si ≤ 15) : Rows (secL s.now (fi * 4) (si * 4)) := by
 have hl := hn.1.now
 refine ⟨fun x hx => ?_, fun x hx => ?_, by rw [secL_len]; omega⟩
 · obtain ⟨i, hi, rfl⟩ := List.mem_map.1 hx
   exact CellLaws.by_take (CellLaws.by_drop hby _) _
 obtain ⟨i, hi, rfl⟩ := List.mem_map.1 hx
 rw [List.mem_range] at hi
 exact cut8_len (by omega)
theorem secs_rows {s : Dk} {fi si : Nat} (h : fi + si ≤ s.nb) : ((secs s.now (s.nb * 4)).drop (fi * 4)).take (si * 4) = (secL s.now (fi * 4) (si * 4)).map strOfNums := by
 apply List.ext_getElem?
 intro j
 by_cases c : j < si * 4
 rotate_left
 · rw [List.getElem?_eq_none (by rw [List.length_take]; omega), List.getElem?_eq_none (by rw [List.length_map, secL_len]; omega)]
 rw [List.getElem?_take_of_lt c, List.getElem?_drop, secs_at (by omega), List.getElem?_map]
 unfold secL
 rw [List.getElem?_map, List.getElem?_range c]
 rfl
theorem open_ev {s : Dk} {F : List ByteArray} {P : List S111} {le : Int} {fu of : Bool} (hR : Rl s F P le fu of) (hl : s.pend.length ≤ 100000) (hnb : s.nb ≤ 15) (hby : CrcK.Bytes s.now) (fi si ep : Int) (hi : -9223372036854775808 ≤ fi ∧ fi ≤ 9223372036854775807) (hs : -9223372036854775808 ≤ si ∧ si ≤ 9223372036854775807) :
    Ev (fun k => marginaliaref17_Open.f k F P le fu of fi si ep) (if fi < 0 ∨ si < 1 ∨ si > (s.nb : Int) ∨ fi > (s.nb : Int) - si then (0, 0, 0, 0, 0, [], false, 1) else if of = true then (0, 0, 0, 0, 0, [], false, 9) else o17 ((secL s.now (fi.toNat * 4) (si.toNat * 4)).map decZ) fi si ep) := by
  have hF : F.length = s.nb * 4 := by rw [hR.F, secs_len]
  have w0 : wrap64 ((F.length : Int) / 4) = (s.nb : Int) := by rw [hF]; unfold wrap64; omega
  have bad : Ev (fun k => marginaliaref17_Open.j0 k fi si ep true F P le fu of) (0, 0, 0, 0, 0, [], false, 1) := by
    refine Ev.step (f := fun _ => some (0, 0, 0, 0, 0, [], false, 1)) (fun k => ?_) (Ev.now _)
    rw [marginaliaref17_Open.j0, if_pos rfl]
  by_cases c1 : fi < 0
  · rw [if_pos (.inl c1)]
    refine Ev.congr (fun k => ?_) bad
    unfold marginaliaref17_Open.f
    rw [if_pos c1]
  by_cases c2 : si < 1
  · rw [if_pos (.inr (.inl c2))]
    refine Ev.congr (fun k => ?_) bad
    unfold marginaliaref17_Open.f
    rw [if_neg c1, if_pos c2]
  by_cases c3 : si > (s.nb : Int)
  · rw [if_pos (.inr (.inr (.inl c3)))]
    refine Ev.congr (fun k => ?_) bad
    unfold marginaliaref17_Open.f
    rw [if_neg c1, if_neg c2, w0, if_pos c3]
  have w3 : wrap64 ((s.nb : Int) - si) = (s.nb : Int) - si := by unfold wrap64; omega
  by_cases c4 : fi > (s.nb : Int) - si
  · rw [if_pos (.inr (.inr (.inr c4)))]
    refine Ev.congr (fun k => ?_) bad
    unfold marginaliaref17_Open.f
    rw [if_neg c1, if_neg c2, w0, if_neg c3, w3, decide_eq_true c4]
  rw [if_neg (by omega)]
  have hgo : ∀ k, marginaliaref17_Open.f k F P le fu of fi si ep = marginaliaref17_Open.j0 k fi si ep false F P le fu of := fun k => by
    unfold marginaliaref17_Open.f
    rw [if_neg c1, if_neg c2, w0, if_neg c3, w3, decide_eq_false c4]
  refine Ev.congr hgo ?_
  by_cases c5 : of = true
  · rw [if_pos c5]
    refine Ev.step (f := fun _ => some (0, 0, 0, 0, 0, [], false, 9)) (fun k => ?_) (Ev.now _)
    rw [marginaliaref17_Open.j0, if_neg (by simp), if_pos c5]
  · rw [if_neg c5]
    obtain ⟨a, ha⟩ : ∃ a : Nat, fi = (a : Int) := ⟨fi.toNat, by omega⟩
    obtain ⟨b, hb⟩ : ∃ b : Nat, si = (b : Int) := ⟨si.toNat, by omega⟩
    subst ha hb
    rw [Int.toNat_natCast, Int.toNat_natCast]
    have hab : a + b ≤ s.nb := by omega
    have hRows := sec_rows hR.nw hby hab (by omega)
    have hsec : Ev (fun k => marginaliaref17_sectors.f k F P le fu of (a : Int) (b : Int)) ((secL s.now (a * 4) (b * 4)).map strOfNums) := by
      refine ⟨s.pend.length + 1, fun k hk => ?_⟩
      show marginaliaref17_sectors.f k F P le fu of (a : Int) (b : Int) = _
      unfold marginaliaref17_sectors.f
      rw [if_pos (by omega), Now_ev hR hl k (by omega), Option.bind_some, if_pos (by rw [secs_len]; omega), Int.toNat_natCast, Int.toNat_natCast, secs_rows hab]
    refine Ev.step (f := fun k => (marginaliaref17_sectors.f k F P le fu of (a : Int) (b : Int)).bind fun t373 => (marginaliaref17_Open.l0 k (a : Int) (b : Int) ep t373 0 0)) (fun k => ?_) (Ev.bind hsec ?_)
    · rw [marginaliaref17_Open.j0, if_neg (by simp), if_neg c5]
    · exact open_l0 hRows (a : Int) (b : Int) ep (secL s.now (a * 4) (b * 4)).length 0 (by omega)
end Go.Proofs.Ytepipgneefcoiaa.D
namespace Go.Proofs.Ytepipgneefcoiaa.D
open Go.RowKit Go.Proofs.YtepipgneefcoiaaW.PrintWords Go.Proofs.YtepipgneefcoiaaW.PrintLast Go.Proofs.YtepipgneefcoiaaW.PrintMore
theorem R_oth2 {α : Type} {d : Kd α} {e : Nat} {w w' : World} {base : Nat} {ok : Nat → Prop} {v : Value} {xs : List α} (h : Kd.R d e w base ok v xs) (k : oth w w') (hE : ∀ q, q ∈ e :: d.E → q ≠ 94 ∧ q ≠ 96 ∧ q ≠ 100) : Kd.R d e w' base ok v xs := by
 refine Kd.R_mono (Kd.R_move (Kd.R_bound h) ?_) (fun i hi => hi.1)
 rintro i ⟨_, _, hlt, q, hq, cells, hc⟩
 obtain ⟨a, b, c⟩ := hE q hq
 rw [hc]
 exact k.2 i cells q hc a b c
def JM (w0 w : World) (p g8 : Nat) (s : Dk) (F : List ByteArray) (P : List S111) (le : Int) (fu of : Bool) : Prop := J w0 w p s ∧ w0.heap.size ≤ g8 ∧ ∃ u0 u1, w.heap[g8]? = some (.cells #[u0, u1, .int .i64 le, .bool fu, .bool of] 51 (0, 0)) ∧ Kd.R Kd.string 9 w w0.heap.size (fun k => some k = u0.ownBlock) u0 F ∧ Kd.R k111 111 w w0.heap.size (fun k => some k = u1.ownBlock) u1 P
theorem JM_deep {w0 w w' : World} {p g8 : Nat} {s : Dk} {F : List ByteArray} {P : List S111} {le : Int} {fu of : Bool} (h : JM w0 w p g8 s F P le fu of) (b : Below w.heap.size w w') : JM w0 w' p g8 s F P le fu of := by
 obtain ⟨h1, h2, u0, u1, h3, h4, h5⟩ := h
 exact ⟨J_deep h1 b, h2, u0, u1, blk_below h3 b, Kd.R_below h4 b, Kd.R_below h5 b⟩
theorem JM_oth {w0 w w' : World} {p g8 : Nat} {s s' : Dk} {F : List ByteArray} {P : List S111} {le : Int} {fu of : Bool} (h : JM w0 w p g8 s F P le fu of) (hJ : J w0 w' p s') (ho : oth w w') : JM w0 w' p g8 s' F P le fu of := by
 obtain ⟨h1, h2, u0, u1, h3, h4, h5⟩ := h
 exact ⟨hJ, h2, u0, u1, ho.2 _ _ _ h3 (by decide) (by decide) (by decide), R_oth2 h4 ho (by decide), R_oth2 h5 ho (by decide)⟩
theorem J_kept {w0 w w' : World} {p : Nat} {s : Dk} {S : Nat → Prop} (h : J w0 w p s) (hk : Kept w w' S) (hS : ∀ k, S k → ∃ cells T, w.heap[k]? = some (.cells cells T (0, 0)) ∧ (T = 9 ∨ T = 111)) (hb : Below w0.heap.size w0 w') : J w0 w' p s := by
 obtain ⟨a, b, vP, h1, h2⟩ := h
 have far : ∀ (i : Nat) (cells : Array Value) (T : TypeId), w.heap[i]? = some (.cells cells T (0, 0)) → T ≠ 9 → T ≠ 111 → w'.heap[i]? = some (.cells cells T (0, 0)) := by
   intro i cells T hi hT hT2
   rw [hk.2 i (blk_lt hi) (fun e => ?_)]
   · exact hi
   · obtain ⟨c', T', hc', e'⟩ := hS i e
     rcases e' with rfl | rfl
     · exact blk_ne hi hc' hT rfl
     · exact blk_ne hi hc' hT2 rfl
 refine ⟨a, b, vP, ⟨far _ _ _ h1.box (by decide) (by decide), far _ _ _ h1.now (by decide) (by decide), far _ _ _ h1.safe (by decide) (by decide), ?_, h1.ne, h1.hp, h1.hn, h1.hf, h1.ok⟩, hb⟩
 refine Kd.R_mono (Kd.R_move (Kd.R_bound h1.pend) ?_) (fun i hi => hi.1)
 rintro i ⟨_, _, hlt, q, hq, cells, hc⟩
 have hq' : q = 100 := by simpa [kP, kB, Kd.iso, Kd.pair, Kd.int, Kd.scalar, Kd.arr] using hq
 subst hq'
 rw [hc]
 exact far _ _ _ hc (by decide) (by decide)
theorem JM_model {w0 w w' : World} {p g8 : Nat} {s : Dk} {F F' : List ByteArray} {P P' : List S111} {le : Int} {fu of : Bool} {u0 u1 v0 v1 : Value} {o1 o2 : Nat → Prop} (h : J w0 w p s) (hg : w0.heap.size ≤ g8) (h3 : w.heap[g8]? = some (.cells #[u0, u1, .int .i64 le, .bool fu, .bool of] 51 (0, 0))) (h4 : Kd.R Kd.string 9 w w0.heap.size (fun k => some k = u0.ownBlock) u0 F) (h5 : Kd.R k111 111 w w0.heap.size (fun k => some k = u1.ownBlock) u1 P)
    (r0 : Kd.R Kd.string 9 w' w0.heap.size o1 v0 F') (r1 : Kd.R k111 111 w' w0.heap.size o2 v1 P') (hb : Below w0.heap.size w0 w') (hk : Kept w w' (fun k => some k = u0.ownBlock ∨ some k = u1.ownBlock)) :
    J w0 w' p s ∧ w'.heap[g8]? = some (.cells #[u0, u1, .int .i64 le, .bool fu, .bool of] 51 (0, 0)) ∧ Kd.R Kd.string 9 w' w0.heap.size (fun k => some k = v0.ownBlock) v0 F' ∧ Kd.R k111 111 w' w0.heap.size (fun k => some k = v1.ownBlock) v1 P' ∧ ∀ (i : Nat) (cells : Array Value) (T : TypeId), w.heap[i]? = some (.cells cells T (0, 0)) → T ≠ 9 → T ≠ 111 → w'.heap[i]? = some (.cells cells T (0, 0)) := by
  have hS : ∀ k, (some k = u0.ownBlock ∨ some k = u1.ownBlock) → ∃ cells T, w.heap[k]? = some (.cells cells T (0, 0)) ∧ (T = 9 ∨ T = 111) := by
    rintro k (e | e)
    · obtain ⟨c, hc⟩ := Kd.R_typed h4 k e.symm
      exact ⟨c, 9, hc, .inl rfl⟩
    · obtain ⟨c, hc⟩ := Kd.R_typed h5 k e.symm
      exact ⟨c, 111, hc, .inr rfl⟩
  have far : ∀ (i : Nat) (cells : Array Value) (T : TypeId), w.heap[i]? = some (.cells cells T (0, 0)) → T ≠ 9 → T ≠ 111 → w'.heap[i]? = some (.cells cells T (0, 0)) := by
    intro i cells T hi hT hT2
    rw [hk.2 i (blk_lt hi) (fun e => ?_)]
    · exact hi
    · obtain ⟨c', T', hc', e'⟩ := hS i e
      rcases e' with rfl | rfl
      · exact blk_ne hi hc' hT rfl
      · exact blk_ne hi hc' hT2 rfl
  exact ⟨J_kept h hk hS hb, far _ _ _ h3 (by decide) (by decide), Kd.R_tight rfl r0, Kd.R_tight rfl r1, far⟩
theorem J_lower {w0 w1 w : World} {p : Nat} {s : Dk} (h : J w1 w p s) (hb : Below w0.heap.size w0 w1) : J w0 w p s := by
 obtain ⟨a, b, v, h1, h2⟩ := h
 have hs := hb.size
 exact ⟨a, b, v, ⟨h1.box, h1.now, h1.safe, Kd.R_lower h1.pend hs, h1.ne, Nat.le_trans hs h1.hp, Nat.le_trans hs h1.hn, Nat.le_trans hs h1.hf, h1.ok⟩, below_step hb h2⟩
theorem JM_new {w0 w1 w2 w3 : World} {p : Nat} {s : Dk} {F : List ByteArray} {A0 A2 : Option Addr} {c0 c2 : Nat} {o1 o2 : Nat → Prop} (hb : Below w0.heap.size w0 w1) (h2 : J w1 w2 p s) (h : J w1 w3 p s) (r0 : Kd.R Kd.string 9 w3 w2.heap.size o1 (.slice A0 F.length c0) F) (r1 : Kd.R k111 111 w3 w2.heap.size o2 (.slice A2 ([] : List S111).length c2) []) : JM w0 (w3.alloc (.cells #[.slice A0 F.length c0, .slice A2 ([] : List S111).length c2, .int .i64 0, .bool false, .bool false] 51 (0, 0))) p w3.heap.size s F [] 0 false false := by
 have b := below_alloc (Below.refl w3.heap.size w3) (.cells #[.slice A0 F.length c0, .slice A2 ([] : List S111).length c2, .int .i64 0, .bool false, .bool false] 51 (0, 0))
 have l2 : w0.heap.size ≤ w2.heap.size := Nat.le_trans hb.size (J_below h2).size
 exact ⟨J_deep (J_lower h hb) b, Nat.le_trans hb.size (J_below h).size, _, _, blk_new _ _, Kd.R_tight rfl (Kd.R_lower (Kd.R_below r0 b) l2), Kd.R_tight rfl (Kd.R_lower (Kd.R_below r1 b) l2)⟩
theorem J_set51 {w0 w : World} {p g i : Nat} {s : Dk} {cells : Array Value} (h : J w0 w p s) (hg : w0.heap.size ≤ g) (hb : w.heap[g]? = some (.cells cells 51 (0, 0))) (u : Value) : J w0 (w.setCell ⟨g, i, none⟩ u) p s := by
 obtain ⟨a, b, v, h1, h2⟩ := h
 exact ⟨a, b, v, ⟨blk_far h1.box (p := ⟨g, i, none⟩) (blk_ne h1.box hb (by decide)) u, blk_far h1.now (p := ⟨g, i, none⟩) (blk_ne h1.now hb (by decide)) u, blk_far h1.safe (p := ⟨g, i, none⟩) (blk_ne h1.safe hb (by decide)) u, Kd.R_set h1.pend hb (by decide) i u, h1.ne, h1.hp, h1.hn, h1.hf, h1.ok⟩, below_set h2 hg⟩
theorem JM_store {w0 w : World} {p g8 g11 : Nat} {s : Dk} {F : List ByteArray} {P : List S111} {le : Int} {fu of : Bool} {a b c d e v0 v1 : Value} {X : Array Value} (h : J w0 w p s) (hg : w0.heap.size ≤ g8) (h3 : w.heap[g8]? = some (.cells #[a, b, c, d, e] 51 (0, 0))) (h4 : Kd.R Kd.string 9 w w0.heap.size (fun k => some k = v0.ownBlock) v0 F) (h5 : Kd.R k111 111 w w0.heap.size (fun k => some k = v1.ownBlock) v1 P) (h6 : w.heap[g11]? = some (.cells X 61 (0, 0))) :
    JM w0 (((((w.setCell ⟨g8, 0, none⟩ v0).setCell ⟨g8, 1, none⟩ v1).setCell ⟨g8, 2, none⟩ (.int .i64 le)).setCell ⟨g8, 3, none⟩ (.bool fu)).setCell ⟨g8, 4, none⟩ (.bool of)) p g8 s F P le fu of ∧ (((((w.setCell ⟨g8, 0, none⟩ v0).setCell ⟨g8, 1, none⟩ v1).setCell ⟨g8, 2, none⟩ (.int .i64 le)).setCell ⟨g8, 3, none⟩ (.bool fu)).setCell ⟨g8, 4, none⟩ (.bool of)).heap[g11]? = some (.cells X 61 (0, 0)) := by
  have step : ∀ (W : World) (Y : Array Value) (i : Nat) (u : Value), J w0 W p s → W.heap[g8]? = some (.cells Y 51 (0, 0)) → Kd.R Kd.string 9 W w0.heap.size (fun k => some k = v0.ownBlock) v0 F → Kd.R k111 111 W w0.heap.size (fun k => some k = v1.ownBlock) v1 P → W.heap[g11]? = some (.cells X 61 (0, 0)) →
      J w0 (W.setCell ⟨g8, i, none⟩ u) p s ∧ (W.setCell ⟨g8, i, none⟩ u).heap[g8]? = some (.cells (Y.setIfInBounds i u) 51 (0, 0)) ∧ Kd.R Kd.string 9 (W.setCell ⟨g8, i, none⟩ u) w0.heap.size (fun k => some k = v0.ownBlock) v0 F ∧ Kd.R k111 111 (W.setCell ⟨g8, i, none⟩ u) w0.heap.size (fun k => some k = v1.ownBlock) v1 P ∧ (W.setCell ⟨g8, i, none⟩ u).heap[g11]? = some (.cells X 61 (0, 0)) :=
    fun W Y i u q1 q2 q3 q4 q5 => ⟨J_set51 q1 hg q2 u, blk_set q2 i u, Kd.R_set q3 q2 (by decide) i u, Kd.R_set q4 q2 (by decide) i u, blk_far q5 (p := ⟨g8, i, none⟩) (blk_ne q5 q2 (by decide)) u⟩
  obtain ⟨a1, a2, a3, a4, a5⟩ := step _ _ 0 v0 h h3 h4 h5 h6
  obtain ⟨b1, b2, b3, b4, b5⟩ := step _ _ 1 v1 a1 a2 a3 a4 a5
  obtain ⟨c1, c2, c3, c4, c5⟩ := step _ _ 2 (.int .i64 le) b1 b2 b3 b4 b5
  obtain ⟨d1, d2, d3, d4, d5⟩ := step _ _ 3 (.bool fu) c1 c2 c3 c4 c5
  obtain ⟨e1, e2, e3, e4, e5⟩ := step _ _ 4 (.bool of) d1 d2 d3 d4 d5
  exact ⟨⟨e1, hg, v0, v1, e2.trans rfl, e3, e4⟩, e5⟩
end Go.Proofs.Ytepipgneefcoiaa.D
namespace Go.Proofs.Ytepipgneefcoiaa.D
open Go.RowKit Go.Proofs.YtepipgneefcoiaaW.PrintWords Go.Proofs.YtepipgneefcoiaaW.PrintLast Go.Proofs.YtepipgneefcoiaaW.PrintMore
def marginaliaref17_Room.f (a0_0 : Int) (a0_1 : Int) (a0_2 : Int) (a0_3 : Int) (a0_4 : Int) (l0_5 : List (List Int)) (a0_6 : Bool) : Option (Int) := if a0_6 = true then (some 0) else (some (mn (wrap64 ((wrap64 ((wrap64 (a0_1 * 4)) - a0_4)) * 39)) 6000))
set_option maxHeartbeats 8000000 in
set_option maxRecDepth 100000 in
theorem marginaliaref17_Room.calls (a0_0 : Int) (a0_1 : Int) (a0_2 : Int) (a0_3 : Int) (a0_4 : Int) (A0_5 : Option Addr) (c0_5 : Nat) (l0_5 : List (List Int)) (a0_6 : Bool) (r : Int) (w : World) (hr0_5 : Kd.C (Kd.slice 5 (Kd.int .u8)) w A0_5 l0_5.length l0_5) (hc0_5 : l0_5.length ≤ c0_5) (h : marginaliaref17_Room.f a0_0 a0_1 a0_2 a0_3 a0_4 l0_5 a0_6 = some r) :
    Calls Try.prog 41 #[.agg #[.int .i64 a0_0, .int .i64 a0_1, .int .u64 a0_2, .int .u64 a0_3, .int .i64 a0_4, .slice A0_5 l0_5.length c0_5, .bool a0_6]] w fun e w' => e = .returned (.int .i64 r) ∧ Below w.heap.size w w' := by
 have hu69 := Try.underlying69
 have HR0_5 := Aside0.mk hr0_5
 have HC0_5 := Aside0.mk hc0_5
 clear hr0_5 hc0_5
 have HB := Aside0.mk (Below.refl w.heap.size w)
 have H : (if a0_6 = true then (some 0) else (some (mn (wrap64 ((wrap64 ((wrap64 (a0_1 * 4)) - a0_4)) * 39)) 6000))) = some r := h
 clear h
 by_cases c2 : a0_6 = true
 · subst c2
   replace H := it H
   obtain rfl := Option.some.inj H
   go_enter Try.func41, Try.ntmps41
   go_wp2_with (first | ((with_reducible refine gate_dst (N := 1) rfl ?_); refine bx 1 #[.int .i64 a0_0, .int .i64 a0_1, .int .u64 a0_2, .int .u64 a0_3, .int .i64 a0_4, .slice A0_5 l0_5.length c0_5, .bool true] 69 ?_; intro gb402 hg w3 hbox hb; have BK402 := Aside0.mk (hbox); have GW402 := gs HB hg; have GE402 := gs HB hg; replace HB := bs HB hb; clear hb hbox hg; obtain ⟨_,_,_,_,_,_,_,_,_,_,_,_,_,_⟩ := cz7 BK402.out))
   go_ret
   exact ⟨er, b_w HB⟩
 replace c2 := Bool.eq_false_iff.mpr c2
 subst c2
 replace H := fi H
 obtain ⟨ji5, hji5⟩ : ∃ j_ : Int, (mn (wrap64 ((wrap64 ((wrap64 (a0_1 * 4)) - a0_4)) * 39)) 6000) = j_ := ⟨_, rfl⟩
 replace H : (some ji5) = some r := by first | (rw [hji5] at H; exact H) | (simp only [hji5] at H ⊢; exact H)
 (try (have hji5h : ji5 ≤ 6000 := by (rw [← hji5]; unfold mn; (repeat' split) <;> omega)))
 (try (have hji5g : ji5 ≤ 64 := by omega))
 have hji5_ : (if 6000 < (wrap64 ((wrap64 ((wrap64 (a0_1 * 4)) - a0_4)) * 39)) then 6000 else (wrap64 ((wrap64 ((wrap64 (a0_1 * 4)) - a0_4)) * 39))) = ji5 := hji5
 (try (have hji5d := hji5_; simp only [List.length_drop, List.length_take] at hji5d))
 obtain rfl := Option.some.inj H
 go_enter Try.func41, Try.ntmps41
 go_wp2_with (first | ((with_reducible refine gate_dst (N := 1) rfl ?_); refine bx 1 #[.int .i64 a0_0, .int .i64 a0_1, .int .u64 a0_2, .int .u64 a0_3, .int .i64 a0_4, .slice A0_5 l0_5.length c0_5, .bool false] 69 ?_; intro gb402 hg w6 hbox hb; have BK402 := Aside0.mk (hbox); have GW402 := gs HB hg; have GE402 := gs HB hg; replace HB := bs HB hb; clear hb hbox hg; obtain ⟨_,_,_,_,_,_,_,_,_,_,_,_,_,_⟩ := cz7 BK402.out))
 go_ret
 exact ⟨by first | rfl | (simp [errW_none, errW_some] <;> rfl) | (simp only [← hji5]; first | rfl | (simp [errW_none, errW_some] <;> rfl)) | (simp [*, errW_none, errW_some] <;> rfl), b_w HB⟩
end Go.Proofs.Ytepipgneefcoiaa.D
namespace Go.Proofs.Ytepipgneefcoiaa.D
open Go.RowKit Go.Proofs.YtepipgneefcoiaaW.PrintWords Go.Proofs.YtepipgneefcoiaaW.PrintLast Go.Proofs.YtepipgneefcoiaaW.PrintMore
def marginaliaref17_Same.l0 : Nat → List (List Int) → List (List Int) → Int → Option (Bool)
  | 0, _, _, _ => none
  | k + 1, x0, x1, x5 => if x5 < (x0.length : Int) then (if 0 ≤ x5 then (if x5 < (x1.length : Int) then (if (strOfNums (rd_L3 x0 x5)).toList = (strOfNums (rd_L3 x1 x5)).toList then (marginaliaref17_Same.l0 k x0 x1 (wrap64 (x5 + 1))) else (some false)) else (none)) else (none)) else (some true)
def marginaliaref17_Same.f (k : Nat) (l0 : List (List Int)) (l1 : List (List Int)) : Option (Bool) := if (l0.length : Int) = (l1.length : Int) then (marginaliaref17_Same.l0 k l0 l1 0) else (some false)
set_option maxHeartbeats 8000000 in
set_option maxRecDepth 100000 in
theorem marginaliaref17_Same.calls (k : Nat) (A0 : Option Addr) (c0 : Nat) (l0 : List (List Int)) (A1 : Option Addr) (c1 : Nat) (l1 : List (List Int)) (r : Bool) (w : World) (hr0 : Kd.C (Kd.slice 5 (Kd.int .u8)) w A0 l0.length l0) (hc0 : l0.length ≤ c0) (hr1 : Kd.C (Kd.slice 5 (Kd.int .u8)) w A1 l1.length l1) (hc1 : l1.length ≤ c1) (h : marginaliaref17_Same.f k l0 l1 = some r) :
    Calls Try.prog 38 #[.slice A0 l0.length c0, .slice A1 l1.length c1] w fun e w' => e = .returned (.bool r) ∧ Drawn0 w w' := by
 have HR0 := Aside0.mk hr0
 have HC0 := Aside0.mk hc0
 clear hr0 hc0
 have HR1 := Aside0.mk hr1
 have HC1 := Aside0.mk hc1
 clear hr1 hc1
 have H : (if (l0.length : Int) = (l1.length : Int) then (marginaliaref17_Same.l0 k l0 l1 0) else (some false)) = some r := h
 clear h
 by_cases c3 : (l0.length : Int) = (l1.length : Int)
 rotate_left
 · rw [if_neg c3] at H
   have c3b0 := beq_eq_false_iff_ne.mpr c3
   have c3b1 := bne_iff_ne.mpr c3
   have c3b2 : (l0.length == l1.length) = false := by first | simpa using c3 | (simp at c3 ⊢; omega)
   obtain rfl := Option.some.inj H
   go_enter Try.func38, Try.ntmps38
   go_wp2
   repeat (go_quiet (fail); try go_wp2)
   go_ret
   exact ⟨by first | rfl | (simp; done) | (simp [*]; done), by repeat (first | exact Drawn0.refl _ | apply Drawn0.step)⟩
 rw [if_pos c3] at H
 have c3b0 := beq_iff_eq.mpr c3
 have c3b1 := bne_eq_false_iff_eq.mpr c3
 have c3b2 : (l0.length == l1.length) = true := by first | simpa using c3 | (simp at c3 ⊢; omega)
 clear c3
 have H' := Aside0.mk H
 clear H
 go_enter Try.func38, Try.ntmps38
 go_wp2
 repeat (go_quiet (fail); try go_wp2)
 go_loopg [5] k (fun kq v5 w' => ∃ (x5_1 : Int), v5 = .int .i64 x5_1 ∧ Aside0 (marginaliaref17_Same.l0 kq l0 l1 x5_1 = some r) ∧ Aside0 (kq ≤ k) ∧ Drawn0 w w')
 case atStart => exact ⟨(0), sm, H', ⟨Nat.le_refl _⟩, by repeat (first | exact Drawn0.refl _ | apply Drawn0.step)⟩
 clear H'
 try clear c1
 try clear p2
 try clear c3
 try clear c3b0
 try clear c3b1
 try clear c3b2
 obtain ⟨x5_1, rfl, HA, HK1, ⟨m1, rfl⟩⟩ := hrel
 cases gk with
 | zero => exact absurd HA.out (by simp [marginaliaref17_Same.l0])
 | succ k1 => ?_
 have H := HA.out
 clear HA
 simp only [marginaliaref17_Same.l0] at H
 by_cases c4 : x5_1 < (l0.length : Int)
 rotate_left
 · rw [if_neg c4] at H
   have c4b0 := decide_eq_false c4
   clear c4
   obtain rfl := Option.some.inj H
   go_wp2
   repeat (go_quiet (fail); try go_wp2)
   go_ret
   exact ⟨by first | rfl | (simp; done) | (simp [*]; done), by repeat (first | exact Drawn0.refl _ | apply Drawn0.step)⟩
 rw [if_pos c4] at H
 have c4b0 := decide_eq_true c4
 clear c4
 obtain ⟨c5, H⟩ := ifN H
 have c5b0 := decide_eq_true c5
 clear c5
 obtain ⟨c6, H⟩ := ifN H
 have c6b0 := decide_eq_true c6
 clear c6
 by_cases c7 : (strOfNums (rd_L3 l0 x5_1)).toList = (strOfNums (rd_L3 l1 x5_1)).toList
 rotate_left
 · rw [if_neg c7] at H
   have c7b0 := beq_eq_false_iff_ne.mpr c7
   have c7b1 := bne_iff_ne.mpr c7
   obtain rfl := Option.some.inj H
   have p400 : 0 ≤ (x5_1 : Int) := od
   have q400 : x5_1 < (l0.length : Int) := od
   obtain ⟨ad400, A400_0, c400_0, e400, hx400_0, hl400_0, hi400_0⟩ := at_L3 HR0.out x5_1 p400 q400
   cases e400
   have HR400_0 := Aside0.mk hi400_0
   have HC400_0 := Aside0.mk hl400_0
   clear hi400_0 hl400_0
   replace p400 := eq_true p400
   replace q400 := eq_true q400
   have hcv10 := Kd.C_string (P := Try.prog) (A := A400_0) (c := c400_0) Try.underlying27 Try.underlying5 Try.underlying9 HR400_0.out
   have hcd10 := fun (nq_ : Nat) => Kd.C_string (P := Try.prog) (A := A400_0) (c := c400_0) Try.underlying27 Try.underlying5 Try.underlying9 (Kd.C_drewN (HR400_0.out) nq_)
   have p401 : 0 ≤ (x5_1 : Int) := od
   have q401 : x5_1 < (l1.length : Int) := od
   obtain ⟨ad401, A401_0, c401_0, e401, hx401_0, hl401_0, hi401_0⟩ := at_L3 HR1.out x5_1 p401 q401
   cases e401
   have HR401_0 := Aside0.mk hi401_0
   have HC401_0 := Aside0.mk hl401_0
   clear hi401_0 hl401_0
   replace p401 := eq_true p401
   replace q401 := eq_true q401
   have hcv11 := Kd.C_string (P := Try.prog) (A := A401_0) (c := c401_0) Try.underlying27 Try.underlying5 Try.underlying9 HR401_0.out
   have hcd11 := fun (nq_ : Nat) => Kd.C_string (P := Try.prog) (A := A401_0) (c := c401_0) Try.underlying27 Try.underlying5 Try.underlying9 (Kd.C_drewN (HR401_0.out) nq_)
   go_wp2
   repeat (go_quiet (fail); try go_wp2)
   go_ret
   exact ⟨by first | rfl | (simp; done) | (simp [*]; done), by repeat (first | exact Drawn0.refl _ | apply Drawn0.step)⟩
 rw [if_pos c7] at H
 have c7b0 := beq_iff_eq.mpr c7
 have c7b1 := bne_eq_false_iff_eq.mpr c7
 clear c7
 have H' := Aside0.mk H
 clear H
 have p400 : 0 ≤ (x5_1 : Int) := od
 have q400 : x5_1 < (l0.length : Int) := od
 obtain ⟨ad400, A400_0, c400_0, e400, hx400_0, hl400_0, hi400_0⟩ := at_L3 HR0.out x5_1 p400 q400
 cases e400
 have HR400_0 := Aside0.mk hi400_0
 have HC400_0 := Aside0.mk hl400_0
 clear hi400_0 hl400_0
 replace p400 := eq_true p400
 replace q400 := eq_true q400
 have hcv8 := Kd.C_string (P := Try.prog) (A := A400_0) (c := c400_0) Try.underlying27 Try.underlying5 Try.underlying9 HR400_0.out
 have hcd8 := fun (nq_ : Nat) => Kd.C_string (P := Try.prog) (A := A400_0) (c := c400_0) Try.underlying27 Try.underlying5 Try.underlying9 (Kd.C_drewN (HR400_0.out) nq_)
 have p401 : 0 ≤ (x5_1 : Int) := od
 have q401 : x5_1 < (l1.length : Int) := od
 obtain ⟨ad401, A401_0, c401_0, e401, hx401_0, hl401_0, hi401_0⟩ := at_L3 HR1.out x5_1 p401 q401
 cases e401
 have HR401_0 := Aside0.mk hi401_0
 have HC401_0 := Aside0.mk hl401_0
 clear hi401_0 hl401_0
 replace p401 := eq_true p401
 replace q401 := eq_true q401
 have hcv9 := Kd.C_string (P := Try.prog) (A := A401_0) (c := c401_0) Try.underlying27 Try.underlying5 Try.underlying9 HR401_0.out
 have hcd9 := fun (nq_ : Nat) => Kd.C_string (P := Try.prog) (A := A401_0) (c := c401_0) Try.underlying27 Try.underlying5 Try.underlying9 (Kd.C_drewN (HR401_0.out) nq_)
 go_wp2
 repeat (go_quiet (fail); try go_wp2)
 go_roundg k1
 case measure => have := HK1.out; omega
 case rel => exact ⟨(wrap64 (x5_1 + 1)), sm, H', ⟨by have := HK1.out; omega⟩, by repeat (first | exact Drawn0.refl _ | apply Drawn0.step)⟩
end Go.Proofs.Ytepipgneefcoiaa.D
