/- What the law WalReads rests on, part 6: words on memory, the functions that it reaches as plain Lean functions with the proofs that the machine's calls come to them, and the mathematics; no condition beyond those that each theorem names. -/
import Derived.Test.YtepipgneefcoiaaZWalReads5
set_option linter.unusedVariables false
set_option linter.unusedSimpArgs false
namespace Go.Proofs.Ytepipgneefcoiaa.D
open Go.RowKit Go.Proofs.YtepipgneefcoiaaW.PrintWords Go.Proofs.YtepipgneefcoiaaW.PrintLast Go.Proofs.YtepipgneefcoiaaW.PrintMore
def psx (x : Pc) : Nat := x.bl.toNat * 256 + x.at_.toNat
def Sx (s : Dk) : Prop := Nw s ∧ ∀ y ∈ s.pend, psx y % 64 = 0
def Poss (s : Dk) (i : Nat) (x : List Int) : Prop := x = cut8 s.safe (i * 64) 64 ∨ ∃ y ∈ s.pend, psx y = i * 64 ∧ y.b = x
theorem wrx_sec {s s' : Dk} {e : Int} (h : Sx s) {n : Nat} (hn : n < s.nb) {B : List Int} (hB : B.length = 256) (hx : wrx s (n : Int) B = (s', e)) : Sx s' ∧ s'.nb = s.nb ∧ s'.pend.length ≤ s.pend.length + 4 ∧ (s.of = false → s.fu = false → e = 0 ∧ s'.of = false ∧ s'.fu = false) ∧ ((e = 0 ∧ s'.now = sp8 s.now (n * 256) B ∧ s'.safe = s.safe ∧ s'.pend = s.pend ++ pcs (n : Int) B) ∨ (e = 9 ∧ s'.now = s.now ∧ s'.safe = s.safe ∧ s'.pend = s.pend)) := by
 have hh : hasB s (n : Int) = true := by unfold hasB; simp; omega
 have k := pwx_keeps s
 have N := wrx_Nw h.1 (n : Int) B
 rw [hx] at N
 have q : s.of = false → s.fu = false → (pwx s).2 = true ∧ (pwx s).1.of = false ∧ (pwx s).1.fu = false := fun h1 h2 => by
   unfold pwx
   rw [h1, h2, if_neg (by simp)]
   exact ⟨rfl, rfl, rfl⟩
 unfold wrx at hx
 rw [if_pos ⟨hh, hB⟩] at hx
 by_cases c : (pwx s).2 = true
 rotate_left
 · rw [if_neg c] at hx
   injection hx with e1 e2
   subst e1 e2
   exact ⟨⟨pwx_Nw h.1, by rw [k.1]; exact h.2⟩, k.2.1, by rw [k.1]; omega, fun h1 h2 => absurd (q h1 h2).1 c, .inr ⟨rfl, k.2.2.1, k.2.2.2, k.1⟩⟩
 rw [if_pos c] at hx
 injection hx with e1 e2
 subst e1 e2
 have hp : (pwx s).1.pend ++ pcs (n : Int) B = s.pend ++ pcs (n : Int) B := by rw [k.1]
 have hnow : sp8 (pwx s).1.now ((n : Int).toNat * 256) B = sp8 s.now (n * 256) B := by rw [k.2.2.1, Int.toNat_natCast]
 refine ⟨⟨N, fun y hy => ?_⟩, k.2.1, ?_, fun h1 h2 => ⟨rfl, (q h1 h2).2⟩, .inl ⟨rfl, hnow, k.2.2.2, hp⟩⟩
 · change y ∈ (pwx s).1.pend ++ pcs (n : Int) B at hy
   rw [hp, List.mem_append] at hy
   rcases hy with hy | hy
   · exact h.2 y hy
   have : y = ⟨n, 0, cut8 B 0 64⟩ ∨ y = ⟨n, 64, cut8 B 64 64⟩ ∨ y = ⟨n, 128, cut8 B 128 64⟩ ∨ y = ⟨n, 192, cut8 B 192 64⟩ := by simpa [pcs] using hy
   rcases this with rfl | rfl | rfl | rfl
   · show (n * 256 + 0) % 64 = 0; omega
   · show (n * 256 + 64) % 64 = 0; omega
   · show (n * 256 + 128) % 64 = 0; omega
   show (n * 256 + 192) % 64 = 0; omega
 show ((pwx s).1.pend ++ pcs (n : Int) B).length ≤ _
 rw [hp, List.length_append]
 simp [pcs]
structure Fl (n j : Nat) (l : Wl) (s : Dk) : Prop where
  sx : Sx s
  nb : s.nb = n
  of : s.of = false
  fu : s.fu = false
  pd : s.pend.length ≤ 800 * j
  fi : l.fi = 0
  si : l.si = n
  en : l.en ≤ n * 4
  rs : l.rs.length ≤ j
  br : l.br = false
theorem pick17 (a0 m : Int) (h0 : 0 < m) (h1 : m ≤ 100) : ∃ r : Nat, marginalialaw17_pick.f a0 m = some (r : Int) ∧ (r : Int) < m := by
 unfold marginalialaw17_pick.f
 rw [if_neg (by omega)]
 have h1 : -m < Int.tmod a0 m ∧ Int.tmod a0 m < m := by
   have := Int.tmod_lt_of_pos a0 h0
   have h2 := Int.neg_tmod a0 m
   have := Int.tmod_lt_of_pos (-a0) h0
   omega
 have e : wrap64 (Int.tmod a0 m + m) = Int.tmod a0 m + m := IntWalk.wrap64_in _ (by omega)
 rw [e]
 have h3 : 0 ≤ Int.tmod (Int.tmod a0 m + m) m := Int.tmod_nonneg _ (by omega)
 exact ⟨(Int.tmod (Int.tmod a0 m + m) m).toNat, by rw [Int.toNat_of_nonneg h3], by rw [Int.toNat_of_nonneg h3]; exact Int.tmod_lt_of_pos _ h0⟩
def mny (b : List Int) : Nat := CellLaws.many b.length
def cutr (b : List Int) (ep li : Int) : List S106 := CellLaws.cutn b ep li (CellLaws.many b.length : Int) (CellLaws.many b.length)
theorem mny_pos {b : List Int} (h : b ≠ []) : 0 < mny b := by
 have := List.length_pos_iff.2 h
 unfold mny CellLaws.many
 omega
def PC (s : Dk) (i : Nat) (c : S106) : Prop := i < 32 ∧ ∃ x, Poss s (8 + i) x ∧ decZ x = c
theorem rec1_some {cs : List S106} {ep : Int} {b : List Int} {li : Int} {n : Nat} (h : rec1 cs ep = some (b, li, n)) (h3 : 0 ≤ (rd_T106 cs 0).f3) : n = mny b ∧ b ≠ [] ∧ cs.take (mny b) = cutr b ep li := by
 unfold rec1 at h
 split at h
 · cases h
 rename_i n0
 split at h
 · cases h
 rename_i n1
 split at h
 · cases h
 rename_i n2
 split at h
 · cases h
 rename_i n3
 split at h
 · rename_i hR
   injection h with h
   injection h with e1 h
   injection h with e2 e3
   have hn : 0 < n := by omega
   have hl : (cs.take n).length = n := by rw [List.length_take]; omega
   rw [e3] at hR e1
   have hi := (CellLaws.cutn_iff (l := cs.take n) (by omega)).2 hR
   have h0 : (cs.take n)[0]'(by omega) = rd_T106 cs 0 := by
     rw [List.getElem_take]
     exact (rd106_at (j := 0) (by omega)).symm
   rw [h0, e1, e2] at hi
   have e4 : (rd_T106 cs 0).f0 = ep := by simpa using n3
   rw [e4] at hi
   have e5 : n = mny b := by
     have := congrArg List.length hi
     rw [CellLaws.cutn_length, hl] at this
     exact this.symm
   refine ⟨e5, fun e => ?_, by rw [← e5]; exact hi.symm⟩
   subst e
   unfold mny CellLaws.many at e5
   simp at e5
   omega
 cases h
end Go.Proofs.Ytepipgneefcoiaa.D
namespace Go.Proofs.Ytepipgneefcoiaa.D
open Go.RowKit Go.Proofs.YtepipgneefcoiaaW.PrintWords Go.Proofs.YtepipgneefcoiaaW.PrintLast Go.Proofs.YtepipgneefcoiaaW.PrintMore
def marginaliaref16_Decode.j0 : Nat → List Int → Bool → Option (Int × Int × Int × Int × List Int × Int)
  | 0, _, _ => none
  | k + 1, x0, x15 => if x15 = true then (some (0, 0, 0, 0, ([] : List Int), 8)) else (if 8 ≤ (x0.length : Int) then ((marginaliaref16_Number.f k (x0.take 8)).bind fun t289 => (if 8 ≤ 16 then (if 16 ≤ (x0.length : Int) then ((marginaliaref16_Number.f k ((x0.take 16).drop 8)).bind fun t291 => (if 16 ≤ 18 then (if 18 ≤ (x0.length : Int) then ((marginaliaref16_Number.f k ((x0.take 18).drop 16)).bind fun t293 => (if 18 ≤ 20 then (if 20 ≤ (x0.length : Int) then ((marginaliaref16_Number.f k ((x0.take 20).drop 18)).bind fun t295 => ((some (([] : List Int) : List Int)).bind fun y297 => (if 20 < (x0.length : Int) then (if 21 ≤ (wrap64 (21 + (wrap64 (rd x0 20)))) then (if (wrap64 (21 + (wrap64 (rd x0 20)))) ≤ (x0.length : Int) then (if y297.length + ((x0.take ((wrap64 (21 + (wrap64 (rd x0 20)))) : Int).toNat).drop 21).length < 140737488355328 then ((some (y297 ++ ((x0.take ((wrap64 (21 + (wrap64 (rd x0 20)))) : Int).toNat).drop 21) : List Int)).bind fun y302 => ((marginaliaref16_Encode.f k t289 t291 (wrap64 (t293)) (wrap64 (t295)) y302).bind fun bt305 => (if bt305.2 = 0 then (if (strOfNums bt305.1).toList = (strOfNums x0).toList then (some (t289, t291, wrap64 (t293), wrap64 (t295), y302, 0)) else (some (0, 0, 0, 0, ([] : List Int), 8))) else (some (0, 0, 0, 0, ([] : List Int), 8))))) else (none)) else (none)) else (none)) else (none)))) else (none)) else (none))) else (none)) else (none))) else (none)) else (none))) else (none))
def marginaliaref16_Decode.f (k : Nat) (l0 : List Int) : Option (Int × Int × Int × Int × List Int × Int) := if (l0.length : Int) = 64 then (if 20 < (l0.length : Int) then (marginaliaref16_Decode.j0 k l0 (decide ((rd l0 20) > 39))) else (none)) else (marginaliaref16_Decode.j0 k l0 true)
def marginaliaref16_Decode.T3 : Bool × List (List Nat × List Nat) := (true, [([], []), ([0], [0]), ([1], [1]), ([], []), ([3], [3]), ([4, 2], [4]), ([], []), ([6], [6]), ([7, 5], [7]), ([8], [8]), ([], []), ([10], [10]), ([11, 8], [11]), ([12], [12]), ([2, 5, 9, 13], [2, 5, 9, 13]), ([], []), ([15, 14, 12, 0, 1, 2, 3, 4, 5, 6, 7, 8, 9, 10, 11, 12, 13, 14, 15], [14, 15])])
def marginaliaref16_Decode.B3 : List Nat := [0, 1, 3, 0, 8, 31, 0, 64, 255, 511, 0, 1024, 3583, 7679, 16383, 0, 65535]
theorem marginaliaref16_Decode.tab3 : rtab .any (opsOf Try.f70 3) = marginaliaref16_Decode.T3 := by kernel_rfl
theorem marginaliaref16_Decode.bits3 : waitsOk marginaliaref16_Decode.T3.2 marginaliaref16_Decode.B3 = true := by kernel_rfl
set_option maxHeartbeats 8000000 in
set_option maxRecDepth 100000 in
theorem marginaliaref16_Decode.calls (k : Nat) (A0 : Option Addr) (c0 : Nat) (l0 : List Int) (r1 : Int) (r2 : Int) (r3 : Int) (r4 : Int) (r5 : List Int) (r6 : Int) (w : World) (hr0 : Kd.C (Kd.int .u8) w A0 l0.length l0) (hc0 : l0.length ≤ c0) (h : marginaliaref16_Decode.f k l0 = some (r1, r2, r3, r4, r5, r6)) :
    Calls Try.prog 70 #[.slice A0 l0.length c0] w fun e w' => ∃ v4_ : Value, e = .returned (.tuple #[.agg #[.int .u64 r1, .int .u64 r2, .int .i64 r3, .int .i64 r4, v4_], .int .i64 r6]) ∧ Kd.R (Kd.int .u8) 5 w' w.heap.size (fun _ => True) v4_ r5 ∧ Below w.heap.size w w' := by
 have hu106 := Try.underlying106
 have HR0 := Aside0.mk hr0
 have HC0 := Aside0.mk hc0
 clear hr0 hc0
 have HB := Aside0.mk (Below.refl w.heap.size w)
 have H : (if (l0.length : Int) = 64 then (if 20 < (l0.length : Int) then (marginaliaref16_Decode.j0 k l0 (decide ((rd l0 20) > 39))) else (none)) else (marginaliaref16_Decode.j0 k l0 true)) = some (r1, r2, r3, r4, r5, r6) := h
 clear h
 have HC2 := Aside0.mk H
 clear H
 go_enter Try.func70, Try.ntmps70
 go_upto_region 1 with (first | ((with_reducible refine gate_dst (N := 2) rfl ?_); refine bx 2 #[.int .u64 0, .int .u64 0, .int .i64 0, .int .i64 0, .slice none 0 0] 106 ?_; intro gb286 hg w3 hbox hb; have BK286 := Aside0.mk (hbox); have GW286 := gs HB hg; have GE286 := gs HB hg; replace HB := bs HB hb; clear hb hbox hg))
 (try simp only [Act.put, List.setIfInBounds_toArray, List.set_cons_zero, List.set_cons_succ])
 go_cut [15] (fun v15 wc => ∃ (kq : Nat) (x15_1 : Bool), v15 = .bool x15_1 ∧ Aside0 (marginaliaref16_Decode.j0 kq l0 x15_1 = some (r1, r2, r3, r4, r5, r6)) ∧ Aside0 (kq ≤ k) ∧ Aside0 (wc.heap[gb286]? = some (.cells #[.int .u64 0, .int .u64 0, .int .i64 0, .int .i64 0, (.slice none 0 0)] 106 (0, 0))) ∧ Aside0 (Below w.heap.size w wc))
 case first =>
  have H := HC2.out
  clear HC2
  by_cases c4 : (l0.length : Int) = 64
  rotate_left
  · rw [if_neg c4] at H
    have c4b0 := beq_eq_false_iff_ne.mpr c4
    have c4b1 := bne_iff_ne.mpr c4
    (first | rw [c4b0] | (simp only [i64_w, i32_w]; rw [c4b0]) | skip)
    have H' := Aside0.mk H
    clear H
    go_wp2
    go_meet
    case rel => exact ⟨_, (true), sm, H', ⟨om⟩, ⟨bk BK286⟩, ⟨b_w HB⟩⟩
  rw [if_pos c4] at H
  have c4b0 := beq_iff_eq.mpr c4
  have c4b1 := bne_eq_false_iff_eq.mpr c4
  clear c4
  (first | rw [c4b0] | (simp only [i64_w, i32_w]; rw [c4b0]) | skip)
  obtain ⟨c5, H⟩ := ifN H
  have c5b0 := decide_eq_true c5
  have c5b1 : decide (20 < l0.length) = true := decide_eq_true (by omega)
  clear c5
  have H' := Aside0.mk H
  clear H
  have p287 : 0 ≤ (20 : Int) := (by omega)
  have q287 : 20 < (l0.length : Int) := od
  obtain ⟨ad287, e287, hx287_0⟩ := Kd.at_int HR0.out 20 p287 q287
  cases e287
  (try simp only [show (20 : Int).toNat = 20 from rfl, Nat.reduceMul, Nat.reduceEqDiff, Go.Addr.add, ↓reduceIte] at hx287_0)
  have qi287 : (20 < l0.length) = True := eq_true (by omega)
  (try rw [show ((20 : Int)).toNat = 20 from rfl] at hx287_0)
  replace hx287_0 := xb HB hx287_0
  replace p287 := eq_true p287
  replace q287 := eq_true q287
  go_wp2
  go_meet
  case rel => exact ⟨_, (decide ((rd l0 20) > 39)), sm, H', ⟨om⟩, ⟨bk BK286⟩, ⟨b_w HB⟩⟩
 clear HC2
 try clear p2
 try clear q2
 try clear hx2
 try clear qi2
 try clear c4
 try clear c4b0
 try clear c4b1
 try clear c5
 try clear c5b0
 try clear c5b1
 try clear hx287_0
 try clear p287
 try clear q287
 obtain ⟨kq, x15_1, rfl, HA, HJ1, BK286, HB⟩ := hcut
 cases kq with
 | zero => exact absurd HA.out (by simp [marginaliaref16_Decode.j0])
 | succ kj1 => ?_
 have H := HA.out
 clear HA
 simp only [marginaliaref16_Decode.j0] at H
 by_cases c6 : x15_1 = true
 · subst c6
   replace H := it H
   simp only [Option.some.injEq, Prod.mk.injEq] at H
   obtain ⟨rfl, rfl, rfl, rfl, rfl, rfl⟩ := H
   obtain ⟨_,_,_,_,_,_,_,_,_,_⟩ := cz5 BK286.out
   go_wp2
   refine bodyPost_ret (results_ct rfl _ _ gb286 106 #[.int .u64 0, .int .u64 0, .int .i64 0, .int .i64 0, .slice none 0 0] (0, 0) _ rfl (bp BK286) Try.underlying106 rfl (by kernel_rfl)) rfl ?_
   exact ⟨_, er, rn, b_w HB⟩
 replace c6 := Bool.eq_false_iff.mpr c6
 subst c6
 replace H := fi H
 obtain ⟨c8, H⟩ := ifN H
 have c8b0 := eq_true c8
 have c8b1 := decide_eq_true c8
 clear c8
 obtain ⟨t289, A9, H⟩ := bnd H
 obtain ⟨c10, H⟩ := ifN H
 have c10b0 := eq_true c10
 have c10b1 := decide_eq_true c10
 clear c10
 obtain ⟨c11, H⟩ := ifN H
 have c11b0 := eq_true c11
 have c11b1 := decide_eq_true c11
 clear c11
 obtain ⟨t291, A12, H⟩ := bnd H
 obtain ⟨c13, H⟩ := ifN H
 have c13b0 := eq_true c13
 have c13b1 := decide_eq_true c13
 clear c13
 obtain ⟨c14, H⟩ := ifN H
 have c14b0 := eq_true c14
 have c14b1 := decide_eq_true c14
 clear c14
 obtain ⟨t293, A15, H⟩ := bnd H
 obtain ⟨c16, H⟩ := ifN H
 have c16b0 := eq_true c16
 have c16b1 := decide_eq_true c16
 clear c16
 obtain ⟨c17, H⟩ := ifN H
 have c17b0 := eq_true c17
 have c17b1 := decide_eq_true c17
 clear c17
 obtain ⟨t295, A18, H⟩ := bnd H
 obtain ⟨y297, Ny297⟩ := yy ((([] : List Int)) : List Int)
 replace H : (if 20 < (l0.length : Int) then (if 21 ≤ (wrap64 (21 + (wrap64 (rd l0 20)))) then (if (wrap64 (21 + (wrap64 (rd l0 20)))) ≤ (l0.length : Int) then (if y297.length + ((l0.take ((wrap64 (21 + (wrap64 (rd l0 20)))) : Int).toNat).drop 21).length < 140737488355328 then ((some (y297 ++ ((l0.take ((wrap64 (21 + (wrap64 (rd l0 20)))) : Int).toNat).drop 21) : List Int)).bind fun y302 => ((marginaliaref16_Encode.f kj1 t289 t291 (wrap64 (t293)) (wrap64 (t295)) y302).bind fun bt305 => (if bt305.2 = 0 then (if (strOfNums bt305.1).toList = (strOfNums l0).toList then (some (t289, t291, wrap64 (t293), wrap64 (t295), y302, 0)) else (some (0, 0, 0, 0, ([] : List Int), 8))) else (some (0, 0, 0, 0, ([] : List Int), 8))))) else (none)) else (none)) else (none)) else (none)) = some (r1, r2, r3, r4, r5, r6) := yx Ny297 H
 obtain ⟨c19, H⟩ := ifN H
 have c19b0 := decide_eq_true c19
 have c19b1 : decide (20 < l0.length) = true := decide_eq_true (by omega)
 clear c19
 obtain ⟨c20, H⟩ := ifN H
 have c20b0 := eq_true c20
 have c20b1 := decide_eq_true c20
 obtain ⟨c21, H⟩ := ifN H
 have c21b0 := eq_true c21
 have c21b1 := decide_eq_true c21
 obtain ⟨c22, H⟩ := ifN H
 have LMc22 := Aside0.mk c22
 clear c22
 obtain ⟨y302, Ny302⟩ := yy ((y297 ++ ((l0.take ((wrap64 (21 + (wrap64 (rd l0 20)))) : Int).toNat).drop 21)) : List Int)
 replace H : ((marginaliaref16_Encode.f kj1 t289 t291 (wrap64 (t293)) (wrap64 (t295)) y302).bind fun bt305 => (if bt305.2 = 0 then (if (strOfNums bt305.1).toList = (strOfNums l0).toList then (some (t289, t291, wrap64 (t293), wrap64 (t295), y302, 0)) else (some (0, 0, 0, 0, ([] : List Int), 8))) else (some (0, 0, 0, 0, ([] : List Int), 8)))) = some (r1, r2, r3, r4, r5, r6) := yx Ny302 H
 replace H := Option.bind_eq_some_iff.mp H
 obtain ⟨⟨t305, t308⟩, A230, H⟩ := H
 replace H : (if t308 = 0 then (if (strOfNums t305).toList = (strOfNums l0).toList then (some (t289, t291, wrap64 (t293), wrap64 (t295), y302, 0)) else (some (0, 0, 0, 0, ([] : List Int), 8))) else (some (0, 0, 0, 0, ([] : List Int), 8))) = some (r1, r2, r3, r4, r5, r6) := H
 have A23 := Aside0.mk A230
 clear A230
 try go_wp2
 replace BK286 := Aside0.mk (blk_drew BK286.out)
 replace HB := Aside0.mk (below_drew1 HB.out)
 obtain ⟨i027, hi027, _, hsz27, _⟩ := info_parts info5
 obtain ⟨hcut27, hA27, hC27⟩ := print_take_of (P := Try.prog) (Value.int .u8) 0 27 5 .i64 Try.underlying27 hi027 hsz27 A0 c0 l0 8 (by omega) (od) HC0.out
 have HR288 := Aside0.mk (Kd.C_of_reads (h1 := fun _ => rfl) (hA27 _ (Kd.reads_of_C HR0.out)))
 have HC288 := Aside0.mk hC27
 clear hA27 hC27 hi027 hsz27
 obtain ⟨i028, hi028, _, hsz28, _⟩ := info_parts info5
 obtain ⟨A28, hcut28, hA28, hC28⟩ := print_mid_of (P := Try.prog) (Value.int .u8) 0 27 5 .i64 .i64 Try.underlying27 hi028 hsz28 A0 c0 l0 8 16 (by omega) (by first | omega | exact od) (od) HC0.out
 have HR290 := Aside0.mk (Kd.C_of_reads (h1 := fun _ => rfl) (hA28 _ (Kd.reads_of_C HR0.out)))
 have HC290 := Aside0.mk hC28
 clear hA28 hC28 hi028 hsz28
 obtain ⟨i029, hi029, _, hsz29, _⟩ := info_parts info5
 obtain ⟨A29, hcut29, hA29, hC29⟩ := print_mid_of (P := Try.prog) (Value.int .u8) 0 27 5 .i64 .i64 Try.underlying27 hi029 hsz29 A0 c0 l0 16 18 (by omega) (by first | omega | exact od) (od) HC0.out
 have HR292 := Aside0.mk (Kd.C_of_reads (h1 := fun _ => rfl) (hA29 _ (Kd.reads_of_C HR0.out)))
 have HC292 := Aside0.mk hC29
 clear hA29 hC29 hi029 hsz29
 obtain ⟨i030, hi030, _, hsz30, _⟩ := info_parts info5
 obtain ⟨A30, hcut30, hA30, hC30⟩ := print_mid_of (P := Try.prog) (Value.int .u8) 0 27 5 .i64 .i64 Try.underlying27 hi030 hsz30 A0 c0 l0 18 20 (by omega) (by first | omega | exact od) (od) HC0.out
 have HR294 := Aside0.mk (Kd.C_of_reads (h1 := fun _ => rfl) (hA30 _ (Kd.reads_of_C HR0.out)))
 have HC294 := Aside0.mk hC30
 clear hA30 hC30 hi030 hsz30
 refine start_ (n := 17) (S := fun w' => True) (ds := []) #[false, false, false, false, false, false, false, false, false, false, false, false, false, false, false, false, false] (by kernel_rfl) rfl rfl trivial (fun hHeld => ?_); refine with_tabW marginaliaref16_Decode.tab3 marginaliaref16_Decode.bits3 (fun HT_ HW_ => ?_)
 generalize wc.drew = w26 at BK286 HB HR288 HR290 HR292 HR294 hHeld ⊢
 refine pu 0 (some 17) (bm 17 1) ?_
 refine pu 1 (some 18) (bm 17 3) ?_
 refine pu 3 (some 20) (bm 17 11) ?_
 refine pu 4 (some 21) (bm 17 27) ?_
 refine pu 6 (some 23) (bm 17 91) ?_
 refine pu 7 (some 24) (bm 17 219) ?_
 refine pu 10 (some 27) (bm 17 1243) ?_
 refine pu 11 (some 28) (bm 17 3291) ?_
 refine join_ (σ := Nat) 1 #[true, true, true, true, true, true, true, true, true, true, true, true, true, true, true, true, false] (fun s_ => [(19, .int .u64 t289), (22, .int .u64 t291), (25, .int .u64 t293), (29, .int .u64 t295), (4, .pointer (some ⟨s_, 0, none⟩)), (26, .int .i64 (wrap64 (t293))), (30, .int .i64 (wrap64 (t295))), (31, .agg #[.int .u64 t289, .int .u64 t291, .int .i64 (wrap64 (t293)), .int .i64 (wrap64 (t295)), .slice none 0 0])]) (fun s_ w' => (w'.heap[gb286]? = some (.cells #[.int .u64 0, .int .u64 0, .int .i64 0, .int .i64 0, .slice none 0 0] 106 (0, 0))) ∧ (w'.heap[s_]? = some (.cells #[.int .u64 0, .int .u64 0, .int .i64 0, .int .i64 0, .slice none 0 0] 106 (0, 0))) ∧ (w.heap.size ≤ s_) ∧ (w.heap.size ≤ s_) ∧ (gb286 ≠ s_) ∧ (s_ ≠ gb286) ∧ (Below w.heap.size w w')) ?_ ?_
 rotate_left
 · intro hJ2_5_8_12_15
   refine join_ (σ := Unit) 2 #[true, true, true, true, true, true, true, true, true, true, true, true, true, true, true, false, false] (fun s_ => [(19, .int .u64 t289), (22, .int .u64 t291), (25, .int .u64 t293), (29, .int .u64 t295), (26, .int .i64 (wrap64 (t293))), (30, .int .i64 (wrap64 (t295))), (31, .agg #[.int .u64 t289, .int .u64 t291, .int .i64 (wrap64 (t293)), .int .i64 (wrap64 (t295)), .slice none 0 0])]) (fun s_ w' => (w'.heap[gb286]? = some (.cells #[.int .u64 0, .int .u64 0, .int .i64 0, .int .i64 0, .slice none 0 0] 106 (0, 0))) ∧ (Below w.heap.size w w')) ?_ ?_
   rotate_left
   · intro hJ2_5_8_12
     refine join_ (σ := Nat) 4 #[true, true, true, true, true, true, true, true, true, true, true, true, false, false, false, true, false] (fun s_ => [(19, .int .u64 t289), (22, .int .u64 t291), (25, .int .u64 t293), (4, .pointer (some ⟨s_, 0, none⟩)), (26, .int .i64 (wrap64 (t293)))]) (fun s_ w' => (w'.heap[gb286]? = some (.cells #[.int .u64 0, .int .u64 0, .int .i64 0, .int .i64 0, .slice none 0 0] 106 (0, 0))) ∧ (w'.heap[s_]? = some (.cells #[.int .u64 0, .int .u64 0, .int .i64 0, .int .i64 0, .slice none 0 0] 106 (0, 0))) ∧ (w.heap.size ≤ s_) ∧ (w.heap.size ≤ s_) ∧ (gb286 ≠ s_) ∧ (s_ ≠ gb286) ∧ (Below w.heap.size w w')) ?_ ?_
     rotate_left
     · intro hJ2_5_8_15
       refine join_ (σ := Unit) 5 #[true, true, true, true, true, true, true, true, true, true, true, true, false, false, false, false, false] (fun s_ => [(19, .int .u64 t289), (22, .int .u64 t291), (25, .int .u64 t293), (26, .int .i64 (wrap64 (t293)))]) (fun s_ w' => (w'.heap[gb286]? = some (.cells #[.int .u64 0, .int .u64 0, .int .i64 0, .int .i64 0, .slice none 0 0] 106 (0, 0))) ∧ (Below w.heap.size w w')) ?_ ?_
       rotate_left
       · intro hJ2_5_8
         refine join_ (σ := Nat) 6 #[true, true, true, true, true, true, true, true, false, false, true, true, false, false, false, true, false] (fun s_ => [(19, .int .u64 t289), (22, .int .u64 t291), (4, .pointer (some ⟨s_, 0, none⟩))]) (fun s_ w' => (w'.heap[gb286]? = some (.cells #[.int .u64 0, .int .u64 0, .int .i64 0, .int .i64 0, .slice none 0 0] 106 (0, 0))) ∧ (w'.heap[s_]? = some (.cells #[.int .u64 0, .int .u64 0, .int .i64 0, .int .i64 0, .slice none 0 0] 106 (0, 0))) ∧ (w.heap.size ≤ s_) ∧ (w.heap.size ≤ s_) ∧ (gb286 ≠ s_) ∧ (s_ ≠ gb286) ∧ (Below w.heap.size w w')) ?_ ?_
         rotate_left
         · intro hJ2_5_15
           refine join_ (σ := Unit) 7 #[true, true, true, true, true, true, true, true, false, false, true, true, false, false, false, false, false] (fun s_ => [(19, .int .u64 t289), (22, .int .u64 t291)]) (fun s_ w' => (w'.heap[gb286]? = some (.cells #[.int .u64 0, .int .u64 0, .int .i64 0, .int .i64 0, .slice none 0 0] 106 (0, 0))) ∧ (Below w.heap.size w w')) ?_ ?_
           rotate_left
           · intro hJ2_5
             refine join_ (σ := Nat) 7 #[true, true, true, true, true, false, true, true, false, false, true, true, false, false, false, true, false] (fun s_ => [(19, .int .u64 t289), (4, .pointer (some ⟨s_, 0, none⟩))]) (fun s_ w' => (w'.heap[gb286]? = some (.cells #[.int .u64 0, .int .u64 0, .int .i64 0, .int .i64 0, .slice none 0 0] 106 (0, 0))) ∧ (w'.heap[s_]? = some (.cells #[.int .u64 0, .int .u64 0, .int .i64 0, .int .i64 0, .slice none 0 0] 106 (0, 0))) ∧ (w.heap.size ≤ s_) ∧ (w.heap.size ≤ s_) ∧ (gb286 ≠ s_) ∧ (s_ ≠ gb286) ∧ (Below w.heap.size w w')) ?_ ?_
             rotate_left
             · intro hJ2_15
               refine join_ (σ := Unit) 8 #[true, true, true, true, true, false, true, true, false, false, true, true, false, false, false, false, false] (fun s_ => [(19, .int .u64 t289)]) (fun s_ w' => (w'.heap[gb286]? = some (.cells #[.int .u64 0, .int .u64 0, .int .i64 0, .int .i64 0, .slice none 0 0] 106 (0, 0))) ∧ (Below w.heap.size w w')) ?_ ?_
               rotate_left
               · intro hJ2
                 refine join_ (σ := Nat) 8 #[true, true, false, true, true, false, true, true, false, false, true, true, false, false, false, true, false] (fun s_ => [(4, .pointer (some ⟨s_, 0, none⟩))]) (fun s_ w' => (w'.heap[gb286]? = some (.cells #[.int .u64 0, .int .u64 0, .int .i64 0, .int .i64 0, .slice none 0 0] 106 (0, 0))) ∧ (w'.heap[s_]? = some (.cells #[.int .u64 0, .int .u64 0, .int .i64 0, .int .i64 0, .slice none 0 0] 106 (0, 0))) ∧ (w.heap.size ≤ s_) ∧ (w.heap.size ≤ s_) ∧ (gb286 ≠ s_) ∧ (s_ ≠ gb286) ∧ (Below w.heap.size w w')) ?_ ?_
                 rotate_left
                 · intro hJ15
                   refine pw 2 15 (some 19) (some 4) (bm 17 3295) (bm 17 36059) (fun K hK => ?_) (fun K hK => ?_)
                   · skip
                     refine goes_ Try.func81 (by kernel_rfl) rfl #[.slice A0 (l0.take 8).length c0] (by rfl) rfl rfl (aw (ln od (q := (8 : Int) ≤ (l0.length : Int)) : (l0.take 8).length = 8)) ?_
                     with_reducible refine (marginaliaref16_Number.calls kj1 _ _ (l0.take 8) t289 _ ?side1 ?side2 A9.out).mono ?_
                     (case side1 => exact kc HR288 HB)
                     (case side2 => exact HC288.out)
                     rintro e w' ⟨rfl, ⟨nd, rfl⟩⟩
                     refine ⟨_, rfl, ?_⟩
                     refine hK.out _ _ trivial (fun hHeld => ?_)
                     clear hK K
                     refine no (some 19) ?_
                     exact nb (hJ2 () _ ⟨(bk BK286), (b_w HB)⟩)
                   skip
                   refine box_step ?hg (N := 4) ?hd (cs := #[.int .u64 0, .int .u64 0, .int .i64 0, .int .i64 0, .slice none 0 0]) (t := 106) ?hr ?_; (case hd => rfl); (case hg => rfl); (case hr => first | (go_simp; done) | (go_simp; rfl))
                   intro gb296 hg w31 hbox hb
                   have BK296 := Aside0.mk (hbox)
                   have GW296 := gs HB hg
                   have GE296 := gs HB hg
                   replace HB := bs HB hb
                   have NB286_296 := nl BK286 hg
                   have NB296_286 := ng BK286 hg
                   replace BK286 := bb BK286 hb
                   clear hb hbox hg
                   refine hK.out _ _ trivial (fun hHeld => ?_)
                   clear hK K
                   refine no (some 4) ?_
                   exact nb (hJ15 (gb296) _ ⟨(bk BK286), (bk BK296), GW296.out, GE296.out, NB286_296.out, NB296_286.out, (b_w HB)⟩)
                 skip
                 rintro gb296 w32 ⟨h0_, h1_, h2_, h3_, h4_, h5_, h6_⟩
                 have n0_ : Aside0 (w32.heap[gb286]? = some (.cells #[.int .u64 0, .int .u64 0, .int .i64 0, .int .i64 0, .slice none 0 0] 106 (0, 0))) := ⟨h0_⟩
                 have n1_ : Aside0 (w32.heap[gb296]? = some (.cells #[.int .u64 0, .int .u64 0, .int .i64 0, .int .i64 0, .slice none 0 0] 106 (0, 0))) := ⟨h1_⟩
                 have n2_ : Aside0 (w.heap.size ≤ gb296) := ⟨h2_⟩
                 have n3_ : Aside0 (w.heap.size ≤ gb296) := ⟨h3_⟩
                 have n4_ : Aside0 (gb286 ≠ gb296) := ⟨h4_⟩
                 have n5_ : Aside0 (gb296 ≠ gb286) := ⟨h5_⟩
                 have n6_ : Aside0 (Below w.heap.size w w32) := ⟨h6_⟩
                 clear BK286
                 clear HB
                 clear h0_ h1_ h2_ h3_ h4_ h5_ h6_
                 have BK286 := n0_
                 have BK296 := n1_
                 have GW296 := n2_
                 have GE296 := n3_
                 have NB286_296 := n4_
                 have NB296_286 := n5_
                 have HB := n6_
                 clear n0_ n1_ n2_ n3_ n4_ n5_ n6_
                 have hHeld := trivial
                 refine na ?_
                 refine pn 2 (some 19) (bm 17 36063) (fun K hK => ?_)
                 refine goes_ Try.func81 (by kernel_rfl) rfl #[.slice A0 (l0.take 8).length c0] (by rfl) rfl rfl (aw (ln od (q := (8 : Int) ≤ (l0.length : Int)) : (l0.take 8).length = 8)) ?_
                 with_reducible refine (marginaliaref16_Number.calls kj1 _ _ (l0.take 8) t289 _ ?side1 ?side2 A9.out).mono ?_
                 (case side1 => exact kc HR288 HB)
                 (case side2 => exact HC288.out)
                 rintro e w' ⟨rfl, ⟨nd, rfl⟩⟩
                 refine ⟨_, rfl, ?_⟩
                 refine hK.out _ _ trivial (fun hHeld => ?_)
                 clear hK K
                 refine no (some 19) ?_
                 exact nb (hJ2_15 (gb296) _ ⟨(bk BK286), (bk BK296), GW296.out, GE296.out, NB286_296.out, NB296_286.out, (b_w HB)⟩)
               skip
               rintro _ w31 ⟨h0_, h1_⟩
               have n0_ : Aside0 (w31.heap[gb286]? = some (.cells #[.int .u64 0, .int .u64 0, .int .i64 0, .int .i64 0, .slice none 0 0] 106 (0, 0))) := ⟨h0_⟩
               have n1_ : Aside0 (Below w.heap.size w w31) := ⟨h1_⟩
               clear BK286
               clear HB
               clear h0_ h1_
               have BK286 := n0_
               have HB := n1_
               clear n0_ n1_
               have hHeld := trivial
               refine na ?_
               refine pw 5 15 (some 22) (some 4) (bm 17 3327) (bm 17 36063) (fun K hK => ?_) (fun K hK => ?_)
               · skip
                 refine goes_ Try.func81 (by kernel_rfl) rfl #[.slice A28 ((l0.take 16).drop 8).length (c0 - 8)] (by rfl) rfl rfl (aw (ln od (q := (16 : Int) ≤ (l0.length : Int)) : ((l0.take 16).drop 8).length = (16 - 8))) ?_
                 with_reducible refine (marginaliaref16_Number.calls kj1 _ _ ((l0.take 16).drop 8) t291 _ ?side1 ?side2 A12.out).mono ?_
                 (case side1 => exact kc HR290 HB)
                 (case side2 => exact HC290.out)
                 rintro e w' ⟨rfl, ⟨nd, rfl⟩⟩
                 refine ⟨_, rfl, ?_⟩
                 refine hK.out _ _ trivial (fun hHeld => ?_)
                 clear hK K
                 refine no (some 22) ?_
                 exact nb (hJ2_5 () _ ⟨(bk BK286), (b_w HB)⟩)
               skip
               refine box_step ?hg (N := 4) ?hd (cs := #[.int .u64 0, .int .u64 0, .int .i64 0, .int .i64 0, .slice none 0 0]) (t := 106) ?hr ?_; (case hd => rfl); (case hg => rfl); (case hr => first | (go_simp; done) | (go_simp; rfl))
               intro gb296 hg w32 hbox hb
               have BK296 := Aside0.mk (hbox)
               have GW296 := gs HB hg
               have GE296 := gs HB hg
               replace HB := bs HB hb
               have NB286_296 := nl BK286 hg
               have NB296_286 := ng BK286 hg
               replace BK286 := bb BK286 hb
               clear hb hbox hg
               refine hK.out _ _ trivial (fun hHeld => ?_)
               clear hK K
               refine no (some 4) ?_
               exact nb (hJ2_15 (gb296) _ ⟨(bk BK286), (bk BK296), GW296.out, GE296.out, NB286_296.out, NB296_286.out, (b_w HB)⟩)
             skip
             rintro gb296 w32 ⟨h0_, h1_, h2_, h3_, h4_, h5_, h6_⟩
             have n0_ : Aside0 (w32.heap[gb286]? = some (.cells #[.int .u64 0, .int .u64 0, .int .i64 0, .int .i64 0, .slice none 0 0] 106 (0, 0))) := ⟨h0_⟩
             have n1_ : Aside0 (w32.heap[gb296]? = some (.cells #[.int .u64 0, .int .u64 0, .int .i64 0, .int .i64 0, .slice none 0 0] 106 (0, 0))) := ⟨h1_⟩
             have n2_ : Aside0 (w.heap.size ≤ gb296) := ⟨h2_⟩
             have n3_ : Aside0 (w.heap.size ≤ gb296) := ⟨h3_⟩
             have n4_ : Aside0 (gb286 ≠ gb296) := ⟨h4_⟩
             have n5_ : Aside0 (gb296 ≠ gb286) := ⟨h5_⟩
             have n6_ : Aside0 (Below w.heap.size w w32) := ⟨h6_⟩
             clear BK286
             clear HB
             clear h0_ h1_ h2_ h3_ h4_ h5_ h6_
             have BK286 := n0_
             have BK296 := n1_
             have GW296 := n2_
             have GE296 := n3_
             have NB286_296 := n4_
             have NB296_286 := n5_
             have HB := n6_
             clear n0_ n1_ n2_ n3_ n4_ n5_ n6_
             have hHeld := trivial
             refine na ?_
             refine pn 5 (some 22) (bm 17 36095) (fun K hK => ?_)
             refine goes_ Try.func81 (by kernel_rfl) rfl #[.slice A28 ((l0.take 16).drop 8).length (c0 - 8)] (by rfl) rfl rfl (aw (ln od (q := (16 : Int) ≤ (l0.length : Int)) : ((l0.take 16).drop 8).length = (16 - 8))) ?_
             with_reducible refine (marginaliaref16_Number.calls kj1 _ _ ((l0.take 16).drop 8) t291 _ ?side1 ?side2 A12.out).mono ?_
             (case side1 => exact kc HR290 HB)
             (case side2 => exact HC290.out)
             rintro e w' ⟨rfl, ⟨nd, rfl⟩⟩
             refine ⟨_, rfl, ?_⟩
             refine hK.out _ _ trivial (fun hHeld => ?_)
             clear hK K
             refine no (some 22) ?_
             exact nb (hJ2_5_15 (gb296) _ ⟨(bk BK286), (bk BK296), GW296.out, GE296.out, NB286_296.out, NB296_286.out, (b_w HB)⟩)
           skip
           rintro _ w31 ⟨h0_, h1_⟩
           have n0_ : Aside0 (w31.heap[gb286]? = some (.cells #[.int .u64 0, .int .u64 0, .int .i64 0, .int .i64 0, .slice none 0 0] 106 (0, 0))) := ⟨h0_⟩
           have n1_ : Aside0 (Below w.heap.size w w31) := ⟨h1_⟩
           clear BK286
           clear HB
           clear h0_ h1_
           have BK286 := n0_
           have HB := n1_
           clear n0_ n1_
           have hHeld := trivial
           refine na ?_
           refine pw 8 15 (some 25) (some 4) (bm 17 3583) (bm 17 36095) (fun K hK => ?_) (fun K hK => ?_)
           · skip
             refine goes_ Try.func81 (by kernel_rfl) rfl #[.slice A29 ((l0.take 18).drop 16).length (c0 - 16)] (by rfl) rfl rfl (aw (ln od (q := (18 : Int) ≤ (l0.length : Int)) : ((l0.take 18).drop 16).length = (18 - 16))) ?_
             with_reducible refine (marginaliaref16_Number.calls kj1 _ _ ((l0.take 18).drop 16) t293 _ ?side1 ?side2 A15.out).mono ?_
             (case side1 => exact kc HR292 HB)
             (case side2 => exact HC292.out)
             rintro e w' ⟨rfl, ⟨nd, rfl⟩⟩
             refine ⟨_, rfl, ?_⟩
             refine hK.out _ _ trivial (fun hHeld => ?_)
             clear hK K
             refine no (some 25) ?_
             refine pu 9 (some 26) (bm 17 4095) ?_
             exact nb (hJ2_5_8 () _ ⟨(bk BK286), (b_w HB)⟩)
           skip
           refine box_step ?hg (N := 4) ?hd (cs := #[.int .u64 0, .int .u64 0, .int .i64 0, .int .i64 0, .slice none 0 0]) (t := 106) ?hr ?_; (case hd => rfl); (case hg => rfl); (case hr => first | (go_simp; done) | (go_simp; rfl))
           intro gb296 hg w32 hbox hb
           have BK296 := Aside0.mk (hbox)
           have GW296 := gs HB hg
           have GE296 := gs HB hg
           replace HB := bs HB hb
           have NB286_296 := nl BK286 hg
           have NB296_286 := ng BK286 hg
           replace BK286 := bb BK286 hb
           clear hb hbox hg
           refine hK.out _ _ trivial (fun hHeld => ?_)
           clear hK K
           refine no (some 4) ?_
           exact nb (hJ2_5_15 (gb296) _ ⟨(bk BK286), (bk BK296), GW296.out, GE296.out, NB286_296.out, NB296_286.out, (b_w HB)⟩)
         skip
         rintro gb296 w32 ⟨h0_, h1_, h2_, h3_, h4_, h5_, h6_⟩
         have n0_ : Aside0 (w32.heap[gb286]? = some (.cells #[.int .u64 0, .int .u64 0, .int .i64 0, .int .i64 0, .slice none 0 0] 106 (0, 0))) := ⟨h0_⟩
         have n1_ : Aside0 (w32.heap[gb296]? = some (.cells #[.int .u64 0, .int .u64 0, .int .i64 0, .int .i64 0, .slice none 0 0] 106 (0, 0))) := ⟨h1_⟩
         have n2_ : Aside0 (w.heap.size ≤ gb296) := ⟨h2_⟩
         have n3_ : Aside0 (w.heap.size ≤ gb296) := ⟨h3_⟩
         have n4_ : Aside0 (gb286 ≠ gb296) := ⟨h4_⟩
         have n5_ : Aside0 (gb296 ≠ gb286) := ⟨h5_⟩
         have n6_ : Aside0 (Below w.heap.size w w32) := ⟨h6_⟩
         clear BK286
         clear HB
         clear h0_ h1_ h2_ h3_ h4_ h5_ h6_
         have BK286 := n0_
         have BK296 := n1_
         have GW296 := n2_
         have GE296 := n3_
         have NB286_296 := n4_
         have NB296_286 := n5_
         have HB := n6_
         clear n0_ n1_ n2_ n3_ n4_ n5_ n6_
         have hHeld := trivial
         refine na ?_
         refine pn 8 (some 25) (bm 17 36351) (fun K hK => ?_)
         refine goes_ Try.func81 (by kernel_rfl) rfl #[.slice A29 ((l0.take 18).drop 16).length (c0 - 16)] (by rfl) rfl rfl (aw (ln od (q := (18 : Int) ≤ (l0.length : Int)) : ((l0.take 18).drop 16).length = (18 - 16))) ?_
         with_reducible refine (marginaliaref16_Number.calls kj1 _ _ ((l0.take 18).drop 16) t293 _ ?side1 ?side2 A15.out).mono ?_
         (case side1 => exact kc HR292 HB)
         (case side2 => exact HC292.out)
         rintro e w' ⟨rfl, ⟨nd, rfl⟩⟩
         refine ⟨_, rfl, ?_⟩
         refine hK.out _ _ trivial (fun hHeld => ?_)
         clear hK K
         refine no (some 25) ?_
         refine pu 9 (some 26) (bm 17 36863) ?_
         exact nb (hJ2_5_8_15 (gb296) _ ⟨(bk BK286), (bk BK296), GW296.out, GE296.out, NB286_296.out, NB296_286.out, (b_w HB)⟩)
       skip
       rintro _ w31 ⟨h0_, h1_⟩
       have n0_ : Aside0 (w31.heap[gb286]? = some (.cells #[.int .u64 0, .int .u64 0, .int .i64 0, .int .i64 0, .slice none 0 0] 106 (0, 0))) := ⟨h0_⟩
       have n1_ : Aside0 (Below w.heap.size w w31) := ⟨h1_⟩
       clear BK286
       clear HB
       clear h0_ h1_
       have BK286 := n0_
       have HB := n1_
       clear n0_ n1_
       have hHeld := trivial
       refine na ?_
       refine pw 12 15 (some 29) (some 4) (bm 17 8191) (bm 17 36863) (fun K hK => ?_) (fun K hK => ?_)
       · skip
         refine goes_ Try.func81 (by kernel_rfl) rfl #[.slice A30 ((l0.take 20).drop 18).length (c0 - 18)] (by rfl) rfl rfl (aw (ln od (q := (20 : Int) ≤ (l0.length : Int)) : ((l0.take 20).drop 18).length = (20 - 18))) ?_
         with_reducible refine (marginaliaref16_Number.calls kj1 _ _ ((l0.take 20).drop 18) t295 _ ?side1 ?side2 A18.out).mono ?_
         (case side1 => exact kc HR294 HB)
         (case side2 => exact HC294.out)
         rintro e w' ⟨rfl, ⟨nd, rfl⟩⟩
         refine ⟨_, rfl, ?_⟩
         refine hK.out _ _ trivial (fun hHeld => ?_)
         clear hK K
         refine no (some 29) ?_
         refine pu 13 (some 30) (bm 17 16383) ?_
         refine pu 14 (some 31) (bm 17 32767) ?_
         exact nb (hJ2_5_8_12 () _ ⟨(bk BK286), (b_w HB)⟩)
       skip
       refine box_step ?hg (N := 4) ?hd (cs := #[.int .u64 0, .int .u64 0, .int .i64 0, .int .i64 0, .slice none 0 0]) (t := 106) ?hr ?_; (case hd => rfl); (case hg => rfl); (case hr => first | (go_simp; done) | (go_simp; rfl))
       intro gb296 hg w32 hbox hb
       have BK296 := Aside0.mk (hbox)
       have GW296 := gs HB hg
       have GE296 := gs HB hg
       replace HB := bs HB hb
       have NB286_296 := nl BK286 hg
       have NB296_286 := ng BK286 hg
       replace BK286 := bb BK286 hb
       clear hb hbox hg
       refine hK.out _ _ trivial (fun hHeld => ?_)
       clear hK K
       refine no (some 4) ?_
       exact nb (hJ2_5_8_15 (gb296) _ ⟨(bk BK286), (bk BK296), GW296.out, GE296.out, NB286_296.out, NB296_286.out, (b_w HB)⟩)
     skip
     rintro gb296 w32 ⟨h0_, h1_, h2_, h3_, h4_, h5_, h6_⟩
     have n0_ : Aside0 (w32.heap[gb286]? = some (.cells #[.int .u64 0, .int .u64 0, .int .i64 0, .int .i64 0, .slice none 0 0] 106 (0, 0))) := ⟨h0_⟩
     have n1_ : Aside0 (w32.heap[gb296]? = some (.cells #[.int .u64 0, .int .u64 0, .int .i64 0, .int .i64 0, .slice none 0 0] 106 (0, 0))) := ⟨h1_⟩
     have n2_ : Aside0 (w.heap.size ≤ gb296) := ⟨h2_⟩
     have n3_ : Aside0 (w.heap.size ≤ gb296) := ⟨h3_⟩
     have n4_ : Aside0 (gb286 ≠ gb296) := ⟨h4_⟩
     have n5_ : Aside0 (gb296 ≠ gb286) := ⟨h5_⟩
     have n6_ : Aside0 (Below w.heap.size w w32) := ⟨h6_⟩
     clear BK286
     clear HB
     clear h0_ h1_ h2_ h3_ h4_ h5_ h6_
     have BK286 := n0_
     have BK296 := n1_
     have GW296 := n2_
     have GE296 := n3_
     have NB286_296 := n4_
     have NB296_286 := n5_
     have HB := n6_
     clear n0_ n1_ n2_ n3_ n4_ n5_ n6_
     have hHeld := trivial
     refine na ?_
     refine pn 12 (some 29) (bm 17 40959) (fun K hK => ?_)
     refine goes_ Try.func81 (by kernel_rfl) rfl #[.slice A30 ((l0.take 20).drop 18).length (c0 - 18)] (by rfl) rfl rfl (aw (ln od (q := (20 : Int) ≤ (l0.length : Int)) : ((l0.take 20).drop 18).length = (20 - 18))) ?_
     with_reducible refine (marginaliaref16_Number.calls kj1 _ _ ((l0.take 20).drop 18) t295 _ ?side1 ?side2 A18.out).mono ?_
     (case side1 => exact kc HR294 HB)
     (case side2 => exact HC294.out)
     rintro e w' ⟨rfl, ⟨nd, rfl⟩⟩
     refine ⟨_, rfl, ?_⟩
     refine hK.out _ _ trivial (fun hHeld => ?_)
     clear hK K
     refine no (some 29) ?_
     refine pu 13 (some 30) (bm 17 49151) ?_
     refine pu 14 (some 31) (bm 17 65535) ?_
     exact nb (hJ2_5_8_12_15 (gb296) _ ⟨(bk BK286), (bk BK296), GW296.out, GE296.out, NB286_296.out, NB296_286.out, (b_w HB)⟩)
   skip
   rintro _ w31 ⟨h0_, h1_⟩
   have n0_ : Aside0 (w31.heap[gb286]? = some (.cells #[.int .u64 0, .int .u64 0, .int .i64 0, .int .i64 0, .slice none 0 0] 106 (0, 0))) := ⟨h0_⟩
   have n1_ : Aside0 (Below w.heap.size w w31) := ⟨h1_⟩
   clear BK286
   clear HB
   clear h0_ h1_
   have BK286 := n0_
   have HB := n1_
   clear n0_ n1_
   have hHeld := trivial
   refine na ?_
   refine pn 15 (some 4) (bm 17 65535) (fun K hK => ?_)
   refine box_step ?hg (N := 4) ?hd (cs := #[.int .u64 0, .int .u64 0, .int .i64 0, .int .i64 0, .slice none 0 0]) (t := 106) ?hr ?_; (case hd => rfl); (case hg => rfl); (case hr => first | (go_simp; done) | (go_simp; rfl))
   intro gb296 hg w32 hbox hb
   have BK296 := Aside0.mk (hbox)
   have GW296 := gs HB hg
   have GE296 := gs HB hg
   replace HB := bs HB hb
   have NB286_296 := nl BK286 hg
   have NB296_286 := ng BK286 hg
   replace BK286 := bb BK286 hb
   clear hb hbox hg
   refine hK.out _ _ trivial (fun hHeld => ?_)
   clear hK K
   refine no (some 4) ?_
   exact nb (hJ2_5_8_12_15 (gb296) _ ⟨(bk BK286), (bk BK296), GW296.out, GE296.out, NB286_296.out, NB296_286.out, (b_w HB)⟩)
 rintro gb296 w32 ⟨h0_, h1_, h2_, h3_, h4_, h5_, h6_⟩
 have n0_ : Aside0 (w32.heap[gb286]? = some (.cells #[.int .u64 0, .int .u64 0, .int .i64 0, .int .i64 0, .slice none 0 0] 106 (0, 0))) := ⟨h0_⟩
 have n1_ : Aside0 (w32.heap[gb296]? = some (.cells #[.int .u64 0, .int .u64 0, .int .i64 0, .int .i64 0, .slice none 0 0] 106 (0, 0))) := ⟨h1_⟩
 have n2_ : Aside0 (w.heap.size ≤ gb296) := ⟨h2_⟩
 have n3_ : Aside0 (w.heap.size ≤ gb296) := ⟨h3_⟩
 have n4_ : Aside0 (gb286 ≠ gb296) := ⟨h4_⟩
 have n5_ : Aside0 (gb296 ≠ gb286) := ⟨h5_⟩
 have n6_ : Aside0 (Below w.heap.size w w32) := ⟨h6_⟩
 clear BK286
 clear HB
 clear h0_ h1_ h2_ h3_ h4_ h5_ h6_
 have BK286 := n0_
 have BK296 := n1_
 have GW296 := n2_
 have GE296 := n3_
 have NB286_296 := n4_
 have NB296_286 := n5_
 have HB := n6_
 clear n0_ n1_ n2_ n3_ n4_ n5_ n6_
 have hHeld := trivial
 refine na ?_
 refine pn 16 none (bm 17 131071) (fun K hK => ?_)
 have hs33 : w32.cell? ⟨gb296, 0, none⟩ = some (.int .u64 0) := (blk_cell BK296.out 0).trans rfl
 have hfs33 := blk_frozen BK296.out 0
 have hns33_0 := NB286_296.out
 have hms33_0 := NB296_286.out
 have hs34 : w32.cell? ⟨gb296, 1, none⟩ = some (.int .u64 0) := (blk_cell BK296.out 1).trans rfl
 have hfs34 := blk_frozen BK296.out 1
 have hns34_0 := NB286_296.out
 have hms34_0 := NB296_286.out
 have hs35 : w32.cell? ⟨gb296, 2, none⟩ = some (.int .i64 0) := (blk_cell BK296.out 2).trans rfl
 have hfs35 := blk_frozen BK296.out 2
 have hns35_0 := NB286_296.out
 have hms35_0 := NB296_286.out
 have hs36 : w32.cell? ⟨gb296, 3, none⟩ = some (.int .i64 0) := (blk_cell BK296.out 3).trans rfl
 have hfs36 := blk_frozen BK296.out 3
 have hns36_0 := NB286_296.out
 have hms36_0 := NB296_286.out
 have hs37 : w32.cell? ⟨gb296, 4, none⟩ = some (.slice none 0 0) := (blk_cell BK296.out 4).trans rfl
 have hfs37 := blk_frozen BK296.out 4
 have hns37_0 := NB286_296.out
 have hms37_0 := NB296_286.out
 refine skip_ (w1 := ?_) (by rfl) rfl ?_ ?_
 rotate_left
 · go_simp
   rfl
 refine hK.out _ _ trivial (fun hHeld => ?_)
 clear hK K
 refine done_ (done_of HT_.out (by kernel_rfl)) ?_
 go_upto_region 6 with (first | ((with_reducible refine gate_dst (N := 32) rfl ?_); refine Kd.R_lit (Kd.int .u8) _ 5 ?hg (N := 32) ?hd (xs := ([] : List Int)) (inner := []) (ok := fun _ => True) (okp := fun _ => True) ?hr ?hp (fun _ hk => hk) trivial (Below.refl _ _) (Nat.le_refl _) (by simp) ?_; (case hd => rfl); (case hg => rfl); (case hr => first | (go_simp; done) | (go_simp; rfl)); (case hp => exact (Reps.none _ _)); intro v298 w38 ho39 hb hg_ hnew_; clear hg_ hnew_; (first | rw [← Ny297.out] at ho39 | (simp only [Int.reduceToNat] at ho39; rw [← Ny297.out] at ho39)); have HO299 := Aside0.mk (Kd.R_lower ho39 (below_size (b_w HB))); replace BK286 := Aside0.mk (blk_below (g := gb286) (o := .cells #[.int .u64 0, .int .u64 0, .int .i64 0, .int .i64 0, .slice none 0 0] 106 (0, 0)) (bp BK286) hb); replace BK296 := Aside0.mk (blk_below (g := gb296) (o := .cells #[.int .u64 t289, .int .u64 t291, .int .i64 (wrap64 (t293)), .int .i64 (wrap64 (t295)), .slice none 0 0] 106 (0, 0)) (bp BK296) hb); replace HB := bs HB hb; clear hb ho39; have p300 : 0 ≤ (20 : Int) := (by omega); have q300 : 20 < (l0.length : Int) := od; obtain ⟨ad300, e300, hx300_0⟩ := Kd.at_int HR0.out 20 p300 q300; cases e300; (try simp only [show (20 : Int).toNat = 20 from rfl, Nat.reduceMul, Nat.reduceEqDiff, Go.Addr.add, ↓reduceIte] at hx300_0); have qi300 : (20 < l0.length) = True := eq_true (by omega); (try rw [show ((20 : Int)).toNat = 20 from rfl] at hx300_0); replace hx300_0 := xb HB hx300_0; replace p300 := eq_true p300; replace q300 := eq_true q300; obtain ⟨i040, hi040, _, hsz40, _⟩ := info_parts info5; obtain ⟨A40, hcut40, hA40, hC40⟩ := print_mid_of (P := Try.prog) (Value.int .u8) 0 27 5 .i64 .i64 Try.underlying27 hi040 hsz40 (some ad300) c0 l0 21 (wrap64 (21 + (wrap64 (rd l0 20)))) (by omega) (by first | omega | exact od) (od) HC0.out; have HR301 := Aside0.mk (Kd.C_of_reads (h1 := fun _ => rfl) (hA40 _ (Kd.reads_of_C HR0.out))); have HC301 := Aside0.mk hC40; clear hA40 hC40 hi040 hsz40) | ((with_reducible refine gate_builtin (b := .append) (xs := #[.tmp 32, .tmp 39]) rfl ?_); at_builtin; refine Kd.R_append_rows (Kd.int .u8) (w0 := w) w.heap.size rfl (.tmp 32) (.tmp 39) 27 5 (.int .u8 0) 1 rfl Try.underlying27 info5 rfl (by decide) (by omega) v298 y297 ((l0.take ((wrap64 (21 + (wrap64 (rd l0 20)))) : Int).toNat).drop 21) _ _ _ (fun _ => True) (fun _ => False) rfl rfl ?aO ?aR (fun _ _ h => h) (fun _ h => h.elim) ?aF ?aB ?aS ?aL ?_; (case aR => first | (rw [← show ((l0.take ((wrap64 (21 + (wrap64 (rd l0 20)))) : Int).toNat).drop 21).length = ((wrap64 (21 + (wrap64 (rd l0 20)))).toNat - 21) from (by rw [List.length_drop, List.length_take]; have h_ : ((wrap64 (21 + (wrap64 (rd l0 20)))) : Int) ≤ (l0.length : Int) := od; omega)]; repeat (first | exact (Kd.C_below HR301.out HB.out) | (with_reducible refine Kd.C_alloc ?_ _) | (with_reducible refine Kd.C_drewN ?_ _) | (with_reducible refine Kd.C_drew ?_))) | (repeat (first | exact (Kd.C_below HR301.out HB.out) | (with_reducible refine Kd.C_alloc ?_ _) | (with_reducible refine Kd.C_drewN ?_ _) | (with_reducible refine Kd.C_drew ?_)))); (case aB => exact (b_w HB)); (case aF => exact (fun _ _ => trivial)); (case aO => exact (kR' HO299)); (case aS => exact (below_size (b_w HB))); (case aL => have := LMc22.out; have hlx_ := (show ((l0.take ((wrap64 (21 + (wrap64 (rd l0 20)))) : Int).toNat).drop 21).length = ((wrap64 (21 + (wrap64 (rd l0 20)))).toNat - 21) from (by rw [List.length_drop, List.length_take]; have h_ : ((wrap64 (21 + (wrap64 (rd l0 20)))) : Int) ≤ (l0.length : Int) := od; omega)); omega); intro v303 w41 ho hb hg hat; rw [← Ny302.out] at ho; replace BK286 := Aside0.mk (blk_grown (g := gb286) (o := .cells #[.int .u64 0, .int .u64 0, .int .i64 0, .int .i64 0, .slice none 0 0] 106 (0, 0)) (bk BK286) hg (Kd.R_ne HO299.out BK286.out (by decide))); replace BK296 := Aside0.mk (blk_grown (g := gb296) (o := .cells #[.int .u64 t289, .int .u64 t291, .int .i64 (wrap64 (t293)), .int .i64 (wrap64 (t295)), .slice none 0 0] 106 (0, 0)) (bk BK296) hg (Kd.R_ne HO299.out BK296.out (by decide))); replace HB := Aside0.mk (hb); have HO304 := Aside0.mk (ho); clear HO299; clear ho hb hg hat; obtain ⟨Ao42, co42, eo42⟩ := Kd.R_slice HO304.out; subst eo42; have hnb43 := NB296_286.out; have hnc43 := NB286_296.out; obtain ⟨_,_,_,_,_,_,_,_,_,_⟩ := cz5 BK296.out) | ((with_reducible refine gate_callee (f := 64) rfl ?_); refine gl 44 Try.func64 #[.agg #[.int .u64 t289, .int .u64 t291, .int .i64 (wrap64 (t293)), .int .i64 (wrap64 (t295)), .slice Ao42 y302.length co42]] ?_; (with_reducible refine (marginaliaref16_Encode.calls kj1 t289 t291 (wrap64 (t293)) (wrap64 (t295)) _ _ y302 t305 t308 _ ?side1 ?side2 A23.out).mono ?_); (case side1 => refine (Kd.R_reads' (e := 5) (base := w.heap.size) (ok := fun k_ => True) (n := y302.length) (c := co42) ?_).2.2; exact (by (with_reducible repeat (first | apply Kd.R_alloc | apply Kd.R_drewN | apply Kd.R_drew)); exact (Kd.R_mono (Kd.R_far (p := ⟨gb296, 4, none⟩) (Kd.R_types HO304.out BK296.out (by decide)) (fun _ hk => hk.2) (.slice Ao42 y302.length co42)) (fun _ h_ => h_.1)))); (case side2 => exact (Kd.R_reads' HO304.out).2.1); rintro e w45 ⟨v306, rfl, ho0, hb⟩; refine ⟨_, rfl, ?_⟩; have HO307 := Aside0.mk (Kd.R_lower (Kd.R_new' ho0 (Kd.R_lt (by (with_reducible repeat (first | apply Kd.R_alloc | apply Kd.R_drewN | apply Kd.R_drew)); exact (Kd.R_mono (Kd.R_far (p := ⟨gb296, 4, none⟩) (Kd.R_types HO304.out BK296.out (by decide)) (fun _ hk => hk.2) (.slice Ao42 y302.length co42)) (fun _ h_ => h_.1))))) (below_size (b_w HB))); replace HO304 := Aside0.mk (Kd.R_elder' (by (with_reducible repeat (first | apply Kd.R_alloc | apply Kd.R_drewN | apply Kd.R_drew)); exact (Kd.R_mono (Kd.R_far (p := ⟨gb296, 4, none⟩) (Kd.R_types HO304.out BK296.out (by decide)) (fun _ hk => hk.2) (.slice Ao42 y302.length co42)) (fun _ h_ => h_.1))) (Kd.R_base ho0) hb); replace BK286 := Aside0.mk (blk_below (g := gb286) (o := .cells #[.int .u64 0, .int .u64 0, .int .i64 0, .int .i64 0, .slice none 0 0] 106 (0, 0)) (bp BK286) hb); replace BK296 := Aside0.mk (blk_below (g := gb296) (o := .cells #[.int .u64 t289, .int .u64 t291, .int .i64 (wrap64 (t293)), .int .i64 (wrap64 (t295)), .slice Ao42 y302.length co42] 106 (0, 0)) (bp BK296) hb); replace HB := bs HB hb; clear hb; (try clear ho0); have hcv46 := own_string (P := Try.prog) Try.underlying27 Try.underlying5 Try.underlying9 (Kd.own_of_R HO307.out); have hcd46 := fun (nq_ : Nat) => own_string (P := Try.prog) Try.underlying27 Try.underlying5 Try.underlying9 (Kd.own_of_R (Kd.R_drewN HO307.out nq_)); have hcv47 := Kd.C_string (P := Try.prog) (A := (some ad300)) (c := c0) Try.underlying27 Try.underlying5 Try.underlying9 (Kd.C_below HR0.out HB.out); have hcd47 := fun (nq_ : Nat) => Kd.C_string (P := Try.prog) (A := (some ad300)) (c := c0) Try.underlying27 Try.underlying5 Try.underlying9 (Kd.C_drewN (Kd.C_below HR0.out HB.out) nq_); obtain ⟨_,_,_,_,_,_,_,_,_,_⟩ := cz5 BK296.out; obtain ⟨_,_,_,_,_,_,_,_,_,_⟩ := cz5 BK286.out))
 by_cases c24 : t308 = 0
 rotate_left
 · rw [if_neg c24] at H
   have c24b0 := beq_eq_false_iff_ne.mpr c24
   have c24b1 := bne_iff_ne.mpr c24
   simp only [Option.some.injEq, Prod.mk.injEq] at H
   obtain ⟨rfl, rfl, rfl, rfl, rfl, rfl⟩ := H
   go_wp2
   refine bodyPost_ret (results_ct rfl _ _ gb286 106 #[.int .u64 0, .int .u64 0, .int .i64 0, .int .i64 0, .slice none 0 0] (0, 0) _ rfl (bp BK286) Try.underlying106 rfl (by kernel_rfl)) rfl ?_
   exact ⟨_, er, rn, b_w HB⟩
 rw [if_pos c24] at H
 have c24b0 := beq_iff_eq.mpr c24
 have c24b1 := bne_eq_false_iff_eq.mpr c24
 clear c24
 by_cases c25 : (strOfNums t305).toList = (strOfNums l0).toList
 rotate_left
 · rw [if_neg c25] at H
   have c25b0 := beq_eq_false_iff_ne.mpr c25
   have c25b1 := bne_iff_ne.mpr c25
   simp only [Option.some.injEq, Prod.mk.injEq] at H
   obtain ⟨rfl, rfl, rfl, rfl, rfl, rfl⟩ := H
   go_wp2
   refine bodyPost_ret (results_ct rfl _ _ gb286 106 #[.int .u64 0, .int .u64 0, .int .i64 0, .int .i64 0, .slice none 0 0] (0, 0) _ rfl (bp BK286) Try.underlying106 rfl (by kernel_rfl)) rfl ?_
   exact ⟨_, er, rn, b_w HB⟩
 rw [if_pos c25] at H
 have c25b0 := beq_iff_eq.mpr c25
 have c25b1 := bne_eq_false_iff_eq.mpr c25
 clear c25
 simp only [Option.some.injEq, Prod.mk.injEq] at H
 obtain ⟨rfl, rfl, rfl, rfl, rfl, rfl⟩ := H
 go_wp2
 refine bodyPost_ret (results_ct rfl _ _ gb286 106 #[.int .u64 t289, .int .u64 t291, .int .i64 (wrap64 (t293)), .int .i64 (wrap64 (t295)), .slice Ao42 y302.length co42] (0, 0) _ rfl (bp BK286) Try.underlying106 rfl (by kernel_rfl)) rfl ?_
 exact ⟨_, er, rR (Kd.R_mono (fR5 (tR HO304 BK286) (fun _ hk => hk.2)) (fun _ hk => trivial)), b_w HB⟩
end Go.Proofs.Ytepipgneefcoiaa.D
namespace Go.Proofs.Ytepipgneefcoiaa.CellLaws
open Go.RowKit Go.Proofs.Ytepipgneefcoiaa Go.Proofs.Ytepipgneefcoiaa.D Go.Proofs.Ytepipgneefcoiaa.CellLaws Go.Proofs.YtepipgneefcoiaaW.PrintWords Go.Proofs.YtepipgneefcoiaaW.PrintLast Go.Proofs.YtepipgneefcoiaaW.PrintMore
open Go.Proofs.Ytepipgneefcoiaa.CrcK (Bytes u32 more sum_ev refsum_ev bytes_rd u32_lt bytes_wf)
theorem refNumbers {l : List Int} (hb : Bytes l) (hl : l.length = 64) : ∃ K, ∀ k, K ≤ k → marginaliaref16_Number.f k (l.take 8) = some (e0 l) ∧ marginaliaref16_Number.f k ((l.take 16).drop 8) = some (e1 l) ∧ marginaliaref16_Number.f k ((l.take 18).drop 16) = some (pt l) ∧ marginaliaref16_Number.f k ((l.take 20).drop 18) = some (ofs l) := by
  obtain ⟨K1, q1⟩ := refNumber_ev (l := l.take 8) (by_take hb _) (by simp; omega)
  obtain ⟨K2, q2⟩ := refNumber_ev (l := (l.take 16).drop 8) (by_drop (by_take hb _) _) (by simp; omega)
  obtain ⟨K3, q3⟩ := refNumber_ev (l := (l.take 18).drop 16) (by_drop (by_take hb _) _) (by simp; omega)
  obtain ⟨K4, q4⟩ := refNumber_ev (l := (l.take 20).drop 18) (by_drop (by_take hb _) _) (by simp; omega)
  exact ⟨K1 + K2 + K3 + K4, fun k hk => ⟨q1 k (by omega), q2 k (by omega), q3 k (by omega), q4 k (by omega)⟩⟩
theorem refDecode_long {l : List Int} (hl : l.length = 64) (hb : Bytes l) (hn : nn l ≤ 39) (r : List Int × Int)
    (he : Ev (fun k => marginaliaref16_Encode.f k (e0 l) (e1 l) (pt l) (ofs l) (dat l)) r) :
    Ev (fun k => marginaliaref16_Decode.f k l) (if r.2 = 0 then (if (strOfNums r.1).toList = (strOfNums l).toList then (e0 l, e1 l, pt l, ofs l, dat l, 0) else (0, 0, 0, 0, [], 8)) else (0, 0, 0, 0, [], 8)) := by
  obtain ⟨K1, q1⟩ := refNumbers hb hl
  obtain ⟨K2, q2⟩ := he
  have h20 := nn_at hb hl
  have ho := ofs_le hb hl
  refine ⟨K1 + K2 + 1, fun k hk => ?_⟩
  obtain ⟨m, rfl⟩ : ∃ m, k = m + 1 := ⟨k - 1, by omega⟩
  obtain ⟨a1, a2, a3, a4⟩ := q1 m (by omega)
  have he : marginaliaref16_Encode.f m (e0 l) (e1 l) (pt l) (ofs l) (dat l) = some r := q2 m (by omega)
  show marginaliaref16_Decode.f (m + 1) l = _
  have e21 : wrap64 (21 + (nn l : Int)) = ((21 + nn l : Nat) : Int) := by rw [w64 (by omega) (by omega)]; omega
  have hd := dat_length hl hn
  rw [marginaliaref16_Decode.f, if_pos (by omega), if_pos (by omega), decide_eq_false (by omega), marginaliaref16_Decode.j0, if_neg (by decide), if_pos (by omega), a1, Option.bind_some, if_pos (by decide), if_pos (by omega), a2, Option.bind_some, if_pos (by decide), if_pos (by omega), a3, Option.bind_some, if_pos (by decide), if_pos (by omega), a4, Option.bind_some, Option.bind_some, if_pos (by omega), rd20_nn hb hl, e21, if_pos (by omega), if_pos (by omega), Int.toNat_natCast, show (l.take (21 + nn l)).drop 21 = dat l from rfl, if_pos (by simp; omega), Option.bind_some, List.nil_append, w64 (n := pt l) (by omega) (by omega), w64 (n := ofs l) (by omega) (by omega), he, Option.bind_some]
  by_cases c : r.2 = 0
  · by_cases c2 : (strOfNums r.1).toList = (strOfNums l).toList
    · rw [if_pos c, if_pos c, if_pos c2, if_pos c2]
    · rw [if_pos c, if_pos c, if_neg c2, if_neg c2]
  · rw [if_neg c, if_neg c]
theorem refDecode_good {l : List Int} (hb : Bytes l) (h : CellLaws.Good l) : Ev (fun k => marginaliaref16_Decode.f k l) (e0 l, e1 l, pt l, ofs l, dat l, 0) := by
  obtain ⟨hl, hn, hp, ht, hs⟩ := h
  have ho := ofs_le hb hl
  have hd := dat_length hl hn
  have := refDecode_long hl hb hn _ (refEncode_ev (dat_bytes hb) ⟨ho.1, hp, ho.2.2.2, by omega⟩)
  rw [(good_iff hb hl hn).2 ⟨ht, hs⟩, if_pos rfl, if_pos rfl] at this
  exact this
theorem refDecode_bad {l : List Int} (hb : Bytes l) (h : ¬ CellLaws.Good l) : Ev (fun k => marginaliaref16_Decode.f k l) (0, 0, 0, 0, [], 8) := by
  have hbad : ∀ c : Bool, c = true → Ev (fun k => marginaliaref16_Decode.j0 k l c) (0, 0, 0, 0, [], 8) := fun c hc => by
    refine Ev.step (f := fun _ => some _) (fun k => ?_) (Ev.now _)
    rw [marginaliaref16_Decode.j0, if_pos hc]
  by_cases hl : l.length = 64
  · have h20 := nn_at hb hl
    have ho := ofs_le hb hl
    by_cases hn : nn l ≤ 39
    · have hd := dat_length hl hn
      by_cases hp : pt l < ofs l
      · have h1 := refDecode_long hl hb hn _ (refEncode_ev (dat_bytes hb) ⟨ho.1, hp, ho.2.2.2, by omega⟩)
        rw [if_pos rfl, if_neg (fun e => h ⟨hl, hn, hp, (good_iff hb hl hn).1 ((strs_iff (enc_bytes (by omega) (dat_bytes hb)) hb).1 e)⟩)] at h1
        exact h1
      · have h1 := refDecode_long hl hb hn _ ⟨0, fun k _ => refEncode_bad (a0 := e0 l) (a1 := e1 l) (fun hm : May (pt l) (ofs l) (dat l) => hp hm.2.1) k⟩
        rw [if_neg (by decide)] at h1
        exact h1
    · refine Ev.congr (fun k => ?_) (hbad true rfl)
      show marginaliaref16_Decode.f k l = _
      rw [marginaliaref16_Decode.f, if_pos (by omega), if_pos (by omega), decide_eq_true (by omega)]
  · refine Ev.congr (fun k => ?_) (hbad true rfl)
    show marginaliaref16_Decode.f k l = _
    rw [marginaliaref16_Decode.f, if_neg (by omega)]
end Go.Proofs.Ytepipgneefcoiaa.CellLaws
namespace Go.Proofs.Ytepipgneefcoiaa.D
open Go.RowKit Go.Proofs.YtepipgneefcoiaaW.PrintWords Go.Proofs.YtepipgneefcoiaaW.PrintLast Go.Proofs.YtepipgneefcoiaaW.PrintMore
def marginaliaref16_Many.f (a0 : Int) : Option (Int) := some (wrap64 (Int.tdiv (wrap64 ((wrap64 (a0 + 39)) - 1)) 39))
set_option maxHeartbeats 8000000 in
set_option maxRecDepth 100000 in
theorem marginaliaref16_Many.calls (a0 : Int) (r : Int) (w : World) (h : marginaliaref16_Many.f a0 = some r) :
    Calls Try.prog 84 #[.int .i64 a0] w fun e w' => e = .returned (.int .i64 r) ∧ Drawn0 w w' := by
 have H : (some (wrap64 (Int.tdiv (wrap64 ((wrap64 (a0 + 39)) - 1)) 39))) = some r := h
 clear h
 obtain rfl := Option.some.inj H
 go_enter Try.func84, Try.ntmps84
 go_wp2
 go_ret
 exact ⟨by first | rfl | (simp; done) | (simp [*]; done), by repeat (first | exact Drawn0.refl _ | apply Drawn0.step)⟩
end Go.Proofs.Ytepipgneefcoiaa.D
namespace Go.Proofs.Ytepipgneefcoiaa.D
open Go.RowKit Go.Proofs.YtepipgneefcoiaaW.PrintWords Go.Proofs.YtepipgneefcoiaaW.PrintLast Go.Proofs.YtepipgneefcoiaaW.PrintMore
def marginaliaref16_Cut.l0 : Nat → List Int → Int → Int → List (S106) → Int → Option ((List (S106)))
  | 0, _, _, _, _, _ => none
  | k + 1, x0, x1, x2, x7, x8 => if x8 < (x0.length : Int) then ((marginaliaref16_Many.f (x0.length : Int)).bind fun t312 => ((some (([] : List Int) : List Int)).bind fun y313 => (if 0 ≤ x8 then (if x8 ≤ (mn (wrap64 (x8 + 39)) (x0.length : Int)) then (if (mn (wrap64 (x8 + 39)) (x0.length : Int)) ≤ (x0.length : Int) then (if y313.length + ((x0.take ((mn (wrap64 (x8 + 39)) (x0.length : Int)) : Int).toNat).drop (x8 : Int).toNat).length < 140737488355328 then (if x7.length < 2513169434916 then (marginaliaref16_Cut.l0 k x0 x1 x2 (x7 ++ [(⟨x1, x2, (x7.length : Int), t312, (y313 ++ ((x0.take ((mn (wrap64 (x8 + 39)) (x0.length : Int)) : Int).toNat).drop (x8 : Int).toNat))⟩ : S106)]) (wrap64 (x8 + 39))) else (none)) else (none)) else (none)) else (none)) else (none)))) else (some x7)
def marginaliaref16_Cut.f (k : Nat) (l0 : List Int) (a1 : Int) (a2 : Int) : Option ((List (S106))) := if (l0.length : Int) > 2555865 then (some ([] : List (S106))) else (marginaliaref16_Cut.l0 k l0 a1 a2 (([] : List (S106))) 0)
def marginaliaref16_Cut.T8 : Bool × List (List Nat × List Nat) := (true, [([], []), ([], []), ([], []), ([], []), ([3], [3]), ([], []), ([5], [5]), ([6], [6]), ([], []), ([], []), ([], []), ([], []), ([9, 10, 11], [9, 10, 11]), ([8, 12, 7], [8, 12]), ([1, 2, 4, 7, 13], [1, 2, 4, 7, 13]), ([14], [14]), ([0, 15, 13], [0, 15]), ([16, 16, 0, 1, 2, 3, 4, 5, 6, 7, 8, 9, 10, 11, 12, 13, 14, 15, 16], [0, 3, 16])])
def marginaliaref16_Cut.B8 : List Nat := [0, 0, 0, 0, 8, 0, 32, 96, 0, 0, 0, 0, 3584, 8160, 16382, 32766, 65535, 131071]
theorem marginaliaref16_Cut.tab8 : rtab .any (opsOf Try.f75 8) = marginaliaref16_Cut.T8 := by kernel_rfl
theorem marginaliaref16_Cut.bits8 : waitsOk marginaliaref16_Cut.T8.2 marginaliaref16_Cut.B8 = true := by kernel_rfl
set_option maxHeartbeats 8000000 in
set_option maxRecDepth 100000 in
theorem marginaliaref16_Cut.calls (k : Nat) (A0 : Option Addr) (c0 : Nat) (l0 : List Int) (a1 : Int) (a2 : Int) (r : List (S106)) (w : World) (hr0 : Kd.C (Kd.int .u8) w A0 l0.length l0) (hc0 : l0.length ≤ c0) (h : marginaliaref16_Cut.f k l0 a1 a2 = some r) :
    Calls Try.prog 75 #[.slice A0 l0.length c0, .int .u64 a1, .int .u64 a2] w fun e w' => ∃ v0_ : Value, e = .returned (v0_) ∧ Kd.S k106 106 w' w.heap.size (fun _ => True) v0_ r ∧ Below w.heap.size w w' := by
 have hu106 := Try.underlying106
 have HR0 := Aside0.mk hr0
 have HC0 := Aside0.mk hc0
 clear hr0 hc0
 have HB := Aside0.mk (Below.refl w.heap.size w)
 have H : (if (l0.length : Int) > 2555865 then (some ([] : List (S106))) else (marginaliaref16_Cut.l0 k l0 a1 a2 (([] : List (S106))) 0)) = some r := h
 clear h
 by_cases c4 : (l0.length : Int) > 2555865
 · rw [if_pos c4] at H
   have c4b0 := decide_eq_true c4
   have c4b1 : decide (2555865 < l0.length) = true := decide_eq_true (by omega)
   clear c4
   obtain rfl := Option.some.inj H
   go_enter Try.func75, Try.ntmps75
   go_wp2
   go_ret
   exact ⟨_, er, rn, b_w HB⟩
 rw [if_neg c4] at H
 have c4b0 := decide_eq_false c4
 have c4b1 : decide (2555865 < l0.length) = false := decide_eq_false (by omega)
 clear c4
 obtain ⟨y309, Ny309⟩ := yy ((([] : List (S106))) : List (S106))
 replace H : (marginaliaref16_Cut.l0 k l0 a1 a2 y309 0) = some r := yx Ny309 H
 have H' := Aside0.mk H
 clear H
 go_enter Try.func75, Try.ntmps75
 go_wp2_with (first | ((with_reducible refine gate_dst (N := 13) rfl ?_); refine Kd.S_lit k106 _ 106 ?hg (N := 13) ?hd (xs := ([] : List (S106))) (inner := []) (ok := fun _ => True) (okp := fun _ => True) ?hr ?hp (fun _ hk => hk) trivial (Below.refl _ _) (Nat.le_refl _) (by simp) ?_; (case hd => rfl); (case hg => rfl); (case hr => first | (go_simp; done) | (go_simp; rfl)); (case hp => exact (Reps.none _ _)); intro v310 w5 ho6 hb hg_ hnew_; clear hg_ hnew_; (first | rw [← Ny309.out] at ho6 | (simp only [Int.reduceToNat] at ho6; rw [← Ny309.out] at ho6)); have HO311 := Aside0.mk (Kd.S_lower ho6 (below_size (b_w HB))); replace HB := bs HB hb; clear hb ho6))
 go_loopg [7, 8] k (fun kq v7 v8 w' => ∃ (x7_1 : List (S106)) (x8_1 : Int), v8 = .int .i64 x8_1 ∧ Aside0 (marginaliaref16_Cut.l0 kq l0 a1 a2 x7_1 x8_1 = some r) ∧ Aside0 (kq ≤ k) ∧ Aside0 (Kd.S k106 106 w' w.heap.size (fun _ => True) v7 x7_1) ∧ Aside0 (Below w.heap.size w w'))
 case atStart => exact ⟨(y309), (0), sm, H', ⟨Nat.le_refl _⟩, ⟨kS' HO311⟩, ⟨b_w HB⟩⟩
 clear H'
 try clear p2
 try clear c4
 try clear c4b0
 try clear c4b1
 obtain ⟨x7_1, x8_1, rfl, HA, HK1, HO_7, HB⟩ := hrel
 cases gk with
 | zero => exact absurd HA.out (by simp [marginaliaref16_Cut.l0])
 | succ k1 => ?_
 have H := HA.out
 clear HA
 simp only [marginaliaref16_Cut.l0] at H
 by_cases c7 : x8_1 < (l0.length : Int)
 rotate_left
 · rw [if_neg c7] at H
   have c7b0 := decide_eq_false c7
   clear c7
   obtain rfl := Option.some.inj H
   go_wp2
   go_ret
   exact ⟨_, er, kS' HO_7, b_w HB⟩
 rw [if_pos c7] at H
 have c7b0 := decide_eq_true c7
 clear c7
 obtain ⟨ji8, hji8⟩ : ∃ j_ : Int, (mn (wrap64 (x8_1 + 39)) (l0.length : Int)) = j_ := ⟨_, rfl⟩
 replace H : ((marginaliaref16_Many.f (l0.length : Int)).bind fun t312 => ((some (([] : List Int) : List Int)).bind fun y313 => (if 0 ≤ x8_1 then (if x8_1 ≤ (ji8) then (if (ji8) ≤ (l0.length : Int) then (if y313.length + ((l0.take ((ji8) : Int).toNat).drop (x8_1 : Int).toNat).length < 140737488355328 then (if x7_1.length < 2513169434916 then (marginaliaref16_Cut.l0 k1 l0 a1 a2 (x7_1 ++ [(⟨a1, a2, (x7_1.length : Int), t312, (y313 ++ ((l0.take ((ji8) : Int).toNat).drop (x8_1 : Int).toNat))⟩ : S106)]) (wrap64 (x8_1 + 39))) else (none)) else (none)) else (none)) else (none)) else (none)))) = some r := by first | (rw [hji8] at H; exact H) | (simp only [hji8] at H ⊢; exact H)
 have hji8_ : (if (l0.length : Int) < (wrap64 (x8_1 + 39)) then (l0.length : Int) else (wrap64 (x8_1 + 39))) = ji8 := hji8
 (try (have hji8d := hji8_; simp only [List.length_drop, List.length_take] at hji8d))
 obtain ⟨t312, A9, H⟩ := bnd H
 obtain ⟨y313, Ny313⟩ := yy ((([] : List Int)) : List Int)
 replace H : (if 0 ≤ x8_1 then (if x8_1 ≤ (ji8) then (if (ji8) ≤ (l0.length : Int) then (if y313.length + ((l0.take ((ji8) : Int).toNat).drop (x8_1 : Int).toNat).length < 140737488355328 then (if x7_1.length < 2513169434916 then (marginaliaref16_Cut.l0 k1 l0 a1 a2 (x7_1 ++ [(⟨a1, a2, (x7_1.length : Int), t312, (y313 ++ ((l0.take ((ji8) : Int).toNat).drop (x8_1 : Int).toNat))⟩ : S106)]) (wrap64 (x8_1 + 39))) else (none)) else (none)) else (none)) else (none)) else (none)) = some r := yx Ny313 H
 obtain ⟨c10, H⟩ := ifN H
 have c10b0 := eq_true c10
 have c10b1 := decide_eq_true c10
 clear c10
 obtain ⟨c11, H⟩ := ifN H
 have c11b0 := eq_true c11
 have c11b1 := decide_eq_true c11
 clear c11
 obtain ⟨c12, H⟩ := ifN H
 have c12b0 := eq_true c12
 have c12b1 := decide_eq_true c12
 clear c12
 obtain ⟨c13, H⟩ := ifN H
 have LMc13 := Aside0.mk c13
 clear c13
 obtain ⟨y317, Ny317⟩ := yy ((y313 ++ ((l0.take ((ji8) : Int).toNat).drop (x8_1 : Int).toNat)) : List Int)
 replace H : (if x7_1.length < 2513169434916 then (marginaliaref16_Cut.l0 k1 l0 a1 a2 (x7_1 ++ [(⟨a1, a2, (x7_1.length : Int), t312, y317⟩ : S106)]) (wrap64 (x8_1 + 39))) else (none)) = some r := yx Ny317 H
 obtain ⟨c14, H⟩ := ifN H
 have LMc14 := Aside0.mk c14
 clear c14
 obtain ⟨y320, Ny320⟩ := yy ((x7_1 ++ [(⟨a1, a2, (x7_1.length : Int), t312, y317⟩ : S106)]) : List (S106))
 replace H : (marginaliaref16_Cut.l0 k1 l0 a1 a2 y320 (wrap64 (x8_1 + 39))) = some r := yx Ny320 H
 have H' := Aside0.mk H
 clear H
 obtain ⟨Ao15, co15, eo15⟩ := Kd.S_slice HO_7.out
 subst eo15
 try go_wp2
 replace HO_7 := Aside0.mk (Kd.S_drew HO_7.out)
 replace HB := Aside0.mk (below_drew1 HB.out)
 obtain ⟨i017, hi017, _, hsz17, _⟩ := info_parts info5
 obtain ⟨A17, hcut17, hA17, hC17⟩ := print_mid_of (P := Try.prog) (Value.int .u8) 0 27 5 .i64 .i64 Try.underlying27 hi017 hsz17 A0 c0 l0 x8_1 (ji8) (od) (by first | omega | exact od) (od) HC0.out
 have HR316 := Aside0.mk (Kd.C_of_reads (h1 := fun _ => rfl) (hA17 _ (Kd.reads_of_C HR0.out)))
 have HC316 := Aside0.mk hC17
 clear hA17 hC17 hi017 hsz17
 refine start_ (n := 18) (S := fun w' => True) (ds := []) #[false, false, false, false, false, false, false, false, false, false, false, false, false, false, false, false, false, false] (by kernel_rfl) rfl rfl trivial (fun hHeld => ?_); refine with_tabW marginaliaref16_Cut.tab8 marginaliaref16_Cut.bits8 (fun HT_ HW_ => ?_)
 generalize wr.drew = w16 at HO_7 HB HR316 hHeld ⊢
 refine pu 0 (some 25) (bm 18 1) ?_
 refine pu 1 (some 26) (bm 18 3) ?_
 refine pu 2 (some 27) (bm 18 7) ?_
 refine pu 3 (some 28) (bm 18 15) ?_
 refine pu 4 (some 29) (bm 18 31) ?_
 refine pu 5 (some 30) (bm 18 63) ?_
 refine pu 6 (some 31) (bm 18 127) ?_
 refine pu 9 (some 34) (bm 18 639) ?_
 refine pu 10 (some 35) (bm 18 1663) ?_
 refine pu 11 (some 36) (bm 18 3711) ?_
 refine pu 12 (some 37) (bm 18 7807) ?_
 refine join_ (σ := Value) 5 #[true, true, true, true, true, true, true, true, true, true, true, true, true, false, false, false, false, false] (fun s_ => [(32, .int .i64 t312), (33, s_)]) (fun s_ w' => (Kd.R (Kd.int .u8) 5 w' w.heap.size (fun _ => True) s_ y313) ∧ (Kd.S k106 106 w' w.heap.size (fun k_ => some k_ ≠ (s_ : Value).ownBlock) (.slice Ao15 x7_1.length co15) x7_1) ∧ (Below w.heap.size w w')) ?_ ?_
 rotate_left
 · intro hCont
   refine pw 7 8 (some 32) (some 33) (bm 18 7935) (bm 18 8063) (fun K hK => ?_) (fun K hK => ?_)
   · skip
     refine go_ Try.func84 #[.int .i64 (l0.length : Int)] ?_
     with_reducible refine (marginaliaref16_Many.calls (l0.length : Int) t312 _ A9.out).mono ?_
     rintro e w' ⟨rfl, ⟨nd, rfl⟩⟩
     refine ⟨_, rfl, ?_⟩
     refine hK.out _ _ trivial (fun hHeld => ?_)
     clear hK K
     refine no (some 32) ?_
     refine pn 8 (some 33) (bm 18 8191) (fun K hK => ?_)
     refine Kd.R_lit_step (Kd.int .u8) _ 5 ?hg (N := 33) ?hd (xs := ([] : List Int)) (inner := []) (ok := fun _ => True) (okp := fun _ => True) ?hr ?hp (fun _ hk => hk) trivial (Below.refl _ _) (Nat.le_refl _) (by simp) ?_; (case hd => rfl); (case hg => rfl); (case hr => first | (go_simp; done) | (go_simp; rfl)); (case hp => exact (Reps.none _ _))
     intro v314 w18 ho19 hb hg_ hnew_
     clear hg_ hnew_
     (first | rw [← Ny313.out] at ho19 | (simp only [Int.reduceToNat] at ho19; rw [← Ny313.out] at ho19))
     replace HO_7 := Aside0.mk (Kd.S_elder' (kS' HO_7) (Kd.R_base ho19) hb)
     have HO315 := Aside0.mk (Kd.R_lower ho19 (below_size (b_w HB)))
     replace HB := bs HB hb
     clear hb ho19
     refine hK.out _ _ trivial (fun hHeld => ?_)
     clear hK K
     refine no (some 33) ?_
     exact nb (hCont (v314) _ ⟨(kR' HO315), (rS (Kd.S_mono (HO_7.out) (fun _ hk => hk.2))), (b_w HB)⟩)
   skip
   refine Kd.R_lit_step (Kd.int .u8) _ 5 ?hg (N := 33) ?hd (xs := ([] : List Int)) (inner := []) (ok := fun _ => True) (okp := fun _ => True) ?hr ?hp (fun _ hk => hk) trivial (Below.refl _ _) (Nat.le_refl _) (by simp) ?_; (case hd => rfl); (case hg => rfl); (case hr => first | (go_simp; done) | (go_simp; rfl)); (case hp => exact (Reps.none _ _))
   intro v314 w18 ho19 hb hg_ hnew_
   clear hg_ hnew_
   (first | rw [← Ny313.out] at ho19 | (simp only [Int.reduceToNat] at ho19; rw [← Ny313.out] at ho19))
   replace HO_7 := Aside0.mk (Kd.S_elder' (kS' HO_7) (Kd.R_base ho19) hb)
   have HO315 := Aside0.mk (Kd.R_lower ho19 (below_size (b_w HB)))
   replace HB := bs HB hb
   clear hb ho19
   refine hK.out _ _ trivial (fun hHeld => ?_)
   clear hK K
   refine no (some 33) ?_
   refine pn 7 (some 32) (bm 18 8191) (fun K hK => ?_)
   refine go_ Try.func84 #[.int .i64 (l0.length : Int)] ?_
   with_reducible refine (marginaliaref16_Many.calls (l0.length : Int) t312 _ A9.out).mono ?_
   rintro e w' ⟨rfl, ⟨nd, rfl⟩⟩
   refine ⟨_, rfl, ?_⟩
   refine hK.out _ _ trivial (fun hHeld => ?_)
   clear hK K
   refine no (some 32) ?_
   exact nb (hCont (v314) _ ⟨(kR' HO315), (rS (Kd.S_mono (HO_7.out) (fun _ hk => hk.2))), (b_w HB)⟩)
 rintro v314 w20 ⟨h0_, h1_, h2_⟩
 have n0_ : Aside0 (Kd.R (Kd.int .u8) 5 w20 w.heap.size (fun _ => True) v314 y313) := ⟨h0_⟩
 have n1_ : Aside0 (Kd.S k106 106 w20 w.heap.size (fun k_ => some k_ ≠ (v314 : Value).ownBlock) (.slice Ao15 x7_1.length co15) x7_1) := ⟨h1_⟩
 have n2_ : Aside0 (Below w.heap.size w w20) := ⟨h2_⟩
 clear HO_7
 clear HB
 clear h0_ h1_ h2_
 have HO315 := n0_
 have HO_7 := n1_
 have HB := n2_
 clear n0_ n1_ n2_
 have hHeld := trivial
 refine na ?_
 refine pn 13 (some 38) (bm 18 16383) (fun K hK => ?_)
 refine Kd.R_append_rows_step (Kd.int .u8) (w0 := w) w.heap.size (by rfl) (.tmp 33) (.tmp 37) 27 5 (.int .u8 0) 1 rfl Try.underlying27 info5 rfl (by decide) (by omega) v314 y313 ((l0.take ((ji8) : Int).toNat).drop (x8_1 : Int).toNat) _ _ _ (fun _ => True) (fun _ => False) rfl rfl ?aO ?aR (fun _ _ h => h) (fun _ h => h.elim) ?aF ?aB ?aS ?aL ?_
 (case aR => first | (rw [← show ((l0.take ((ji8) : Int).toNat).drop (x8_1 : Int).toNat).length = ((ji8).toNat - x8_1.toNat) from (by rw [List.length_drop, List.length_take]; have h_ : ((ji8) : Int) ≤ (l0.length : Int) := od; omega)]; repeat (first | exact (Kd.C_below HR316.out HB.out) | (with_reducible refine Kd.C_alloc ?_ _) | (with_reducible refine Kd.C_drewN ?_ _) | (with_reducible refine Kd.C_drew ?_))) | (repeat (first | exact (Kd.C_below HR316.out HB.out) | (with_reducible refine Kd.C_alloc ?_ _) | (with_reducible refine Kd.C_drewN ?_ _) | (with_reducible refine Kd.C_drew ?_))))
 (case aB => exact (b_w HB))
 (case aF => exact (fun _ _ => trivial))
 (case aO => exact (kR' HO315))
 (case aS => exact (below_size (b_w HB)))
 (case aL => have := LMc13.out; have hlx_ := (show ((l0.take ((ji8) : Int).toNat).drop (x8_1 : Int).toNat).length = ((ji8).toNat - x8_1.toNat) from (by rw [List.length_drop, List.length_take]; have h_ : ((ji8) : Int) ≤ (l0.length : Int) := od; omega)); omega)
 intro v318 w21 ho hb hg hat
 rw [← Ny317.out] at ho
 replace HO_7 := Aside0.mk (Kd.S_after (ok := (fun _ => True)) (by (with_reducible repeat (first | apply Kd.S_alloc | apply Kd.S_drewN | apply Kd.S_drew)); exact Kd.S_mono HO_7.out (fun _ hk => ⟨trivial, hk⟩)) hg hat)
 replace HB := Aside0.mk (hb)
 have HO319 := Aside0.mk (ho)
 clear HO315
 clear ho hb hg hat
 obtain ⟨Ao22, co22, eo22⟩ := Kd.R_slice HO319.out
 (first | subst eo22 | (injection eo22 with f1_ f2_ f3_; have f4_ := f1_.symm; have f5_ := f3_.symm; clear f1_ f2_ f3_; subst f4_; subst f5_))
 refine hK.out _ _ trivial (fun hHeld => ?_)
 clear hK K
 refine no (some 38) ?_
 refine pu 14 (some 39) (bm 18 32767) ?_
 refine pn 15 (some 40) (bm 18 65535) (fun K hK => ?_)
 refine value_ (w1 := ?_) (v := ?_) (by rfl) rfl ?_ ?_
 rotate_left 2
 · go_simp
   constructor
   · rfl
   rfl
 refine hK.out _ _ trivial (fun hHeld => ?_)
 clear hK K
 refine no (some 40) ?_
 refine pn 16 (some 41) (bm 18 131071) (fun K hK => ?_)
 refine Kd.S_append_step k106 (w0 := w) w.heap.size (by rfl) (.tmp 25) (.tmp 40) 62 106 (.agg #[(.int .u64 0), (.int .u64 0), (.int .i64 0), (.int .i64 0), (.slice none 0 0)]) 56 rfl Try.underlying62 info106 rfl (by decide) (by omega) (.slice Ao15 x7_1.length co15) x7_1 (⟨a1, a2, (x7_1.length : Int), t312, y317⟩ : S106) [.int .u64 a1, .int .u64 a2, .int .i64 (x7_1.length : Int), .int .i64 t312, .slice Ao22 y317.length co22] (fun _ => True) (fun k_ => some k_ = (.slice Ao22 y317.length co22 : Value).ownBlock) rfl rfl ?aP (fun k_ hk_ => ((Kd.R_mono (ok' := fun k_ => ((fun _ => True)) k_ ∧ some k_ ≠ (.slice Ao15 x7_1.length co15 : Value).ownBlock) (Kd.R_apart' (HO319.out) (Kd.S_typed HO_7.out) (by decide)) (fun k_ hk => ⟨trivial, hk.2⟩))).1 k_ hk_.symm) ?aF ?aO ?aB ?aS ?aL ?_
 (case aP => exact k106_mkM _ _ _ (⟨a1, a2, (x7_1.length : Int), t312, y317⟩ : S106) (Kd.R_mono (Kd.R_tight rfl (Kd.R_mono (ok' := fun k_ => ((fun _ => True)) k_ ∧ some k_ ≠ (.slice Ao15 x7_1.length co15 : Value).ownBlock) (Kd.R_apart' (HO319.out) (Kd.S_typed HO_7.out) (by decide)) (fun k_ hk => ⟨trivial, hk.2⟩))) (fun _ h_ => h_)))
 (case aB => exact (b_w HB))
 (case aF => exact (fun _ _ => trivial))
 (case aO => exact (by (with_reducible repeat (first | apply Kd.S_alloc | apply Kd.S_drewN | apply Kd.S_drew)); exact Kd.S_mono HO_7.out (fun k_ hk => ⟨trivial, fun e_ => hk.2 e_⟩)))
 (case aS => exact (below_size (b_w HB)))
 (case aL => have := LMc14.out; omega)
 intro v321 w23 ho hb hg hat
 rw [← Ny320.out] at ho
 replace HB := Aside0.mk (hb)
 have HO322 := Aside0.mk (ho)
 clear HO_7 HO319
 clear ho hb hg hat
 refine hK.out _ _ trivial (fun hHeld => ?_)
 clear hK K
 refine no (some 41) ?_
 refine pu 17 (some 7) (bm 18 262143) ?_
 refine done_ (done_of HT_.out (by kernel_rfl)) ?_
 try go_wp2
 go_roundg k1
 case measure => have := HK1.out; omega
 case rel => exact ⟨(y320), (wrap64 (x8_1 + 39)), sm, H', ⟨by have := HK1.out; omega⟩, ⟨kS' HO322⟩, ⟨b_w HB⟩⟩
end Go.Proofs.Ytepipgneefcoiaa.D
namespace Go.Proofs.Ytepipgneefcoiaa.D
open Go.RowKit Go.Proofs.YtepipgneefcoiaaW.PrintWords Go.Proofs.YtepipgneefcoiaaW.PrintLast Go.Proofs.YtepipgneefcoiaaW.PrintMore
def marginaliaref16_Sames.l0 : Nat → List (S106) → List (S106) → Int → Option (Bool)
  | 0, _, _, _ => none
  | k + 1, x0, x1, x5 => if x5 < (x0.length : Int) then (if 0 ≤ x5 then (if x5 < (x1.length : Int) then ((marginaliaref16_Same.f ((rd_T106 x0 x5).f0) ((rd_T106 x0 x5).f1) ((rd_T106 x0 x5).f2) ((rd_T106 x0 x5).f3) ((rd_T106 x0 x5).f4) ((rd_T106 x1 x5).f0) ((rd_T106 x1 x5).f1) ((rd_T106 x1 x5).f2) ((rd_T106 x1 x5).f3) ((rd_T106 x1 x5).f4)).bind fun t327 => (if t327 = true then (marginaliaref16_Sames.l0 k x0 x1 (wrap64 (x5 + 1))) else (some false))) else (none)) else (none)) else (some true)
def marginaliaref16_Sames.f (k : Nat) (l0 : List (S106)) (l1 : List (S106)) : Option (Bool) := if (l0.length : Int) = (l1.length : Int) then (marginaliaref16_Sames.l0 k l0 l1 0) else (some false)
def marginaliaref16_Sames.T6 : Bool × List (List Nat × List Nat) := (true, [([], []), ([], []), ([0, 1], [0, 1]), ([2], [2]), ([], []), ([], []), ([4, 5], [4, 5]), ([6], [6]), ([3, 7], [3, 7]), ([8], [8])])
def marginaliaref16_Sames.B6 : List Nat := [0, 0, 3, 7, 0, 0, 48, 112, 255, 511]
theorem marginaliaref16_Sames.tab6 : rtab .any (opsOf Try.f91 6) = marginaliaref16_Sames.T6 := by kernel_rfl
theorem marginaliaref16_Sames.bits6 : waitsOk marginaliaref16_Sames.T6.2 marginaliaref16_Sames.B6 = true := by kernel_rfl
set_option maxHeartbeats 8000000 in
set_option maxRecDepth 100000 in
theorem marginaliaref16_Sames.calls (k : Nat) (A0 : Option Addr) (c0 : Nat) (l0 : List (S106)) (A1 : Option Addr) (c1 : Nat) (l1 : List (S106)) (r : Bool) (w : World) (hr0 : Kd.C k106 w A0 l0.length l0) (hc0 : l0.length ≤ c0) (hr1 : Kd.C k106 w A1 l1.length l1) (hc1 : l1.length ≤ c1) (h : marginaliaref16_Sames.f k l0 l1 = some r) :
    Calls Try.prog 91 #[.slice A0 l0.length c0, .slice A1 l1.length c1] w fun e w' => e = .returned (.bool r) ∧ Below w.heap.size w w' := by
 have hu106 := Try.underlying106
 have HR0 := Aside0.mk hr0
 have HC0 := Aside0.mk hc0
 clear hr0 hc0
 have HR1 := Aside0.mk hr1
 have HC1 := Aside0.mk hc1
 clear hr1 hc1
 have HB := Aside0.mk (Below.refl w.heap.size w)
 have H : (if (l0.length : Int) = (l1.length : Int) then (marginaliaref16_Sames.l0 k l0 l1 0) else (some false)) = some r := h
 clear h
 by_cases c3 : (l0.length : Int) = (l1.length : Int)
 rotate_left
 · rw [if_neg c3] at H
   have c3b0 := beq_eq_false_iff_ne.mpr c3
   have c3b1 := bne_iff_ne.mpr c3
   have c3b2 : (l0.length == l1.length) = false := by first | simpa using c3 | (simp at c3 ⊢; omega)
   obtain rfl := Option.some.inj H
   go_enter Try.func91, Try.ntmps91
   go_wp2
   go_ret
   exact ⟨er, b_w HB⟩
 rw [if_pos c3] at H
 have c3b0 := beq_iff_eq.mpr c3
 have c3b1 := bne_eq_false_iff_eq.mpr c3
 have c3b2 : (l0.length == l1.length) = true := by first | simpa using c3 | (simp at c3 ⊢; omega)
 clear c3
 have H' := Aside0.mk H
 clear H
 go_enter Try.func91, Try.ntmps91
 go_wp2
 go_loopg [5] k (fun kq v5 w' => ∃ (x5_1 : Int), v5 = .int .i64 x5_1 ∧ Aside0 (marginaliaref16_Sames.l0 kq l0 l1 x5_1 = some r) ∧ Aside0 (kq ≤ k) ∧ Aside0 (Below w.heap.size w w'))
 case atStart => exact ⟨(0), sm, H', ⟨Nat.le_refl _⟩, ⟨b_w HB⟩⟩
 clear H'
 try clear c1
 try clear p2
 try clear c3
 try clear c3b0
 try clear c3b1
 try clear c3b2
 obtain ⟨x5_1, rfl, HA, HK1, HB⟩ := hrel
 cases gk with
 | zero => exact absurd HA.out (by simp [marginaliaref16_Sames.l0])
 | succ k1 => ?_
 have H := HA.out
 clear HA
 simp only [marginaliaref16_Sames.l0] at H
 by_cases c4 : x5_1 < (l0.length : Int)
 rotate_left
 · rw [if_neg c4] at H
   have c4b0 := decide_eq_false c4
   clear c4
   obtain rfl := Option.some.inj H
   go_wp2
   go_ret
   exact ⟨er, b_w HB⟩
 rw [if_pos c4] at H
 have c4b0 := decide_eq_true c4
 clear c4
 obtain ⟨c5, H⟩ := ifN H
 have c5b0 := decide_eq_true c5
 clear c5
 obtain ⟨c6, H⟩ := ifN H
 have c6b0 := decide_eq_true c6
 clear c6
 obtain ⟨t327, A7, H⟩ := bnd H
 by_cases c8 : t327 = true
 rotate_left
 · replace c8 := Bool.eq_false_iff.mpr c8
   subst c8
   replace H := fi H
   obtain rfl := Option.some.inj H
   try go_wp2
   replace HB := Aside0.mk (below_drew1 HB.out)
   have p325 : 0 ≤ (x5_1 : Int) := od
   have q325 : x5_1 < (l0.length : Int) := od
   obtain ⟨ad325, A325_4, c325_4, e325, hx325_0, hx325_1, hx325_2, hx325_3, hx325_4, hl325_4, hi325_4⟩ := at_T106 HR0.out x5_1 p325 q325
   have hw325_4 := hx325_4
   have hw325_3 := hx325_3
   have hw325_2 := hx325_2
   have hw325_1 := hx325_1
   have hw325_0 := hx325_0
   cases e325
   replace hx325_0 := xb HB hx325_0
   replace hx325_1 := xb HB hx325_1
   replace hx325_2 := xb HB hx325_2
   replace hx325_3 := xb HB hx325_3
   replace hx325_4 := xb HB hx325_4
   have HR325_4 := Aside0.mk hi325_4
   have HC325_4 := Aside0.mk hl325_4
   clear hi325_4 hl325_4
   replace p325 := eq_true p325
   replace q325 := eq_true q325
   have p326 : 0 ≤ (x5_1 : Int) := od
   have q326 : x5_1 < (l1.length : Int) := od
   obtain ⟨ad326, A326_4, c326_4, e326, hx326_0, hx326_1, hx326_2, hx326_3, hx326_4, hl326_4, hi326_4⟩ := at_T106 HR1.out x5_1 p326 q326
   have hw326_4 := hx326_4
   have hw326_3 := hx326_3
   have hw326_2 := hx326_2
   have hw326_1 := hx326_1
   have hw326_0 := hx326_0
   cases e326
   replace hx326_0 := xb HB hx326_0
   replace hx326_1 := xb HB hx326_1
   replace hx326_2 := xb HB hx326_2
   replace hx326_3 := xb HB hx326_3
   replace hx326_4 := xb HB hx326_4
   have HR326_4 := Aside0.mk hi326_4
   have HC326_4 := Aside0.mk hl326_4
   clear hi326_4 hl326_4
   replace p326 := eq_true p326
   replace q326 := eq_true q326
   refine start_ (n := 10) (S := fun w' => w'.cell? (ad325.add ((x5_1).toNat * 5)) = some (.int .u64 ((rd_T106 l0 x5_1).f0)) ∧ w'.cell? ⟨(ad325.add ((x5_1).toNat * 5)).block, (ad325.add ((x5_1).toNat * 5)).off + 1, none⟩ = some (.int .u64 ((rd_T106 l0 x5_1).f1)) ∧ w'.cell? ⟨(ad325.add ((x5_1).toNat * 5)).block, (ad325.add ((x5_1).toNat * 5)).off + 2, none⟩ = some (.int .i64 ((rd_T106 l0 x5_1).f2)) ∧ w'.cell? ⟨(ad325.add ((x5_1).toNat * 5)).block, (ad325.add ((x5_1).toNat * 5)).off + 3, none⟩ = some (.int .i64 ((rd_T106 l0 x5_1).f3)) ∧ w'.cell? ⟨(ad325.add ((x5_1).toNat * 5)).block, (ad325.add ((x5_1).toNat * 5)).off + 4, none⟩ = some (.slice A325_4 ((rd_T106 l0 x5_1).f4).length c325_4) ∧ w'.cell? (ad326.add ((x5_1).toNat * 5)) = some (.int .u64 ((rd_T106 l1 x5_1).f0)) ∧ w'.cell? ⟨(ad326.add ((x5_1).toNat * 5)).block, (ad326.add ((x5_1).toNat * 5)).off + 1, none⟩ = some (.int .u64 ((rd_T106 l1 x5_1).f1)) ∧ w'.cell? ⟨(ad326.add ((x5_1).toNat * 5)).block, (ad326.add ((x5_1).toNat * 5)).off + 2, none⟩ = some (.int .i64 ((rd_T106 l1 x5_1).f2)) ∧ w'.cell? ⟨(ad326.add ((x5_1).toNat * 5)).block, (ad326.add ((x5_1).toNat * 5)).off + 3, none⟩ = some (.int .i64 ((rd_T106 l1 x5_1).f3)) ∧ w'.cell? ⟨(ad326.add ((x5_1).toNat * 5)).block, (ad326.add ((x5_1).toNat * 5)).off + 4, none⟩ = some (.slice A326_4 ((rd_T106 l1 x5_1).f4).length c326_4)) (ds := []) #[false, false, false, false, false, false, false, false, false, false] (by kernel_rfl) rfl rfl ⟨(xb HB hw325_0), (xb HB hw325_1), (xb HB hw325_2), (xb HB hw325_3), (xb HB hw325_4), (xb HB hw326_0), (xb HB hw326_1), (xb HB hw326_2), (xb HB hw326_3), (xb HB hw326_4)⟩ (fun hHeld => ?_); refine with_tabW marginaliaref16_Sames.tab6 marginaliaref16_Sames.bits6 (fun HT_ HW_ => ?_)
   generalize wr.drew = w11 at HB HR325_4 HR326_4 hx325_0 hx325_1 hx325_2 hx325_3 hx325_4 hx326_0 hx326_1 hx326_2 hx326_3 hx326_4 hHeld ⊢
   refine pu 0 (some 17) (bm 10 1) ?_
   refine pu 1 (some 18) (bm 10 3) ?_
   refine pu 2 (some 19) (bm 10 7) ?_
   refine pu 4 (some 21) (bm 10 23) ?_
   refine pu 5 (some 22) (bm 10 55) ?_
   refine pu 6 (some 23) (bm 10 119) ?_
   refine p_t 3 (some 20) (bm 10 127) ?_
   refine p_t 7 (some 24) (bm 10 255) ?_
   refine pn 8 (some 25) (bm 10 511) (fun K hK => ?_)
   refine go_ Try.func96 #[.agg #[.int .u64 ((rd_T106 l0 x5_1).f0), .int .u64 ((rd_T106 l0 x5_1).f1), .int .i64 ((rd_T106 l0 x5_1).f2), .int .i64 ((rd_T106 l0 x5_1).f3), .slice A325_4 ((rd_T106 l0 x5_1).f4).length c325_4], .agg #[.int .u64 ((rd_T106 l1 x5_1).f0), .int .u64 ((rd_T106 l1 x5_1).f1), .int .i64 ((rd_T106 l1 x5_1).f2), .int .i64 ((rd_T106 l1 x5_1).f3), .slice A326_4 ((rd_T106 l1 x5_1).f4).length c326_4]] ?_
   with_reducible refine (marginaliaref16_Same.calls ((rd_T106 l0 x5_1).f0) ((rd_T106 l0 x5_1).f1) ((rd_T106 l0 x5_1).f2) ((rd_T106 l0 x5_1).f3) _ _ ((rd_T106 l0 x5_1).f4) ((rd_T106 l1 x5_1).f0) ((rd_T106 l1 x5_1).f1) ((rd_T106 l1 x5_1).f2) ((rd_T106 l1 x5_1).f3) _ _ ((rd_T106 l1 x5_1).f4) false _ ?side1 ?side2 ?side3 ?side4 A7.out).mono ?_
   (case side1 => exact kc HR325_4 HB)
   (case side2 => exact HC325_4.out)
   (case side3 => exact kc HR326_4 HB)
   (case side4 => exact HC326_4.out)
   rintro e w12 ⟨rfl, hb⟩
   refine ⟨_, rfl, ?_⟩
   replace HB := bs HB hb
   (try clear hb)
   (try clear hb2)
   (try clear hk)
   (try clear hi)
   refine hK.out _ _ ⟨(xb HB hw325_0), (xb HB hw325_1), (xb HB hw325_2), (xb HB hw325_3), (xb HB hw325_4), (xb HB hw326_0), (xb HB hw326_1), (xb HB hw326_2), (xb HB hw326_3), (xb HB hw326_4)⟩ (fun hHeld => ?_)
   clear hK K
   refine no (some 25) ?_
   refine pu 9 (some 26) (bm 10 1023) ?_
   refine done_ (done_of HT_.out (by kernel_rfl)) ?_
   try go_wp2
   go_ret
   exact ⟨er, b_w HB⟩
 subst c8
 replace H := it H
 have H' := Aside0.mk H
 clear H
 try go_wp2
 replace HB := Aside0.mk (below_drew1 HB.out)
 have p325 : 0 ≤ (x5_1 : Int) := od
 have q325 : x5_1 < (l0.length : Int) := od
 obtain ⟨ad325, A325_4, c325_4, e325, hx325_0, hx325_1, hx325_2, hx325_3, hx325_4, hl325_4, hi325_4⟩ := at_T106 HR0.out x5_1 p325 q325
 have hw325_4 := hx325_4
 have hw325_3 := hx325_3
 have hw325_2 := hx325_2
 have hw325_1 := hx325_1
 have hw325_0 := hx325_0
 cases e325
 replace hx325_0 := xb HB hx325_0
 replace hx325_1 := xb HB hx325_1
 replace hx325_2 := xb HB hx325_2
 replace hx325_3 := xb HB hx325_3
 replace hx325_4 := xb HB hx325_4
 have HR325_4 := Aside0.mk hi325_4
 have HC325_4 := Aside0.mk hl325_4
 clear hi325_4 hl325_4
 replace p325 := eq_true p325
 replace q325 := eq_true q325
 have p326 : 0 ≤ (x5_1 : Int) := od
 have q326 : x5_1 < (l1.length : Int) := od
 obtain ⟨ad326, A326_4, c326_4, e326, hx326_0, hx326_1, hx326_2, hx326_3, hx326_4, hl326_4, hi326_4⟩ := at_T106 HR1.out x5_1 p326 q326
 have hw326_4 := hx326_4
 have hw326_3 := hx326_3
 have hw326_2 := hx326_2
 have hw326_1 := hx326_1
 have hw326_0 := hx326_0
 cases e326
 replace hx326_0 := xb HB hx326_0
 replace hx326_1 := xb HB hx326_1
 replace hx326_2 := xb HB hx326_2
 replace hx326_3 := xb HB hx326_3
 replace hx326_4 := xb HB hx326_4
 have HR326_4 := Aside0.mk hi326_4
 have HC326_4 := Aside0.mk hl326_4
 clear hi326_4 hl326_4
 replace p326 := eq_true p326
 replace q326 := eq_true q326
 refine start_ (n := 10) (S := fun w' => w'.cell? (ad325.add ((x5_1).toNat * 5)) = some (.int .u64 ((rd_T106 l0 x5_1).f0)) ∧ w'.cell? ⟨(ad325.add ((x5_1).toNat * 5)).block, (ad325.add ((x5_1).toNat * 5)).off + 1, none⟩ = some (.int .u64 ((rd_T106 l0 x5_1).f1)) ∧ w'.cell? ⟨(ad325.add ((x5_1).toNat * 5)).block, (ad325.add ((x5_1).toNat * 5)).off + 2, none⟩ = some (.int .i64 ((rd_T106 l0 x5_1).f2)) ∧ w'.cell? ⟨(ad325.add ((x5_1).toNat * 5)).block, (ad325.add ((x5_1).toNat * 5)).off + 3, none⟩ = some (.int .i64 ((rd_T106 l0 x5_1).f3)) ∧ w'.cell? ⟨(ad325.add ((x5_1).toNat * 5)).block, (ad325.add ((x5_1).toNat * 5)).off + 4, none⟩ = some (.slice A325_4 ((rd_T106 l0 x5_1).f4).length c325_4) ∧ w'.cell? (ad326.add ((x5_1).toNat * 5)) = some (.int .u64 ((rd_T106 l1 x5_1).f0)) ∧ w'.cell? ⟨(ad326.add ((x5_1).toNat * 5)).block, (ad326.add ((x5_1).toNat * 5)).off + 1, none⟩ = some (.int .u64 ((rd_T106 l1 x5_1).f1)) ∧ w'.cell? ⟨(ad326.add ((x5_1).toNat * 5)).block, (ad326.add ((x5_1).toNat * 5)).off + 2, none⟩ = some (.int .i64 ((rd_T106 l1 x5_1).f2)) ∧ w'.cell? ⟨(ad326.add ((x5_1).toNat * 5)).block, (ad326.add ((x5_1).toNat * 5)).off + 3, none⟩ = some (.int .i64 ((rd_T106 l1 x5_1).f3)) ∧ w'.cell? ⟨(ad326.add ((x5_1).toNat * 5)).block, (ad326.add ((x5_1).toNat * 5)).off + 4, none⟩ = some (.slice A326_4 ((rd_T106 l1 x5_1).f4).length c326_4)) (ds := []) #[false, false, false, false, false, false, false, false, false, false] (by kernel_rfl) rfl rfl ⟨(xb HB hw325_0), (xb HB hw325_1), (xb HB hw325_2), (xb HB hw325_3), (xb HB hw325_4), (xb HB hw326_0), (xb HB hw326_1), (xb HB hw326_2), (xb HB hw326_3), (xb HB hw326_4)⟩ (fun hHeld => ?_); refine with_tabW marginaliaref16_Sames.tab6 marginaliaref16_Sames.bits6 (fun HT_ HW_ => ?_)
 generalize wr.drew = w9 at HB HR325_4 HR326_4 hx325_0 hx325_1 hx325_2 hx325_3 hx325_4 hx326_0 hx326_1 hx326_2 hx326_3 hx326_4 hHeld ⊢
 refine pu 0 (some 17) (bm 10 1) ?_
 refine pu 1 (some 18) (bm 10 3) ?_
 refine pu 2 (some 19) (bm 10 7) ?_
 refine pu 4 (some 21) (bm 10 23) ?_
 refine pu 5 (some 22) (bm 10 55) ?_
 refine pu 6 (some 23) (bm 10 119) ?_
 refine p_t 3 (some 20) (bm 10 127) ?_
 refine p_t 7 (some 24) (bm 10 255) ?_
 refine pn 8 (some 25) (bm 10 511) (fun K hK => ?_)
 refine go_ Try.func96 #[.agg #[.int .u64 ((rd_T106 l0 x5_1).f0), .int .u64 ((rd_T106 l0 x5_1).f1), .int .i64 ((rd_T106 l0 x5_1).f2), .int .i64 ((rd_T106 l0 x5_1).f3), .slice A325_4 ((rd_T106 l0 x5_1).f4).length c325_4], .agg #[.int .u64 ((rd_T106 l1 x5_1).f0), .int .u64 ((rd_T106 l1 x5_1).f1), .int .i64 ((rd_T106 l1 x5_1).f2), .int .i64 ((rd_T106 l1 x5_1).f3), .slice A326_4 ((rd_T106 l1 x5_1).f4).length c326_4]] ?_
 with_reducible refine (marginaliaref16_Same.calls ((rd_T106 l0 x5_1).f0) ((rd_T106 l0 x5_1).f1) ((rd_T106 l0 x5_1).f2) ((rd_T106 l0 x5_1).f3) _ _ ((rd_T106 l0 x5_1).f4) ((rd_T106 l1 x5_1).f0) ((rd_T106 l1 x5_1).f1) ((rd_T106 l1 x5_1).f2) ((rd_T106 l1 x5_1).f3) _ _ ((rd_T106 l1 x5_1).f4) true _ ?side1 ?side2 ?side3 ?side4 A7.out).mono ?_
 (case side1 => exact kc HR325_4 HB)
 (case side2 => exact HC325_4.out)
 (case side3 => exact kc HR326_4 HB)
 (case side4 => exact HC326_4.out)
 rintro e w10 ⟨rfl, hb⟩
 refine ⟨_, rfl, ?_⟩
 replace HB := bs HB hb
 (try clear hb)
 (try clear hb2)
 (try clear hk)
 (try clear hi)
 refine hK.out _ _ ⟨(xb HB hw325_0), (xb HB hw325_1), (xb HB hw325_2), (xb HB hw325_3), (xb HB hw325_4), (xb HB hw326_0), (xb HB hw326_1), (xb HB hw326_2), (xb HB hw326_3), (xb HB hw326_4)⟩ (fun hHeld => ?_)
 clear hK K
 refine no (some 25) ?_
 refine pu 9 (some 26) (bm 10 1023) ?_
 refine done_ (done_of HT_.out (by kernel_rfl)) ?_
 try go_wp2
 go_roundg k1
 case measure => have := HK1.out; omega
 case rel => exact ⟨(wrap64 (x5_1 + 1)), sm, H', ⟨by have := HK1.out; omega⟩, ⟨b_w HB⟩⟩
end Go.Proofs.Ytepipgneefcoiaa.D
namespace Go.Proofs.Ytepipgneefcoiaa.D
open Go.RowKit Go.Proofs.YtepipgneefcoiaaW.PrintWords Go.Proofs.YtepipgneefcoiaaW.PrintLast Go.Proofs.YtepipgneefcoiaaW.PrintMore
def marginaliaref16_Join.l0 : Nat → List (S106) → List Int → Int → Option (List Int × Bool)
  | 0, _, _, _ => none
  | k + 1, x0, x4, x5 => if x5 < (x0.length : Int) then (if 0 ≤ x5 then (if x4.length + ((rd_T106 x0 x5).f4).length < 140737488355328 then (marginaliaref16_Join.l0 k x0 (x4 ++ ((rd_T106 x0 x5).f4)) (wrap64 (x5 + 1))) else (none)) else (none)) else (if (x0.length : Int) = 0 then (some (([] : List Int), false)) else (if 0 < (x0.length : Int) then ((marginaliaref16_Cut.f k x4 ((rd_T106 x0 0).f0) ((rd_T106 x0 0).f1)).bind fun t337 => ((marginaliaref16_Sames.f k t337 x0).bind fun t340 => (if t340 = true then (some (x4, true)) else (some (([] : List Int), false))))) else (none)))
def marginaliaref16_Join.f (k : Nat) (l0 : List (S106)) : Option (List Int × Bool) := marginaliaref16_Join.l0 k l0 (([] : List Int)) 0
def marginaliaref16_Join.T6 : Bool × List (List Nat × List Nat) := (true, [([], []), ([0], [0]), ([1], [1]), ([2], [2]), ([3], [3]), ([3], [3]), ([5, 3], [3, 5]), ([6, 3], [3, 6]), ([7, 3], [3, 7]), ([3], [3]), ([9, 3], [3, 9]), ([10, 3], [3, 10]), ([11, 3], [3, 11]), ([4, 8, 12, 3, 3], [3, 4, 8, 12]), ([3], [3]), ([13, 14, 13, 3], [3, 13, 14]), ([15, 3], [3, 15]), ([3, 16], [3, 16])])
def marginaliaref16_Join.B6 : List Nat := [0, 1, 3, 7, 15, 15, 47, 111, 239, 15, 527, 1551, 3599, 8191, 15, 32767, 65535, 131071]
theorem marginaliaref16_Join.tab6 : rtab .any (opsOf Try.f82 6) = marginaliaref16_Join.T6 := by kernel_rfl
theorem marginaliaref16_Join.bits6 : waitsOk marginaliaref16_Join.T6.2 marginaliaref16_Join.B6 = true := by kernel_rfl
set_option maxHeartbeats 8000000 in
set_option maxRecDepth 100000 in
theorem marginaliaref16_Join.calls (k : Nat) (A0 : Option Addr) (c0 : Nat) (l0 : List (S106)) (r1 : List Int) (r2 : Bool) (w : World) (hr0 : Kd.C k106 w A0 l0.length l0) (hc0 : l0.length ≤ c0) (h : marginaliaref16_Join.f k l0 = some (r1, r2)) :
    Calls Try.prog 82 #[.slice A0 l0.length c0] w fun e w' => ∃ v0_ : Value, e = .returned (.tuple #[v0_, .bool r2]) ∧ Kd.R (Kd.int .u8) 5 w' w.heap.size (fun _ => True) v0_ r1 ∧ Below w.heap.size w w' := by
 have HR0 := Aside0.mk hr0
 have HC0 := Aside0.mk hc0
 clear hr0 hc0
 have HB := Aside0.mk (Below.refl w.heap.size w)
 have H : (marginaliaref16_Join.l0 k l0 (([] : List Int)) 0) = some (r1, r2) := h
 clear h
 obtain ⟨y328, Ny328⟩ := yy ((([] : List Int)) : List Int)
 replace H : (marginaliaref16_Join.l0 k l0 y328 0) = some (r1, r2) := yx Ny328 H
 have H' := Aside0.mk H
 clear H
 go_enter Try.func82, Try.ntmps82
 go_wp2_with (first | ((with_reducible refine gate_dst (N := 6) rfl ?_); refine Kd.R_lit (Kd.int .u8) _ 5 ?hg (N := 6) ?hd (xs := ([] : List Int)) (inner := []) (ok := fun _ => True) (okp := fun _ => True) ?hr ?hp (fun _ hk => hk) trivial (Below.refl _ _) (Nat.le_refl _) (by simp) ?_; (case hd => rfl); (case hg => rfl); (case hr => first | (go_simp; done) | (go_simp; rfl)); (case hp => exact (Reps.none _ _)); intro v329 w2 ho3 hb hg_ hnew_; clear hg_ hnew_; (first | rw [← Ny328.out] at ho3 | (simp only [Int.reduceToNat] at ho3; rw [← Ny328.out] at ho3)); have HO330 := Aside0.mk (Kd.R_lower ho3 (below_size (b_w HB))); replace HB := bs HB hb; clear hb ho3))
 go_loopg [4, 5] k (fun kq v4 v5 w' => ∃ (x4_1 : List Int) (x5_1 : Int), v5 = .int .i64 x5_1 ∧ Aside0 (marginaliaref16_Join.l0 kq l0 x4_1 x5_1 = some (r1, r2)) ∧ Aside0 (kq ≤ k) ∧ Aside0 (Kd.R (Kd.int .u8) 5 w' w.heap.size (fun _ => True) v4 x4_1) ∧ Aside0 (Below w.heap.size w w'))
 case atStart => exact ⟨(y328), (0), sm, H', ⟨Nat.le_refl _⟩, ⟨kR' HO330⟩, ⟨b_w HB⟩⟩
 clear H'
 try clear p2
 obtain ⟨x4_1, x5_1, rfl, HA, HK1, HO_4, HB⟩ := hrel
 cases gk with
 | zero => exact absurd HA.out (by simp [marginaliaref16_Join.l0])
 | succ k1 => ?_
 have H := HA.out
 clear HA
 simp only [marginaliaref16_Join.l0] at H
 by_cases c4 : x5_1 < (l0.length : Int)
 · rw [if_pos c4] at H
   have c4b0 := decide_eq_true c4
   clear c4
   obtain ⟨c5, H⟩ := ifN H
   have c5b0 := decide_eq_true c5
   clear c5
   obtain ⟨c6, H⟩ := ifN H
   have LMc6 := Aside0.mk c6
   clear c6
   obtain ⟨y332, Ny332⟩ := yy ((x4_1 ++ ((rd_T106 l0 x5_1).f4)) : List Int)
   replace H : (marginaliaref16_Join.l0 k1 l0 y332 (wrap64 (x5_1 + 1))) = some (r1, r2) := yx Ny332 H
   have H' := Aside0.mk H
   clear H
   have p331 : 0 ≤ (x5_1 : Int) := od
   have q331 : x5_1 < (l0.length : Int) := od
   obtain ⟨ad331, A331_4, c331_4, e331, hx331_0, hx331_1, hx331_2, hx331_3, hx331_4, hl331_4, hi331_4⟩ := at_T106 HR0.out x5_1 p331 q331
   cases e331
   replace hx331_0 := xb HB hx331_0
   replace hx331_1 := xb HB hx331_1
   replace hx331_2 := xb HB hx331_2
   replace hx331_3 := xb HB hx331_3
   replace hx331_4 := xb HB hx331_4
   have HR331_4 := Aside0.mk hi331_4
   have HC331_4 := Aside0.mk hl331_4
   clear hi331_4 hl331_4
   replace p331 := eq_true p331
   replace q331 := eq_true q331
   go_wp2_with (first | ((with_reducible refine gate_builtin (b := .append) (xs := #[.tmp 13, .tmp 18]) rfl ?_); at_builtin; refine Kd.R_append_rows (Kd.int .u8) (w0 := w) w.heap.size rfl (.tmp 13) (.tmp 18) 27 5 (.int .u8 0) 1 rfl Try.underlying27 info5 rfl (by decide) (by omega) u4 x4_1 ((rd_T106 l0 x5_1).f4) _ _ _ (fun _ => True) (fun _ => False) rfl rfl ?aO ?aR (fun _ _ h => h) (fun _ h => h.elim) ?aF ?aB ?aS ?aL ?_; (case aR => exact kc HR331_4 HB); (case aB => exact (b_w HB)); (case aF => exact (fun _ _ => trivial)); (case aO => exact (kR' HO_4)); (case aS => exact (below_size (b_w HB))); (case aL => have := LMc6.out; omega); intro v333 w7 ho hb hg hat; rw [← Ny332.out] at ho; replace HB := Aside0.mk (hb); have HO334 := Aside0.mk (ho); clear HO_4; clear ho hb hg hat))
   go_roundg k1
   case measure => have := HK1.out; omega
   case rel => exact ⟨(y332), (wrap64 (x5_1 + 1)), sm, H', ⟨by have := HK1.out; omega⟩, ⟨kR' HO334⟩, ⟨b_w HB⟩⟩
 rw [if_neg c4] at H
 have c4b0 := decide_eq_false c4
 clear c4
 by_cases c8 : (l0.length : Int) = 0
 · rw [if_pos c8] at H
   have c8b0 := beq_iff_eq.mpr c8
   have c8b1 := bne_eq_false_iff_eq.mpr c8
   clear c8
   simp only [Option.some.injEq, Prod.mk.injEq] at H
   obtain ⟨rfl, rfl⟩ := H
   try go_wp2
   replace HO_4 := Aside0.mk (Kd.R_drew HO_4.out)
   replace HB := Aside0.mk (below_drew1 HB.out)
   refine start_ (n := 18) (S := fun w' => True) (ds := []) #[false, false, false, false, false, false, false, false, false, false, false, false, false, false, false, false, false, false] (by kernel_rfl) rfl rfl trivial (fun hHeld => ?_); refine with_tabW marginaliaref16_Join.tab6 marginaliaref16_Join.bits6 (fun HT_ HW_ => ?_)
   generalize wr.drew = w9 at HO_4 HB hHeld ⊢
   refine pu 0 (some 20) (bm 18 1) ?_
   refine pu 1 (some 21) (bm 18 3) ?_
   refine pu 2 (some 22) (bm 18 7) ?_
   refine pu 3 (some 23) (bm 18 15) ?_
   refine pud 4 (some 24) (bm 18 31) ?_
   refine pud 5 (some 25) (bm 18 63) ?_
   refine pud 6 (some 26) (bm 18 127) ?_
   refine pud 7 (some 27) (bm 18 255) ?_
   refine pud 8 (some 28) (bm 18 511) ?_
   refine pud 9 (some 29) (bm 18 1023) ?_
   refine pud 10 (some 30) (bm 18 2047) ?_
   refine pud 11 (some 31) (bm 18 4095) ?_
   refine pud 12 (some 32) (bm 18 8191) ?_
   refine pud 13 (some 33) (bm 18 16383) ?_
   refine pud 14 (some 34) (bm 18 32767) ?_
   refine pud 15 (some 35) (bm 18 65535) ?_
   refine pud 16 (some 36) (bm 18 131071) ?_
   refine pu 17 (some 37) (bm 18 262143) ?_
   refine done_ (done_of HT_.out (by kernel_rfl)) ?_
   try go_wp2
   go_ret2
   exact ⟨_, er, rn, b_w HB⟩
 rw [if_neg c8] at H
 have c8b0 := beq_eq_false_iff_ne.mpr c8
 have c8b1 := bne_iff_ne.mpr c8
 have c8b2 : ¬ (l0 = []) := fun h_ => c8 (by rw [h_]; rfl)
 obtain ⟨c10, H⟩ := ifN H
 have c10b0 := decide_eq_true c10
 have c10b1 : decide (0 < l0.length) = true := decide_eq_true (by omega)
 clear c10
 obtain ⟨t337, A11, H⟩ := bnd H
 obtain ⟨t340, A12, H⟩ := bnd H
 try go_wp2
 replace HO_4 := Aside0.mk (Kd.R_drew HO_4.out)
 replace HB := Aside0.mk (below_drew1 HB.out)
 have p335 : 0 ≤ (0 : Int) := (by omega)
 have q335 : 0 < (l0.length : Int) := od
 obtain ⟨ad335, A335_4, c335_4, e335, hx335_0, hx335_1, hx335_2, hx335_3, hx335_4, hl335_4, hi335_4⟩ := at_T106 HR0.out 0 p335 q335
 have hw335_4 := hx335_4
 (try rw [show ((0 : Int)).toNat = 0 from rfl] at hw335_4)
 (try rw [show 0 * 5 = 0 from rfl] at hw335_4)
 (try rw [Addr.add_zero'] at hw335_4)
 have hw335_3 := hx335_3
 (try rw [show ((0 : Int)).toNat = 0 from rfl] at hw335_3)
 (try rw [show 0 * 5 = 0 from rfl] at hw335_3)
 (try rw [Addr.add_zero'] at hw335_3)
 have hw335_2 := hx335_2
 (try rw [show ((0 : Int)).toNat = 0 from rfl] at hw335_2)
 (try rw [show 0 * 5 = 0 from rfl] at hw335_2)
 (try rw [Addr.add_zero'] at hw335_2)
 have hw335_1 := hx335_1
 (try rw [show ((0 : Int)).toNat = 0 from rfl] at hw335_1)
 (try rw [show 0 * 5 = 0 from rfl] at hw335_1)
 (try rw [Addr.add_zero'] at hw335_1)
 have hw335_0 := hx335_0
 (try rw [show ((0 : Int)).toNat = 0 from rfl] at hw335_0)
 (try rw [show 0 * 5 = 0 from rfl] at hw335_0)
 (try rw [Addr.add_zero'] at hw335_0)
 cases e335
 have qi335 : (0 < l0.length) = True := eq_true (by omega)
 (try rw [show ((0 : Int)).toNat = 0 from rfl] at hx335_0)
 (try rw [show 0 * 5 = 0 from rfl] at hx335_0)
 (try rw [Addr.add_zero'] at hx335_0)
 (try rw [show ((0 : Int)).toNat = 0 from rfl] at hx335_1)
 (try rw [show 0 * 5 = 0 from rfl] at hx335_1)
 (try rw [Addr.add_zero'] at hx335_1)
 (try rw [show ((0 : Int)).toNat = 0 from rfl] at hx335_2)
 (try rw [show 0 * 5 = 0 from rfl] at hx335_2)
 (try rw [Addr.add_zero'] at hx335_2)
 (try rw [show ((0 : Int)).toNat = 0 from rfl] at hx335_3)
 (try rw [show 0 * 5 = 0 from rfl] at hx335_3)
 (try rw [Addr.add_zero'] at hx335_3)
 (try rw [show ((0 : Int)).toNat = 0 from rfl] at hx335_4)
 (try rw [show 0 * 5 = 0 from rfl] at hx335_4)
 (try rw [Addr.add_zero'] at hx335_4)
 replace hx335_0 := xb HB hx335_0
 replace hx335_1 := xb HB hx335_1
 replace hx335_2 := xb HB hx335_2
 replace hx335_3 := xb HB hx335_3
 replace hx335_4 := xb HB hx335_4
 have HR335_4 := Aside0.mk hi335_4
 have HC335_4 := Aside0.mk hl335_4
 clear hi335_4 hl335_4
 replace p335 := eq_true p335
 replace q335 := eq_true q335
 have p336 : 0 ≤ (0 : Int) := (by omega)
 have q336 : 0 < (l0.length : Int) := od
 obtain ⟨ad336, A336_4, c336_4, e336, hx336_0, hx336_1, hx336_2, hx336_3, hx336_4, hl336_4, hi336_4⟩ := at_T106 HR0.out 0 p336 q336
 have hw336_4 := hx336_4
 (try rw [show ((0 : Int)).toNat = 0 from rfl] at hw336_4)
 (try rw [show 0 * 5 = 0 from rfl] at hw336_4)
 (try rw [Addr.add_zero'] at hw336_4)
 have hw336_3 := hx336_3
 (try rw [show ((0 : Int)).toNat = 0 from rfl] at hw336_3)
 (try rw [show 0 * 5 = 0 from rfl] at hw336_3)
 (try rw [Addr.add_zero'] at hw336_3)
 have hw336_2 := hx336_2
 (try rw [show ((0 : Int)).toNat = 0 from rfl] at hw336_2)
 (try rw [show 0 * 5 = 0 from rfl] at hw336_2)
 (try rw [Addr.add_zero'] at hw336_2)
 have hw336_1 := hx336_1
 (try rw [show ((0 : Int)).toNat = 0 from rfl] at hw336_1)
 (try rw [show 0 * 5 = 0 from rfl] at hw336_1)
 (try rw [Addr.add_zero'] at hw336_1)
 have hw336_0 := hx336_0
 (try rw [show ((0 : Int)).toNat = 0 from rfl] at hw336_0)
 (try rw [show 0 * 5 = 0 from rfl] at hw336_0)
 (try rw [Addr.add_zero'] at hw336_0)
 obtain rfl : ad335 = ad336 := (by injection e336)
 have qi336 : (0 < l0.length) = True := eq_true (by omega)
 (try rw [show ((0 : Int)).toNat = 0 from rfl] at hx336_0)
 (try rw [show 0 * 5 = 0 from rfl] at hx336_0)
 (try rw [Addr.add_zero'] at hx336_0)
 (try rw [show ((0 : Int)).toNat = 0 from rfl] at hx336_1)
 (try rw [show 0 * 5 = 0 from rfl] at hx336_1)
 (try rw [Addr.add_zero'] at hx336_1)
 (try rw [show ((0 : Int)).toNat = 0 from rfl] at hx336_2)
 (try rw [show 0 * 5 = 0 from rfl] at hx336_2)
 (try rw [Addr.add_zero'] at hx336_2)
 (try rw [show ((0 : Int)).toNat = 0 from rfl] at hx336_3)
 (try rw [show 0 * 5 = 0 from rfl] at hx336_3)
 (try rw [Addr.add_zero'] at hx336_3)
 (try rw [show ((0 : Int)).toNat = 0 from rfl] at hx336_4)
 (try rw [show 0 * 5 = 0 from rfl] at hx336_4)
 (try rw [Addr.add_zero'] at hx336_4)
 replace hx336_0 := xb HB hx336_0
 replace hx336_1 := xb HB hx336_1
 replace hx336_2 := xb HB hx336_2
 replace hx336_3 := xb HB hx336_3
 replace hx336_4 := xb HB hx336_4
 have HR336_4 := Aside0.mk hi336_4
 have HC336_4 := Aside0.mk hl336_4
 clear hi336_4 hl336_4
 replace p336 := eq_true p336
 replace q336 := eq_true q336
 have ea_ := Option.some.inj (hx335_4.symm.trans hx336_4)
 injection ea_ with ea_ en_ ec_
 subst ea_
 subst ec_
 clear en_
 obtain ⟨Ao15, co15, eo15⟩ := Kd.R_slice HO_4.out
 (first | subst eo15 | (injection eo15 with f1_ f2_ f3_; have f4_ := f1_.symm; have f5_ := f3_.symm; clear f1_ f2_ f3_; subst f4_; subst f5_))
 refine start_ (n := 18) (S := fun w' => w'.cell? ad335 = some (.int .u64 ((rd_T106 l0 0).f0)) ∧ w'.cell? ⟨ad335.block, ad335.off + 1, none⟩ = some (.int .u64 ((rd_T106 l0 0).f1)) ∧ w'.cell? ⟨ad335.block, ad335.off + 2, none⟩ = some (.int .i64 ((rd_T106 l0 0).f2)) ∧ w'.cell? ⟨ad335.block, ad335.off + 3, none⟩ = some (.int .i64 ((rd_T106 l0 0).f3)) ∧ w'.cell? ⟨ad335.block, ad335.off + 4, none⟩ = some (.slice A335_4 ((rd_T106 l0 0).f4).length c335_4) ∧ w'.cell? ad335 = some (.int .u64 ((rd_T106 l0 0).f0)) ∧ w'.cell? ⟨ad335.block, ad335.off + 1, none⟩ = some (.int .u64 ((rd_T106 l0 0).f1)) ∧ w'.cell? ⟨ad335.block, ad335.off + 2, none⟩ = some (.int .i64 ((rd_T106 l0 0).f2)) ∧ w'.cell? ⟨ad335.block, ad335.off + 3, none⟩ = some (.int .i64 ((rd_T106 l0 0).f3)) ∧ w'.cell? ⟨ad335.block, ad335.off + 4, none⟩ = some (.slice A335_4 ((rd_T106 l0 0).f4).length c335_4)) (ds := []) #[false, false, false, false, false, false, false, false, false, false, false, false, false, false, false, false, false, false] (by kernel_rfl) rfl rfl ⟨(xb HB hw335_0), (xb HB hw335_1), (xb HB hw335_2), (xb HB hw335_3), (xb HB hw335_4), (xb HB hw336_0), (xb HB hw336_1), (xb HB hw336_2), (xb HB hw336_3), (xb HB hw336_4)⟩ (fun hHeld => ?_); refine with_tabW marginaliaref16_Join.tab6 marginaliaref16_Join.bits6 (fun HT_ HW_ => ?_)
 generalize wr.drew = w14 at HO_4 HB HR335_4 HR336_4 hx335_0 hx335_1 hx335_2 hx335_3 hx335_4 hx336_0 hx336_1 hx336_2 hx336_3 hx336_4 hHeld ⊢
 refine pu 0 (some 20) (bm 18 1) ?_
 refine pu 1 (some 21) (bm 18 3) ?_
 refine pu 2 (some 22) (bm 18 7) ?_
 refine pu 3 (some 23) (bm 18 15) ?_
 refine pu 4 (some 24) (bm 18 31) ?_
 refine pu 5 (some 25) (bm 18 63) ?_
 refine pu 6 (some 26) (bm 18 127) ?_
 refine pu 7 (some 27) (bm 18 255) ?_
 refine pu 9 (some 29) (bm 18 767) ?_
 refine pu 10 (some 30) (bm 18 1791) ?_
 refine pu 11 (some 31) (bm 18 3839) ?_
 refine pu 14 (some 34) (bm 18 20223) ?_
 refine p_t 8 (some 28) (bm 18 20479) ?_
 refine p_t 12 (some 32) (bm 18 24575) ?_
 refine pn 13 (some 33) (bm 18 32767) (fun K hK => ?_)
 refine go_ Try.func75 #[.slice Ao15 x4_1.length co15, .int .u64 ((rd_T106 l0 0).f0), .int .u64 ((rd_T106 l0 0).f1)] ?_
 with_reducible refine (marginaliaref16_Cut.calls k1 _ _ x4_1 ((rd_T106 l0 0).f0) ((rd_T106 l0 0).f1) t337 _ ?side1 ?side2 A11.out).mono ?_
 (case side1 => repeat (first | exact (Kd.R_reads' HO_4.out).2.2 | (with_reducible refine Kd.C_alloc ?_ _) | (with_reducible refine Kd.C_drewN ?_ _) | (with_reducible refine Kd.C_drew ?_)))
 (case side2 => exact (Kd.R_reads' HO_4.out).2.1)
 rintro e w16 ⟨v338, rfl, ho0, hb⟩
 refine ⟨_, rfl, ?_⟩
 have HO339 := Aside0.mk (Kd.S_lower (Kd.S_new' ho0 (Kd.R_lt (kR' HO_4))) (below_size (b_w HB)))
 replace HO_4 := Aside0.mk (Kd.R_below (kR' HO_4) hb)
 replace HB := bs HB hb
 (try clear hb)
 (try clear hb2)
 (try clear hk)
 (try clear hi)
 (try clear ho0)
 obtain ⟨Ao17, co17, eo17⟩ := Kd.S_slice HO339.out
 (first | subst eo17 | (injection eo17 with f1_ f2_ f3_; have f4_ := f1_.symm; have f5_ := f3_.symm; clear f1_ f2_ f3_; subst f4_; subst f5_))
 refine hK.out _ _ ⟨(xb HB hw335_0), (xb HB hw335_1), (xb HB hw335_2), (xb HB hw335_3), (xb HB hw335_4), (xb HB hw336_0), (xb HB hw336_1), (xb HB hw336_2), (xb HB hw336_3), (xb HB hw336_4)⟩ (fun hHeld => ?_)
 clear hK K
 refine no (some 33) ?_
 refine pn 15 (some 35) (bm 18 65535) (fun K hK => ?_)
 refine go_ Try.func91 #[.slice Ao17 t337.length co17, .slice (some ad335) l0.length c0] ?_
 with_reducible refine (marginaliaref16_Sames.calls k1 _ _ t337 _ _ l0 t340 _ ?side1 ?side2 ?side3 ?side4 A12.out).mono ?_
 (case side1 => repeat (first | exact (Kd.S_reads' HO339.out).2.2 | (with_reducible refine Kd.C_alloc ?_ _) | (with_reducible refine Kd.C_drewN ?_ _) | (with_reducible refine Kd.C_drew ?_)))
 (case side2 => exact (Kd.S_reads' HO339.out).2.1)
 (case side3 => exact kc HR0 HB)
 (case side4 => exact HC0.out)
 rintro e w18 ⟨rfl, hb⟩
 refine ⟨_, rfl, ?_⟩
 replace HO_4 := Aside0.mk (Kd.R_below (kR' HO_4) hb)
 replace HO339 := Aside0.mk (Kd.S_below (kS' HO339) hb)
 replace HB := bs HB hb
 (try clear hb)
 (try clear hb2)
 (try clear hk)
 (try clear hi)
 refine hK.out _ _ ⟨(xb HB hw335_0), (xb HB hw335_1), (xb HB hw335_2), (xb HB hw335_3), (xb HB hw335_4), (xb HB hw336_0), (xb HB hw336_1), (xb HB hw336_2), (xb HB hw336_3), (xb HB hw336_4)⟩ (fun hHeld => ?_)
 clear hK K
 refine no (some 35) ?_
 refine pu 16 (some 36) (bm 18 131071) ?_
 refine pu 17 (some 37) (bm 18 262143) ?_
 refine done_ (done_of HT_.out (by kernel_rfl)) ?_
 by_cases c13 : t340 = true
 · subst c13
   replace H := it H
   simp only [Option.some.injEq, Prod.mk.injEq] at H
   obtain ⟨rfl, rfl⟩ := H
   try go_wp2
   go_ret2
   exact ⟨_, er, kR' HO_4, b_w HB⟩
 replace c13 := Bool.eq_false_iff.mpr c13
 subst c13
 replace H := fi H
 simp only [Option.some.injEq, Prod.mk.injEq] at H
 obtain ⟨rfl, rfl⟩ := H
 try go_wp2
 go_ret2
 exact ⟨_, er, rn, b_w HB⟩
end Go.Proofs.Ytepipgneefcoiaa.D
namespace Go.Proofs.Ytepipgneefcoiaa.CellLaws
open Go.RowKit Go.Proofs.Ytepipgneefcoiaa Go.Proofs.Ytepipgneefcoiaa.D Go.Proofs.YtepipgneefcoiaaW.PrintWords Go.Proofs.YtepipgneefcoiaaW.PrintLast Go.Proofs.YtepipgneefcoiaaW.PrintMore
open Go.Proofs.Ytepipgneefcoiaa.CrcK (Bytes u32 more sum_ev refsum_ev bytes_rd u32_lt bytes_wf)
theorem many_of {n : Nat} (h : n ≤ 100000) : marginaliaref16_Many.f (n : Int) = some (many n : Int) := by
  rw [marginaliaref16_Many.f, many_ev h]
theorem refCut_ev {l : List Int} (a b : Int) (hl : l.length ≤ 100000) : Ev (fun k => marginaliaref16_Cut.f k l a b) (cutn l a b (many l.length : Int) (many l.length)) := by
  have hN : many l.length = (l.length + 38) / 39 := rfl
  obtain ⟨N, hN'⟩ : ∃ N, N = many l.length := ⟨_, rfl⟩
  rw [← hN'] at hN ⊢
  have h : ∀ n j : Nat, j + n = N → Ev (fun k => marginaliaref16_Cut.l0 k l a b (cutn l a b (N : Int) j) ((j * 39 : Nat) : Int)) (cutn l a b (N : Int) N) := by
    intro n
    induction n with
    | zero =>
      intro j hj
      refine Ev.step (f := fun _ => some _) (fun k => ?_) (Ev.now _)
      rw [marginaliaref16_Cut.l0, if_neg (by omega), show j = N by omega]
    | succ n ih =>
      intro j hj
      refine Ev.step (fun k => ?_) (ih (j + 1) (by omega))
      have e39 : wrap64 (((j * 39 : Nat) : Int) + 39) = (((j + 1) * 39 : Nat) : Int) := by rw [w64 (by omega) (by omega)]; omega
      have hmn : mn (((j + 1) * 39 : Nat) : Int) (l.length : Int) = ((min ((j + 1) * 39) l.length : Nat) : Int) := by rw [mn_eq]; omega
      rw [marginaliaref16_Cut.l0, if_pos (by omega), many_of hl, Option.bind_some, Option.bind_some, e39, hmn, Int.toNat_natCast, Int.toNat_natCast, if_pos (by omega), if_pos (by omega), if_pos (by omega), if_pos (by simp; omega), if_pos (by rw [cutn_length]; omega), List.nil_append, cutn_length, ← hN']
      have ht : (l.take (min ((j + 1) * 39) l.length)).drop (j * 39) = part l j := by
        unfold part
        rw [← List.take_take, List.take_length, List.drop_take, show (j + 1) * 39 - j * 39 = 39 by omega]
      rw [ht, ← cutn_succ]
  refine Ev.congr (fun k => ?_) (h N 0 (by omega))
  show marginaliaref16_Cut.f k l a b = _
  rw [marginaliaref16_Cut.f, if_neg (by omega)]
  rfl
theorem s106_ext {x y : S106} (h0 : x.f0 = y.f0) (h1 : x.f1 = y.f1) (h2 : x.f2 = y.f2) (h3 : x.f3 = y.f3) (h4 : x.f4 = y.f4) : x = y := by
  cases x; cases y; simp at *; exact ⟨h0, h1, h2, h3, h4⟩
def AllBytes (x : List S106) : Prop := ∀ j (h : j < x.length), Bytes x[j].f4
theorem cutn_bytes {l : List Int} (hb : Bytes l) (a b m : Int) (n : Nat) : AllBytes (cutn l a b m n) := by
  intro j h
  simp only [cutn, List.getElem_map]
  exact part_bytes hb _
open Classical in
theorem sames_ev {x y : List S106} (hx : AllBytes x) (hy : AllBytes y) (hl : x.length ≤ 100000) : Ev (fun k => marginaliaref16_Sames.f k x y) (decide (x = y)) := by
  by_cases he : x.length = y.length
  · have h : ∀ n j : Nat, j + n = x.length → (∀ i (h1 : i < x.length) (h2 : i < y.length), i < j → x[i] = y[i]) → Ev (fun k => marginaliaref16_Sames.l0 k x y (j : Int)) (decide (x = y)) := by
      intro n
      induction n with
      | zero =>
        intro j hj hs
        refine Ev.step (f := fun _ => some _) (fun k => ?_) (Ev.now _)
        rw [marginaliaref16_Sames.l0, if_neg (by omega), decide_eq_true (List.ext_getElem he fun i h1 h2 => hs i h1 h2 (by omega))]
      | succ n ih =>
        intro j hj hs
        have j1 : j < x.length := by omega
        have j2 : j < y.length := by omega
        by_cases hq : x[j] = y[j]
        · refine Ev.step (fun k => ?_) (ih (j + 1) (by omega) fun i h1 h2 hi => ?_)
          · rw [marginaliaref16_Sames.l0, if_pos (by omega), if_pos (by omega), if_pos (by omega), rd106_at j1, rd106_at j2, hq, same_refl, Option.bind_some, if_pos rfl, w64 (by omega) (by omega)]
            rfl
          · by_cases e : i = j
            · subst e; exact hq
            · exact hs i h1 h2 (by omega)
        · refine Ev.step (f := fun _ => some _) (fun k => ?_) (Ev.now _)
          have hf : decide (x[j].f0 = y[j].f0 ∧ x[j].f1 = y[j].f1 ∧ x[j].f2 = y[j].f2 ∧ x[j].f3 = y[j].f3 ∧ x[j].f4 = y[j].f4) = false := decide_eq_false fun ⟨g0, g1, g2, g3, g4⟩ => hq (s106_ext g0 g1 g2 g3 g4)
          rw [marginaliaref16_Sames.l0, if_pos (by omega), if_pos (by omega), if_pos (by omega), rd106_at j1, rd106_at j2, same_eq (hx j j1) (hy j j2), hf, Option.bind_some, if_neg (by decide), decide_eq_false]
          intro e
          subst e
          exact hq rfl
    refine Ev.congr (fun k => ?_) (h x.length 0 (by omega) (fun i _ _ hi => absurd hi (Nat.not_lt_zero _)))
    show marginaliaref16_Sames.f k x y = _
    rw [marginaliaref16_Sames.f, if_pos (by omega)]
    rfl
  · refine ⟨0, fun k _ => ?_⟩
    show marginaliaref16_Sames.f k x y = _
    rw [marginaliaref16_Sames.f, if_neg (by omega), decide_eq_false]
    intro e
    subst e
    exact he rfl
open Classical in
theorem sames_refl {x : List S106} (hx : AllBytes x) (hl : x.length ≤ 100000) : Ev (fun k => marginaliaref16_Sames.f k x x) true := by
  have h := sames_ev hx hx hl
  rwa [decide_eq_true rfl] at h
open Classical in
theorem sames_ne {x y : List S106} (hx : AllBytes x) (hy : AllBytes y) (hl : x.length ≤ 100000) (hn : x ≠ y) : Ev (fun k => marginaliaref16_Sames.f k x y) false := by
  have h := sames_ev hx hy hl
  rwa [decide_eq_false hn] at h
end Go.Proofs.Ytepipgneefcoiaa.CellLaws
namespace Go.Proofs.Ytepipgneefcoiaa.CellLaws
open Go.RowKit Go.Proofs.Ytepipgneefcoiaa Go.Proofs.Ytepipgneefcoiaa.D Go.Proofs.YtepipgneefcoiaaW.PrintWords Go.Proofs.YtepipgneefcoiaaW.PrintLast Go.Proofs.YtepipgneefcoiaaW.PrintMore
open Go.Proofs.Ytepipgneefcoiaa.CrcK (Bytes u32 more sum_ev refsum_ev bytes_rd u32_lt bytes_wf)
theorem cat_bytes {l : List S106} (h : AllBytes l) : Bytes (cat l) := fun x hx => by
  obtain ⟨c, hc, hxc⟩ := List.mem_flatMap.1 hx
  obtain ⟨i, hi, rfl⟩ := List.getElem_of_mem hc
  exact h i hi x hxc
open Classical in
theorem refJoin_ev {l : List S106} (hn : l.length ≤ 60) (hd : ∀ j (hj : j < l.length), l[j].f4.length ≤ 300) (hb : AllBytes l) : Ev (fun k => marginaliaref16_Join.f k l) (if Row l ∧ l ≠ [] then (cat l, true) else ([], false)) := by
  by_cases h0 : l = []
  · subst h0
    rw [if_neg (fun h => h.2 rfl)]
    refine Ev.congr (fun k => rfl) (Ev.step (g := fun k => marginaliaref16_Join.l0 k [] [] 0) (f := fun _ => some ([], false)) (fun k => ?_) (Ev.now _))
    rw [marginaliaref16_Join.l0]
    rfl
  have hl : 0 < l.length := List.length_pos_iff.2 h0
  have hcat : (cat l).length ≤ 18000 := by have := cat_length hd; omega
  obtain ⟨N, hN⟩ : ∃ N, N = many (cat l).length := ⟨_, rfl⟩
  have hN' : many (cat l).length = ((cat l).length + 38) / 39 := rfl
  have hend : Ev (fun k => (marginaliaref16_Cut.f k (cat l) l[0].f0 l[0].f1).bind fun t287 => ((marginaliaref16_Sames.f k t287 l).bind fun t290 => (if t290 = true then (some (cat l, true)) else (some (([] : List Int), false))))) (if Row l ∧ l ≠ [] then (cat l, true) else ([], false)) := by
    obtain ⟨K1, q1⟩ := refCut_ev (l := cat l) l[0].f0 l[0].f1 (by omega)
    by_cases hr : Row l
    · rw [if_pos ⟨hr, h0⟩]
      have he := (cutn_iff hl).2 hr
      rw [he] at q1
      obtain ⟨K2, q2⟩ := sames_refl hb (by omega)
      refine ⟨K1 + K2, fun k hk => ?_⟩
      have r1 : marginaliaref16_Cut.f k (cat l) l[0].f0 l[0].f1 = some l := q1 k (by omega)
      have r2 : marginaliaref16_Sames.f k l l = some true := q2 k (by omega)
      show (marginaliaref16_Cut.f k (cat l) l[0].f0 l[0].f1).bind _ = _
      rw [r1, Option.bind_some, r2, Option.bind_some, if_pos rfl]
    · rw [if_neg (fun h => hr h.1)]
      obtain ⟨K2, q2⟩ := sames_ne (cutn_bytes (cat_bytes hb) l[0].f0 l[0].f1 (many (cat l).length : Int) (many (cat l).length)) hb (by rw [cutn_length]; omega) (fun e => hr ((cutn_iff hl).1 e))
      refine ⟨K1 + K2, fun k hk => ?_⟩
      have r1 : marginaliaref16_Cut.f k (cat l) l[0].f0 l[0].f1 = some _ := q1 k (by omega)
      have r2 : marginaliaref16_Sames.f k (cutn (cat l) l[0].f0 l[0].f1 (many (cat l).length : Int) (many (cat l).length)) l = some false := q2 k (by omega)
      show (marginaliaref16_Cut.f k (cat l) l[0].f0 l[0].f1).bind _ = _
      rw [r1, Option.bind_some, r2, Option.bind_some, if_neg (by decide)]
  have h : ∀ n j : Nat, j + n = l.length → Ev (fun k => marginaliaref16_Join.l0 k l (cat (l.take j)) (j : Int)) (if Row l ∧ l ≠ [] then (cat l, true) else ([], false)) := by
    intro n
    induction n with
    | zero =>
      intro j hj
      refine Ev.step (fun k => ?_) hend
      rw [marginaliaref16_Join.l0, if_neg (by omega), if_neg (by omega), if_pos (by omega), List.take_of_length_le (by omega), show rd_T106 l 0 = l[0] from rd106_at hl]
    | succ n ih =>
      intro j hj
      have hj' : j < l.length := by omega
      have hcl := cat_take_length hd j
      have hdj := hd j hj'
      refine Ev.step (fun k => ?_) (ih (j + 1) (by omega))
      rw [marginaliaref16_Join.l0, if_pos (by omega), if_pos (by omega), rd106_at hj', if_pos (by omega), ← cat_take_succ hj', w64 (by omega) (by omega)]
      rfl
  exact Ev.congr (fun k => rfl) (h l.length 0 (by omega))
end Go.Proofs.Ytepipgneefcoiaa.CellLaws
namespace Go.Proofs.Ytepipgneefcoiaa.D
open Go.RowKit Go.Proofs.YtepipgneefcoiaaW.PrintWords Go.Proofs.YtepipgneefcoiaaW.PrintLast Go.Proofs.YtepipgneefcoiaaW.PrintMore
theorem bw_below (w : World) (s : ByteArray) : Below w.heap.size w (Lib.bytesWorld w 5 s) := by
 refine ⟨rfl, rfl, rfl, ?_, fun k hk => Lib.bytesWorld_at_old w 5 s k hk⟩
 rw [Lib.bytesWorld_size]
 omega
theorem bw_C (w : World) (s : ByteArray) (hs : s.size ≤ 1000000000) : Kd.C (Kd.int .u8) (Lib.bytesWorld w 5 s) (some ⟨w.heap.size, 0, none⟩) s.size (bytesOf s) := by
 refine ⟨bytesOf_length s, by omega, fun _ => ⟨⟨w.heap.size, 0, none⟩, rfl, fun j p hj => ⟨[.int .u8 p], rfl, rfl, fun i u hu => ?_⟩⟩⟩
 have hjl : j < s.size := by rw [← bytesOf_length s]; exact (List.getElem?_eq_some_iff.1 hj).1
 cases i with
 | zero =>
  have e : u = .int .u8 p := by simpa using hu.symm
  subst e
  have h1 := Lib.bytesWorld_cell w 5 s j hjl
  have h2 : ((s.data.toList.getD j 0).toNat : Int) = p := by
    unfold bytesOf at hj
    rw [List.getElem?_map] at hj
    obtain ⟨b, hb, e⟩ := Option.map_eq_some_iff.1 hj
    rw [List.getD_eq_getElem?_getD, hb]
    exact e
  rw [h2] at h1
  have h3 : (⟨w.heap.size, 0, none⟩ : Addr).add (j * (Kd.int .u8).sz + 0) = ⟨w.heap.size, j, none⟩ := by
    show (⟨w.heap.size, 0, none⟩ : Addr).add (j * 1 + 0) = _
    rw [Nat.mul_one, Nat.add_zero]
    unfold Addr.add
    split <;> simp_all
  rw [h3]
  exact h1
 | succ i => simp at hu
def conv_Decode.f (k : Nat) (a0 : ByteArray) : Option (Int × Int × Int × Int × List Int × Int) := if a0.size ≤ 1000000000 then marginaliaref16_Decode.f k (bytesOf a0) else none
theorem conv_Decode.calls (k : Nat) (a0 : ByteArray) (r1 : Int) (r2 : Int) (r3 : Int) (r4 : Int) (r5 : List Int) (r6 : Int) (w : World) (h : conv_Decode.f k a0 = some (r1, r2, r3, r4, r5, r6)) :
    Calls Try.prog 70 #[.slice (some ⟨w.heap.size, 0, none⟩) a0.size (grownCap w a0.size 0 5)] (Lib.bytesWorld w 5 a0) fun e w' => ∃ v4_ : Value, e = .returned (.tuple #[.agg #[.int .u64 r1, .int .u64 r2, .int .i64 r3, .int .i64 r4, v4_], .int .i64 r6]) ∧ Kd.R (Kd.int .u8) 5 w' w.heap.size (fun _ => True) v4_ r5 ∧ Below w.heap.size w w' := by
 unfold conv_Decode.f at h
 split at h
 · rename_i hs
   have hl := bytesOf_length a0
   have hC := bw_C w a0 hs
   rw [← hl] at hC
   have hg : (bytesOf a0).length ≤ grownCap w a0.size 0 5 := by rw [hl]; exact grownCap_ge _ _ _ _
   have := marginaliaref16_Decode.calls k _ (grownCap w a0.size 0 5) (bytesOf a0) r1 r2 r3 r4 r5 r6 (Lib.bytesWorld w 5 a0) hC hg h
   rw [hl] at this
   refine this.mono ?_
   rintro e w' ⟨v, rfl, hR, hb⟩
   have hb0 := bw_below w a0
   exact ⟨v, rfl, Kd.R_lower hR hb0.size, below_step hb0 hb⟩
 cases h
theorem bx5 {w : World} {g : Nat} {a b c d e : Value} {t : TypeId} (h : w.heap[g]? = some (.cells #[a, b, c, d, e] t (0, 0))) : w.cell? ⟨g, 0, none⟩ = some a ∧ w.cell? ⟨g, 1, none⟩ = some b ∧ w.cell? ⟨g, 2, none⟩ = some c ∧ w.cell? ⟨g, 3, none⟩ = some d ∧ w.cell? ⟨g, 4, none⟩ = some e :=
  ⟨(blk_cell h 0).trans rfl, (blk_cell h 1).trans rfl, (blk_cell h 2).trans rfl, (blk_cell h 3).trans rfl, (blk_cell h 4).trans rfl⟩
theorem sec_wr {a b x4 ab z4 : Nat} (ha : a ≤ 100000) (hb : b ≤ 100000) (h1 : x4 = a * 4) (h2 : ab = a + b) (h3 : z4 = a * 4 + b * 4) : wrap64 ((a : Int) * 4) = (x4 : Int) ∧ wrap64 ((a : Int) + (b : Int)) = (ab : Int) ∧ wrap64 ((ab : Int) * 4) = (z4 : Int) := by
 unfold wrap64
 refine ⟨?_, ?_, ?_⟩ <;> omega
theorem sec_xy {a b x4 z4 n : Nat} (h1 : x4 = a * 4) (h3 : z4 = a * 4 + b * 4) (h : a * 4 + b * 4 ≤ n) : x4 ≤ z4 ∧ z4 ≤ n ∧ z4 - x4 = b * 4 ∧ x4 = a * 4 := by
 subst h1 h3
 exact ⟨Nat.le_add_right _ _, h, Nat.add_sub_cancel_left .., rfl⟩
def marginaliaref17_sectors.f (k : Nat) (l0_0 : List ByteArray) (l0_1 : List (S111)) (a0_2 : Int) (a0_3 : Bool) (a0_4 : Bool) (a1 : Int) (a2 : Int) : Option (List ByteArray) := if 0 ≤ a1 ∧ a1 ≤ 100000 ∧ 0 ≤ a2 ∧ a2 ≤ 100000 then ((marginaliaref14_Now.f k l0_0 l0_1 a0_2 a0_3 a0_4).bind fun r => if a1 * 4 + a2 * 4 ≤ (r.length : Int) then some ((r.drop (a1.toNat * 4)).take (a2.toNat * 4)) else none) else none
set_option maxHeartbeats 8000000 in
set_option maxRecDepth 100000 in
theorem marginaliaref17_sectors.calls (k : Nat) (A0_0 : Option Addr) (c0_0 : Nat) (l0_0 : List ByteArray) (A0_1 : Option Addr) (c0_1 : Nat) (l0_1 : List (S111)) (a0_2 : Int) (a0_3 : Bool) (a0_4 : Bool) (a1 : Int) (a2 : Int) (r : List ByteArray) (w : World) (hr0_0 : Kd.C Kd.string w A0_0 l0_0.length l0_0) (hc0_0 : l0_0.length ≤ c0_0) (hr0_1 : Kd.C k111 w A0_1 l0_1.length l0_1) (hc0_1 : l0_1.length ≤ c0_1) (h : marginaliaref17_sectors.f k l0_0 l0_1 a0_2 a0_3 a0_4 a1 a2 = some r) :
    Calls Try.prog 69 #[.agg #[.slice A0_0 l0_0.length c0_0, .slice A0_1 l0_1.length c0_1, .int .i64 a0_2, .bool a0_3, .bool a0_4], .int .i64 a1, .int .i64 a2] w fun e w' => ∃ v0_ : Value, e = .returned (v0_) ∧ Kd.V Kd.string 9 w' w.heap.size (fun k_ => (w.heap.size ≤ k_)) v0_ r ∧ Below w.heap.size w w' := by
 unfold marginaliaref17_sectors.f at h
 split at h
 case isFalse => cases h
 rename_i hc
 cases hn : marginaliaref14_Now.f k l0_0 l0_1 a0_2 a0_3 a0_4 with
 | none => rw [hn] at h; cases h
 | some now => ?_
 rw [hn, Option.bind_some] at h
 split at h
 case isFalse => cases h
 rename_i hl
 have hr := Option.some.inj h
 obtain ⟨a, rfl⟩ : ∃ a : Nat, a1 = (a : Int) := ⟨a1.toNat, by omega⟩
 obtain ⟨b, rfl⟩ : ∃ b : Nat, a2 = (b : Int) := ⟨a2.toNat, by omega⟩
 rw [Int.toNat_natCast, Int.toNat_natCast] at hr
 have HN := Aside0.mk hn
 have HR := Aside0.mk hr
 have HL := Aside0.mk (show a * 4 + b * 4 ≤ now.length by omega)
 have C0 := Aside0.mk hr0_0
 have D0 := Aside0.mk hc0_0
 have C1 := Aside0.mk hr0_1
 have D1 := Aside0.mk hc0_1
 obtain ⟨x4, hx4⟩ : ∃ x4, x4 = a * 4 := ⟨_, rfl⟩
 obtain ⟨ab, hab⟩ : ∃ ab, ab = a + b := ⟨_, rfl⟩
 obtain ⟨z4, hz4⟩ : ∃ z4, z4 = a * 4 + b * 4 := ⟨_, rfl⟩
 obtain ⟨e1, e2, e3⟩ := sec_wr (a := a) (b := b) (by omega) (by omega) hx4 hab hz4
 have XY := Aside0.mk (sec_xy hx4 hz4 HL.out)
 clear hx4 hab hz4 hn hr h hl hc hr0_0 hc0_0 hr0_1 hc0_1
 have hu51 := Try.underlying51
 have hu48 := Try.underlying48
 go_enter Try.func69, Try.ntmps69
 go_upto_region 1 with (first | ((with_reducible refine gate_dst (N := 3) rfl ?_); refine bx 3 #[.slice A0_0 l0_0.length c0_0, .slice A0_1 l0_1.length c0_1, .int .i64 a0_2, .bool a0_3, .bool a0_4] 51 ?_; intro g1 hg w1 hbox hb; have B1 := Aside0.mk hb; obtain ⟨y0, y1, y2, y3, y4⟩ := bx5 hbox; clear hbox hg hb))
 obtain ⟨q, hq⟩ : ∃ q, q = now.length := ⟨_, rfl⟩
 have Q := Aside0.mk hq
 clear hq
 go_wp2_with (first
   | (go_at_call 63; refine (marginaliaref14_Now.calls k _ _ l0_0 _ _ l0_1 a0_2 a0_3 a0_4 now _ (Kd.C_below C0.out B1.out) D0.out (Kd.C_below C1.out B1.out) D1.out HN.out).mono ?_; rintro e w2 ⟨v2, rfl, hR, hb⟩; obtain ⟨A2, c2, rfl⟩ := Kd.R_slice hR; have HC2 := Aside0.mk (Kd.R_reads' hR).2.1; have dxn : x4 ≤ z4 := XY.out.1; have dzn : z4 ≤ c2 := Nat.le_trans XY.out.2.1 HC2.out; have dx : (x4 : Int) ≤ (z4 : Int) := Int.ofNat_le.2 dxn; have dz : (z4 : Int) ≤ (c2 : Int) := Int.ofNat_le.2 dzn; have R2 := Aside0.mk hR; have B2 := Aside0.mk (below_step B1.out hb); have B12 := Aside0.mk hb; clear hR hb y0 y1 y2 y3 y4))
 all_goals
   go_ret
   have hR := R2.out
   have hV := Kd.R_V (base' := 0) (Kd.R_bound hR)
   obtain ⟨_, hc2, hF⟩ := Kd.V_at hV
   have hF2 := Kd.F_take (Kd.F_cut (m := a * 4) hF (by have := HL.out; omega) hc2) (m := b * 4) (by rw [List.length_drop]; have := HL.out; omega)
   have hl : ((now.drop (a * 4)).take (b * 4)).length = b * 4 := by rw [List.length_take, List.length_drop]; have := HL.out; omega
   have hF3 := Kd.F_mono (ok' := fun k => w.heap.size ≤ k) hF2 (fun k hk => Nat.le_trans B1.out.size hk.2.1)
   have x1 := XY.out.2.2.1
   have x2 := XY.out.2.2.2
   refine ⟨_, rfl, ?_, B2.out⟩
   rw [x1, ← HR.out]
   clear hR hV hF hF2
   first
     | (have hc : c2 = a * 4 := by omega
        rw [if_pos hc] at hF3
        have := Kd.V_mk (d := Kd.string) (e := 9) (base := w.heap.size) (c := 0) (by have := HL.out; omega) hF3
        rw [hl] at this
        exact this)
     | (have hc : ¬ c2 = a * 4 := by omega
        rw [if_neg hc] at hF3
        have := Kd.V_mk (d := Kd.string) (e := 9) (base := w.heap.size) (c := c2 - x4) (by have := HL.out; omega) hF3
        rw [hl] at this
        have e1 : (fun (x : Addr) => x.add (a * 4 * Kd.string.sz)) = (fun (x : Addr) => x.add x4) := by rw [x2]; show (fun (x : Addr) => x.add (a * 4 * 1)) = _; rw [Nat.mul_one]
        rw [e1] at this
        exact this)
end Go.Proofs.Ytepipgneefcoiaa.D
