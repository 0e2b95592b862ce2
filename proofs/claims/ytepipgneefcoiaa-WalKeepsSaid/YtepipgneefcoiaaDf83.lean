/- The functions of the program that these laws reach, each as a plain Lean function, and the proof that the machine's call comes to it; no condition beyond those that each theorem names. Made by wip/xprint.py. -/
import Derived.Test.YtepipgneefcoiaaDx0
import Derived.Test.YtepipgneefcoiaaDf86
import Derived.Test.YtepipgneefcoiaaDh
namespace Go.Proofs.Ytepipgneefcoiaa.D
open Go.RowKit Go.Proofs.YtepipgneefcoiaaW.PrintWords Go.Proofs.YtepipgneefcoiaaW.PrintLast Go.Proofs.YtepipgneefcoiaaW.PrintMore
attribute [local go_sem] max2_int min2_int max_two min_two max_three min_three max_four min_four   -- for this text's walks alone
set_option linter.unusedVariables false
set_option linter.unusedSimpArgs false

/-! ### cell_Encode: function 83: by hand -/
/-- A number's last n bytes, the highest first. -/
def be : Nat → Int → List Int
  | 0, _ => []
  | n + 1, x => (x / 256 ^ n) % 256 :: be n x
theorem be_length (n : Nat) (x : Int) : (be n x).length = n := by
  induction n with
  | zero => rfl
  | succ n ih => simp [be, ih]
def bys (l : List Int) : List Value := l.map (Value.int .u8)
/-- Cells, some of them other ones. -/
def spl (L : List Value) (p : Nat) (xs : List Value) : List Value := L.take p ++ xs ++ L.drop (p + xs.length)
theorem spl_length {L : List Value} {p : Nat} {xs : List Value} (h : p + xs.length ≤ L.length) : (spl L p xs).length = L.length := by
  simp [spl]; omega
theorem spl_cons {L : List Value} {p : Nat} {v : Value} {xs : List Value} (h : p + 1 + xs.length ≤ L.length) : spl L p (v :: xs) = (spl L (p + 1) xs).set p v := by
  have h1 : L.take (p + 1) = L.take p ++ [L[p]] := by rw [List.take_succ_eq_append_getElem (by omega)]
  have hl : (L.take p).length = p := by rw [List.length_take]; omega
  have h2 : spl L (p + 1) xs = L.take p ++ (L[p] :: (xs ++ L.drop (p + 1 + xs.length))) := by unfold spl; rw [h1]; simp only [List.append_assoc, List.cons_append, List.nil_append]
  rw [h2, List.set_append_right _ _ (by omega), hl, Nat.sub_self]
  have e : p + (v :: xs).length = p + 1 + xs.length := by rw [List.length_cons]; omega
  unfold spl
  rw [e]
  simp only [List.set_cons_zero, List.append_assoc, List.cons_append]
theorem spl_nil (L : List Value) (p : Nat) : spl L p [] = L := by simp [spl]
theorem grownBy_set {w : World} {g p : Nat} {v : Value} : w.grownBy (w.setCell ⟨g, p, none⟩ v) (some g) := by
  refine ⟨rfl, rfl, rfl, by simp [World.setCell], fun i hi hne => ?_⟩
  have : i ≠ g := fun e => hne (by rw [e])
  simp only [World.setCell]
  rw [Array.getElem?_modify, if_neg (Ne.symm this)]
theorem grownBy_trans {w w1 w2 : World} {row : Option Nat} (h : w.grownBy w1 row) (k : w1.grownBy w2 row) : w.grownBy w2 row :=
  ⟨k.os.trans h.os, k.tape.trans h.tape, k.output.trans h.output, Nat.le_trans h.size k.size, fun i hi hne => (k.block i (Nat.lt_of_lt_of_le hi h.size) hne).trans (h.block i hi hne)⟩
theorem grownBy_refl (w : World) (row : Option Nat) : w.grownBy w row := ⟨rfl, rfl, rfl, Nat.le_refl _, fun _ _ _ => rfl⟩
theorem blk_set' {w : World} {g p : Nat} {e : TypeId} {L : List Value} {v : Value} (h : w.heap[g]? = some (.cells L.toArray e (0, 0))) : (w.setCell ⟨g, p, none⟩ v).heap[g]? = some (.cells (L.set p v).toArray e (0, 0)) := by
  rw [blk_set h, List.setIfInBounds_toArray]
theorem u8_of_u64 (x : Int) : IntKind.u8.wrap x = x % 256 := IntKind.wrap_u8 x
theorem div_pow_succ (x : Int) (i : Nat) : x / 256 ^ i / 256 = x / 256 ^ (i + 1) := by
  rw [Int.pow_succ, Int.ediv_ediv_of_nonneg (by exact Int.le_of_lt (Int.pow_pos (by decide)))]
set_option maxHeartbeats 1000000 in
theorem put_calls (g off m c : Nat) (e : TypeId) (L : List Value) (n : Int) (w : World) (hb : w.heap[g]? = some (.cells L.toArray e (0, 0))) (hfit : off + m ≤ L.length) (hm : m ≤ 64) :
    Calls Try.prog 92 #[.slice (some ⟨g, off, none⟩) m c, .int .u64 n] w fun e' w' => e' = .returned (.tuple #[]) ∧ w.grownBy w' (some g) ∧ w'.heap[g]? = some (.cells (spl L off (bys (be m n))).toArray e (0, 0)) := by
  have HB := Aside0.mk hb
  clear hb
  go_enter Try.func92, Try.ntmps92
  go_wp2
  go_loopw [1, 7] (fun v1 v7 wr => ∃ i : Nat, i ≤ m ∧ v7 = .int .i64 i ∧ v1 = .int .u64 (n / 256 ^ i) ∧ w.grownBy wr (some g) ∧ Aside0 (wr.heap[g]? = some (.cells (spl L (off + (m - i)) (bys (be i n))).toArray e (0, 0)))) (fun _ v7 _ => m - (intOf v7).toNat)
  case atStart => exact ⟨0, Nat.zero_le _, rfl, by simp, grownBy_refl _ _, ⟨by simp only [be, bys, List.map_nil, spl_nil]; exact HB.out⟩⟩
  case round =>
    obtain ⟨i, hi, rfl, rfl, hg, HW⟩ := hrel
    by_cases hlt : i < m
    · have hlt' : decide (i < m) = true := decide_eq_true hlt
      have hp : off + (m - 1 - i) < (spl L (off + (m - i)) (bys (be i n))).length := by
        rw [spl_length (by simp [bys, be_length]; omega)]; omega
      have hc : wr.cell? ⟨g, off + (m - 1 - i), none⟩ = some ((spl L (off + (m - i)) (bys (be i n)))[off + (m - 1 - i)]) := by
        rw [blk_cell HW.out]; simp
      have hf := blk_frozen HW.out (off + (m - 1 - i))
      go_wp2
      go_roundw
      case rel => exact ⟨i + 1, by omega, by go_num, by rw [div_pow_succ], grownBy_trans hg grownBy_set, ⟨by
        have h := blk_set' (p := off + (m - 1 - i)) (v := .int .u8 ((n / 256 ^ i) % 256)) HW.out
        have e1 : off + (m - i) = off + (m - (i + 1)) + 1 := by omega
        have e2 : off + (m - 1 - i) = off + (m - (i + 1)) := by omega
        rw [e1, e2, ← spl_cons (by simp [bys, be_length]; omega)] at h
        rw [e2]
        exact h⟩⟩
      case measure => simp [intOf]; omega
    · have hlt' : decide (i < m) = false := decide_eq_false hlt
      obtain rfl : i = m := by omega
      have HW' : wr.heap[g]? = some (.cells (spl L off (bys (be i n))).toArray e (0, 0)) := by
        have := HW.out
        rwa [Nat.sub_self, Nat.add_zero] at this
      go_wp2
      go_end0
      exact ⟨rfl, hg, HW'⟩


theorem gen_world {P Q : World → Prop} {W : World} (h0 : P W) (h : ∀ W, P W → Q W) : Q W := h W h0
def Box5 (W : World) (b : Nat) (a0 a1 a2 a3 : Int) (v : Value) : Prop := W.heap[b]? = some (.cells #[.int .u64 a0, .int .u64 a1, .int .i64 a2, .int .i64 a3, v] 106 (0, 0))
theorem Box5.c0 {W : World} {b : Nat} {a0 a1 a2 a3 : Int} {v : Value} (h : Box5 W b a0 a1 a2 a3 v) : W.cell? ⟨b, 0, none⟩ = some (.int .u64 a0) := (blk_cell h 0).trans rfl
theorem Box5.c1 {W : World} {b : Nat} {a0 a1 a2 a3 : Int} {v : Value} (h : Box5 W b a0 a1 a2 a3 v) : W.cell? ⟨b, 1, none⟩ = some (.int .u64 a1) := (blk_cell h 1).trans rfl
theorem Box5.c2 {W : World} {b : Nat} {a0 a1 a2 a3 : Int} {v : Value} (h : Box5 W b a0 a1 a2 a3 v) : W.cell? ⟨b, 2, none⟩ = some (.int .i64 a2) := (blk_cell h 2).trans rfl
theorem Box5.c3 {W : World} {b : Nat} {a0 a1 a2 a3 : Int} {v : Value} (h : Box5 W b a0 a1 a2 a3 v) : W.cell? ⟨b, 3, none⟩ = some (.int .i64 a3) := (blk_cell h 3).trans rfl
theorem Box5.c4 {W : World} {b : Nat} {a0 a1 a2 a3 : Int} {v : Value} (h : Box5 W b a0 a1 a2 a3 v) : W.cell? ⟨b, 4, none⟩ = some v := (blk_cell h 4).trans rfl
/-- What stands in memory while a cell is encoded. -/
structure Enc (w W : World) (a0 a1 a2 a3 : Int) (v : Value) (L : List Value) : Prop where
  below : Below w.heap.size w W
  box : Box5 W w.heap.size a0 a1 a2 a3 v
  arr : W.heap[w.heap.size + 1]? = some (.cells L.toArray 98 (0, 0))
theorem Enc.step {w W W' : World} {a0 a1 a2 a3 : Int} {v : Value} {L L' : List Value} (h : Enc w W a0 a1 a2 a3 v L) (hg : W.grownBy W' (some (w.heap.size + 1))) (ha : W'.heap[w.heap.size + 1]? = some (.cells L'.toArray 98 (0, 0))) : Enc w W' a0 a1 a2 a3 v L' :=
  ⟨pw_below_grown h.below _ h.below.size hg (fun k hk => by injection hk with hk; omega), (hg.block _ (blk_lt h.box) (by simp)).trans h.box, ha⟩
theorem Enc.drew {w W : World} {a0 a1 a2 a3 : Int} {v : Value} {L : List Value} (h : Enc w W a0 a1 a2 a3 v L) : Enc w W.drew a0 a1 a2 a3 v L := ⟨below_drew h.below, h.box, h.arr⟩

theorem grownBy_setRow {w : World} {g : Nat} {cur : Array Value} : w.grownBy (w.setRow g cur) (some g) := by
  refine ⟨rfl, rfl, rfl, by simp [World.setRow], fun i hi hne => ?_⟩
  have : i ≠ g := fun e => hne (by rw [e])
  simp only [World.setRow]
  rw [Array.getElem?_modify, if_neg (Ne.symm this)]
theorem wpList_copy_row {P : Program} {w : World} {ops : Array Oper} {rest : List Oper} {o : Oper} {a : Act} {Q : Exit → Act → World → Prop} (hgd : o.guard = none) (d s : Operand) (dT sT : TypeId)
    (ho : o.op = .call { callee := .builtin .copy, args := #[d, s], argTypes := #[dT, sT] }) (elem : TypeId) (hu : P.underlying dT = some (.slice elem)) (hsz : (P.info? elem).map (·.size) = some 1)
    (dp sp : Option Addr) (dLen dCap sLen sCap : Nat) (hd : a.eval d = .slice dp dLen dCap) (hs : a.eval s = .slice sp sLen sCap)
    (g off : Nat) (cur : List Value) (t : TypeId) (hg : w.heap[g]? = some (.cells cur.toArray t (0, 0))) (cs : List Value) (hn : cs.length = Nat.min sLen dLen)
    (hpos : 0 < cs.length → dp = some ⟨g, off, none⟩ ∧ ∃ ad, sp = some ad ∧ ∀ j v, cs[j]? = some v → w.cell? (ad.add j) = some v)
    (hfit : off + cs.length ≤ cur.length) (h1 : ∀ v ∈ cs, v.oneCell' = true)
    (h : ∀ w', Aside0 (w'.heap[g]? = some (.cells (spl cur off cs).toArray t (0, 0))) → w.grownBy w' (some g) → wpList P ops Q rest (a.put o.dst (goInt cs.length)) w') :
    wpList P ops Q (o :: rest) a w := by
  by_cases h0 : cs.length = 0
  · obtain rfl : cs = [] := List.eq_nil_of_length_eq_zero h0
    refine wpList_copy_nothing hgd d s dT sT ho elem hu hsz dp sp dLen dCap sLen sCap hd hs (by simpa using hn.symm) ?_
    exact h w ⟨by simpa [spl] using hg⟩ (grownBy_refl _ _)
  · obtain ⟨rfl, ad, rfl, hsrc⟩ := hpos (by omega)
    refine wpList_copy_own hgd d s dT sT ho elem hu hsz g off dLen dCap ad sLen sCap hd hs cur.toArray t hg cs hn hsrc (by simpa using hfit) h1 ?_
    exact h _ ⟨by simpa [spl] using setRow_heap w g _ _ t _ hg⟩ grownBy_setRow

theorem V_of_blk {W : World} {g base t e c : Nat} {ok : Nat → Prop} {xs : List Int} (h : W.heap[g]? = some (.cells (bys xs).toArray e (0, 0))) (hok : ok g) (hm : xs.length ≤ 9223372036854775807) (hc : xs.length ≤ c) :
    Kd.V (Kd.int .u8) t W base ok (.slice (some ⟨g, 0, none⟩) xs.length c) xs :=
  Kd.V_mk hc fun W' hW => C_lit_int xs hm fun j p hj => by
    have h' : W'.heap[g]? = some (.cells (bys xs).toArray e (0, 0)) := (hW g hok (blk_lt h)).trans h
    rw [blk_cell h']
    simp [bys, hj]
def cellHead (a0 a1 a2 a3 : Int) (l : List Int) : List Int := be 8 a0 ++ (be 8 a1 ++ (be 2 a2 ++ (be 2 a3 ++ ((l.length : Int) :: (l ++ List.replicate (39 - l.length) 0)))))
theorem cellHead_length {a0 a1 a2 a3 : Int} {l : List Int} (h : l.length ≤ 39) : (cellHead a0 a1 a2 a3 l).length = 60 := by
  simp [cellHead, be_length]; omega
theorem bys_append (a b : List Int) : bys (a ++ b) = bys a ++ bys b := by simp [bys]
theorem spl_at {X Y : List Int} {n : Nat} (h : Y.length ≤ n) : spl (bys X ++ List.replicate n (Value.int .u8 0)) X.length (bys Y) = bys (X ++ Y) ++ List.replicate (n - Y.length) (Value.int .u8 0) := by
  have hx : (bys X).length = X.length := by simp [bys]
  have hy : (bys Y).length = Y.length := by simp [bys]
  unfold spl
  rw [List.take_left' hx, List.drop_append, hx, hy, List.drop_of_length_le (by rw [hx]; omega), List.nil_append, bys_append, List.drop_replicate, show X.length + Y.length - X.length = Y.length by omega]
def cell_Encode.f (k : Nat) (a0_0 : Int) (a0_1 : Int) (a0_2 : Int) (a0_3 : Int) (l0_4 : List Int) : Option (List Int × Int) :=
  if a0_2 < 0 then some ([], 1) else if a0_2 ≥ a0_3 then some ([], 1) else if a0_3 > 65535 then some ([], 1) else if (l0_4.length : Int) > 39 then some ([], 1)
  else (crc_Sum.f k (cellHead a0_0 a0_1 a0_2 a0_3 l0_4)).bind fun s => some (cellHead a0_0 a0_1 a0_2 a0_3 l0_4 ++ be 4 (IntKind.u64.wrap s), 0)
theorem cell_Encode.mono : ∀ a0 a1 a2 a3 a4 k, LeO (cell_Encode.f k a0 a1 a2 a3 a4) (cell_Encode.f (k + 1) a0 a1 a2 a3 a4) := by
  intro a0 a1 a2 a3 a4 k
  unfold cell_Encode.f
  refine LeO.ite (LeO.refl _) (LeO.ite (LeO.refl _) (LeO.ite (LeO.refl _) (LeO.ite (LeO.refl _) (LeO.bind (crc_Sum.mono _ _) fun _ => LeO.refl _))))
theorem sum_at (k : Nat) (s : Int) (W : World) (b : Nat) (X Y : List Int) (h : W.heap[b]? = some (.cells (bys (X ++ Y)).toArray 98 (0, 0))) (hl : X.length = 60) (hs : crc_Sum.f k X = some s) :
    Calls Try.prog 86 #[.slice (some ⟨b, 0, none⟩) 60 64] W fun e w' => e = .returned (.int .u32 s) ∧ Drawn0 W w' := by
  have := crc_Sum.calls k (some ⟨b, 0, none⟩) 64 X s W (C_lit_int X (by omega) fun j p hj => by
    have hjl : j < X.length := (List.getElem?_eq_some_iff.1 hj).1
    rw [blk_cell h, List.getElem?_toArray, bys, List.getElem?_map, List.getElem?_append_left hjl, hj]; rfl) (by omega) hs
  rwa [hl] at this
theorem head_cells {a0 a1 a2 a3 : Int} {l : List Int} {L0 L1 L2 L3 L4 L5 L6 : List Value} (h4 : l.length ≤ 39) (h0 : L0 = List.replicate 64 (Value.int .u8 0)) (e1 : L1 = spl L0 0 (bys (be 8 a0))) (e2 : L2 = spl L1 8 (bys (be 8 a1))) (e3 : L3 = spl L2 16 (bys (be 2 a2))) (e4 : L4 = spl L3 18 (bys (be 2 a3)))
    (e5 : L5 = L4.set 20 (Value.int .u8 l.length)) (e6 : L6 = spl L5 21 (bys l)) : L6 = bys (cellHead a0 a1 a2 a3 l ++ List.replicate 4 0) := by
  have f1 : L1 = bys (be 8 a0) ++ List.replicate 56 (Value.int .u8 0) := by
    have := spl_at (X := []) (Y := be 8 a0) (n := 64) (by simp [be_length])
    simp only [be_length, List.length_nil, bys, List.map_nil, List.nil_append] at this
    rw [e1, h0]; exact this
  have f2 : L2 = bys (be 8 a0 ++ be 8 a1) ++ List.replicate 48 (Value.int .u8 0) := by
    have := spl_at (X := be 8 a0) (Y := be 8 a1) (n := 56) (by simp [be_length])
    simp only [be_length] at this
    rw [e2, f1]; exact this
  have f3 : L3 = bys (be 8 a0 ++ be 8 a1 ++ be 2 a2) ++ List.replicate 46 (Value.int .u8 0) := by
    have := spl_at (X := be 8 a0 ++ be 8 a1) (Y := be 2 a2) (n := 48) (by simp [be_length])
    simp only [be_length, List.length_append] at this
    rw [e3, f2]; exact this
  have f4 : L4 = bys (be 8 a0 ++ be 8 a1 ++ be 2 a2 ++ be 2 a3) ++ List.replicate 44 (Value.int .u8 0) := by
    have := spl_at (X := be 8 a0 ++ be 8 a1 ++ be 2 a2) (Y := be 2 a3) (n := 46) (by simp [be_length])
    simp only [be_length, List.length_append] at this
    rw [e4, f3]; exact this
  have f5 : L5 = bys (be 8 a0 ++ be 8 a1 ++ be 2 a2 ++ be 2 a3 ++ [(l.length : Int)]) ++ List.replicate 43 (Value.int .u8 0) := by
    have hx : (bys (be 8 a0 ++ be 8 a1 ++ be 2 a2 ++ be 2 a3)).length = 20 := by simp [bys, be_length]
    rw [e5, f4, List.set_append_right _ _ (by omega), hx, bys_append _ [_], List.append_assoc]
    rfl
  have f6 : L6 = bys (be 8 a0 ++ be 8 a1 ++ be 2 a2 ++ be 2 a3 ++ [(l.length : Int)] ++ l) ++ List.replicate (43 - l.length) (Value.int .u8 0) := by
    have := spl_at (X := be 8 a0 ++ be 8 a1 ++ be 2 a2 ++ be 2 a3 ++ [(l.length : Int)]) (Y := l) (n := 43) (by omega)
    simp only [be_length, List.length_append, List.length_singleton] at this
    rw [e6, f5]; exact this
  rw [f6]
  have hr : List.replicate (43 - l.length) (Value.int .u8 0) = bys (List.replicate (39 - l.length) 0 ++ List.replicate 4 0) := by
    rw [show 43 - l.length = (39 - l.length) + 4 by omega, ← List.replicate_append_replicate]
    simp [bys]
  rw [hr, ← bys_append]
  congr 1
  simp [cellHead]
set_option maxRecDepth 100000 in
set_option maxHeartbeats 4000000 in
theorem encode_good (k : Nat) (s : Int) (a0_0 a0_1 a0_2 a0_3 : Int) (A0_4 : Option Addr) (c0_4 : Nat) (l0_4 : List Int) (w : World) (hr : Kd.C (Kd.int .u8) w A0_4 l0_4.length l0_4) (hc : l0_4.length ≤ c0_4)
   (hs : crc_Sum.f k (cellHead a0_0 a0_1 a0_2 a0_3 l0_4) = some s) (h1 : 0 ≤ a0_2) (h2 : a0_2 < a0_3) (h3 : a0_3 ≤ 65535) (h4 : l0_4.length ≤ 39) :
    Calls Try.prog 83 #[.agg #[.int .u64 a0_0, .int .u64 a0_1, .int .i64 a0_2, .int .i64 a0_3, .slice A0_4 l0_4.length c0_4]] w fun e w' => ∃ v0_ : Value, e = .returned (.tuple #[v0_, .int .i64 0]) ∧ Kd.V (Kd.int .u8) 5 w' w.heap.size (fun k_ => (w.heap.size ≤ k_)) v0_ (cellHead a0_0 a0_1 a0_2 a0_3 l0_4 ++ be 4 (IntKind.u64.wrap s)) ∧ Below w.heap.size w w' := by
  have HS := Aside0.mk hs
  clear hs
  have HR := Aside0.mk hr
  clear hr
  have d1 : decide (a0_2 < 0) = false := decide_eq_false (by omega)
  have d2 : decide (a0_3 ≤ a0_2) = false := decide_eq_false (by omega)
  have d3 : decide (65535 < a0_3) = false := decide_eq_false (by omega)
  have d4 : decide (39 < l0_4.length) = false := decide_eq_false (by omega)
  have d5 : decide ((39 : Int) < l0_4.length) = false := decide_eq_false (by omega)
  go_enter Try.func83, Try.ntmps83
  go_wp2
  obtain ⟨L0, hL0⟩ : ∃ L, L = List.replicate 64 (Value.int .u8 0) := ⟨_, rfl⟩
  refine gen_world (P := fun W => Enc w W a0_0 a0_1 a0_2 a0_3 (.slice A0_4 l0_4.length c0_4) L0) (Q := fun W => Code.wp Try.prog _ _ _ W) ?_ ?_
  · subst hL0
    exact ⟨((Below.refl _ _).alloc (Nat.le_refl _) _).alloc (by simp) _, blk_alloc (blk_new _ _) _, by have := blk_new (w.alloc (Obj.cells #[.int .u64 a0_0, .int .u64 a0_1, .int .i64 a0_2, .int .i64 a0_3, .slice A0_4 l0_4.length c0_4] 106)) (.cells (List.replicate 64 (Value.int .u8 0)).toArray 98); simpa using this⟩
  have hn0 : L0.length = 64 := by rw [hL0]; simp
  have HL0 := Aside0.mk hL0
  have HN0 := Aside0.mk hn0
  clear hL0 hn0 d1 d2 d3 d4 d5
  intro W hE
  have HE := Aside0.mk hE
  clear hE
  have hcc := HE.out.box.c0
  go_still_tail 3, (by kernel_rfl)
  refine gen_world (P := fun V => Enc w V a0_0 a0_1 a0_2 a0_3 (.slice A0_4 l0_4.length c0_4) L0) (Q := fun V => wpList Try.prog _ _ _ _ V) HE.out.drew ?_
  clear HE hcc W
  intro W hE
  have HE := Aside0.mk hE
  clear hE
  have hcc := HE.out.box.c0
  go_wp2_with fail
  refine (put_calls (w.heap.size + 1) 0 8 64 98 L0 a0_0 W HE.out.arr (by rw [HN0.out]; decide) (by decide)).mono ?_
  rintro e W1 ⟨rfl, hg, ha⟩
  obtain ⟨L1, hL1⟩ : ∃ L, L = spl L0 0 (bys (be 8 a0_0)) := ⟨_, rfl⟩
  rw [← hL1] at ha
  have hn1 : L1.length = 64 := by rw [hL1, spl_length (by rw [HN0.out]; simp [bys, be_length])]; exact HN0.out
  have HL1 := Aside0.mk hL1
  have HN1 := Aside0.mk hn1
  have HE1 := Aside0.mk (HE.out.step hg ha)
  clear HE hcc hg ha hL1 hn1
  go_wp2
  refine gen_world (P := fun V => Enc w V a0_0 a0_1 a0_2 a0_3 (.slice A0_4 l0_4.length c0_4) L1) (Q := fun V => Code.wp Try.prog _ _ _ V) HE1.out ?_
  clear HE1 W1 W
  intro W hE
  have HE := Aside0.mk hE
  clear hE
  have hcc := HE.out.box.c1
  go_still_tail 3, (by kernel_rfl)
  refine gen_world (P := fun V => Enc w V a0_0 a0_1 a0_2 a0_3 (.slice A0_4 l0_4.length c0_4) L1) (Q := fun V => wpList Try.prog _ _ _ _ V) HE.out.drew ?_
  clear HE hcc W
  intro W hE
  have HE := Aside0.mk hE
  clear hE
  have hcc := HE.out.box.c1
  go_wp2_with fail
  refine (put_calls (w.heap.size + 1) 8 8 56 98 L1 a0_1 W HE.out.arr (by rw [HN1.out]; decide) (by decide)).mono ?_
  rintro e W1 ⟨rfl, hg, ha⟩
  obtain ⟨L2, hL2⟩ : ∃ L, L = spl L1 8 (bys (be 8 a0_1)) := ⟨_, rfl⟩
  rw [← hL2] at ha
  have hn2 : L2.length = 64 := by rw [hL2, spl_length (by rw [HN1.out]; simp [bys, be_length])]; exact HN1.out
  have HL2 := Aside0.mk hL2
  have HN2 := Aside0.mk hn2
  have HE1 := Aside0.mk (HE.out.step hg ha)
  clear HE hcc hg ha hL2 hn2
  go_wp2
  refine gen_world (P := fun V => Enc w V a0_0 a0_1 a0_2 a0_3 (.slice A0_4 l0_4.length c0_4) L2) (Q := fun V => Code.wp Try.prog _ _ _ V) HE1.out ?_
  clear HE1 W1 W
  intro W hE
  have HE := Aside0.mk hE
  clear hE
  have hcc := HE.out.box.c2
  go_still_tail 4, (by kernel_rfl)
  refine gen_world (P := fun V => Enc w V a0_0 a0_1 a0_2 a0_3 (.slice A0_4 l0_4.length c0_4) L2) (Q := fun V => wpList Try.prog _ _ _ _ V) HE.out.drew ?_
  clear HE hcc W
  intro W hE
  have HE := Aside0.mk hE
  clear hE
  have hcc := HE.out.box.c2
  go_wp2_with fail
  refine (put_calls (w.heap.size + 1) 16 2 48 98 L2 a0_2 W HE.out.arr (by rw [HN2.out]; decide) (by decide)).mono ?_
  rintro e W1 ⟨rfl, hg, ha⟩
  obtain ⟨L3, hL3⟩ : ∃ L, L = spl L2 16 (bys (be 2 a0_2)) := ⟨_, rfl⟩
  rw [← hL3] at ha
  have hn3 : L3.length = 64 := by rw [hL3, spl_length (by rw [HN2.out]; simp [bys, be_length])]; exact HN2.out
  have HL3 := Aside0.mk hL3
  have HN3 := Aside0.mk hn3
  have HE1 := Aside0.mk (HE.out.step hg ha)
  clear HE hcc hg ha hL3 hn3
  go_wp2
  refine gen_world (P := fun V => Enc w V a0_0 a0_1 a0_2 a0_3 (.slice A0_4 l0_4.length c0_4) L3) (Q := fun V => Code.wp Try.prog _ _ _ V) HE1.out ?_
  clear HE1 W1 W
  intro W hE
  have HE := Aside0.mk hE
  clear hE
  have hcc := HE.out.box.c3
  go_still_tail 4, (by kernel_rfl)
  refine gen_world (P := fun V => Enc w V a0_0 a0_1 a0_2 a0_3 (.slice A0_4 l0_4.length c0_4) L3) (Q := fun V => wpList Try.prog _ _ _ _ V) HE.out.drew ?_
  clear HE hcc W
  intro W hE
  have HE := Aside0.mk hE
  clear hE
  have hcc := HE.out.box.c3
  go_wp2_with fail
  refine (put_calls (w.heap.size + 1) 18 2 46 98 L3 a0_3 W HE.out.arr (by rw [HN3.out]; decide) (by decide)).mono ?_
  rintro e W1 ⟨rfl, hg, ha⟩
  obtain ⟨L4, hL4⟩ : ∃ L, L = spl L3 18 (bys (be 2 a0_3)) := ⟨_, rfl⟩
  rw [← hL4] at ha
  have hn4 : L4.length = 64 := by rw [hL4, spl_length (by rw [HN3.out]; simp [bys, be_length])]; exact HN3.out
  have HL4 := Aside0.mk hL4
  have HN4 := Aside0.mk hn4
  have HE1 := Aside0.mk (HE.out.step hg ha)
  clear HE hcc hg ha hL4 hn4
  have h4c := HE1.out.box.c4
  obtain ⟨u20, hu20⟩ : ∃ u, L4[20]? = some u := ⟨L4[20]'(by rw [HN4.out]; decide), List.getElem?_eq_getElem _⟩
  have h20 : W1.cell? ⟨w.heap.size + 1, 20, none⟩ = some u20 := by rw [blk_cell HE1.out.arr]; simpa using hu20
  have hf20 := blk_frozen HE1.out.arr 20
  clear hu20
  go_wp2
  obtain ⟨L5, hL5⟩ : ∃ L, L = L4.set 20 (Value.int .u8 l0_4.length) := ⟨_, rfl⟩
  refine gen_world (P := fun V => Enc w V a0_0 a0_1 a0_2 a0_3 (.slice A0_4 l0_4.length c0_4) L5) (Q := fun V => Code.wp Try.prog _ _ _ V) (by rw [hL5]; exact HE1.out.step grownBy_set (blk_set' HE1.out.arr)) ?_
  have HN5 : Aside0 (L5.length = 64) := ⟨by rw [hL5, List.length_set]; exact HN4.out⟩
  have HL5 := Aside0.mk hL5
  clear HE1 h4c h20 hf20 hL5 W1 W
  intro W hE
  have HE := Aside0.mk hE
  clear hE
  have hcc := HE.out.box.c4
  go_still_tail 3, (by kernel_rfl)
  refine gen_world (P := fun V => Enc w V a0_0 a0_1 a0_2 a0_3 (.slice A0_4 l0_4.length c0_4) L5) (Q := fun V => wpList Try.prog _ _ _ _ V) HE.out.drew ?_
  clear HE hcc W
  intro W hE
  have HE := Aside0.mk hE
  clear hE
  have hcc := HE.out.box.c4
  obtain ⟨L6, hL6⟩ : ∃ L, L = spl L5 21 (bys l0_4) := ⟨_, rfl⟩
  have HL6 := Aside0.mk hL6
  clear hL6
  go_wp2_with (refine wpList_copy_row rfl (.tmp 49) (.tmp 51) 27 27 rfl 5 Try.underlying27 (by kernel_rfl) _ _ 43 43 l0_4.length c0_4 rfl rfl (w.heap.size + 1) 21 L5 98 HE.out.arr (bys l0_4) ?_ ?_ ?_ ?_ ?_)
  · simp only [bys, List.length_map]
    exact (Nat.min_eq_left (by omega)).symm
  · intro hp
    have hC := Kd.C_below HR.out HE.out.below
    obtain ⟨ad, ea, hcell⟩ := hC.2.2 (by simpa [bys] using hp)
    refine ⟨ad, ea, fun j v hj => ?_⟩
    simp only [bys, List.getElem?_map, Option.map_eq_some_iff] at hj
    obtain ⟨p, hp, rfl⟩ := hj
    obtain ⟨cc, _, hK, hcs⟩ := hcell j p hp
    cases hK
    have := hcs 0 _ rfl
    rwa [show (Kd.int .u8).sz = 1 from rfl, Nat.mul_one, Nat.add_zero] at this
  · rw [HN5.out]; simp only [bys, List.length_map]; omega
  · intro v hv
    simp only [bys, List.mem_map] at hv
    obtain ⟨x, _, rfl⟩ := hv
    rfl
  intro W1 ha hg
  have HN6 : Aside0 (L6.length = 64) := ⟨by rw [HL6.out, spl_length (by rw [HN5.out]; simp only [bys, List.length_map]; omega)]; exact HN5.out⟩
  have HE1 := Aside0.mk (HE.out.step (L' := L6) hg (by rw [HL6.out]; exact ha.out))
  clear HE hcc ha hg
  go_wp2
  refine gen_world (P := fun V => Enc w V a0_0 a0_1 a0_2 a0_3 (.slice A0_4 l0_4.length c0_4) L6) (Q := fun V => Code.wp Try.prog _ _ _ V) HE1.out ?_
  clear HE1 W1 W
  intro W hE
  have HE := Aside0.mk hE
  clear hE
  have HX : Aside0 (L6 = bys (cellHead a0_0 a0_1 a0_2 a0_3 l0_4 ++ List.replicate 4 0)) := ⟨head_cells h4 HL0.out HL1.out HL2.out HL3.out HL4.out HL5.out HL6.out⟩
  have HA : Aside0 (W.heap[w.heap.size + 1]? = some (.cells (bys (cellHead a0_0 a0_1 a0_2 a0_3 l0_4 ++ List.replicate 4 0)).toArray 98 (0, 0))) := ⟨by rw [← HX.out]; exact HE.out.arr⟩
  go_region_with (first | (go_at_call 86; go_loud (refine (sum_at k s _ (w.heap.size + 1) (cellHead a0_0 a0_1 a0_2 a0_3 l0_4) (List.replicate 4 0) (by exact HA.out) (cellHead_length h4) HS.out).mono ?_; rintro e w' ⟨rfl, ⟨nd, rfl⟩⟩)) | (go_at_call 92; go_loud (refine (put_calls (w.heap.size + 1) 60 4 4 98 L6 (IntKind.u64.wrap s) _ (by exact HE.out.arr) (by rw [HN6.out]; decide) (by decide)).mono ?_; rintro e W1 ⟨rfl, hg, ha⟩)))
  have hfin : spl L6 60 (bys (be 4 (IntKind.u64.wrap s))) = bys (cellHead a0_0 a0_1 a0_2 a0_3 l0_4 ++ be 4 (IntKind.u64.wrap s)) := by
    have := spl_at (X := cellHead a0_0 a0_1 a0_2 a0_3 l0_4) (Y := be 4 (IntKind.u64.wrap s)) (n := 4) (by simp [be_length])
    rw [cellHead_length h4, be_length] at this
    rw [HX.out, bys_append]
    simpa [bys] using this
  rw [hfin] at ha
  have HB1 := Aside0.mk (pw_below_grown (pw_below_drewN HE.out.below (1 + nd)) _ HE.out.below.size hg (fun kk hk => by injection hk with hk; omega))
  have HAF := Aside0.mk ha
  clear ha hg hfin
  go_wp2
  go_ret2
  have hlen : (cellHead a0_0 a0_1 a0_2 a0_3 l0_4 ++ be 4 (IntKind.u64.wrap s)).length = 64 := by rw [List.length_append, cellHead_length h4, be_length]
  refine ⟨.slice (some ⟨w.heap.size + 1, 0, none⟩) 64 64, rfl, ?_, HB1.out⟩
  have := V_of_blk (base := w.heap.size) (t := 5) (c := 64) (ok := fun k_ => w.heap.size ≤ k_) HAF.out (by omega) (by omega) (by omega)
  rwa [hlen] at this
set_option maxRecDepth 100000 in
set_option maxHeartbeats 4000000 in
theorem encode_bad (a0_0 a0_1 a0_2 a0_3 : Int) (A0_4 : Option Addr) (c0_4 : Nat) (l0_4 : List Int) (w : World) (h : a0_2 < 0 ∨ a0_2 ≥ a0_3 ∨ a0_3 > 65535 ∨ (l0_4.length : Int) > 39) :
    Calls Try.prog 83 #[.agg #[.int .u64 a0_0, .int .u64 a0_1, .int .i64 a0_2, .int .i64 a0_3, .slice A0_4 l0_4.length c0_4]] w fun e w' => e = .returned (.tuple #[.slice none 0 0, .int .i64 1]) ∧ Below w.heap.size w w' := by
  by_cases c1 : a0_2 < 0
  · have d1 : decide (a0_2 < 0) = true := decide_eq_true c1
    clear h c1
    go_enter Try.func83, Try.ntmps83
    go_wp2
    go_ret2
    exact ⟨rfl, by repeat (first | exact Below.refl _ _ | apply below_alloc)⟩
  have d1 : decide (a0_2 < 0) = false := decide_eq_false c1
  by_cases c2 : a0_3 ≤ a0_2
  · have d2 : decide (a0_3 ≤ a0_2) = true := decide_eq_true c2
    clear h c1 c2
    go_enter Try.func83, Try.ntmps83
    go_wp2
    go_ret2
    exact ⟨rfl, by repeat (first | exact Below.refl _ _ | apply below_alloc)⟩
  have d2 : decide (a0_3 ≤ a0_2) = false := decide_eq_false c2
  by_cases c3 : 65535 < a0_3
  · have d3 : decide (65535 < a0_3) = true := decide_eq_true c3
    clear h c1 c2 c3
    go_enter Try.func83, Try.ntmps83
    go_wp2
    go_ret2
    exact ⟨rfl, by repeat (first | exact Below.refl _ _ | apply below_alloc)⟩
  have d3 : decide (65535 < a0_3) = false := decide_eq_false c3
  have c4 : 39 < l0_4.length := by omega
  have d4 : decide (39 < l0_4.length) = true := decide_eq_true c4
  have d5 : decide ((39 : Int) < l0_4.length) = true := decide_eq_true (by omega)
  clear h c1 c2 c3 c4
  go_enter Try.func83, Try.ntmps83
  go_wp2
  go_ret2
  exact ⟨rfl, by repeat (first | exact Below.refl _ _ | apply below_alloc)⟩
set_option maxRecDepth 100000 in
theorem cell_Encode.calls (k : Nat) (a0_0 : Int) (a0_1 : Int) (a0_2 : Int) (a0_3 : Int) (A0_4 : Option Addr) (c0_4 : Nat) (l0_4 : List Int) (r1 : List Int) (r2 : Int) (w : World) (hr0_4 : Kd.C (Kd.int .u8) w A0_4 l0_4.length l0_4) (hc0_4 : l0_4.length ≤ c0_4) (h : cell_Encode.f k a0_0 a0_1 a0_2 a0_3 l0_4 = some (r1, r2)) :
    Calls Try.prog 83 #[.agg #[.int .u64 a0_0, .int .u64 a0_1, .int .i64 a0_2, .int .i64 a0_3, .slice A0_4 l0_4.length c0_4]] w fun e w' => ∃ v0_ : Value, e = .returned (.tuple #[v0_, .int .i64 r2]) ∧ Kd.V (Kd.int .u8) 5 w' w.heap.size (fun k_ => (w.heap.size ≤ k_)) v0_ r1 ∧ Below w.heap.size w w' := by
  by_cases hb : a0_2 < 0 ∨ a0_2 ≥ a0_3 ∨ a0_3 > 65535 ∨ (l0_4.length : Int) > 39
  · have he : r1 = [] ∧ r2 = 1 := by
      unfold cell_Encode.f at h
      rcases hb with hb | hb | hb | hb
      all_goals
        repeat' split at h
        all_goals first | (simp only [Option.some.injEq, Prod.mk.injEq] at h; exact ⟨h.1.symm, h.2.symm⟩) | (exfalso; omega)
    obtain ⟨rfl, rfl⟩ := he
    refine (encode_bad a0_0 a0_1 a0_2 a0_3 A0_4 c0_4 l0_4 w hb).mono ?_
    rintro e w' ⟨rfl, hbl⟩
    exact ⟨_, rfl, Kd.V_nil _ _ _ _ _, hbl⟩
  · have b1 : ¬ a0_2 < 0 := fun z => hb (.inl z)
    have b2 : ¬ a0_2 ≥ a0_3 := fun z => hb (.inr (.inl z))
    have b3 : ¬ a0_3 > 65535 := fun z => hb (.inr (.inr (.inl z)))
    have b4 : ¬ (l0_4.length : Int) > 39 := fun z => hb (.inr (.inr (.inr z)))
    unfold cell_Encode.f at h
    rw [if_neg b1, if_neg b2, if_neg b3, if_neg b4, Option.bind_eq_some_iff] at h
    obtain ⟨s, hs, h⟩ := h
    simp only [Option.some.injEq, Prod.mk.injEq] at h
    obtain ⟨rfl, rfl⟩ := h
    exact encode_good k s a0_0 a0_1 a0_2 a0_3 A0_4 c0_4 l0_4 w hr0_4 hc0_4 hs (by omega) (by omega) (by omega) (by omega)
theorem V_string {P : Program} {W : World} {base : Nat} {e' src dst e : TypeId} {ok : Nat → Prop} {v : Value} {xs : List Int} (hs : P.underlying src = some (.slice e)) (he : P.underlying e = some (.int .u8)) (hd : P.underlying dst = some .string) (h : Kd.V (Kd.int .u8) e' W base ok v xs) :
    (convert src dst v).run P W = .ok (.string (strOfNums xs)) W := by
  obtain ⟨A, c, rfl, hl, hf⟩ := h
  exact Kd.C_string hs he hd (Kd.F_now hf)

-- NOT PRINTED: function 74 (wal_Log_lay)

-- NOT PRINTED: function 45 (wal_Log_Append)

-- NOT PRINTED: function 46 (wal_Log_Sync)

-- NOT PRINTED: function 37 (marginalialaw17_alive)

-- NOT PRINTED: function 47 (wal_Log_Reset)

end Go.Proofs.Ytepipgneefcoiaa.D
