/- The functions of the program that these laws reach, each as a plain Lean function, and the proof that the machine's call comes to it; no condition beyond those that each theorem names. Made by wip/xprint.py. -/
import Derived.Test.YtnkaidaflegnlaaAx0
import Derived.Test.YtnkaidaflegnlaaAf64
import Derived.Test.YtnkaidaflegnlaaAf77
import Derived.Test.YtnkaidaflegnlaaAf80
import Derived.Test.YtnkaidaflegnlaaAh
namespace Go.Proofs.Ytnkaidaflegnlaa.A
open Go.RowKit Go.Proofs.YtnkaidaflegnlaaW.PrintWords Go.Proofs.YtnkaidaflegnlaaW.PrintLast Go.Proofs.YtnkaidaflegnlaaW.PrintMore
attribute [local go_sem] max2_int min2_int max_two min_two max_three min_three max_four min_four   -- for this text's walks alone
set_option linter.unusedVariables false
set_option linter.unusedSimpArgs false

/-! ### marginalialaw05_alive: function 27: by hand -/
/- slices.Insert, slices.Delete of numbers: the library's own contracts, laid at this program. -/
def arRen : Go.Shelf.Ren := ⟨fun | 21 => 88 | 23 => 87 | 27 => 94 | 28 => 95 | 35 => 96 | 39 => 97 | n => n, fun | 22 => 61 | n => n, fun n => n⟩
theorem arIns : Go.Proofs.Lays2.n21 Try.prog arRen := {
  mixed := by kernel_rfl
  f21 := by kernel_rfl
  f27 := by kernel_rfl
  f28 := by kernel_rfl
  f35 := by kernel_rfl
  f39 := by kernel_rfl
  t0 := by kernel_rfl
  a0 := fun _ => by kernel_rfl
  z0 := fun _ => by kernel_rfl
  v0 := fun _ => by kernel_rfl
  t3 := by kernel_rfl
  a3 := fun _ => by kernel_rfl
  z3 := fun _ => by kernel_rfl
  v3 := fun _ => by kernel_rfl
  t4 := by kernel_rfl
  a4 := fun _ => by kernel_rfl
  z4 := fun _ => by kernel_rfl
  v4 := fun _ => by kernel_rfl
  t22 := by kernel_rfl
  a22 := fun _ => by kernel_rfl
  z22 := fun _ => by kernel_rfl
  v22 := fun _ => by kernel_rfl
  i3 := by kernel_rfl }
theorem arDel : Go.Proofs.Lays2.n23 Try.prog arRen := {
  mixed := by kernel_rfl
  f23 := by kernel_rfl
  t0 := by kernel_rfl
  a0 := fun _ => by kernel_rfl
  z0 := fun _ => by kernel_rfl
  v0 := fun _ => by kernel_rfl
  t3 := by kernel_rfl
  a3 := fun _ => by kernel_rfl
  z3 := fun _ => by kernel_rfl
  v3 := fun _ => by kernel_rfl
  t4 := by kernel_rfl
  a4 := fun _ => by kernel_rfl
  z4 := fun _ => by kernel_rfl
  v4 := fun _ => by kernel_rfl
  t22 := by kernel_rfl
  a22 := fun _ => by kernel_rfl
  z22 := fun _ => by kernel_rfl
  v22 := fun _ => by kernel_rfl
  i3 := by kernel_rfl }
/- Cells that are written into a block. -/
theorem gr_refl (w : World) (r : Option Nat) : w.grownBy w r := ⟨rfl, rfl, rfl, Nat.le_refl _, fun _ _ _ => rfl⟩
theorem gr_trans {w w1 w2 : World} {r : Option Nat} (h : w.grownBy w1 r) (k : w1.grownBy w2 r) : w.grownBy w2 r :=
  ⟨k.os.trans h.os, k.tape.trans h.tape, k.output.trans h.output, Nat.le_trans h.size k.size, fun i hi hn => (k.block i (Nat.lt_of_lt_of_le hi h.size) hn).trans (h.block i hi hn)⟩
theorem gr_set (w : World) (g j : Nat) (v : Value) : w.grownBy (w.setCell ⟨g, j, none⟩ v) (some g) :=
  ⟨rfl, rfl, rfl, by simp [World.setCell], fun i hi hn => by
    simp only [World.setCell]
    rw [Array.getElem?_modify, if_neg (fun e => hn (by rw [e]))]⟩
theorem gr_setCells (g : Nat) : ∀ (vs : List Value) (o : Nat) (w : World), w.grownBy (w.setCells g o vs) (some g)
  | [], _, w => gr_refl w _
  | v :: r, o, w => gr_trans (gr_set w g o v) (gr_setCells g r (o + 1) _)
theorem gr_drew (w : World) (r : Option Nat) : w.grownBy w.drew r := ⟨rfl, rfl, rfl, Nat.le_refl _, fun _ _ _ => rfl⟩
theorem gr_alloc (w : World) (o : Obj) (r : Option Nat) : w.grownBy (w.alloc o) r := World.grownBy_alloc w o r
theorem setCells_blk {g : Nat} {e : TypeId} : ∀ (vs : List Value) (o : Nat) (w : World) (cur : List Value), w.heap[g]? = some (.cells cur.toArray e (0, 0)) → o + vs.length ≤ cur.length → (w.setCells g o vs).heap[g]? = some (.cells (cur.take o ++ vs ++ cur.drop (o + vs.length)).toArray e (0, 0))
  | [], o, w, cur, h, _ => by simpa [World.setCells] using h
  | v :: r, o, w, cur, h, hf => by
    have h1 := blk_set h o v
    rw [List.setIfInBounds_toArray] at h1
    have ih := setCells_blk r (o + 1) (w.setCell ⟨g, o, none⟩ v) (cur.set o v) h1 (by simp at hf ⊢; omega)
    show ((w.setCell ⟨g, o, none⟩ v).setCells g (o + 1) r).heap[g]? = _
    rw [ih]
    congr 3
    simp at hf
    have e1 : (cur.set o v).take (o + 1) = cur.take o ++ [v] := by
      rw [List.take_add_one, List.take_set_of_le (Nat.le_refl _), List.getElem?_set_self (by omega)]; rfl
    have e2 : (cur.set o v).drop (o + 1 + r.length) = cur.drop (o + (v :: r).length) := by
      rw [List.drop_set_of_lt (by omega)]
      congr 1
      simp; omega
    rw [e1, e2]
    simp
theorem gr_new {w W : World} {o : Obj} {r : Option Nat} (h : (w.alloc o).grownBy W (some w.heap.size)) : w.grownBy W r := by
  have k := World.grownBy_alloc w o r
  exact ⟨h.os.trans k.os, h.tape.trans k.tape, h.output.trans k.output, Nat.le_trans k.size h.size, fun i hi hn => (h.block i (Nat.lt_of_lt_of_le hi k.size) (fun e => by injection e with e; omega)).trans (k.block i hi hn)⟩
theorem gr_drewN (w : World) (q : Nat) (r : Option Nat) : w.grownBy (w.drewN q) r := ⟨rfl, rfl, rfl, Nat.le_refl _, fun _ _ _ => rfl⟩
theorem own_blk3 {w : World} {base n : Nat} {v : Value} {xs : List Value} (h : w.ownsRow base 3 1 v n xs) : (v = .slice none 0 0 ∧ n = 0 ∧ xs = []) ∨ ∃ g cap cur, v = .slice (some ⟨g, 0, none⟩) n cap ∧ base ≤ g ∧ w.heap[g]? = some (.cells (List.toArray cur) 3 (0, 0)) ∧ n ≤ cap ∧ cap ≤ 9223372036854775807 ∧ cur.length = cap ∧ cur.take n = xs ∧ xs.length = n := by
  obtain ⟨h1, h2⟩ := h
  rcases h2 with ⟨rfl, rfl⟩ | ⟨g, cap, cur, rfl, hg, hh, hn, hm, hs, ht⟩
  · exact .inl ⟨rfl, rfl, List.eq_nil_of_length_eq_zero (by omega)⟩
  · refine .inr ⟨g, cap, cur.toList, rfl, hg, by simpa using hh, hn, by unfold maxLen at hm; omega, ?_, ?_, by omega⟩
    · rw [Array.length_toList, hs]; omega
    · rw [Nat.mul_one] at ht; exact ht
theorem own_of_blk3 {w : World} {base g n cap : Nat} {cur xs : List Value} (hg : base ≤ g) (hh : w.heap[g]? = some (.cells (List.toArray cur) 3 (0, 0))) (hn : n ≤ cap) (hm : cap ≤ 9223372036854775807) (hl : cur.length = cap) (ht : cur.take n = xs) : w.ownsRow base 3 1 (.slice (some ⟨g, 0, none⟩) n cap) n xs := by
  refine ⟨?_, .inr ⟨g, cap, cur.toArray, rfl, hg, hh, hn, by unfold maxLen; omega, by simpa using hl, by simpa using ht⟩⟩
  rw [← ht, List.length_take]; omega
theorem R_of_own3 {w : World} {base n : Nat} {v : Value} {xs : List Int} (h : w.ownsRow base 3 1 v n (xs.map (Value.int .i64))) (hn : n = xs.length) : Kd.R (Kd.int .i64) 3 w base (fun k => some k = v.ownBlock) v xs := by
  subst hn
  exact Kd.R_of_own (enc := Value.int .i64) h (fun k hk => hk.symm)
theorem own3_of_R {w : World} {base : Nat} {ok : Nat → Prop} {v : Value} {xs : List Int} (h : Kd.R (Kd.int .i64) 3 w base ok v xs) : w.ownsRow base 3 1 v xs.length (xs.map (Value.int .i64)) := Kd.own_of_R (enc := Value.int .i64) h
theorem one_ints (xs : List Int) : ∀ v ∈ xs.map (Value.int .i64), v.oneCell' = true := by
  intro v hv
  obtain ⟨x, _, rfl⟩ := List.mem_map.1 hv
  rfl
theorem shift_list {cur : List Value} {n i : Nat} {u : Value} (h1 : n + 1 ≤ cur.length) (hi : i ≤ n) : ((cur.take (i + 1) ++ (cur.take n).drop i ++ cur.drop (i + 1 + ((cur.take n).drop i).length)).take i ++ [u] ++ (cur.take (i + 1) ++ (cur.take n).drop i ++ cur.drop (i + 1 + ((cur.take n).drop i).length)).drop (i + [u].length)).take (n + 1) = (cur.take n).take i ++ [u] ++ (cur.take n).drop i := by
  obtain ⟨D, hD⟩ : ∃ D, D = (cur.take n).drop i := ⟨_, rfl⟩
  have hl : D.length = n - i := by rw [hD, List.length_drop, List.length_take, Nat.min_eq_left (by omega)]
  rw [← hD]
  obtain ⟨R, hR⟩ : ∃ R, R = cur.drop (i + 1 + D.length) := ⟨_, rfl⟩
  rw [← hR]
  have hl1 : (cur.take (i + 1)).length = i + 1 := by rw [List.length_take, Nat.min_eq_left (by omega)]
  have e1 : (cur.take (i + 1) ++ D ++ R).take i = cur.take i := by
    rw [List.append_assoc, List.take_append_of_le_length (by omega), List.take_take, Nat.min_eq_left (by omega)]
  have e2 : (cur.take (i + 1) ++ D ++ R).drop (i + [u].length) = D ++ R := by
    rw [List.append_assoc, show i + [u].length = (cur.take (i + 1)).length from hl1.symm, List.drop_left]
  have e3 : (cur.take n).take i = cur.take i := by rw [List.take_take, Nat.min_eq_left hi]
  rw [e1, e2, e3]
  have hl2 : (cur.take i ++ [u] ++ D).length = n + 1 := by
    rw [List.length_append, List.length_append, List.length_take, hl, Nat.min_eq_left (by omega)]
    show i + 1 + (n - i) = n + 1
    omega
  rw [← List.append_assoc, ← hl2, List.take_left]
theorem ar_insert {w : World} {base : Nat} {ok : Nat → Prop} {v : Value} {xs : List Int} (hR : Kd.R (Kd.int .i64) 3 w base ok v xs) (i : Nat) (hi : i ≤ xs.length) (hl : xs.length ≤ 100000) (x : Int) (vb vc : Nat) (hvb : w.heap[vb]? = some (.cells #[.int .i64 x] 3 (0, 0))) (hne : some vb ≠ v.ownBlock) (hbase : base ≤ w.heap.size) :
    Calls Try.prog 88 #[v, .int .i64 (i : Int), .slice (some ⟨vb, 0, none⟩) 1 vc] w fun e w' => ∃ v', e = .returned v' ∧ Kd.R (Kd.int .i64) 3 w' base (fun k => some k = v'.ownBlock) v' (xs.take i ++ x :: xs.drop i) ∧ w.grownBy w' v.ownBlock ∧ (v'.ownBlock = v.ownBlock ∨ ∃ b, v'.ownBlock = some b ∧ w.heap.size ≤ b) := by
  have hvs : ∀ (j : Nat) (u : Value), [Value.int .i64 x][j]? = some u → w.cell? ⟨vb, 0 + j, none⟩ = some u := by
    intro j u hu
    rw [Nat.zero_add, blk_cell hvb]
    simpa using hu
  have hv1 : ∀ u ∈ [Value.int .i64 x], u.oneCell' = true := by
    intro u hu
    rw [List.mem_singleton.1 hu]; rfl
  have hlen : (xs.take i ++ x :: xs.drop i).length = xs.length + 1 := by simp; omega
  have hmap : (xs.take i ++ x :: xs.drop i).map (Value.int .i64) = (xs.map (Value.int .i64)).take i ++ [.int .i64 x] ++ (xs.map (Value.int .i64)).drop i := by simp
  obtain ⟨cs, hcs⟩ : ∃ cs, cs = xs.map (Value.int .i64) := ⟨_, rfl⟩
  have hcl : cs.length = xs.length := by rw [hcs]; simp
  have h1c : ∀ u ∈ cs, u.oneCell' = true := by rw [hcs]; exact one_ints xs
  rw [← hcs] at hmap
  obtain ⟨n, hn⟩ : ∃ n, n = xs.length := ⟨_, rfl⟩
  have fin : ∀ (w' : World) (v' : Value), w'.ownsRow base 3 1 v' (n + 1) (cs.take i ++ [.int .i64 x] ++ cs.drop i) → Kd.R (Kd.int .i64) 3 w' base (fun k => some k = v'.ownBlock) v' (xs.take i ++ x :: xs.drop i) := by
    intro w' v' h
    exact R_of_own3 (by rw [hmap]; exact h) (by rw [hlen, hn])
  rcases own_blk3 (own3_of_R hR) with ⟨rfl, h0, _⟩ | ⟨g, cap, cur, rfl, hg, hh, hnc, hcm, hcur, ht, _⟩
  · have hi0 : i = 0 := by omega
    subst hi0
    have hc0 : cs = [] := List.eq_nil_of_length_eq_zero (by omega)
    refine (Go.Proofs.Any2.slices_Insert_int_end_grow arIns none 0 0 vb 0 1 vc [] [.int .i64 x] w (by omega) (by omega) (by omega) (by omega) rfl rfl (fun _ => rfl) (fun a h => by cases h) hvs hv1).mono ?_
    rintro e w' ⟨rfl, rfl⟩
    have hge := grownCap_ge w (0 + 1) 0 (arRen.t 3)
    have hle := grownCap_le_maxLen w (0 + 1) 0 (arRen.t 3) (by unfold maxLen; omega)
    unfold maxLen at hle
    refine ⟨_, rfl, fin _ _ ?_, gr_trans (gr_drew w _) (World.grownBy_alloc _ _ _), .inr ⟨_, rfl, Nat.le_refl _⟩⟩
    have hb := blk_new w.drew (.cells (([] ++ [Value.int .i64 x]).toArray ++ Builtin.zeroCells (Value.int IntKind.i64 0).cells (grownCap w (0 + 1) 0 (arRen.t 3) - (0 + 1))) (arRen.t 3) (0, 0))
    have hn0 : n = 0 := by omega
    subst hn0
    refine own_of_blk3 (cur := [Value.int .i64 x] ++ (Builtin.zeroCells (Value.int IntKind.i64 0).cells (grownCap w (0 + 1) 0 (arRen.t 3) - (0 + 1))).toList) hbase ?_ hge (by omega) ?_ ?_
    · rw [show w.heap.size = w.drew.heap.size from rfl]
      rw [hb]
      congr 2
      simp
    · have hz := size_zeroCells (Value.int IntKind.i64 0).cells (grownCap w (0 + 1) 0 (arRen.t 3) - (0 + 1))
      rw [show (Value.int IntKind.i64 0).cells.size = 1 from rfl] at hz
      simp only [List.length_append, List.length_cons, List.length_nil, Array.length_toList, hz]
      omega
    · rw [hc0]; rfl
  · have hread : ∀ (j : Nat) (u : Value), cs[j]? = some u → w.cell? ⟨g, 0 + j, none⟩ = some u := by
      intro j u hu
      have hj := (List.getElem?_eq_some_iff.1 hu).1
      rw [Nat.zero_add, blk_cell hh]
      have : cs = cur.take xs.length := by rw [hcs]; exact ht.symm
      rw [this, List.getElem?_take] at hu
      rw [if_pos (by omega)] at hu
      simpa using hu
    have hsome : ∀ j, j < cap → (w.cell? ⟨g, 0 + j, none⟩).isSome = true := by
      intro j hj
      rw [Nat.zero_add, blk_cell hh]
      simp; omega
    have hcut : cur.take n = cs := by rw [hn, hcs]; exact ht
    have hvg : vb ≠ g := fun e => hne (by rw [e]; rfl)
    rw [← hn] at hcl hi hnc ⊢
    by_cases c1 : n + 1 ≤ cap
    · by_cases c2 : i < n
      · refine (Go.Proofs.Any2.slices_Insert_int_shift arIns g 0 n cap i vb 0 1 vc cs [.int .i64 x] w c2 (by omega) c1 hcm hvg hcl rfl hread (fun j hj => hsome j (by omega)) (fun j _ => by rw [Nat.zero_add]; exact blk_frozen hh j) hvs h1c hv1 3 3 1 cap (by simp [World.shape?, hvb]) (by simp [World.shape?, hh, hcur]) (by omega) (blk_frozen hvb 0) (blk_frozen hvb 1)).mono ?_
        rintro e w' ⟨rfl, rfl⟩
        have hdl : (cs.drop i).length = n - i := by rw [List.length_drop, hcl]
        have b1 := setCells_blk (cs.drop i) (0 + (i + 1)) w.drew cur hh (by omega)
        have b2 := setCells_blk [Value.int .i64 x] (0 + i) _ _ b1 (by simp; omega)
        refine ⟨_, rfl, fin _ _ (own_of_blk3 hg b2 c1 hcm ?_ ?_), gr_trans (gr_drew w _) (gr_trans (gr_setCells g _ _ _) (gr_setCells g _ _ _)), .inl rfl⟩
        · simp; omega
        · have := shift_list (cur := cur) (u := Value.int .i64 x) (n := n) (i := i) (by omega) (by omega)
          rw [hcut] at this
          simp only [Nat.zero_add]
          exact this
      · have hin : i = n := by omega
        subst hin
        refine (Go.Proofs.Any2.slices_Insert_int_end_room arIns g 0 i cap vb 0 1 vc [.int .i64 x] w (by omega) c1 hcm rfl (fun j hj => by rw [Nat.zero_add]; have := hsome (i + j) (by omega); rwa [Nat.zero_add] at this) (fun j _ => blk_frozen hh _) hvs hv1).mono ?_
        rintro e w' ⟨rfl, rfl⟩
        have b1 := setCells_blk [Value.int .i64 x] (0 + i) w cur hh (by simp; omega)
        refine ⟨_, rfl, fin _ _ (own_of_blk3 hg b1 c1 hcm (by simp; omega) ?_), gr_setCells g _ _ _, .inl rfl⟩
        rw [Nat.zero_add, hcut, ← hcl, List.take_length, List.drop_length, List.append_nil, List.take_append_of_le_length (by simp), List.take_of_length_le (by simp)]
    · have hcn : cap < n + 1 := by omega
      by_cases c2 : i < n
      · refine (Go.Proofs.Any2.slices_Insert_int_grow arIns g 0 n cap i vb 0 1 vc cs [.int .i64 x] w c2 (by omega) hnc hcn (by omega) hcl rfl hread hvs h1c hv1).mono ?_
        rintro e w' ⟨rfl, rfl⟩
        have hge := grownCap_ge w (n + 1) cap (arRen.t 3)
        have hle := grownCap_le_maxLen w (n + 1) cap (arRen.t 3) (by unfold maxLen; omega)
        unfold maxLen at hle
        obtain ⟨C, hC⟩ : ∃ C, C = grownCap w (n + 1) cap (arRen.t 3) := ⟨_, rfl⟩
        rw [← hC] at hge hle ⊢
        obtain ⟨z1, hz1⟩ : ∃ z, z = Builtin.zeroCells (Value.int IntKind.i64 0).cells (n + 1 - i) := ⟨_, rfl⟩
        obtain ⟨z2, hz2⟩ : ∃ z, z = Builtin.zeroCells (Value.int IntKind.i64 0).cells (C - (n + 1)) := ⟨_, rfl⟩
        have l1 := size_zeroCells (Value.int IntKind.i64 0).cells (n + 1 - i)
        have l2 := size_zeroCells (Value.int IntKind.i64 0).cells (C - (n + 1))
        rw [show (Value.int IntKind.i64 0).cells.size = 1 from rfl] at l1 l2
        rw [← hz1] at l1
        rw [← hz2] at l2
        rw [← hz1, ← hz2]
        have b0 : (w.alloc (.cells ((cs.take i).toArray ++ z1 ++ z2) (arRen.t 3) (0, 0))).heap[w.heap.size]? = some (.cells (List.toArray (cs.take i ++ z1.toList ++ z2.toList)) 3 (0, 0)) := by
          rw [blk_new]
          congr 2
          simp
        have hlt : (cs.take i).length = i := by rw [List.length_take, hcl]; omega
        have b1 := setCells_blk [Value.int .i64 x] i (w.alloc (.cells ((cs.take i).toArray ++ z1 ++ z2) (arRen.t 3) (0, 0))).drew _ b0 (by simp; omega)
        have b2 := setCells_blk (cs.drop i) (i + 1) ((w.alloc (.cells ((cs.take i).toArray ++ z1 ++ z2) (arRen.t 3) (0, 0))).drew.setCells w.heap.size i [Value.int .i64 x]).drew _ b1 (by simp; omega)
        refine ⟨_, rfl, fin _ _ (own_of_blk3 (Nat.le_trans hbase (Nat.le_refl _)) b2 hge (by omega) (by simp; omega) ?_), ?_, .inr ⟨_, rfl, Nat.le_refl _⟩⟩
        · have e1 : (cs.take i ++ z1.toList ++ z2.toList).take i = cs.take i := by
            rw [List.append_assoc, List.take_append_of_le_length (by omega), List.take_of_length_le (by omega)]
          rw [e1]
          have hl3 : (cs.take i ++ [Value.int .i64 x]).length = i + 1 := by simp; omega
          have e2 : (cs.take i ++ [Value.int .i64 x] ++ (cs.take i ++ z1.toList ++ z2.toList).drop (i + [Value.int .i64 x].length)).take (i + 1) = cs.take i ++ [Value.int .i64 x] := by
            rw [← hl3, List.take_left]
          rw [e2]
          have hl4 : (cs.take i ++ [Value.int .i64 x] ++ cs.drop i).length = n + 1 := by simp; omega
          rw [← hl4, List.take_left]
        · exact gr_new (gr_trans (gr_drew _ _) (gr_trans (gr_setCells w.heap.size [Value.int .i64 x] i _) (gr_trans (gr_drew _ _) (gr_setCells w.heap.size (cs.drop i) (i + 1) _))))
      · have hin : i = n := by omega
        subst hin
        refine (Go.Proofs.Any2.slices_Insert_int_end_grow arIns (some ⟨g, 0, none⟩) i cap vb 0 1 vc cs [.int .i64 x] w (by omega) hnc hcn (by omega) hcl rfl (fun h => by cases h) (fun a h j u hu => by injection h with h; subst h; rw [add_at]; exact hread j u hu) hvs hv1).mono ?_
        rintro e w' ⟨rfl, rfl⟩
        have hge := grownCap_ge w (i + 1) cap (arRen.t 3)
        have hle := grownCap_le_maxLen w (i + 1) cap (arRen.t 3) (by unfold maxLen; omega)
        unfold maxLen at hle
        obtain ⟨C, hC⟩ : ∃ C, C = grownCap w (i + 1) cap (arRen.t 3) := ⟨_, rfl⟩
        rw [← hC] at hge hle ⊢
        obtain ⟨z2, hz2⟩ : ∃ z, z = Builtin.zeroCells (Value.int IntKind.i64 0).cells (C - (i + 1)) := ⟨_, rfl⟩
        have l2 := size_zeroCells (Value.int IntKind.i64 0).cells (C - (i + 1))
        rw [show (Value.int IntKind.i64 0).cells.size = 1 from rfl] at l2
        rw [← hz2] at l2
        rw [← hz2]
        refine ⟨_, rfl, fin _ _ ?_, gr_trans (gr_drew w _) (World.grownBy_alloc _ _ _), .inr ⟨_, rfl, Nat.le_refl _⟩⟩
        refine own_of_blk3 (cur := cs ++ [Value.int .i64 x] ++ z2.toList) hbase ?_ hge (by omega) (by simp; omega) ?_
        · rw [show w.heap.size = w.drew.heap.size from rfl, blk_new]
          congr 2
          simp
        · rw [show i + 1 = (cs ++ [Value.int .i64 x]).length by simp; omega, List.take_left, ← hcl, List.take_length, List.drop_length, List.append_nil]
theorem ar_delete {w : World} {base : Nat} {ok : Nat → Prop} {v : Value} {xs : List Int} (hR : Kd.R (Kd.int .i64) 3 w base ok v xs) (i : Nat) (hi : i < xs.length) :
    Calls Try.prog 87 #[v, .int .i64 (i : Int), .int .i64 ((i + 1 : Nat) : Int)] w fun e w' => ∃ v', e = .returned v' ∧ Kd.R (Kd.int .i64) 3 w' base (fun k => some k = v'.ownBlock) v' (xs.take i ++ xs.drop (i + 1)) ∧ w.grownBy w' v.ownBlock ∧ v'.ownBlock = v.ownBlock := by
  rcases own_blk3 (own3_of_R hR) with ⟨rfl, h0, _⟩ | ⟨g, cap, cur, rfl, hg, hh, hnc, hcm, hcur, ht, _⟩
  · omega
  · have hH : Go.Sort.Holds (Value.int .i64) w g 0 xs.toArray := by
      intro j hj
      have hj : j < xs.length := by simpa using hj
      refine ⟨?_, by rw [Nat.zero_add]; exact blk_frozen hh j⟩
      rw [Nat.zero_add, blk_cell hh]
      have : cur[j]? = (xs.map (Value.int .i64))[j]? := by rw [← ht, List.getElem?_take, if_pos hj]
      rw [List.getElem?_toArray, this, List.getElem?_map, List.getElem?_eq_getElem hj]
      simp [getElem!_pos, hj]
    refine (Go.Proofs.Any.slices_Delete_int arDel g 0 cap i (i + 1) xs w hH hnc hcm (by omega) (by omega)).mono ?_
    rintro e w' ⟨rfl, q, rfl⟩
    have hn1 : xs.length - (i + 1 - i) = (xs.take i ++ xs.drop (i + 1)).length := by simp; omega
    rw [Go.Lib.putRow_eq_setCells (Value.int .i64) w g 0 xs.toArray _ q hH (by simp; omega)]
    have b1 := setCells_blk ((xs.take i ++ xs.drop (i + 1) ++ List.replicate (i + 1 - i) 0).map (Value.int .i64)) 0 (w.drewN q) cur hh (by simp; omega)
    refine ⟨_, rfl, ?_, gr_trans (gr_drewN w q _) (gr_setCells g _ _ _), rfl⟩
    rw [hn1]
    refine R_of_own3 (own_of_blk3 hg b1 (by rw [← hn1]; omega) hcm (by simp; omega) ?_) rfl
    rw [List.take_zero, List.nil_append, List.map_append, List.append_assoc]
    have : (xs.take i ++ xs.drop (i + 1)).length = ((xs.take i ++ xs.drop (i + 1)).map (Value.int .i64)).length := by simp
    rw [this, List.take_left]
/- An arena in memory: each node, its attributes' row, its kids' row. -/
abbrev Nz := S96 × Value × Value
def nzc (z : Nz) : List Value := [.int .i64 z.1.f0.f0, .int .i64 z.1.f0.f1, .string z.1.f0.f2, z.2.1, .string z.1.f0.f4, .int .i64 z.1.f1, z.2.2]
def aFt (p : Nat) (v : Value) (Z : List Nz) (k : Nat) : Prop := k = p ∨ some k = v.ownBlock ∨ ∃ (i : Nat) (z : Nz), Z[i]? = some z ∧ (some k = z.2.1.ownBlock ∨ some k = z.2.2.ownBlock)
structure am (base : Nat) (w : World) (p : Nat) (v : Value) (Z : List Nz) : Prop where
  box : w.heap[p]? = some (.cells #[v] 99 (0, 0))
  rows : Kd.R (Kd.raw 7) 96 w base (fun k => some k = v.ownBlock) v (Z.map nzc)
  ats : ∀ (i : Nat) (z : Nz), Z[i]? = some z → Kd.R k103 103 w base (fun k => some k = z.2.1.ownBlock) z.2.1 z.1.f0.f3
  kis : ∀ (i : Nat) (z : Nz), Z[i]? = some z → Kd.R (Kd.int .i64) 3 w base (fun k => some k = z.2.2.ownBlock) z.2.2 z.1.f2
  sep : ∀ (i j : Nat) (z y : Nz) (k : Nat), Z[i]? = some z → Z[j]? = some y → i ≠ j → z.2.2.ownBlock = some k → y.2.2.ownBlock ≠ some k
  hp : base ≤ p
  ne : 0 < Z.length
theorem am_base {base p : Nat} {w : World} {v : Value} {Z : List Nz} (h : am base w p v Z) {k : Nat} (hk : aFt p v Z k) : base ≤ k := by
  rcases hk with rfl | hk | ⟨i, z, hz, hk | hk⟩
  · exact h.hp
  · exact Kd.R_base h.rows k hk.symm
  · exact Kd.R_base (h.ats i z hz) k hk.symm
  · exact Kd.R_base (h.kis i z hz) k hk.symm
theorem am_lt {base p : Nat} {w : World} {v : Value} {Z : List Nz} (h : am base w p v Z) {k : Nat} (hk : aFt p v Z k) : k < w.heap.size := by
  rcases hk with rfl | hk | ⟨i, z, hz, hk | hk⟩
  · exact blk_lt h.box
  · exact Kd.R_lt h.rows k hk.symm
  · exact Kd.R_lt (h.ats i z hz) k hk.symm
  · exact Kd.R_lt (h.kis i z hz) k hk.symm
theorem am_move {base p : Nat} {w w' : World} {v : Value} {Z : List Nz} (h : am base w p v Z) (hm : ∀ k, aFt p v Z k → w'.heap[k]? = w.heap[k]?) : am base w' p v Z :=
  ⟨(hm p (.inl rfl)).trans h.box, Kd.R_move h.rows (fun k hk => hm k (.inr (.inl hk))), fun i z hz => Kd.R_move (h.ats i z hz) (fun k hk => hm k (.inr (.inr ⟨i, z, hz, .inl hk⟩))), fun i z hz => Kd.R_move (h.kis i z hz) (fun k hk => hm k (.inr (.inr ⟨i, z, hz, .inr hk⟩))), h.sep, h.hp, h.ne⟩
theorem am_below {base p : Nat} {w w' : World} {v : Value} {Z : List Nz} (h : am base w p v Z) (b : Below w.heap.size w w') : am base w' p v Z := am_move h (fun k hk => b.block k (am_lt h hk))
theorem am_hdr {base p : Nat} {w : World} {v : Value} {Z : List Nz} (h : am base w p v Z) : ∃ g cap, v = .slice (some ⟨g, 0, none⟩) Z.length cap ∧ Z.length ≤ cap ∧ base ≤ g := by
  have hl : 0 < (Z.map nzc).length := by rw [List.length_map]; exact h.ne
  obtain ⟨g, cap, e, hg, _⟩ := Kd.R_form h.rows hl
  rw [List.length_map] at e
  subst e
  exact ⟨g, cap, rfl, (Kd.R_reads' h.rows).2.1, hg⟩
/- The cells of a node. -/
theorem am_cells {base p g cap : Nat} {w : World} {Z : List Nz} (h : am base w p (.slice (some ⟨g, 0, none⟩) Z.length cap) Z) (i : Nat) (z : Nz) (hz : Z[i]? = some z) :
    (∀ j u, (nzc z)[j]? = some u → w.cell? ⟨g, i * 7 + j, none⟩ = some u) ∧ ∀ j, w.frozen? ⟨g, i * 7 + j, none⟩ = false := by
  have hi := (List.getElem?_eq_some_iff.1 hz).1
  obtain ⟨c, hc, hM, hcc, hf⟩ := Kd.R_elem h.rows [] (i : Int) (by omega) (by omega)
  rw [Int.toNat_natCast] at hM hcc hf
  have : c = nzc z := by
    have := hM.1
    rw [List.getD_eq_getElem?_getD, List.getElem?_map, hz] at this
    exact this
  subst this
  exact ⟨hcc, hf⟩
theorem nz_one {base p : Nat} {w : World} {v : Value} {Z : List Nz} (h : am base w p v Z) {i : Nat} {z : Nz} (hz : Z[i]? = some z) : z.2.1.oneCell' = true ∧ z.2.2.oneCell' = true := by
  obtain ⟨A, c, e⟩ := Kd.R_slice (h.ats i z hz)
  obtain ⟨A', c', e'⟩ := Kd.R_slice (h.kis i z hz)
  rw [e, e']
  exact ⟨rfl, rfl⟩
/- A node is another one. -/
theorem am_put {base p i : Nat} {w W : World} {v : Value} {Z : List Nz} {z z' : Nz} (h : am base w p v Z) (hz : Z[i]? = some z) (hbox : W.heap[p]? = some (.cells #[v] 99 (0, 0))) (hrows : Kd.R (Kd.raw 7) 96 W base (fun k => some k = v.ownBlock) v ((Z.set i z').map nzc))
    (hoth : ∀ (j : Nat) (y : Nz) (k : Nat), j ≠ i → Z[j]? = some y → (some k = y.2.1.ownBlock ∨ some k = y.2.2.ownBlock) → W.heap[k]? = w.heap[k]?)
    (hA : Kd.R k103 103 W base (fun k => some k = z'.2.1.ownBlock) z'.2.1 z'.1.f0.f3) (hK : Kd.R (Kd.int .i64) 3 W base (fun k => some k = z'.2.2.ownBlock) z'.2.2 z'.1.f2)
    (hsep : ∀ (j : Nat) (y : Nz) (k : Nat), j ≠ i → Z[j]? = some y → z'.2.2.ownBlock = some k → y.2.2.ownBlock ≠ some k) : am base W p v (Z.set i z') := by
  have hi := (List.getElem?_eq_some_iff.1 hz).1
  have at_ : ∀ j y, (Z.set i z')[j]? = some y → (j = i ∧ y = z') ∨ (j ≠ i ∧ Z[j]? = some y) := by
    intro j y hy
    by_cases e : j = i
    · subst e
      rw [List.getElem?_set_self hi] at hy
      exact .inl ⟨rfl, (Option.some.inj hy).symm⟩
    · rw [List.getElem?_set_ne (Ne.symm e)] at hy
      exact .inr ⟨e, hy⟩
  refine ⟨hbox, hrows, fun j y hy => ?_, fun j y hy => ?_, fun j1 j2 y1 y2 k h1 h2 hne e1 e2 => ?_, h.hp, by rw [List.length_set]; exact h.ne⟩
  · rcases at_ j y hy with ⟨rfl, rfl⟩ | ⟨e, hy⟩
    · exact hA
    · exact Kd.R_move (h.ats j y hy) (fun k hk => hoth j y k e hy (.inl hk))
  · rcases at_ j y hy with ⟨rfl, rfl⟩ | ⟨e, hy⟩
    · exact hK
    · exact Kd.R_move (h.kis j y hy) (fun k hk => hoth j y k e hy (.inr hk))
  · rcases at_ j1 y1 h1 with ⟨a1, a2⟩ | ⟨q1, r1⟩
    · rcases at_ j2 y2 h2 with ⟨b1, b2⟩ | ⟨q2, r2⟩
      · exact hne (a1.trans b1.symm)
      · subst a2
        exact hsep j2 y2 k q2 r2 e1 e2
    · rcases at_ j2 y2 h2 with ⟨b1, b2⟩ | ⟨q2, r2⟩
      · subst b2
        exact hsep j1 y1 k q1 r1 e2 e1
      · exact h.sep j1 j2 y1 y2 k r1 r2 hne e1 e2
/- One cell of a node is written. -/
theorem rows_set {base p g cap i j : Nat} {w : World} {Z : List Nz} {z z' : Nz} {u : Value} (h : am base w p (.slice (some ⟨g, 0, none⟩) Z.length cap) Z) (hz : Z[i]? = some z) (hj : j < 7) (hc : nzc z' = (nzc z).take j ++ [u] ++ (nzc z).drop (j + 1)) (h1 : ∀ q ∈ nzc z', q.oneCell' = true) :
    Kd.R (Kd.raw 7) 96 (w.setCell ⟨g, i * 7 + j, none⟩ u) base (fun k => some k = (Value.slice (some ⟨g, 0, none⟩) Z.length cap).ownBlock) (.slice (some ⟨g, 0, none⟩) Z.length cap) ((Z.set i z').map nzc) := by
  have hi := (List.getElem?_eq_some_iff.1 hz).1
  obtain ⟨hcc, _⟩ := am_cells h i z hz
  have := (Kd.R_seg (okp := fun _ => False) h.rows (i : Int) (by omega) (by omega) (c := nzc z) (seg := [u]) (j := j) rfl (by rw [Int.toNat_natCast]; exact hcc) (by show j + 1 ≤ 7; omega) (x' := nzc z') ⟨by rw [hc]; rfl, by rw [show (nzc z).take j ++ [u] ++ (nzc z).drop (j + [u].length) = nzc z' from hc.symm]; rfl, by rw [show (nzc z).take j ++ [u] ++ (nzc z).drop (j + [u].length) = nzc z' from hc.symm]; exact h1⟩ (fun _ h => h.elim)).1
  rw [Int.toNat_natCast] at this
  rw [List.map_set]
  exact this
theorem nzc_one {z : Nz} (h1 : z.2.1.oneCell' = true) (h2 : z.2.2.oneCell' = true) : ∀ q ∈ nzc z, q.oneCell' = true := by
  intro q hq
  simp only [nzc, List.mem_cons, List.not_mem_nil, or_false] at hq
  rcases hq with rfl | rfl | rfl | rfl | rfl | rfl | rfl <;> first | rfl | exact h1 | exact h2
/- Two blocks of other types. -/
theorem am_pg {base p g cap : Nat} {w : World} {Z : List Nz} (h : am base w p (.slice (some ⟨g, 0, none⟩) Z.length cap) Z) : p ≠ g ∧ (∃ cells, w.heap[g]? = some (.cells cells 96 (0, 0))) := by
  obtain ⟨cells, hc⟩ := Kd.R_typed h.rows g rfl
  exact ⟨blk_ne h.box hc (by decide), cells, hc⟩
theorem am_ne {base p g cap : Nat} {w : World} {Z : List Nz} (h : am base w p (.slice (some ⟨g, 0, none⟩) Z.length cap) Z) {i k : Nat} {z : Nz} (hz : Z[i]? = some z) (hk : some k = z.2.1.ownBlock ∨ some k = z.2.2.ownBlock) : k ≠ p ∧ k ≠ g := by
  obtain ⟨_, cg, hg⟩ := am_pg h
  rcases hk with hk | hk
  · obtain ⟨c, hc⟩ := Kd.R_typed (h.ats i z hz) k hk.symm
    exact ⟨blk_ne hc h.box (by decide), blk_ne hc hg (by decide)⟩
  · obtain ⟨c, hc⟩ := Kd.R_typed (h.kis i z hz) k hk.symm
    exact ⟨blk_ne hc h.box (by decide), blk_ne hc hg (by decide)⟩
/- A number, a text of a node is written. -/
theorem am_cell {base p g cap i j : Nat} {w : World} {Z : List Nz} {z z' : Nz} {u : Value} (h : am base w p (.slice (some ⟨g, 0, none⟩) Z.length cap) Z) (hz : Z[i]? = some z) (hj : j < 7) (hc : nzc z' = (nzc z).take j ++ [u] ++ (nzc z).drop (j + 1)) (hA : z'.2 = z.2) (hA2 : z'.1.f0.f3 = z.1.f0.f3) (hA3 : z'.1.f2 = z.1.f2) :
    am base (w.setCell ⟨g, i * 7 + j, none⟩ u) p (.slice (some ⟨g, 0, none⟩) Z.length cap) (Z.set i z') := by
  obtain ⟨h1, h2⟩ := nz_one h hz
  have hpg := am_pg h
  have far : ∀ k, k ≠ g → (w.setCell ⟨g, i * 7 + j, none⟩ u).heap[k]? = w.heap[k]? := fun k hk => Below.heap_setCell w ⟨g, i * 7 + j, none⟩ u k hk
  refine am_put h hz ((far p hpg.1).trans h.box) (rows_set h hz hj hc (nzc_one (by rw [hA]; exact h1) (by rw [hA]; exact h2))) (fun j' y k _ hy hk => far k (am_ne h hy hk).2) ?_ ?_ ?_
  · rw [hA, hA2]; exact Kd.R_move (h.ats i z hz) (fun k hk => far k (am_ne h hz (.inl hk)).2)
  · rw [hA, hA3]; exact Kd.R_move (h.kis i z hz) (fun k hk => far k (am_ne h hz (.inr hk)).2)
  · intro j' y k hne hy e
    rw [hA] at e
    exact h.sep i j' z y k hz hy (Ne.symm hne) e
/- A node's kids are another row. -/
theorem am_kids {base p g cap i : Nat} {w w1 : World} {Z : List Nz} {z : Nz} {v' : Value} {ki : List Int} (h : am base w p (.slice (some ⟨g, 0, none⟩) Z.length cap) Z) (hz : Z[i]? = some z) (hR : Kd.R (Kd.int .i64) 3 w1 base (fun k => some k = v'.ownBlock) v' ki) (hg : w.grownBy w1 z.2.2.ownBlock) (hn : v'.ownBlock = none ∨ v'.ownBlock = z.2.2.ownBlock ∨ ∃ b, v'.ownBlock = some b ∧ w.heap.size ≤ b) :
    am base (w1.setCell ⟨g, i * 7 + 6, none⟩ v') p (.slice (some ⟨g, 0, none⟩) Z.length cap) (Z.set i ({z.1 with f2 := ki}, z.2.1, v')) ∧ w1.cell? ⟨g, i * 7 + 6, none⟩ = some z.2.2 ∧ w1.frozen? ⟨g, i * 7 + 6, none⟩ = false := by
  obtain ⟨h1, h2⟩ := nz_one h hz
  obtain ⟨hpg, cg, hcg⟩ := am_pg h
  have hv1 : v'.oneCell' = true := by obtain ⟨A, c, e⟩ := Kd.R_slice hR; rw [e]; rfl
  have keep : ∀ k, k < w.heap.size → some k ≠ z.2.2.ownBlock → w1.heap[k]? = w.heap[k]? := fun k hk hne => hg.block k hk hne
  have hgn : some g ≠ z.2.2.ownBlock := fun e => (am_ne h hz (.inr e)).2 rfl
  have hpn : some p ≠ z.2.2.ownBlock := fun e => (am_ne h hz (.inr e)).1 rfl
  have far : ∀ k, k ≠ g → (w1.setCell ⟨g, i * 7 + 6, none⟩ v').heap[k]? = w1.heap[k]? := fun k hk => Below.heap_setCell w1 ⟨g, i * 7 + 6, none⟩ v' k hk
  -- the arena at w1 but for this row: rows alone
  have hr1 : Kd.R (Kd.raw 7) 96 w1 base (fun k => some k = (Value.slice (some ⟨g, 0, none⟩) Z.length cap).ownBlock) (.slice (some ⟨g, 0, none⟩) Z.length cap) (Z.map nzc) :=
    Kd.R_move h.rows (fun k hk => by
      have : k = g := by injection hk
      subst this
      exact keep _ (blk_lt hcg) hgn)
  have hi := (List.getElem?_eq_some_iff.1 hz).1
  obtain ⟨c, hcl, hM, hcc, hf⟩ := Kd.R_elem hr1 [] (i : Int) (by omega) (by omega)
  rw [Int.toNat_natCast] at hM hcc hf
  have hce : c = nzc z := by
    have := hM.1
    rw [List.getD_eq_getElem?_getD, List.getElem?_map, hz] at this
    exact this
  subst hce
  have hs := (Kd.R_seg (okp := fun _ => False) hr1 (i : Int) (by omega) (by omega) (c := nzc z) (seg := [v']) (j := 6) rfl (by rw [Int.toNat_natCast]; exact hcc) (by show 6 + 1 ≤ 7; omega) (x' := nzc ({z.1 with f2 := ki}, z.2.1, v')) ⟨rfl, rfl, nzc_one (z := ({z.1 with f2 := ki}, z.2.1, v')) h1 hv1⟩ (fun _ h => h.elim)).1
  rw [Int.toNat_natCast] at hs
  refine ⟨am_put h hz (((far p hpg).trans (keep p (blk_lt h.box) hpn)).trans h.box) (by rw [List.map_set]; exact hs) ?_ ?_ ?_ ?_, hcc 6 _ rfl, hf 6⟩
  · intro j y k hne hy hk
    obtain ⟨q1, q2⟩ := am_ne h hy hk
    rw [far k q2]
    refine keep k (am_lt h (.inr (.inr ⟨j, y, hy, hk⟩))) (fun e => ?_)
    rcases hk with hk | hk
    · obtain ⟨c1, hc1⟩ := Kd.R_typed (h.ats j y hy) k hk.symm
      obtain ⟨c2, hc2⟩ := Kd.R_typed (h.kis i z hz) k e.symm
      exact blk_ne hc1 hc2 (by decide) rfl
    · exact h.sep i j z y k hz hy (Ne.symm hne) e.symm hk.symm
  · refine Kd.R_move (h.ats i z hz) (fun k hk => ?_)
    obtain ⟨q1, q2⟩ := am_ne h hz (.inl hk)
    rw [far k q2]
    refine keep k (am_lt h (.inr (.inr ⟨i, z, hz, .inl hk⟩))) (fun e => ?_)
    obtain ⟨c1, hc1⟩ := Kd.R_typed (h.ats i z hz) k hk.symm
    obtain ⟨c2, hc2⟩ := Kd.R_typed (h.kis i z hz) k e.symm
    exact blk_ne hc1 hc2 (by decide) rfl
  · refine Kd.R_move hR (fun k hk => far k ?_)
    obtain ⟨c1, hc1⟩ := Kd.R_typed hR k hk.symm
    rintro rfl
    rw [keep _ (blk_lt hcg) hgn] at hc1
    exact blk_ne hc1 hcg (by decide) rfl
  · intro j y k hne hy e e2
    rcases hn with hn | hn | ⟨b, hn, hb⟩
    · rw [show ({z.1 with f2 := ki}, z.2.1, v').2.2 = v' from rfl, hn] at e
      cases e
    · exact h.sep i j z y k hz hy (Ne.symm hne) (hn.symm.trans e) e2
    · have hb' : b = k := by
        have : some b = some k := hn.symm.trans e
        injection this
      have := am_lt h (.inr (.inr ⟨j, y, hy, .inr e2.symm⟩))
      omega
/- The methods' walks: is, Len, Parent. -/
def inZ (n : Nat) (i : Int) : Bool := decide (0 ≤ i) && decide (i < (n : Int))
theorem inZ_nat {n : Nat} {i : Int} (h : inZ n i = true) : ∃ k : Nat, i = (k : Int) ∧ k < n := by
  unfold inZ at h
  simp only [Bool.and_eq_true, decide_eq_true_eq] at h
  exact ⟨i.toNat, by omega, by omega⟩
set_option maxHeartbeats 2000000 in
theorem ar_is {base p : Nat} {w : World} {v : Value} {Z : List Nz} (h : am base w p v Z) (i : Int) :
    Calls Try.prog 65 #[.pointer (some ⟨p, 0, none⟩), .int .i64 i] w fun e w' => e = .returned (.bool (inZ Z.length i)) ∧ w = w' := by
  obtain ⟨g, cap, rfl, hc, hg⟩ := am_hdr h
  have z0 := blk_cell h.box 0
  obtain ⟨n, hn⟩ : ∃ n, n = Z.length := ⟨_, rfl⟩
  rw [← hn] at z0 ⊢
  replace z0 : w.cell? ⟨p, 0, none⟩ = some (.slice (some ⟨g, 0, none⟩) n cap) := z0
  clear hn h hc
  unfold inZ
  by_cases c1 : 0 ≤ i
  · have c1b : decide (0 ≤ i) = true := decide_eq_true c1
    rw [c1b]
    go_enter Try.func65, Try.ntmps65
    go_wp2
    go_ret
    exact ⟨by simp, rfl⟩
  · have c1b : decide (0 ≤ i) = false := decide_eq_false c1
    rw [c1b]
    go_enter Try.func65, Try.ntmps65
    go_wp2
    go_ret
    exact ⟨by simp, rfl⟩
theorem ar_isB {base p : Nat} {w : World} {v : Value} {Z : List Nz} (h : am base w p v Z) (i : Int) (b : Bool) (hb : inZ Z.length i = b) :
    Calls Try.prog 65 #[.pointer (some ⟨p, 0, none⟩), .int .i64 i] w fun e w' => e = .returned (.bool b) ∧ w = w' := by
  subst hb; exact ar_is h i
theorem ar_Len {base p : Nat} {w : World} {v : Value} {Z : List Nz} (h : am base w p v Z) :
    Calls Try.prog 30 #[.pointer (some ⟨p, 0, none⟩)] w fun e w' => e = .returned (.int .i64 (Z.length : Int)) ∧ w = w' := by
  obtain ⟨g, cap, rfl, hc, hg⟩ := am_hdr h
  have z0 := blk_cell h.box 0
  obtain ⟨n, hn⟩ : ∃ n, n = Z.length := ⟨_, rfl⟩
  rw [← hn] at z0 ⊢
  replace z0 : w.cell? ⟨p, 0, none⟩ = some (.slice (some ⟨g, 0, none⟩) n cap) := z0
  clear hn h hc
  go_enter Try.func30, Try.ntmps30
  go_wp2
  go_ret
  exact ⟨rfl, rfl⟩
def paZ (Z : List Nz) (i : Int) : Int := if inZ Z.length i = true then (match Z[i.toNat]? with | some z => z.1.f1 | none => -1) else -1
set_option maxHeartbeats 2000000 in
theorem ar_Parent {base p : Nat} {w : World} {v : Value} {Z : List Nz} (h : am base w p v Z) (i r : Int) (hr : paZ Z i = r) :
    Calls Try.prog 37 #[.pointer (some ⟨p, 0, none⟩), .int .i64 i] w fun e w' => e = .returned (.int .i64 r) ∧ w = w' := by
  have H := Aside0.mk h
  obtain ⟨g, cap, rfl, hc, hg⟩ := am_hdr h
  unfold paZ at hr
  by_cases c : inZ Z.length i = true
  · rw [if_pos c] at hr
    have C := Aside0.mk c
    obtain ⟨k, rfl, hk⟩ := inZ_nat c
    obtain ⟨z, hz⟩ : ∃ z, Z[k]? = some z := ⟨_, List.getElem?_eq_getElem hk⟩
    rw [Int.toNat_natCast, hz] at hr
    have z5 := (am_cells h k z hz).1 5 _ rfl
    have z0 : w.cell? ⟨p, 0, none⟩ = some (.slice (some ⟨g, 0, none⟩) Z.length cap) := blk_cell h.box 0
    obtain ⟨n, hn⟩ : ∃ n, n = Z.length := ⟨_, rfl⟩
    rw [← hn] at z0 hk hc
    replace hr : z.1.f1 = r := hr
    rw [hr] at z5
    clear hn hr hz h c
    have k1 : (0 : Int) ≤ (k : Int) := by omega
    have k2 : (k : Int) < (n : Int) := by omega
    go_enter Try.func37, Try.ntmps37
    go_wp2_with (go_at_call 65; refine (ar_isB H.out _ _ C.out).mono ?_; rintro e w1 ⟨rfl, rfl⟩)
    go_ret
    exact ⟨rfl, rfl⟩
  · rw [if_neg c] at hr
    have C := Aside0.mk (show inZ Z.length i = false by simpa using c)
    clear c h
    subst hr
    go_enter Try.func37, Try.ntmps37
    go_wp2_with (go_at_call 65; refine (ar_isB H.out _ _ C.out).mono ?_; rintro e w1 ⟨rfl, rfl⟩)
    go_ret
    exact ⟨rfl, rfl⟩
def hoB (kd : Int) : Bool := (kd == 0) || (kd == 1)
theorem ar_holds {w : World} {g o : Nat} {kd : Int} (hc : w.cell? ⟨g, o, none⟩ = some (.int .i64 kd)) (b : Bool) (hb : hoB kd = b) :
    Calls Try.prog 66 #[.pointer (some ⟨g, o, none⟩)] w fun e w' => e = .returned (.bool b) ∧ w = w' := by
  unfold hoB at hb
  cases c1 : (kd == 0) with
  | true =>
    rw [c1] at hb
    have hb : b = true := hb.symm
    subst hb
    go_enter Try.func66, Try.ntmps66
    go_wp2
    go_ret
    exact ⟨rfl, rfl⟩
  | false =>
    rw [c1] at hb
    have hb : b = (kd == 1) := hb.symm
    subst hb
    go_enter Try.func66, Try.ntmps66
    go_wp2
    go_ret
    exact ⟨rfl, rfl⟩
set_option maxHeartbeats 2000000 in
theorem ar_Kids {base p : Nat} {w : World} {v : Value} {Z : List Nz} (h : am base w p v Z) (i : Int) (r : List Int) (hl : r.length ≤ 100000) (hr : (if inZ Z.length i = true then (match Z[i.toNat]? with | some z => z.1.f2 | none => []) else []) = r) :
    Calls Try.prog 36 #[.pointer (some ⟨p, 0, none⟩), .int .i64 i] w fun e w' => ∃ v', e = .returned v' ∧ Kd.R (Kd.int .i64) 3 w' w.heap.size (fun _ => True) v' r ∧ Below w.heap.size w w' := by
  have H := Aside0.mk h
  have HL := Aside0.mk hl
  obtain ⟨g, cap, rfl, hc, hg⟩ := am_hdr h
  by_cases c : inZ Z.length i = true
  · rw [if_pos c] at hr
    have C := Aside0.mk c
    obtain ⟨k, rfl, hk⟩ := inZ_nat c
    obtain ⟨z, hz⟩ : ∃ z, Z[k]? = some z := ⟨_, List.getElem?_eq_getElem hk⟩
    rw [Int.toNat_natCast, hz] at hr
    replace hr : z.1.f2 = r := hr
    have z6 := (am_cells h k z hz).1 6 _ rfl
    have z0 : w.cell? ⟨p, 0, none⟩ = some (.slice (some ⟨g, 0, none⟩) Z.length cap) := blk_cell h.box 0
    obtain ⟨A, q, e⟩ := Kd.R_slice (h.kis k z hz)
    have K := Aside0.mk (show Kd.R (Kd.int .i64) 3 w base (fun k => some k = z.2.2.ownBlock) (.slice A r.length q) r by rw [← hr, ← e]; exact h.kis k z hz)
    rw [e, hr] at z6
    obtain ⟨n, hn⟩ : ∃ n, n = Z.length := ⟨_, rfl⟩
    rw [← hn] at z0 hk hc
    clear hn hr hz h c e hl
    have k1 : (0 : Int) ≤ (k : Int) := by omega
    have k2 : (k : Int) < (n : Int) := by omega
    go_enter Try.func36, Try.ntmps36
    go_wp2_with (first | (go_at_call 65; refine (ar_isB H.out _ _ C.out).mono ?_; rintro e w1 ⟨rfl, rfl⟩) | (go_at_call 77; refine (slices_Clone_int_int.calls _ _ r r _ (Kd.R_reads' K.out).2.2 (Kd.R_reads' K.out).2.1 (by unfold slices_Clone_int_int.f; have := HL.out; simp; omega)).mono ?_; rintro e w1 ⟨v1, rfl, hR, hb⟩; have R1 := Aside0.mk hR; have B1 := Aside0.mk hb; clear hR hb))
    go_ret
    exact ⟨_, rfl, R1.out, B1.out⟩
  · rw [if_neg c] at hr
    have C := Aside0.mk (show inZ Z.length i = false by simpa using c)
    clear c h hl
    subst hr
    go_enter Try.func36, Try.ntmps36
    go_wp2_with (go_at_call 65; refine (ar_isB H.out _ _ C.out).mono ?_; rintro e w1 ⟨rfl, rfl⟩)
    go_ret
    exact ⟨_, rfl, Kd.R_nil _ _ _ _ _, Below.refl _ _⟩
/- within: up from a node. -/
def upZ (Z : List Nz) : Nat → Int → Int → Bool
  | 0, n, f => n == f
  | k + 1, n, f => if 0 ≤ n ∧ n ≠ f then upZ Z k (match Z[n.toNat]? with | some z => z.1.f1 | none => -1) f else n == f
def meW (rk : Nat → Nat) (m : Int) : Nat := if m < 0 then 0 else rk m.toNat + 1
structure rkZ (Z : List Nz) (rk : Nat → Nat) : Prop where
  par : ∀ (i : Nat) (z : Nz), Z[i]? = some z → z.1.f1 = -1 ∨ ∃ j : Nat, z.1.f1 = (j : Int) ∧ j < Z.length ∧ rk j < rk i
set_option maxHeartbeats 4000000 in
theorem ar_within {base p : Nat} {w : World} {v : Value} {Z : List Nz} (h : am base w p v Z) (rk : Nat → Nat) (hrk : rkZ Z rk) (a f : Int) (ha : a = -1 ∨ inZ Z.length a = true) (k : Nat) (hk : a = -1 ∨ rk a.toNat < k) (b : Bool) (hb : upZ Z k a f = b) :
    Calls Try.prog 67 #[.pointer (some ⟨p, 0, none⟩), .int .i64 a, .int .i64 f] w fun e w' => e = .returned (.bool b) ∧ w = w' := by
  have H := Aside0.mk h
  have RK := Aside0.mk hrk
  obtain ⟨g, cap, rfl, hc, hg⟩ := am_hdr h
  have z0 : w.cell? ⟨p, 0, none⟩ = some (.slice (some ⟨g, 0, none⟩) Z.length cap) := blk_cell h.box 0
  obtain ⟨n, hn⟩ : ∃ n, n = Z.length := ⟨_, rfl⟩
  have HN := Aside0.mk hn
  rw [← hn] at z0 hc ha
  have I0 := Aside0.mk (show (a = -1 ∨ inZ n a = true) ∧ (a = -1 ∨ rk a.toNat < k) ∧ upZ Z k a f = b from ⟨ha, hk, hb⟩)
  clear hn h hrk ha hk hb
  go_enter Try.func67, Try.ntmps67
  go_wp2
  go_loop [1] (fun t1 => ∃ (m : Int) (q : Nat), t1 = .int .i64 m ∧ Aside0 ((m = -1 ∨ inZ n m = true) ∧ (m = -1 ∨ rk m.toNat < q) ∧ upZ Z q m f = b)) (fun t1 => meW rk (intOf t1))
  case atStart => exact ⟨a, k, rfl, I0⟩
  case round =>
    obtain ⟨m, q, rfl, I⟩ := hrel
    clear I0
    by_cases c1 : 0 ≤ m
    · have c1b : decide (0 ≤ m) = true := decide_eq_true c1
      cases c2 : (m != f) with
      | true =>
        have c2' : m ≠ f := by simpa using c2
        have hm : inZ n m = true := I.out.1.resolve_left (by omega)
        obtain ⟨j, rfl, hj⟩ := inZ_nat hm
        obtain ⟨z, hz⟩ : ∃ z, Z[j]? = some z := ⟨_, List.getElem?_eq_getElem (by have := HN.out; omega)⟩
        have hq : rk j < q := by have := I.out.2.1.resolve_left (by omega); rwa [Int.toNat_natCast] at this
        obtain ⟨q, rfl⟩ : ∃ q', q = q' + 1 := ⟨q - 1, by omega⟩
        have hu := I.out.2.2
        unfold upZ at hu
        rw [if_pos ⟨c1, c2'⟩, Int.toNat_natCast, hz] at hu
        have z5 := (am_cells (by have := H.out; exact this) j z hz).1 5 _ rfl
        have hp := RK.out.par j z hz
        obtain ⟨x, hx⟩ : ∃ x, x = z.1.f1 := ⟨_, rfl⟩
        rw [← hx] at z5 hp
        have hux : upZ Z q x f = b := by rw [hx]; exact hu
        have NI := Aside0.mk (show (x = -1 ∨ inZ n x = true) ∧ (x = -1 ∨ rk x.toNat < q) ∧ upZ Z q x f = b by
          refine ⟨?_, ?_, hux⟩
          · rcases hp with h1 | ⟨y, h1, h2, h3⟩
            · exact .inl h1
            · refine .inr ?_
              rw [h1]
              unfold inZ
              rw [decide_eq_true (by omega), decide_eq_true (by have := HN.out; omega)]; rfl
          · rcases hp with h1 | ⟨y, h1, h2, h3⟩
            · exact .inl h1
            · refine .inr ?_
              rw [h1, Int.toNat_natCast]; omega)
        have ME := Aside0.mk (show (if x < 0 then 0 else rk x.toNat + 1) < rk j + 1 by
          rcases hp with h1 | ⟨y, h1, h2, h3⟩
          · rw [if_pos (by omega)]; omega
          · rw [h1, if_neg (by omega), Int.toNat_natCast]; omega)
        have j1 : (j : Int) < (n : Int) := by omega
        clear hu hz hp hx hux hq hm I c2'
        go_wp2
        go_round
        case rel => exact ⟨x, q, rfl, NI⟩
        case measure =>
          have := ME.out
          show meW rk x < meW rk (j : Int)
          unfold meW
          rw [if_neg (show ¬ ((j : Int) < 0) by omega), Int.toNat_natCast]
          exact this
      | false =>
        have c2' : m = f := by simpa using c2
        subst c2'
        have hu := I.out.2.2
        have hb : b = true := by
          rw [← hu]
          cases q with
          | zero => simp [upZ]
          | succ q => unfold upZ; rw [if_neg (fun e => e.2 rfl)]; simp
        subst hb
        clear hu I
        go_wp2
        go_ret
        exact ⟨by simp, rfl⟩
    · have c1b : decide (0 ≤ m) = false := decide_eq_false c1
      have hm : m = -1 := by
        rcases I.out.1 with h | h
        · exact h
        · obtain ⟨j, h1, _⟩ := inZ_nat h
          omega
      subst hm
      have hu := I.out.2.2
      have hb : b = ((-1 : Int) == f) := by
        rw [← hu]
        cases q with
        | zero => simp [upZ]
        | succ q => unfold upZ; rw [if_neg (fun e => by omega)]
      subst hb
      clear hu I
      go_wp2
      go_ret
      exact ⟨rfl, rfl⟩
/- What changes. -/
structure chg (F : Nat → Prop) (w w' : World) : Prop where
  os : w'.os = w.os
  tape : w'.tape = w.tape
  output : w'.output = w.output
  size : w.heap.size ≤ w'.heap.size
  block : ∀ k, k < w.heap.size → ¬ F k → w'.heap[k]? = w.heap[k]?
theorem chg_refl (F : Nat → Prop) (w : World) : chg F w w := ⟨rfl, rfl, rfl, Nat.le_refl _, fun _ _ _ => rfl⟩
theorem chg_grown {F : Nat → Prop} {w w' : World} {r : Option Nat} (h : w.grownBy w' r) (hr : ∀ k, some k = r → F k) : chg F w w' :=
  ⟨h.os, h.tape, h.output, h.size, fun k hk hn => h.block k hk (fun e => hn (hr k e))⟩
theorem chg_below {F : Nat → Prop} {w w' : World} (h : Below w.heap.size w w') : chg F w w' := ⟨h.os, h.tape, h.output, h.size, fun k hk _ => h.block k hk⟩
theorem chg_set {F : Nat → Prop} (w : World) (g j : Nat) (u : Value) (hF : F g) : chg F w (w.setCell ⟨g, j, none⟩ u) :=
  chg_grown (gr_set w g j u) (fun k hk => by injection hk with hk; subst hk; exact hF)
theorem chg_trans {F G : Nat → Prop} {w w1 w2 : World} (h : chg F w w1) (k : chg G w1 w2) (hG : ∀ i, G i → F i ∨ w.heap.size ≤ i) : chg F w w2 :=
  ⟨k.os.trans h.os, k.tape.trans h.tape, k.output.trans h.output, Nat.le_trans h.size k.size, fun i hi hn => (k.block i (Nat.lt_of_lt_of_le hi h.size) (fun e => (hG i e).elim hn (fun q => by omega))).trans (h.block i hi hn)⟩
theorem chg_drew {F : Nat → Prop} (w : World) : chg F w w.drew := ⟨rfl, rfl, rfl, Nat.le_refl _, fun _ _ _ => rfl⟩
theorem chg_to_below {F : Nat → Prop} {b : Nat} {w0 w w' : World} (hB : Below b w0 w) (h : chg F w w') (hF : ∀ k, F k → b ≤ k) (hb : b ≤ w0.heap.size) : Below b w0 w' :=
  ⟨h.os.trans hB.os, h.tape.trans hB.tape, h.output.trans hB.output, Nat.le_trans hB.size h.size, fun k hk => (h.block k (Nat.lt_of_lt_of_le (Nat.lt_of_lt_of_le hk hb) hB.size) (fun e => by have := hF k e; omega)).trans (hB.block k hk)⟩
theorem Index_loop (l : List Int) (x : Int) (a : Nat) (ha : l[a]? = some x) (hl : l.length ≤ 100000) (hf : ∀ b, b < a → l[b]? ≠ some x) : ∀ (m b k : Nat), b + m = a → m < k → slices_Index_int_int.l0 k l x (l.length : Int) (b : Int) = some (a : Int)
  | 0, b, k, hb, hk => by
    obtain ⟨k, rfl⟩ : ∃ q, k = q + 1 := ⟨k - 1, by omega⟩
    have hlt := (List.getElem?_eq_some_iff.1 ha).1
    obtain rfl : b = a := by omega
    rw [slices_Index_int_int.l0, if_pos (by omega), if_pos (by omega), if_pos (by omega)]
    have : rd l (b : Int) = x := by
      unfold rd
      rw [Int.toNat_natCast, List.getD_eq_getElem?_getD, ha]; rfl
    rw [this, if_pos rfl]
  | m + 1, b, k, hb, hk => by
    obtain ⟨k, rfl⟩ : ∃ q, k = q + 1 := ⟨k - 1, by omega⟩
    have hlt := (List.getElem?_eq_some_iff.1 ha).1
    rw [slices_Index_int_int.l0, if_pos (by omega), if_pos (by omega), if_pos (by omega)]
    have : ¬ x = rd l (b : Int) := by
      intro e
      refine hf b (by omega) ?_
      unfold rd at e
      rw [Int.toNat_natCast, List.getD_eq_getElem?_getD] at e
      rw [List.getElem?_eq_getElem (show b < l.length by omega)] at e ⊢
      rw [e]; rfl
    rw [if_neg this, show wrap64 ((b : Int) + 1) = ((b + 1 : Nat) : Int) by unfold wrap64; omega]
    exact Index_loop l x a ha hl hf m (b + 1) k (by omega) (by omega)
theorem Index_ev (l : List Int) (x : Int) (a : Nat) (ha : l[a]? = some x) (hl : l.length ≤ 100000) (hf : ∀ b, b < a → l[b]? ≠ some x) : slices_Index_int_int.f (l.length + 1) l x = some (a : Int) := by
  have hlt := (List.getElem?_eq_some_iff.1 ha).1
  exact Index_loop l x a ha hl hf a 0 (l.length + 1) (by omega) (by omega)
theorem ar_deleteI {W : World} {base : Nat} {ok : Nat → Prop} {v : Value} {xs : List Int} (hR : Kd.R (Kd.int .i64) 3 W base ok v xs) (i : Nat) (hi : i < xs.length) (j : Int) (hj : j = ((i + 1 : Nat) : Int)) :
    Calls Try.prog 87 #[v, .int .i64 (i : Int), .int .i64 j] W fun e w' => ∃ v', e = .returned v' ∧ Kd.R (Kd.int .i64) 3 w' base (fun k => some k = v'.ownBlock) v' (xs.take i ++ xs.drop (i + 1)) ∧ W.grownBy w' v.ownBlock ∧ v'.ownBlock = v.ownBlock := by
  subst hj; exact ar_delete hR i hi
theorem am_pk {base p g cap i : Nat} {w : World} {Z : List Nz} {z : Nz} (h : am base w p (.slice (some ⟨g, 0, none⟩) Z.length cap) Z) (hz : Z[i]? = some z) : some p ≠ z.2.2.ownBlock := fun e => (am_ne h hz (.inr e)).1 rfl
theorem drawn_below {w w' : World} (hd : Drawn0 w w') : Below w.heap.size w w' := by
  obtain ⟨n, rfl⟩ := hd.out
  exact pw_below_drewN (Below.refl _ _) n
theorem ar_outNo {base p : Nat} {w : World} {v : Value} {Z : List Nz} (h : am base w p v Z) (i : Nat) (z : Nz) (hz : Z[i]? = some z) (hp : z.1.f1 = -1) :
    Calls Try.prog 68 #[.pointer (some ⟨p, 0, none⟩), .int .i64 (i : Int)] w fun e w' => e = .returned (.tuple #[]) ∧ w = w' := by
  obtain ⟨g, cap, rfl, hc, hg⟩ := am_hdr h
  have hi := (List.getElem?_eq_some_iff.1 hz).1
  have z0 : w.cell? ⟨p, 0, none⟩ = some (.slice (some ⟨g, 0, none⟩) Z.length cap) := blk_cell h.box 0
  have z5 := (am_cells h i z hz).1 5 _ rfl
  rw [hp] at z5
  obtain ⟨n, hn⟩ : ∃ n, n = Z.length := ⟨_, rfl⟩
  rw [← hn] at z0 hi
  clear hn h hc hz hp
  have i1 : (i : Int) < (n : Int) := by omega
  go_enter Try.func68, Try.ntmps68
  go_wp2
  first | refine bodyPost_ret (results_none rfl _ _ _) rfl ?_ | refine bodyPost_end (results_none rfl _ _ _) rfl ?_
  exact ⟨rfl, rfl⟩
theorem ar_Index {w : World} {A : Option Addr} {m c : Nat} {base : Nat} {ok : Nat → Prop} {l : List Int} {x r : Int} {k : Nat} (h : Kd.R (Kd.int .i64) 3 w base ok (.slice A m c) l) (hf : slices_Index_int_int.f k l x = some r) :
    Calls Try.prog 80 #[.slice A m c, .int .i64 x] w fun e w' => e = .returned (.int .i64 r) ∧ Drawn0 w w' := by
  obtain ⟨rfl, hc, hC⟩ := Kd.R_reads' h
  exact slices_Index_int_int.calls k A c l x r w hC hc hf
set_option maxRecDepth 100000 in
set_option maxHeartbeats 8000000 in
theorem ar_out {base p g cap : Nat} {w : World} {Z : List Nz} (h : am base w p (.slice (some ⟨g, 0, none⟩) Z.length cap) Z) (i j a : Nat) (z y : Nz) (hz : Z[i]? = some z) (hy : Z[j]? = some y) (hij : i ≠ j) (hp : z.1.f1 = (j : Int)) (ha : y.1.f2[a]? = some (i : Int)) (hf : ∀ b, b < a → y.1.f2[b]? ≠ some (i : Int)) (hl : y.1.f2.length ≤ 100000) :
    Calls Try.prog 68 #[.pointer (some ⟨p, 0, none⟩), .int .i64 (i : Int)] w fun e w' => e = .returned (.tuple #[]) ∧ ∃ v', am base w' p (.slice (some ⟨g, 0, none⟩) Z.length cap) ((Z.set j ({y.1 with f2 := y.1.f2.take a ++ y.1.f2.drop (a + 1)}, y.2.1, v')).set i ({z.1 with f1 := -1}, z.2)) ∧ v'.ownBlock = y.2.2.ownBlock ∧ chg (aFt p (.slice (some ⟨g, 0, none⟩) Z.length cap) Z) w w' := by
  have H := Aside0.mk h
  have HZ := Aside0.mk hz
  have HY := Aside0.mk hy
  have HIJ := Aside0.mk hij
  have hi := (List.getElem?_eq_some_iff.1 hz).1
  have hj := (List.getElem?_eq_some_iff.1 hy).1
  have hal := (List.getElem?_eq_some_iff.1 ha).1
  have IX := Aside0.mk (Index_ev y.1.f2 (i : Int) a ha hl hf)
  have AL := Aside0.mk hal
  have z5 := (am_cells h i z hz).1 5 _ rfl
  rw [hp] at z5
  have z6 := (am_cells h j y hy).1 6 _ rfl
  obtain ⟨y9, q, hv⟩ := Kd.R_slice (h.kis j y hy)
  obtain ⟨m, hm⟩ : ∃ m, m = y.1.f2.length := ⟨_, rfl⟩
  have HM := Aside0.mk hm
  have K := Aside0.mk (show Kd.R (Kd.int .i64) 3 w base (fun k => some k = y.2.2.ownBlock) (.slice y9 m q) y.1.f2 by rw [hm, ← hv]; exact h.kis j y hy)
  rw [hv, ← hm] at z6
  have YV := Aside0.mk (show y.2.2 = .slice y9 m q by rw [hv, hm])
  have z0 : w.cell? ⟨p, 0, none⟩ = some (.slice (some ⟨g, 0, none⟩) Z.length cap) := blk_cell h.box 0
  obtain ⟨n, hn⟩ : ∃ n, n = Z.length := ⟨_, rfl⟩
  have HN := Aside0.mk hn
  rw [← hn] at z0 hi hj ⊢
  have i1 : (i : Int) < (n : Int) := by omega
  have j1 : (j : Int) < (n : Int) := by omega
  have EA := Aside0.mk (show wrap64 ((a : Int) + 1) = ((a + 1 : Nat) : Int) by unfold wrap64; omega)
  have a1 : (a : Int) < 100000 := by omega
  have j0 : ¬ ((j : Int) < 0) := by omega
  clear h hz hy hij hp ha hf hl hv hm hn hal
  go_enter Try.func68, Try.ntmps68
  go_upto_region 3 with (go_at_call 80; refine (ar_Index K.out IX.out).mono ?_; rintro e w1 ⟨rfl, hd⟩; have D1 := Aside0.mk hd; clear hd)
  have HD := Aside0.mk (am_below H.out (below_step (drawn_below D1.out) (below_drew (Below.refl _ _))))
  have KD := Aside0.mk (show Kd.R (Kd.int .i64) 3 w1.drew base (fun k => some k = y.2.2.ownBlock) (.slice y9 m q) y.1.f2 from Kd.R_below K.out (below_step (drawn_below D1.out) (below_drew (Below.refl _ _))))
  have Z0 := Aside0.mk (show w1.drew.cell? ⟨p, 0, none⟩ = some (.slice (some ⟨g, 0, none⟩) n cap) by rw [HN.out]; exact blk_cell HD.out.box 0)
  have Z6 := Aside0.mk (show w1.drew.cell? ⟨g, j * 7 + 6, none⟩ = some (.slice y9 m q) by rw [← YV.out]; exact (am_cells HD.out j y HY.out).1 6 _ rfl)
  clear z0 z5 z6
  refine start_ (n := 20) (S := fun w' => w'.cell? ⟨p, 0, none⟩ = some (.slice (some ⟨g, 0, none⟩) n cap) ∧ w'.cell? ⟨g, j * 7 + 6, none⟩ = some (.slice y9 m q)) (ds := [19]) #[false, false, false, false, false, false, false, false, false, false, false, false, false, false, false, false, false, false, false, false] (by kernel_rfl) rfl rfl ⟨(by exact Z0.out), (by exact Z6.out)⟩ (fun hHeld => ?_)
  refine pure_ (i := 0) (N := some 26) (v := ?_) (a' := ?_) #[true, false, false, false, false, false, false, false, false, false, false, false, false, false, false, false, false, false, false, false] rfl rfl (by kernel_rfl) (fun _ _ _ h => h) (Or.inl ⟨by rfl, ?_⟩) ?_ ?_
  rotate_left
  · intro w'
    go_simp
    with_reducible rfl
  rotate_left
  · simp only [Act.put, List.setIfInBounds_toArray, List.set_cons_zero, List.set_cons_succ, i64_w, i32_w]
    rfl
  refine pure_ (i := 1) (N := some 27) (v := ?_) (a' := ?_) #[true, true, false, false, false, false, false, false, false, false, false, false, false, false, false, false, false, false, false, false] rfl rfl (by kernel_rfl) (fun _ _ _ h => h) (Or.inl ⟨by rfl, ?_⟩) ?_ ?_
  rotate_left
  · intro w'
    go_simp
    with_reducible rfl
  rotate_left
  · simp only [Act.put, List.setIfInBounds_toArray, List.set_cons_zero, List.set_cons_succ, i64_w, i32_w]
    rfl
  refine pure_ (i := 2) (N := some 28) (v := ?_) (a' := ?_) #[true, true, true, false, false, false, false, false, false, false, false, false, false, false, false, false, false, false, false, false] rfl rfl (by kernel_rfl) (fun _ _ _ h => h) (Or.inl ⟨by rfl, ?_⟩) ?_ ?_
  rotate_left
  · intro w'
    go_simp
    with_reducible rfl
  rotate_left
  · simp only [Act.put, List.setIfInBounds_toArray, List.set_cons_zero, List.set_cons_succ, i64_w, i32_w]
    rfl
  refine pure_ (i := 4) (N := some 30) (v := ?_) (a' := ?_) #[true, true, true, false, true, false, false, false, false, false, false, false, false, false, false, false, false, false, false, false] rfl rfl (by kernel_rfl) (fun _ _ _ h => h) (Or.inl ⟨by rfl, ?_⟩) ?_ ?_
  rotate_left
  · intro w'
    go_simp
    with_reducible rfl
  rotate_left
  · simp only [Act.put, List.setIfInBounds_toArray, List.set_cons_zero, List.set_cons_succ, i64_w, i32_w]
    rfl
  refine pure_ (i := 5) (N := some 31) (v := ?_) (a' := ?_) #[true, true, true, false, true, true, false, false, false, false, false, false, false, false, false, false, false, false, false, false] rfl rfl (by kernel_rfl) (fun _ _ _ h => h) (Or.inl ⟨by rfl, ?_⟩) ?_ ?_
  rotate_left
  · intro w'
    go_simp
    with_reducible rfl
  rotate_left
  · simp only [Act.put, List.setIfInBounds_toArray, List.set_cons_zero, List.set_cons_succ, i64_w, i32_w]
    rfl
  refine pure_ (i := 6) (N := some 32) (v := ?_) (a' := ?_) #[true, true, true, false, true, true, true, false, false, false, false, false, false, false, false, false, false, false, false, false] rfl rfl (by kernel_rfl) (fun _ _ _ h => h) (Or.inl ⟨by rfl, ?_⟩) ?_ ?_
  rotate_left
  · intro w'
    go_simp
    with_reducible rfl
  rotate_left
  · simp only [Act.put, List.setIfInBounds_toArray, List.set_cons_zero, List.set_cons_succ, i64_w, i32_w]
    rfl
  refine pure_ (i := 7) (N := some 33) (v := ?_) (a' := ?_) #[true, true, true, false, true, true, true, true, false, false, false, false, false, false, false, false, false, false, false, false] rfl rfl (by kernel_rfl) (fun _ _ _ h => h) (Or.inl ⟨by rfl, ?_⟩) ?_ ?_
  rotate_left
  · intro w'
    go_simp
    with_reducible rfl
  rotate_left
  · simp only [Act.put, List.setIfInBounds_toArray, List.set_cons_zero, List.set_cons_succ, i64_w, i32_w]
    rfl
  refine pure_ (i := 9) (N := some 35) (v := ?_) (a' := ?_) #[true, true, true, false, true, true, true, true, false, true, false, false, false, false, false, false, false, false, false, false] rfl rfl (by kernel_rfl) (fun _ _ _ h => h) (Or.inl ⟨by rfl, ?_⟩) ?_ ?_
  rotate_left
  · intro w'
    go_simp
    with_reducible rfl
  rotate_left
  · simp only [Act.put, List.setIfInBounds_toArray, List.set_cons_zero, List.set_cons_succ, i64_w, i32_w]
    rfl
  refine pure_ (i := 13) (N := some 39) (v := ?_) (a' := ?_) #[true, true, true, false, true, true, true, true, false, true, false, false, false, true, false, false, false, false, false, false] rfl rfl (by kernel_rfl) (fun _ _ _ h => h) (Or.inl ⟨by rfl, ?_⟩) ?_ ?_
  rotate_left
  · intro w'
    go_simp
    with_reducible rfl
  rotate_left
  · simp only [Act.put, List.setIfInBounds_toArray, List.set_cons_zero, List.set_cons_succ, i64_w, i32_w]
    rfl
  refine pure_ (i := 14) (N := some 40) (v := ?_) (a' := ?_) #[true, true, true, false, true, true, true, true, false, true, false, false, false, true, true, false, false, false, false, false] rfl rfl (by kernel_rfl) (fun _ _ _ h => h) (Or.inl ⟨by rfl, ?_⟩) ?_ ?_
  rotate_left
  · intro w'
    go_simp
    with_reducible rfl
  rotate_left
  · simp only [Act.put, List.setIfInBounds_toArray, List.set_cons_zero, List.set_cons_succ, i64_w, i32_w]
    rfl
  refine pure_ (i := 15) (N := some 41) (v := ?_) (a' := ?_) #[true, true, true, false, true, true, true, true, false, true, false, false, false, true, true, true, false, false, false, false] rfl rfl (by kernel_rfl) (fun _ _ _ h => h) (Or.inl ⟨by rfl, ?_⟩) ?_ ?_
  rotate_left
  · intro w'
    go_simp
    with_reducible rfl
  rotate_left
  · simp only [Act.put, List.setIfInBounds_toArray, List.set_cons_zero, List.set_cons_succ, i64_w, i32_w]
    rfl
  refine take_ (i := 3) (N := some 29) (v := ?_) (a' := ?_) #[true, true, true, true, true, true, true, true, false, true, false, false, false, true, true, true, false, false, false, false] rfl rfl (by kernel_rfl) (fun _ _ _ h => h) (Or.inl ⟨by rfl, ?_⟩) hHeld ?_ ?_
  rotate_left
  · rintro w' ⟨s0, s1⟩
    go_simp
    with_reducible rfl
  rotate_left
  · simp only [Act.put, List.setIfInBounds_toArray, List.set_cons_zero, List.set_cons_succ, i64_w, i32_w]
    rfl
  refine take_ (i := 8) (N := some 34) (v := ?_) (a' := ?_) #[true, true, true, true, true, true, true, true, true, true, false, false, false, true, true, true, false, false, false, false] rfl rfl (by kernel_rfl) (fun _ _ _ h => h) (Or.inl ⟨by rfl, ?_⟩) hHeld ?_ ?_
  rotate_left
  · rintro w' ⟨s0, s1⟩
    go_simp
    with_reducible rfl
  rotate_left
  · simp only [Act.put, List.setIfInBounds_toArray, List.set_cons_zero, List.set_cons_succ, i64_w, i32_w]
    rfl
  refine pure_ (i := 10) (N := some 36) (v := ?_) (a' := ?_) #[true, true, true, true, true, true, true, true, true, true, true, false, false, true, true, true, false, false, false, false] rfl rfl (by kernel_rfl) (fun _ _ _ h => h) (Or.inl ⟨by rfl, ?_⟩) ?_ ?_
  rotate_left
  · intro w'
    go_simp
    with_reducible rfl
  rotate_left
  · simp only [Act.put, List.setIfInBounds_toArray, List.set_cons_zero, List.set_cons_succ, i64_w, i32_w]
    rfl
  refine pure_ (i := 11) (N := some 37) (v := ?_) (a' := ?_) #[true, true, true, true, true, true, true, true, true, true, true, true, false, true, true, true, false, false, false, false] rfl rfl (by kernel_rfl) (fun _ _ _ h => h) (Or.inl ⟨by rfl, ?_⟩) ?_ ?_
  rotate_left
  · intro w'
    go_simp
    with_reducible rfl
  rotate_left
  · simp only [Act.put, List.setIfInBounds_toArray, List.set_cons_zero, List.set_cons_succ, i64_w, i32_w]
    rfl
  refine take_ (i := 12) (N := some 38) (v := ?_) (a' := ?_) #[true, true, true, true, true, true, true, true, true, true, true, true, true, true, true, true, false, false, false, false] rfl rfl (by kernel_rfl) (fun _ _ _ h => h) (Or.inl ⟨by rfl, ?_⟩) hHeld ?_ ?_
  rotate_left
  · rintro w' ⟨s0, s1⟩
    go_simp
    with_reducible rfl
  rotate_left
  · simp only [Act.put, List.setIfInBounds_toArray, List.set_cons_zero, List.set_cons_succ, i64_w, i32_w]
    rfl
  refine one_ (i := 16) (N := some 42) #[true, true, true, true, true, true, true, true, true, true, true, true, true, true, true, true, true, false, false, false] rfl rfl (by kernel_rfl) (by decide) (fun K hK => ?_)
  refine goes_ Try.func87 (by kernel_rfl) rfl #[.slice y9 m q, .int .i64 (a : Int), .int .i64 (wrap64 ((a : Int) + 1))] (by rfl) rfl rfl (by simp only [List.map_toArray, List.map_cons, List.map_nil]; rfl) ?_
  with_reducible refine (ar_deleteI KD.out a AL.out _ EA.out).mono ?_
  rintro e w2 ⟨v9, rfl, hR, hg0, hn0⟩
  refine ⟨_, rfl, ?_⟩
  have hg := (show w1.drew.grownBy w2 y.2.2.ownBlock by rw [YV.out]; exact hg0)
  have hn := (show v9.ownBlock = y.2.2.ownBlock by rw [YV.out]; exact hn0)
  obtain ⟨hM, z6, f6⟩ := am_kids HD.out HY.out hR hg (.inr (.inl hn))
  have M2 := Aside0.mk hM
  have x0 := blk_grown HD.out.box hg (am_pk HD.out HY.out)
  have X0 := Aside0.mk (show w2.cell? ⟨p, 0, none⟩ = some (.slice (some ⟨g, 0, none⟩) n cap) by rw [HN.out]; exact (blk_cell x0 0).trans rfl)
  have X6 := Aside0.mk (show w2.cell? ⟨g, j * 7 + 6, none⟩ = some (.slice y9 m q) by rw [← YV.out]; exact z6)
  have G2 := Aside0.mk hg
  have N2 := Aside0.mk hn
  obtain ⟨A9, q9, e9⟩ := Kd.R_slice hR
  obtain ⟨l9, hl9⟩ : ∃ l, l = (y.1.f2.take a ++ y.1.f2.drop (a + 1)).length := ⟨_, rfl⟩
  rw [← hl9] at e9
  clear hl9
  subst e9
  have z6 := X6.out
  clear hM hR hg hn x0 hg0 hn0
  refine hK.out _ _ ⟨(by exact X0.out), (by exact X6.out)⟩ (fun hHeld => ?_)
  clear hK K
  refine norm_ (a' := ?_) ?_ ?_
  rotate_left
  · show Act.put _ (some 42) _ = _
    simp only [Act.put, List.setIfInBounds_toArray, List.set_cons_zero, List.set_cons_succ, i64_w, i32_w]
    rfl
  refine pure_ (i := 17) (N := some 43) (v := ?_) (a' := ?_) #[true, true, true, true, true, true, true, true, true, true, true, true, true, true, true, true, true, true, false, false] rfl rfl (by kernel_rfl) (fun _ _ _ h => h) (Or.inl ⟨by rfl, ?_⟩) ?_ ?_
  rotate_left
  · intro w'
    go_simp
    with_reducible rfl
  rotate_left
  · simp only [Act.put, List.setIfInBounds_toArray, List.set_cons_zero, List.set_cons_succ, i64_w, i32_w]
    rfl
  refine pure_ (i := 18) (N := some 44) (v := ?_) (a' := ?_) #[true, true, true, true, true, true, true, true, true, true, true, true, true, true, true, true, true, true, true, false] rfl rfl (by kernel_rfl) (fun _ _ _ h => h) (Or.inl ⟨by rfl, ?_⟩) ?_ ?_
  rotate_left
  · intro w'
    go_simp
    with_reducible rfl
  rotate_left
  · simp only [Act.put, List.setIfInBounds_toArray, List.set_cons_zero, List.set_cons_succ, i64_w, i32_w]
    rfl
  refine last_ (i := 19) (N := none) #[true, true, true, true, true, true, true, true, true, true, true, true, true, true, true, true, true, true, true, true] rfl rfl (by kernel_rfl) (by decide) (fun K hK => ?_)
  refine skip_ (w1 := ?_) (by rfl) rfl ?_ ?_
  rotate_left
  · go_simp
    rfl
  refine hK.out _ _ ?_
  clear hK K
  refine done_ (by kernel_rfl) ?_
  clear hHeld z6 f6
  obtain ⟨v8, hv8⟩ : ∃ v, v = Value.slice A9 l9 q9 := ⟨_, rfl⟩
  rw [← hv8] at M2 N2 ⊢
  obtain ⟨Z1, hZ1⟩ : ∃ Z1, Z1 = Z.set j ({y.1 with f2 := List.take a y.1.f2 ++ List.drop (a + 1) y.1.f2}, y.2.1, v8) := ⟨_, rfl⟩
  have M2' := M2.out
  rw [← hZ1, show Z.length = Z1.length by rw [hZ1, List.length_set]] at M2'
  have zi : Z1[i]? = some z := by rw [hZ1, List.getElem?_set_ne (Ne.symm HIJ.out)]; exact HZ.out
  have x5 := (am_cells M2' i z zi).1 5 _ rfl
  have f5 := (am_cells M2' i z zi).2 5
  have x0 := blk_cell M2'.box 0
  have M3 := Aside0.mk (am_cell (z' := ({z.1 with f1 := -1}, z.2)) (u := .int .i64 (-1)) M2' zi (j := 5) (by decide) rfl rfl rfl rfl)
  have NN := Aside0.mk (show n = Z1.length by rw [HN.out, hZ1, List.length_set])
  have G3 := Aside0.mk (show chg (aFt p (.slice (some ⟨g, 0, none⟩) Z.length cap) Z) w ((w2.setCell ⟨g, j * 7 + 6, none⟩ v8).setCell ⟨g, i * 7 + 5, none⟩ (.int .i64 (-1))) from
    chg_trans (chg_below (below_step (drawn_below D1.out) (below_drew (Below.refl _ _)))) (chg_trans (chg_grown G2.out (fun k hk => .inr (.inr ⟨j, y, HY.out, .inr hk⟩))) (chg_trans (chg_set _ g _ _ (.inr (.inl rfl))) (chg_set _ g _ _ (.inr (.inl rfl))) (fun _ h => .inl h)) (fun _ h => .inl h)) (fun _ h => .inl h))
  have EZ := Aside0.mk hZ1
  have EV := Aside0.mk hv8
  replace x0 : (w2.setCell ⟨g, j * 7 + 6, none⟩ v8).cell? ⟨p, 0, none⟩ = some (.slice (some ⟨g, 0, none⟩) n cap) := by rw [NN.out]; exact x0.trans rfl
  clear M2 M2' zi hZ1 hv8
  generalize w2.setCell ⟨g, j * 7 + 6, none⟩ v8 = W3 at x5 f5 x0 M3 G3 ⊢
  go_wp2
  first | refine bodyPost_ret (results_none rfl _ _ _) rfl ?_ | refine bodyPost_end (results_none rfl _ _ _) rfl ?_
  refine ⟨rfl, v8, ?_, N2.out, by rw [HN.out]; exact G3.out⟩
  have := M3.out
  rw [EZ.out, List.length_set] at this
  rw [HN.out]
  exact this
set_option maxRecDepth 100000 in
set_option maxHeartbeats 8000000 in
theorem ar_put {base p g cap : Nat} {w : World} {Z : List Nz} (h : am base w p (.slice (some ⟨g, 0, none⟩) Z.length cap) Z) (hbase : base ≤ w.heap.size) (i j a : Nat) (z y : Nz) (hz : Z[i]? = some z) (hy : Z[j]? = some y) (hij : i ≠ j) (ha : a ≤ y.1.f2.length) (hl : y.1.f2.length ≤ 100000) :
    Calls Try.prog 69 #[.pointer (some ⟨p, 0, none⟩), .int .i64 (j : Int), .int .i64 (a : Int), .int .i64 (i : Int)] w fun e w' => e = .returned (.tuple #[]) ∧ ∃ v', am base w' p (.slice (some ⟨g, 0, none⟩) Z.length cap) ((Z.set j ({y.1 with f2 := y.1.f2.take a ++ (i : Int) :: y.1.f2.drop a}, y.2.1, v')).set i ({z.1 with f1 := (j : Int)}, z.2)) ∧ (v'.ownBlock = y.2.2.ownBlock ∨ ∃ b, v'.ownBlock = some b ∧ w.heap.size ≤ b) ∧ chg (aFt p (.slice (some ⟨g, 0, none⟩) Z.length cap) Z) w w' := by
  have H := Aside0.mk h
  have HZ := Aside0.mk hz
  have HY := Aside0.mk hy
  have HIJ := Aside0.mk hij
  have hi := (List.getElem?_eq_some_iff.1 hz).1
  have hj := (List.getElem?_eq_some_iff.1 hy).1
  have AL := Aside0.mk ha
  have LL := Aside0.mk hl
  obtain ⟨y9, q, hv⟩ := Kd.R_slice (h.kis j y hy)
  obtain ⟨m, hm⟩ : ∃ m, m = y.1.f2.length := ⟨_, rfl⟩
  have HM := Aside0.mk hm
  have KR := Aside0.mk (show Kd.R (Kd.int .i64) 3 w base (fun k => some k = y.2.2.ownBlock) (.slice y9 m q) y.1.f2 by rw [hm, ← hv]; exact h.kis j y hy)
  have YV := Aside0.mk (show y.2.2 = .slice y9 m q by rw [hv, hm])
  have VN := Aside0.mk (show some w.heap.size ≠ (Value.slice y9 m q).ownBlock from fun e => Nat.lt_irrefl _ (Kd.R_lt KR.out _ e.symm))
  have VS := Aside0.mk (show base ≤ (w.alloc (.cells #[.int .i64 (i : Int)] 3 (0, 0))).drew.heap.size from Nat.le_trans hbase (World.grownBy_alloc w _ none).size)
  obtain ⟨n, hn⟩ : ∃ n, n = Z.length := ⟨_, rfl⟩
  have HN := Aside0.mk hn
  rw [← hn] at hi hj ⊢
  have i1 : (i : Int) < (n : Int) := by omega
  have j1 : (j : Int) < (n : Int) := by omega
  have Z0 := Aside0.mk (show w.drew.cell? ⟨p, 0, none⟩ = some (.slice (some ⟨g, 0, none⟩) n cap) by rw [HN.out]; exact blk_cell H.out.box 0)
  have Z6 := Aside0.mk (show w.drew.cell? ⟨g, j * 7 + 6, none⟩ = some (.slice y9 m q) by rw [← YV.out]; exact (am_cells H.out j y HY.out).1 6 _ rfl)
  clear h hz hy hij ha hl hv hm hn hbase
  go_enter Try.func69, Try.ntmps69
  go_upto_region 0 with (fail)
  refine start_ (n := 20) (S := fun w' => w'.cell? ⟨p, 0, none⟩ = some (.slice (some ⟨g, 0, none⟩) n cap) ∧ w'.cell? ⟨g, j * 7 + 6, none⟩ = some (.slice y9 m q)) (ds := [19]) #[false, false, false, false, false, false, false, false, false, false, false, false, false, false, false, false, false, false, false, false] (by kernel_rfl) rfl rfl ⟨(by exact Z0.out), (by exact Z6.out)⟩ (fun hHeld => ?_)
  refine pure_ (i := 0) (N := some 8) (v := ?_) (a' := ?_) #[true, false, false, false, false, false, false, false, false, false, false, false, false, false, false, false, false, false, false, false] rfl rfl (by kernel_rfl) (fun _ _ _ h => h) (Or.inl ⟨by rfl, ?_⟩) ?_ ?_
  rotate_left
  · intro w'
    go_simp
    with_reducible rfl
  rotate_left
  · simp only [Act.put, List.setIfInBounds_toArray, List.set_cons_zero, List.set_cons_succ, i64_w, i32_w]
    rfl
  refine pure_ (i := 1) (N := some 9) (v := ?_) (a' := ?_) #[true, true, false, false, false, false, false, false, false, false, false, false, false, false, false, false, false, false, false, false] rfl rfl (by kernel_rfl) (fun _ _ _ h => h) (Or.inl ⟨by rfl, ?_⟩) ?_ ?_
  rotate_left
  · intro w'
    go_simp
    with_reducible rfl
  rotate_left
  · simp only [Act.put, List.setIfInBounds_toArray, List.set_cons_zero, List.set_cons_succ, i64_w, i32_w]
    rfl
  refine pure_ (i := 2) (N := some 10) (v := ?_) (a' := ?_) #[true, true, true, false, false, false, false, false, false, false, false, false, false, false, false, false, false, false, false, false] rfl rfl (by kernel_rfl) (fun _ _ _ h => h) (Or.inl ⟨by rfl, ?_⟩) ?_ ?_
  rotate_left
  · intro w'
    go_simp
    with_reducible rfl
  rotate_left
  · simp only [Act.put, List.setIfInBounds_toArray, List.set_cons_zero, List.set_cons_succ, i64_w, i32_w]
    rfl
  refine pure_ (i := 4) (N := some 12) (v := ?_) (a' := ?_) #[true, true, true, false, true, false, false, false, false, false, false, false, false, false, false, false, false, false, false, false] rfl rfl (by kernel_rfl) (fun _ _ _ h => h) (Or.inl ⟨by rfl, ?_⟩) ?_ ?_
  rotate_left
  · intro w'
    go_simp
    with_reducible rfl
  rotate_left
  · simp only [Act.put, List.setIfInBounds_toArray, List.set_cons_zero, List.set_cons_succ, i64_w, i32_w]
    rfl
  refine pure_ (i := 5) (N := some 13) (v := ?_) (a' := ?_) #[true, true, true, false, true, true, false, false, false, false, false, false, false, false, false, false, false, false, false, false] rfl rfl (by kernel_rfl) (fun _ _ _ h => h) (Or.inl ⟨by rfl, ?_⟩) ?_ ?_
  rotate_left
  · intro w'
    go_simp
    with_reducible rfl
  rotate_left
  · simp only [Act.put, List.setIfInBounds_toArray, List.set_cons_zero, List.set_cons_succ, i64_w, i32_w]
    rfl
  refine pure_ (i := 6) (N := some 14) (v := ?_) (a' := ?_) #[true, true, true, false, true, true, true, false, false, false, false, false, false, false, false, false, false, false, false, false] rfl rfl (by kernel_rfl) (fun _ _ _ h => h) (Or.inl ⟨by rfl, ?_⟩) ?_ ?_
  rotate_left
  · intro w'
    go_simp
    with_reducible rfl
  rotate_left
  · simp only [Act.put, List.setIfInBounds_toArray, List.set_cons_zero, List.set_cons_succ, i64_w, i32_w]
    rfl
  refine pure_ (i := 7) (N := some 15) (v := ?_) (a' := ?_) #[true, true, true, false, true, true, true, true, false, false, false, false, false, false, false, false, false, false, false, false] rfl rfl (by kernel_rfl) (fun _ _ _ h => h) (Or.inl ⟨by rfl, ?_⟩) ?_ ?_
  rotate_left
  · intro w'
    go_simp
    with_reducible rfl
  rotate_left
  · simp only [Act.put, List.setIfInBounds_toArray, List.set_cons_zero, List.set_cons_succ, i64_w, i32_w]
    rfl
  refine pure_ (i := 9) (N := some 17) (v := ?_) (a' := ?_) #[true, true, true, false, true, true, true, true, false, true, false, false, false, false, false, false, false, false, false, false] rfl rfl (by kernel_rfl) (fun _ _ _ h => h) (Or.inl ⟨by rfl, ?_⟩) ?_ ?_
  rotate_left
  · intro w'
    go_simp
    with_reducible rfl
  rotate_left
  · simp only [Act.put, List.setIfInBounds_toArray, List.set_cons_zero, List.set_cons_succ, i64_w, i32_w]
    rfl
  refine pure_ (i := 13) (N := some 21) (v := ?_) (a' := ?_) #[true, true, true, false, true, true, true, true, false, true, false, false, false, true, false, false, false, false, false, false] rfl rfl (by kernel_rfl) (fun _ _ _ h => h) (Or.inl ⟨by rfl, ?_⟩) ?_ ?_
  rotate_left
  · intro w'
    go_simp
    with_reducible rfl
  rotate_left
  · simp only [Act.put, List.setIfInBounds_toArray, List.set_cons_zero, List.set_cons_succ, i64_w, i32_w]
    rfl
  refine pure_ (i := 14) (N := some 22) (v := ?_) (a' := ?_) #[true, true, true, false, true, true, true, true, false, true, false, false, false, true, true, false, false, false, false, false] rfl rfl (by kernel_rfl) (fun _ _ _ h => h) (Or.inl ⟨by rfl, ?_⟩) ?_ ?_
  rotate_left
  · intro w'
    go_simp
    with_reducible rfl
  rotate_left
  · simp only [Act.put, List.setIfInBounds_toArray, List.set_cons_zero, List.set_cons_succ, i64_w, i32_w]
    rfl
  refine take_ (i := 3) (N := some 11) (v := ?_) (a' := ?_) #[true, true, true, true, true, true, true, true, false, true, false, false, false, true, true, false, false, false, false, false] rfl rfl (by kernel_rfl) (fun _ _ _ h => h) (Or.inl ⟨by rfl, ?_⟩) hHeld ?_ ?_
  rotate_left
  · rintro w' ⟨s0, s1⟩
    go_simp
    with_reducible rfl
  rotate_left
  · simp only [Act.put, List.setIfInBounds_toArray, List.set_cons_zero, List.set_cons_succ, i64_w, i32_w]
    rfl
  refine take_ (i := 8) (N := some 16) (v := ?_) (a' := ?_) #[true, true, true, true, true, true, true, true, true, true, false, false, false, true, true, false, false, false, false, false] rfl rfl (by kernel_rfl) (fun _ _ _ h => h) (Or.inl ⟨by rfl, ?_⟩) hHeld ?_ ?_
  rotate_left
  · rintro w' ⟨s0, s1⟩
    go_simp
    with_reducible rfl
  rotate_left
  · simp only [Act.put, List.setIfInBounds_toArray, List.set_cons_zero, List.set_cons_succ, i64_w, i32_w]
    rfl
  refine pure_ (i := 10) (N := some 18) (v := ?_) (a' := ?_) #[true, true, true, true, true, true, true, true, true, true, true, false, false, true, true, false, false, false, false, false] rfl rfl (by kernel_rfl) (fun _ _ _ h => h) (Or.inl ⟨by rfl, ?_⟩) ?_ ?_
  rotate_left
  · intro w'
    go_simp
    with_reducible rfl
  rotate_left
  · simp only [Act.put, List.setIfInBounds_toArray, List.set_cons_zero, List.set_cons_succ, i64_w, i32_w]
    rfl
  refine pure_ (i := 11) (N := some 19) (v := ?_) (a' := ?_) #[true, true, true, true, true, true, true, true, true, true, true, true, false, true, true, false, false, false, false, false] rfl rfl (by kernel_rfl) (fun _ _ _ h => h) (Or.inl ⟨by rfl, ?_⟩) ?_ ?_
  rotate_left
  · intro w'
    go_simp
    with_reducible rfl
  rotate_left
  · simp only [Act.put, List.setIfInBounds_toArray, List.set_cons_zero, List.set_cons_succ, i64_w, i32_w]
    rfl
  refine take_ (i := 12) (N := some 20) (v := ?_) (a' := ?_) #[true, true, true, true, true, true, true, true, true, true, true, true, true, true, true, false, false, false, false, false] rfl rfl (by kernel_rfl) (fun _ _ _ h => h) (Or.inl ⟨by rfl, ?_⟩) hHeld ?_ ?_
  rotate_left
  · rintro w' ⟨s0, s1⟩
    go_simp
    with_reducible rfl
  rotate_left
  · simp only [Act.put, List.setIfInBounds_toArray, List.set_cons_zero, List.set_cons_succ, i64_w, i32_w]
    rfl
  refine one_ (i := 15) (N := some 23) #[true, true, true, true, true, true, true, true, true, true, true, true, true, true, true, true, false, false, false, false] rfl rfl (by kernel_rfl) (by decide) (fun K hK => ?_)
  refine value_ (w1 := ?_) (v := ?_) (by rfl) rfl ?_ ?_
  rotate_left 2
  · go_simp
    constructor
    · rfl
    · rfl
  have HD := Aside0.mk (am_below H.out (below_step (below_alloc (Below.refl _ _) (.cells #[.int .i64 (i : Int)] 3)) (below_drew (Below.refl _ _))))
  have KD := Aside0.mk (Kd.R_below KR.out (below_step (below_alloc (Below.refl _ _) (.cells #[.int .i64 (i : Int)] 3)) (below_drew (Below.refl _ _))))
  have VB := Aside0.mk (show (w.alloc (.cells #[.int .i64 (i : Int)] 3 (0, 0))).drew.heap[w.heap.size]? = some (.cells #[.int .i64 (i : Int)] 3 (0, 0)) from blk_new w (.cells #[.int .i64 (i : Int)] 3 (0, 0)))
  refine hK.out _ _ ⟨(by rw [HN.out]; exact blk_cell HD.out.box 0), (by rw [← YV.out]; exact (am_cells HD.out j y HY.out).1 6 _ rfl)⟩ (fun hHeld => ?_)
  clear hK K
  refine norm_ (a' := ?_) ?_ ?_
  rotate_left
  · show Act.put _ (some 23) _ = _
    simp only [Act.put, List.setIfInBounds_toArray, List.set_cons_zero, List.set_cons_succ, i64_w, i32_w]
    rfl
  refine one_ (i := 16) (N := some 24) #[true, true, true, true, true, true, true, true, true, true, true, true, true, true, true, true, true, false, false, false] rfl rfl (by kernel_rfl) (by decide) (fun K hK => ?_)
  refine goes_ Try.func88 (by kernel_rfl) rfl #[.slice y9 m q, .int .i64 (a : Int), .slice (some ⟨w.heap.size, 0, none⟩) 1 1] (by rfl) rfl rfl (by simp only [List.map_toArray, List.map_cons, List.map_nil]; rfl) ?_
  with_reducible refine (ar_insert KD.out a AL.out LL.out (i : Int) w.heap.size 1 VB.out VN.out VS.out).mono ?_
  rintro e w2 ⟨v9, rfl, hR, hg0, hn0⟩
  refine ⟨_, rfl, ?_⟩
  have hg := (show (w.alloc (.cells #[.int .i64 (i : Int)] 3)).drew.grownBy w2 y.2.2.ownBlock by rw [YV.out]; exact hg0)
  have hn := (show v9.ownBlock = y.2.2.ownBlock ∨ ∃ b, v9.ownBlock = some b ∧ (w.alloc (.cells #[.int .i64 (i : Int)] 3)).drew.heap.size ≤ b by rw [YV.out]; exact hn0)
  obtain ⟨hM, z6, f6⟩ := am_kids HD.out HY.out hR hg (.inr hn)
  have M2 := Aside0.mk hM
  have x0 := blk_grown HD.out.box hg (am_pk HD.out HY.out)
  have X0 := Aside0.mk (show w2.cell? ⟨p, 0, none⟩ = some (.slice (some ⟨g, 0, none⟩) n cap) by rw [HN.out]; exact (blk_cell x0 0).trans rfl)
  have X6 := Aside0.mk (show w2.cell? ⟨g, j * 7 + 6, none⟩ = some (.slice y9 m q) by rw [← YV.out]; exact z6)
  have G2 := Aside0.mk hg
  have N2 := Aside0.mk hn
  obtain ⟨A9, q9, e9⟩ := Kd.R_slice hR
  obtain ⟨l9, hl9⟩ : ∃ l, l = (y.1.f2.take a ++ (i : Int) :: y.1.f2.drop a).length := ⟨_, rfl⟩
  rw [← hl9] at e9
  clear hl9
  subst e9
  have z6 := X6.out
  clear hM hR hg hn x0 hg0 hn0
  refine hK.out _ _ ⟨(by exact X0.out), (by exact X6.out)⟩ (fun hHeld => ?_)
  clear hK K
  refine norm_ (a' := ?_) ?_ ?_
  rotate_left
  · show Act.put _ (some 24) _ = _
    simp only [Act.put, List.setIfInBounds_toArray, List.set_cons_zero, List.set_cons_succ, i64_w, i32_w]
    rfl
  refine pure_ (i := 17) (N := some 25) (v := ?_) (a' := ?_) #[true, true, true, true, true, true, true, true, true, true, true, true, true, true, true, true, true, true, false, false] rfl rfl (by kernel_rfl) (fun _ _ _ h => h) (Or.inl ⟨by rfl, ?_⟩) ?_ ?_
  rotate_left
  · intro w'
    go_simp
    with_reducible rfl
  rotate_left
  · simp only [Act.put, List.setIfInBounds_toArray, List.set_cons_zero, List.set_cons_succ, i64_w, i32_w]
    rfl
  refine pure_ (i := 18) (N := some 26) (v := ?_) (a' := ?_) #[true, true, true, true, true, true, true, true, true, true, true, true, true, true, true, true, true, true, true, false] rfl rfl (by kernel_rfl) (fun _ _ _ h => h) (Or.inl ⟨by rfl, ?_⟩) ?_ ?_
  rotate_left
  · intro w'
    go_simp
    with_reducible rfl
  rotate_left
  · simp only [Act.put, List.setIfInBounds_toArray, List.set_cons_zero, List.set_cons_succ, i64_w, i32_w]
    rfl
  refine last_ (i := 19) (N := none) #[true, true, true, true, true, true, true, true, true, true, true, true, true, true, true, true, true, true, true, true] rfl rfl (by kernel_rfl) (by decide) (fun K hK => ?_)
  refine skip_ (w1 := ?_) (by rfl) rfl ?_ ?_
  rotate_left
  · go_simp
    rfl
  refine hK.out _ _ ?_
  clear hK K
  refine done_ (by kernel_rfl) ?_
  clear hHeld z6 f6
  obtain ⟨v8, hv8⟩ : ∃ v, v = Value.slice A9 l9 q9 := ⟨_, rfl⟩
  rw [← hv8] at M2 N2 ⊢
  obtain ⟨Z1, hZ1⟩ : ∃ Z1, Z1 = Z.set j ({y.1 with f2 := y.1.f2.take a ++ (i : Int) :: y.1.f2.drop a}, y.2.1, v8) := ⟨_, rfl⟩
  have M2' := M2.out
  rw [← hZ1, show Z.length = Z1.length by rw [hZ1, List.length_set]] at M2'
  have zi : Z1[i]? = some z := by rw [hZ1, List.getElem?_set_ne (Ne.symm HIJ.out)]; exact HZ.out
  have x5 := (am_cells M2' i z zi).1 5 _ rfl
  have f5 := (am_cells M2' i z zi).2 5
  have x0 := blk_cell M2'.box 0
  have M3 := Aside0.mk (am_cell (z' := ({z.1 with f1 := (j : Int)}, z.2)) (u := .int .i64 (j : Int)) M2' zi (j := 5) (by decide) rfl rfl rfl rfl)
  have NN := Aside0.mk (show n = Z1.length by rw [HN.out, hZ1, List.length_set])
  have G3 := Aside0.mk (show chg (aFt p (.slice (some ⟨g, 0, none⟩) Z.length cap) Z) w ((w2.setCell ⟨g, j * 7 + 6, none⟩ v8).setCell ⟨g, i * 7 + 5, none⟩ (.int .i64 (j : Int))) from
    chg_trans (chg_below (below_step (below_alloc (Below.refl _ _) (.cells #[.int .i64 (i : Int)] 3)) (below_drew (Below.refl _ _)))) (chg_trans (chg_grown G2.out (fun k hk => .inr (.inr ⟨j, y, HY.out, .inr hk⟩))) (chg_trans (chg_set _ g _ _ (.inr (.inl rfl))) (chg_set _ g _ _ (.inr (.inl rfl))) (fun _ h => .inl h)) (fun _ h => .inl h)) (fun _ h => .inl h))
  have EZ := Aside0.mk hZ1
  have EV := Aside0.mk hv8
  replace x0 : (w2.setCell ⟨g, j * 7 + 6, none⟩ v8).cell? ⟨p, 0, none⟩ = some (.slice (some ⟨g, 0, none⟩) n cap) := by rw [NN.out]; exact x0.trans rfl
  clear M2 M2' zi hZ1 hv8
  generalize w2.setCell ⟨g, j * 7 + 6, none⟩ v8 = W3 at x5 f5 x0 M3 G3 ⊢
  go_wp2
  first | refine bodyPost_ret (results_none rfl _ _ _) rfl ?_ | refine bodyPost_end (results_none rfl _ _ _) rfl ?_
  refine ⟨rfl, v8, ?_, ?_, by rw [HN.out]; exact G3.out⟩
  · have := M3.out
    rw [EZ.out, List.length_set] at this
    rw [HN.out]
    exact this
  · rcases N2.out with h | ⟨b, h, hb⟩
    · exact .inl h
    · exact .inr ⟨b, h, Nat.le_trans (World.grownBy_alloc w _ none).size hb⟩
/- A node more. -/
theorem am_app {base p : Nat} {w w1 : World} {v v1 : Value} {Z : List Nz} {z : Nz} (h : am base w p v Z) (hR : Kd.R (Kd.raw 7) 96 w1 base (fun _ => True) v1 (Z.map nzc ++ [nzc z])) (hg : w.grownBy w1 v.ownBlock) (hA : Kd.R k103 103 w base (fun k => some k = z.2.1.ownBlock) z.2.1 z.1.f0.f3) (hK : z.2.2 = .slice none 0 0) (hK2 : z.1.f2 = []) :
    am base (w1.setCell ⟨p, 0, none⟩ v1) p v1 (Z ++ [z]) := by
  obtain ⟨g, cap, rfl, hcap, hgb⟩ := am_hdr h
  obtain ⟨hpg, cg, hcg⟩ := am_pg h
  have keep : ∀ k, k < w.heap.size → k ≠ g → w1.heap[k]? = w.heap[k]? := fun k hk hne => hg.block k hk (fun e => hne (by injection e))
  have hb1 : w1.heap[p]? = some (.cells #[.slice (some ⟨g, 0, none⟩) Z.length cap] 99 (0, 0)) := (keep p (blk_lt h.box) hpg).trans h.box
  have far : ∀ k, k ≠ p → (w1.setCell ⟨p, 0, none⟩ v1).heap[k]? = w1.heap[k]? := fun k hk => Below.heap_setCell w1 ⟨p, 0, none⟩ v1 k hk
  have old : ∀ (i : Nat) (y : Nz) (k : Nat), Z[i]? = some y → (some k = y.2.1.ownBlock ∨ some k = y.2.2.ownBlock) → (w1.setCell ⟨p, 0, none⟩ v1).heap[k]? = w.heap[k]? := by
    intro i y k hy hk
    obtain ⟨q1, q2⟩ := am_ne h hy hk
    rw [far k q1]
    exact keep k (am_lt h (.inr (.inr ⟨i, y, hy, hk⟩))) q2
  have at_ : ∀ (i : Nat) (y : Nz), (Z ++ [z])[i]? = some y → Z[i]? = some y ∨ (i = Z.length ∧ y = z) := by
    intro i y hy
    by_cases c : i < Z.length
    · rw [List.getElem?_append_left c] at hy
      exact .inl hy
    · have hi := (List.getElem?_eq_some_iff.1 hy).1
      rw [List.length_append, List.length_singleton] at hi
      have e : i = Z.length := by omega
      subst e
      rw [List.getElem?_append_right (Nat.le_refl _), Nat.sub_self] at hy
      exact .inr ⟨rfl, (Option.some.inj hy).symm⟩
  refine ⟨(blk_set hb1 0 v1).trans rfl, ?_, fun i y hy => ?_, fun i y hy => ?_, fun i j y1 y2 k h1 h2 hne e1 e2 => ?_, h.hp, by simp⟩
  · rw [List.map_append]
    exact Kd.R_tight rfl (Kd.R_set hR hb1 (by decide) 0 v1)
  · rcases at_ i y hy with hy | ⟨_, rfl⟩
    · exact Kd.R_move (h.ats i y hy) (fun k hk => old i y k hy (.inl hk))
    · refine Kd.R_move hA (fun k hk => ?_)
      obtain ⟨c1, hc1⟩ := Kd.R_typed hA k hk.symm
      rw [far k (blk_ne hc1 h.box (by decide))]
      exact keep k (blk_lt hc1) (blk_ne hc1 hcg (by decide))
  · rcases at_ i y hy with hy | ⟨_, rfl⟩
    · exact Kd.R_move (h.kis i y hy) (fun k hk => old i y k hy (.inr hk))
    · rw [hK, hK2]; exact Kd.R_nil _ _ _ _ _
  · rcases at_ i y1 h1 with h1 | ⟨_, rfl⟩
    · rcases at_ j y2 h2 with h2 | ⟨_, rfl⟩
      · exact h.sep i j y1 y2 k h1 h2 hne e1 e2
      · rw [hK] at e2; cases e2
    · rw [hK] at e1; cases e1
def zc96 : Value := .agg #[.int .i64 0, .int .i64 0, .string ⟨#[]⟩, .slice none 0 0, .string ⟨#[]⟩, .int .i64 0, .slice none 0 0]
theorem info96b : (Try.prog.info? 96).map (fun i => (i.zero, i.size, i.bytes)) = some (some zc96, (Kd.raw 7).sz, 104) := by kernel_rfl
theorem bx5 {w : World} {g : Nat} {a b c d e : Value} {t : TypeId} (h : w.heap[g]? = some (.cells #[a, b, c, d, e] t (0, 0))) : w.cell? ⟨g, 0, none⟩ = some a ∧ w.cell? ⟨g, 1, none⟩ = some b ∧ w.cell? ⟨g, 2, none⟩ = some c ∧ w.cell? ⟨g, 3, none⟩ = some d ∧ w.cell? ⟨g, 4, none⟩ = some e :=
  ⟨(blk_cell h 0).trans rfl, (blk_cell h 1).trans rfl, (blk_cell h 2).trans rfl, (blk_cell h 3).trans rfl, (blk_cell h 4).trans rfl⟩
set_option maxHeartbeats 2000000 in
theorem ar_growFull {base p : Nat} {w : World} {v : Value} {Z : List Nz} (h : am base w p v Z) (x : S94) (vA : Value) (hA : Kd.R k103 103 w base (fun k => some k = vA.ownBlock) vA x.f3) (hf : 2000 ≤ Z.length) :
    Calls Try.prog 63 #[.pointer (some ⟨p, 0, none⟩), .agg #[.int .i64 x.f0, .int .i64 x.f1, .string x.f2, vA, .string x.f4]] w fun e w' => e = .returned (.int .i64 (-1)) ∧ Below w.heap.size w w' := by
  obtain ⟨A, q, rfl⟩ := Kd.R_slice hA
  obtain ⟨g, cap, rfl, hc, hg⟩ := am_hdr h
  have z0 := blk_cell h.box 0
  obtain ⟨m, hm⟩ : ∃ m, m = x.f3.length := ⟨_, rfl⟩
  rw [← hm]
  obtain ⟨n, hn⟩ : ∃ n, n = Z.length := ⟨_, rfl⟩
  rw [← hn] at z0 hf
  replace z0 : w.cell? ⟨p, 0, none⟩ = some (.slice (some ⟨g, 0, none⟩) n cap) := z0
  have hf1 : decide (2000 ≤ (n : Int)) = true := decide_eq_true (by omega)
  have hf2 : decide ((n : Int) ≥ 2000) = true := decide_eq_true (by omega)
  have hf3 : (2000 : Int) ≤ (n : Int) := by omega
  have hb := blk_lt h.box
  clear hn h hc hm hA
  go_enter Try.func63, Try.ntmps63
  go_wp2
  go_ret
  exact ⟨rfl, below_alloc (Below.refl _ _) _⟩
theorem am_pv {base p g cap : Nat} {w : World} {Z : List Nz} (h : am base w p (.slice (some ⟨g, 0, none⟩) Z.length cap) Z) : some p ≠ (Value.slice (some ⟨g, 0, none⟩) Z.length cap).ownBlock := fun e => (am_pg h).1 (by injection e)
theorem am_v94 {base p g cap b : Nat} {w : World} {Z : List Nz} {cs : Array Value} (h : am base w p (.slice (some ⟨g, 0, none⟩) Z.length cap) Z) (hb : w.heap[b]? = some (.cells cs 94 (0, 0))) : some b ≠ (Value.slice (some ⟨g, 0, none⟩) Z.length cap).ownBlock := by
  obtain ⟨_, cg, hcg⟩ := am_pg h
  intro e
  have e : b = g := by injection e
  exact blk_ne hb hcg (by decide) e
set_option maxRecDepth 100000 in
set_option maxHeartbeats 8000000 in
theorem ar_grow {base p : Nat} {w : World} {v : Value} {Z : List Nz} (h : am base w p v Z) (hbase : base ≤ w.heap.size) (x : S94) (vA : Value) (hA : Kd.R k103 103 w base (fun k => some k = vA.ownBlock) vA x.f3) (hf : Z.length < 2000) :
    Calls Try.prog 63 #[.pointer (some ⟨p, 0, none⟩), .agg #[.int .i64 x.f0, .int .i64 x.f1, .string x.f2, vA, .string x.f4]] w fun e w' => e = .returned (.int .i64 (Z.length : Int)) ∧ ∃ v', am base w' p v' (Z ++ [((⟨x, -1, []⟩ : S96), vA, .slice none 0 0)]) ∧ (v'.ownBlock = v.ownBlock ∨ ∃ b, v'.ownBlock = some b ∧ w.heap.size ≤ b) ∧ chg (aFt p v Z) w w' := by
  obtain ⟨A, q, rfl⟩ := Kd.R_slice hA
  obtain ⟨g, cap, rfl, hc, hg⟩ := am_hdr h
  have z0 := blk_cell h.box 0
  obtain ⟨m, hm⟩ : ∃ m, m = x.f3.length := ⟨_, rfl⟩
  rw [← hm] at hA ⊢
  have H := Aside0.mk h
  obtain ⟨B0, hB0⟩ : ∃ b, b = w.heap.size := ⟨_, rfl⟩
  have hbx := blk_new w (.cells #[.int .i64 x.f0, .int .i64 x.f1, .string x.f2, .slice A m q, .string x.f4] 94 (0, 0))
  have M0 := am_below h (below_step (below_alloc (Below.refl w.heap.size w) (.cells #[.int .i64 x.f0, .int .i64 x.f1, .string x.f2, .slice A m q, .string x.f4] 94)) (below_drew (Below.refl _ _)))
  have M1 := Aside0.mk M0
  have B1 := Aside0.mk (show (w.alloc (.cells #[.int .i64 x.f0, .int .i64 x.f1, .string x.f2, .slice A m q, .string x.f4] 94)).drew.heap[w.heap.size]? = some (.cells #[.int .i64 x.f0, .int .i64 x.f1, .string x.f2, .slice A m q, .string x.f4] 94 (0, 0)) from hbx)
  have RA := Aside0.mk (show Kd.R k103 103 (w.alloc (.cells #[.int .i64 x.f0, .int .i64 x.f1, .string x.f2, .slice A m q, .string x.f4] 94)).drew base (fun k => some k = (Value.slice A m q).ownBlock) (.slice A m q) x.f3 from Kd.R_below hA (below_step (below_alloc (Below.refl w.heap.size w) _) (below_drew (Below.refl _ _))))
  have G0 := Aside0.mk (show Below w.heap.size w (w.alloc (.cells #[.int .i64 x.f0, .int .i64 x.f1, .string x.f2, .slice A m q, .string x.f4] 94)).drew from below_step (below_alloc (Below.refl w.heap.size w) _) (below_drew (Below.refl _ _)))
  have SB := Aside0.mk (show base ≤ (w.alloc (.cells #[.int .i64 x.f0, .int .i64 x.f1, .string x.f2, .slice A m q, .string x.f4] 94)).drew.heap.size from Nat.le_trans hbase (World.grownBy_alloc w _ none).size)
  have RZ := Aside0.mk (show (Kd.raw 7).M (w.alloc (.cells #[.int .i64 x.f0, .int .i64 x.f1, .string x.f2, .slice A m q, .string x.f4] 94)).drew base (fun _ => False) [.int .i64 x.f0, .int .i64 x.f1, .string x.f2, .slice A m q, .string x.f4, .int .i64 (-1), .slice none 0 0] [.int .i64 x.f0, .int .i64 x.f1, .string x.f2, .slice A m q, .string x.f4, .int .i64 (-1), .slice none 0 0] from ⟨rfl, rfl, by intro u hu; simp only [List.mem_cons, List.not_mem_nil, or_false] at hu; rcases hu with rfl | rfl | rfl | rfl | rfl | rfl | rfl <;> rfl⟩)
  obtain ⟨n, hn⟩ : ∃ n, n = Z.length := ⟨_, rfl⟩
  have HN := Aside0.mk hn
  have RO := Aside0.mk (show Kd.R (Kd.raw 7) 96 (w.alloc (.cells #[.int .i64 x.f0, .int .i64 x.f1, .string x.f2, .slice A m q, .string x.f4] 94)).drew base (fun _ => True) (.slice (some ⟨g, 0, none⟩) n cap) (Z.map nzc) by rw [hn]; exact Kd.R_mono M0.rows (fun _ _ => trivial))
  have LM := Aside0.mk (show ((Z.map nzc).length + 1) * 104 ≤ 140737488355328 by rw [List.length_map]; omega)
  have HM := Aside0.mk hm
  rw [← hn] at z0 hf ⊢
  replace z0 : w.cell? ⟨p, 0, none⟩ = some (.slice (some ⟨g, 0, none⟩) n cap) := z0
  have hf1 : decide (2000 ≤ (n : Int)) = false := decide_eq_false (by omega)
  have hf2 : decide ((n : Int) ≥ 2000) = false := decide_eq_false (by omega)
  have hf3 : ¬ ((2000 : Int) ≤ (n : Int)) := by omega
  have hpl := blk_lt h.box
  clear hn h hc hm hA M0 hbx hbase hB0 B0
  go_enter Try.func63, Try.ntmps63
  go_upto_region 3 with (fail)
  obtain ⟨b, hb⟩ : ∃ b, b = w.heap.size := ⟨_, rfl⟩
  rw [← hb] at B1 ⊢
  have HB := Aside0.mk hb
  clear hb
  refine start_ (n := 12) (S := fun w' => w'.cell? ⟨p, 0, none⟩ = some (.slice (some ⟨g, 0, none⟩) n cap) ∧ w'.cell? ⟨b, 0, none⟩ = some (.int .i64 x.f0) ∧ w'.cell? ⟨b, 1, none⟩ = some (.int .i64 x.f1) ∧ w'.cell? ⟨b, 2, none⟩ = some (.string x.f2) ∧ w'.cell? ⟨b, 3, none⟩ = some (.slice A m q) ∧ w'.cell? ⟨b, 4, none⟩ = some (.string x.f4)) (ds := [11]) #[false, false, false, false, false, false, false, false, false, false, false, false] (by kernel_rfl) rfl rfl ⟨(by rw [HN.out]; exact blk_cell M1.out.box 0), (bx5 B1.out).1, (bx5 B1.out).2.1, (bx5 B1.out).2.2.1, (bx5 B1.out).2.2.2.1, (bx5 B1.out).2.2.2.2⟩ (fun hHeld => ?_)
  generalize (w.alloc (Obj.cells #[Value.int IntKind.i64 x.f0, Value.int IntKind.i64 x.f1, Value.string x.f2, Value.slice A m q, Value.string x.f4] 94)).drew = W at hHeld M1 B1 RO RZ SB RA G0 ⊢
  refine pure_ (i := 0) (N := some 15) (v := ?_) (a' := ?_) #[true, false, false, false, false, false, false, false, false, false, false, false] rfl rfl (by kernel_rfl) (fun _ _ _ h => h) (Or.inl ⟨by rfl, ?_⟩) ?_ ?_
  rotate_left
  · intro w'
    go_simp
    with_reducible rfl
  rotate_left
  · simp only [Act.put, List.setIfInBounds_toArray, List.set_cons_zero, List.set_cons_succ, i64_w, i32_w]
    rfl
  refine pure_ (i := 1) (N := some 16) (v := ?_) (a' := ?_) #[true, true, false, false, false, false, false, false, false, false, false, false] rfl rfl (by kernel_rfl) (fun _ _ _ h => h) (Or.inl ⟨by rfl, ?_⟩) ?_ ?_
  rotate_left
  · intro w'
    go_simp
    with_reducible rfl
  rotate_left
  · simp only [Act.put, List.setIfInBounds_toArray, List.set_cons_zero, List.set_cons_succ, i64_w, i32_w]
    rfl
  refine pure_ (i := 2) (N := some 17) (v := ?_) (a' := ?_) #[true, true, true, false, false, false, false, false, false, false, false, false] rfl rfl (by kernel_rfl) (fun _ _ _ h => h) (Or.inl ⟨by rfl, ?_⟩) ?_ ?_
  rotate_left
  · intro w'
    go_simp
    with_reducible rfl
  rotate_left
  · simp only [Act.put, List.setIfInBounds_toArray, List.set_cons_zero, List.set_cons_succ, i64_w, i32_w]
    rfl
  refine pure_ (i := 3) (N := some 18) (v := ?_) (a' := ?_) #[true, true, true, true, false, false, false, false, false, false, false, false] rfl rfl (by kernel_rfl) (fun _ _ _ h => h) (Or.inl ⟨by rfl, ?_⟩) ?_ ?_
  rotate_left
  · intro w'
    go_simp
    with_reducible rfl
  rotate_left
  · simp only [Act.put, List.setIfInBounds_toArray, List.set_cons_zero, List.set_cons_succ, i64_w, i32_w]
    rfl
  refine take_ (i := 4) (N := some 19) (v := ?_) (a' := ?_) #[true, true, true, true, true, false, false, false, false, false, false, false] rfl rfl (by kernel_rfl) (fun _ _ _ h => h) (Or.inl ⟨by rfl, ?_⟩) hHeld ?_ ?_
  rotate_left
  · rintro w' ⟨s0, s1, s2, s3, s4, s5⟩
    go_simp
    with_reducible rfl
  rotate_left
  · simp only [Act.put, List.setIfInBounds_toArray, List.set_cons_zero, List.set_cons_succ, i64_w, i32_w]
    rfl
  refine take_ (i := 5) (N := some 20) (v := ?_) (a' := ?_) #[true, true, true, true, true, true, false, false, false, false, false, false] rfl rfl (by kernel_rfl) (fun _ _ _ h => h) (Or.inl ⟨by rfl, ?_⟩) hHeld ?_ ?_
  rotate_left
  · rintro w' ⟨s0, s1, s2, s3, s4, s5⟩
    go_simp
    with_reducible rfl
  rotate_left
  · simp only [Act.put, List.setIfInBounds_toArray, List.set_cons_zero, List.set_cons_succ, i64_w, i32_w]
    rfl
  refine pure_ (i := 6) (N := some 21) (v := ?_) (a' := ?_) #[true, true, true, true, true, true, true, false, false, false, false, false] rfl rfl (by kernel_rfl) (fun _ _ _ h => h) (Or.inl ⟨by rfl, ?_⟩) ?_ ?_
  rotate_left
  · intro w'
    go_simp
    with_reducible rfl
  rotate_left
  · simp only [Act.put, List.setIfInBounds_toArray, List.set_cons_zero, List.set_cons_succ, i64_w, i32_w]
    rfl
  refine one_ (i := 7) (N := some 22) #[true, true, true, true, true, true, true, true, false, false, false, false] rfl rfl (by kernel_rfl) (by decide) (fun K hK => ?_)
  refine value_ (w1 := W.alloc (.cells #[Value.int .i64 x.f0, Value.int .i64 x.f1, Value.string x.f2, Value.slice A m q, Value.string x.f4, Value.int .i64 (-1), Value.slice none 0 0] 96)) (v := .slice (some ⟨W.heap.size, 0, none⟩) 1 1) (by rfl) rfl ?_ ?_
  · go_simp
  have M2 := Aside0.mk (am_below M1.out (below_alloc (Below.refl _ _) (.cells #[Value.int .i64 x.f0, Value.int .i64 x.f1, Value.string x.f2, Value.slice A m q, Value.string x.f4, Value.int .i64 (-1), Value.slice none 0 0] 96)))
  have B2 := Aside0.mk (blk_below B1.out (below_alloc (Below.refl _ _) (.cells #[Value.int .i64 x.f0, Value.int .i64 x.f1, Value.string x.f2, Value.slice A m q, Value.string x.f4, Value.int .i64 (-1), Value.slice none 0 0] 96)))
  refine hK.out _ _ ⟨(by rw [HN.out]; exact blk_cell M2.out.box 0), (bx5 B2.out).1, (bx5 B2.out).2.1, (bx5 B2.out).2.2.1, (bx5 B2.out).2.2.2.1, (bx5 B2.out).2.2.2.2⟩ (fun hHeld => ?_)
  clear hK K
  refine norm_ (a' := ?_) ?_ ?_
  rotate_left
  · show Act.put _ (some 22) _ = _
    simp only [Act.put, List.setIfInBounds_toArray, List.set_cons_zero, List.set_cons_succ, i64_w, i32_w]
    rfl
  refine one_ (i := 8) (N := some 23) #[true, true, true, true, true, true, true, true, true, false, false, false] rfl rfl (by kernel_rfl) (by decide) (fun K hK => ?_)
  refine Kd.R_append_step (Kd.raw 7) (w0 := W) (W := W) base (by rfl) (.tmp 19) (.tmp 22) 97 96 zc96 104 rfl Try.underlying97 info96b rfl (by decide) (by decide) (.slice (some ⟨g, 0, none⟩) n cap) (Z.map nzc) [Value.int .i64 x.f0, Value.int .i64 x.f1, Value.string x.f2, Value.slice A m q, Value.string x.f4, Value.int .i64 (-1), Value.slice none 0 0] ([Value.int .i64 x.f0, Value.int .i64 x.f1, Value.string x.f2, Value.slice A m q, Value.string x.f4, Value.int .i64 (-1), Value.slice none 0 0]) (fun _ => True) (fun _ => False) rfl rfl RZ.out (fun _ h => h.elim) (fun _ _ => trivial) RO.out (Below.refl _ _) SB.out LM.out ?_
  intro v1 w1 ho hb hg1 hat
  have E1 := Kd.R_slice ho
  obtain ⟨Av, cv, ev⟩ := E1
  obtain ⟨lv, hlv⟩ : ∃ l, l = (Z.map nzc ++ [[Value.int .i64 x.f0, Value.int .i64 x.f1, Value.string x.f2, Value.slice A m q, Value.string x.f4, Value.int .i64 (-1), Value.slice none 0 0]]).length := ⟨_, rfl⟩
  rw [← hlv] at ev
  have LV := Aside0.mk hlv
  clear hlv
  subst ev
  have R1 := Aside0.mk ho; have G1 := Aside0.mk hg1; have A1 := Aside0.mk hat
  have X1 := Aside0.mk (blk_grown M1.out.box (by rw [← HN.out]; exact hg1) (am_pv M1.out))
  have Y1 := Aside0.mk (blk_grown B1.out hg1 (by rw [HN.out]; exact am_v94 M1.out B1.out))
  have f1 := blk_frozen X1.out 0
  clear ho hb hg1 hat
  refine hK.out _ _ ⟨(by rw [HN.out]; exact blk_cell X1.out 0), (bx5 Y1.out).1, (bx5 Y1.out).2.1, (bx5 Y1.out).2.2.1, (bx5 Y1.out).2.2.2.1, (bx5 Y1.out).2.2.2.2⟩ (fun hHeld => ?_)
  clear hK K
  refine norm_ (a' := ?_) ?_ ?_
  rotate_left
  · show Act.put _ (some 23) _ = _
    simp only [Act.put, List.setIfInBounds_toArray, List.set_cons_zero, List.set_cons_succ, i64_w, i32_w]
    rfl
  refine pure_ (i := 9) (N := some 24) (v := ?_) (a' := ?_) #[true, true, true, true, true, true, true, true, true, true, false, false] rfl rfl (by kernel_rfl) (fun _ _ _ h => h) (Or.inl ⟨by rfl, ?_⟩) ?_ ?_
  rotate_left
  · intro w'
    go_simp
    with_reducible rfl
  rotate_left
  · simp only [Act.put, List.setIfInBounds_toArray, List.set_cons_zero, List.set_cons_succ, i64_w, i32_w]
    rfl
  refine pure_ (i := 10) (N := some 25) (v := ?_) (a' := ?_) #[true, true, true, true, true, true, true, true, true, true, true, false] rfl rfl (by kernel_rfl) (fun _ _ _ h => h) (Or.inl ⟨by rfl, ?_⟩) ?_ ?_
  rotate_left
  · intro w'
    go_simp
    with_reducible rfl
  rotate_left
  · simp only [Act.put, List.setIfInBounds_toArray, List.set_cons_zero, List.set_cons_succ, i64_w, i32_w]
    rfl
  refine last_ (i := 11) (N := none) #[true, true, true, true, true, true, true, true, true, true, true, true] rfl rfl (by kernel_rfl) (by decide) (fun K hK => ?_)
  refine skip_ (w1 := ?_) (by rfl) rfl ?_ ?_
  rotate_left
  · go_simp
    rfl
  refine hK.out _ _ ?_
  clear hK K
  refine done_ (by kernel_rfl) ?_
  clear hHeld f1 z0
  obtain rfl : lv = n + 1 := by rw [LV.out, List.length_append, List.length_map, List.length_singleton, HN.out]
  obtain ⟨v8, hv8⟩ : ∃ v, v = Value.slice Av (n + 1) cv := ⟨_, rfl⟩
  have M3 := am_app (z := ((⟨x, -1, []⟩ : S96), Value.slice A m q, Value.slice none 0 0)) M1.out R1.out (by rw [← HN.out]; exact G1.out) RA.out rfl rfl
  have G3 := Aside0.mk (show chg (aFt p (.slice (some ⟨g, 0, none⟩) Z.length cap) Z) w (w1.setCell ⟨p, 0, none⟩ (.slice Av (n + 1) cv)) from
    chg_trans (chg_below G0.out) (chg_trans (chg_grown (F := aFt p (.slice (some ⟨g, 0, none⟩) Z.length cap) Z) G1.out (fun k hk => .inr (.inl hk))) (chg_set (F := aFt p (.slice (some ⟨g, 0, none⟩) Z.length cap) Z) _ p 0 _ (.inl rfl)) (fun _ h => .inl h)) (fun _ h => .inl h))
  have x0 := (blk_cell M3.box 0).trans rfl
  have M4 := Aside0.mk M3
  clear M3
  generalize w1.setCell ⟨p, 0, none⟩ (.slice Av (n + 1) cv) = W3 at x0 M4 G3 ⊢
  go_wp2
  go_ret
  refine ⟨by simp, _, M4.out, ?_, G3.out⟩
  have := A1.out
  rcases this with h | ⟨b1, h, hb1⟩
  · exact .inl h
  · exact .inr ⟨b1, h, Nat.le_trans G0.out.size hb1⟩
/- Forests: parents and kids, by numbers. -/
structure Fo (n : Nat) (pa : Nat → Int) (ki : Nat → List Int) : Prop where
  pos : 0 < n
  root : pa 0 = -1
  kp : ∀ i, i < n → ∀ k ∈ ki i, ∃ c : Nat, k = (c : Int) ∧ c < n ∧ pa c = (i : Int)
  pk : ∀ c, c < n → pa c = -1 ∨ ∃ i : Nat, pa c = (i : Int) ∧ i < n ∧ (c : Int) ∈ ki i
  nd : ∀ i, i < n → (ki i).Nodup
  rk : ∃ rk : Nat → Nat, ∀ c, c < n → ∀ i : Nat, pa c = (i : Int) → rk i < rk c
inductive Sub (pa : Nat → Int) (i : Nat) : Nat → Prop
  | refl : Sub pa i i
  | step {c p : Nat} : pa c = (p : Int) → Sub pa i p → Sub pa i c
def upd {α : Type} (f : Nat → α) (i : Nat) (x : α) : Nat → α := fun k => if k = i then x else f k
theorem upd_self {α : Type} (f : Nat → α) (i : Nat) (x : α) : upd f i x i = x := by simp [upd]
theorem upd_ne {α : Type} (f : Nat → α) {i k : Nat} (x : α) (h : k ≠ i) : upd f i x k = f k := by simp [upd, h]
theorem Fo_c0 {n : Nat} {pa : Nat → Int} {ki : Nat → List Int} (h : Fo n pa ki) {i c : Nat} (hp : pa c = (i : Int)) : 0 < c := by
  rcases Nat.eq_zero_or_pos c with e | e
  · subst e; rw [h.root] at hp; omega
  · exact e
theorem Fo_out {n : Nat} {pa : Nat → Int} {ki : Nat → List Int} (h : Fo n pa ki) (i : Nat) : Fo n (upd pa i (-1)) (fun k => if pa i = (k : Int) then (ki k).filter (fun x => decide (x ≠ (i : Int))) else ki k) := by
  obtain ⟨rk, hrk⟩ := h.rk
  refine ⟨h.pos, ?_, fun j hj k hk => ?_, fun c hc => ?_, fun j hj => ?_, rk, fun c hc j hp => ?_⟩
  · unfold upd; split
    · rfl
    · exact h.root
  · have hk' : k ∈ ki j ∧ (pa i = (j : Int) → k ≠ (i : Int)) := by
      by_cases e : pa i = (j : Int)
      · simp only [e, if_true] at hk
        have := List.mem_filter.1 hk
        exact ⟨this.1, fun _ => by simpa using this.2⟩
      · simp only [e, if_false] at hk
        exact ⟨hk, fun q => absurd q e⟩
    obtain ⟨c, rfl, hc, hp⟩ := h.kp j hj k hk'.1
    refine ⟨c, rfl, hc, ?_⟩
    rw [upd_ne]
    · exact hp
    · rintro rfl
      exact hk'.2 hp rfl
  · by_cases e : c = i
    · subst e; exact .inl (upd_self _ _ _)
    · rw [upd_ne _ _ e]
      rcases h.pk c hc with hp | ⟨j, hp, hj, hm⟩
      · exact .inl hp
      · refine .inr ⟨j, hp, hj, ?_⟩
        split
        · refine List.mem_filter.2 ⟨hm, ?_⟩
          simp; omega
        · exact hm
  · split
    · exact (h.nd j hj).filter _
    · exact h.nd j hj
  · by_cases e : c = i
    · subst e; rw [upd_self] at hp; omega
    · rw [upd_ne _ _ e] at hp
      exact hrk c hc j hp
theorem Sub_out {pa : Nat → Int} {i f a : Nat} (h : Sub (upd pa i (-1)) f a) : Sub pa f a := by
  induction h with
  | refl => exact .refl
  | step hp _ ih =>
    rename_i c p _
    by_cases e : c = i
    · subst e; rw [upd_self] at hp; omega
    · rw [upd_ne _ _ e] at hp
      exact .step hp ih
theorem nodup_ins {l : List Int} {x : Int} (a : Nat) (h : l.Nodup) (hx : x ∉ l) : (l.take a ++ x :: l.drop a).Nodup := by
  have hp : (l.take a ++ x :: l.drop a).Perm (x :: l) := by
    have h1 : (l.take a ++ x :: l.drop a).Perm (x :: (l.take a ++ l.drop a)) := List.perm_middle
    rwa [List.take_append_drop] at h1
  exact (hp.nodup_iff).2 (List.nodup_cons.2 ⟨hx, h⟩)
theorem mem_ins {l : List Int} {x y : Int} (a : Nat) : y ∈ l.take a ++ x :: l.drop a ↔ y = x ∨ y ∈ l := by
  have h1 : (l.take a ++ x :: l.drop a).Perm (x :: (l.take a ++ l.drop a)) := List.perm_middle
  rw [List.take_append_drop] at h1
  rw [h1.mem_iff, List.mem_cons]
theorem Fo_put {n : Nat} {pa : Nat → Int} {ki : Nat → List Int} (h : Fo n pa ki) (i j a : Nat) (hi : i < n) (hj : j < n) (hi0 : 0 < i) (hp : pa i = -1) (hs : ¬ Sub pa i j) : Fo n (upd pa i (j : Int)) (upd ki j ((ki j).take a ++ (i : Int) :: (ki j).drop a)) := by
  obtain ⟨rk, hrk⟩ := h.rk
  have hni : ∀ k, k < n → (i : Int) ∉ ki k := by
    intro k hk hm
    obtain ⟨c, e, _, hc⟩ := h.kp k hk _ hm
    have : c = i := by omega
    subst this
    omega
  refine ⟨h.pos, ?_, fun b hb k hk => ?_, fun c hc => ?_, fun b hb => ?_, ?_⟩
  · rw [upd_ne _ _ (by omega)]; exact h.root
  · have hk' : (b = j ∧ k = (i : Int)) ∨ k ∈ ki b := by
      by_cases e : b = j
      · subst e
        rw [upd_self] at hk
        rcases (mem_ins a).1 hk with e | e
        · exact .inl ⟨rfl, e⟩
        · exact .inr e
      · rw [upd_ne _ _ e] at hk
        exact .inr hk
    rcases hk' with ⟨rfl, rfl⟩ | hk'
    · exact ⟨i, rfl, hi, upd_self _ _ _⟩
    · obtain ⟨c, rfl, hc, hq⟩ := h.kp b hb k hk'
      refine ⟨c, rfl, hc, ?_⟩
      rw [upd_ne]
      · exact hq
      · rintro rfl
        exact hni b hb hk'
  · by_cases e : c = i
    · subst e
      refine .inr ⟨j, upd_self _ _ _, hj, ?_⟩
      rw [upd_self]
      exact (mem_ins a).2 (.inl rfl)
    · rw [upd_ne _ _ e]
      rcases h.pk c hc with hq | ⟨b, hq, hb, hm⟩
      · exact .inl hq
      · refine .inr ⟨b, hq, hb, ?_⟩
        by_cases e2 : b = j
        · subst e2
          rw [upd_self]
          exact (mem_ins a).2 (.inr hm)
        · rw [upd_ne _ _ e2]; exact hm
  · by_cases e : b = j
    · subst e
      rw [upd_self]
      exact nodup_ins a (h.nd b hb) (hni b hb)
    · rw [upd_ne _ _ e]; exact h.nd b hb
  · classical
    refine ⟨fun x => if Sub pa i x then rk x + rk j + 1 else rk x, fun c hc b hq => ?_⟩
    show (if Sub pa i b then rk b + rk j + 1 else rk b) < (if Sub pa i c then rk c + rk j + 1 else rk c)
    by_cases e : c = i
    · subst e
      rw [upd_self] at hq
      have : b = j := by omega
      subst this
      rw [if_neg hs, if_pos .refl]
      omega
    · rw [upd_ne _ _ e] at hq
      have := hrk c hc b hq
      by_cases e2 : Sub pa i b
      · rw [if_pos e2, if_pos (.step hq e2)]; omega
      · have e3 : ¬ Sub pa i c := by
          intro h3
          cases h3 with
          | refl => exact e rfl
          | @step _ q hq2 h4 =>
            rw [hq] at hq2
            have : b = q := by omega
            subst this
            exact e2 h4
        rw [if_neg e2, if_neg e3]; exact this
/- As many steps as there are nodes. -/
theorem nodup_le : ∀ (n : Nat) (l : List Nat), l.Nodup → (∀ x ∈ l, x < n) → l.length ≤ n
  | 0, l, _, h => by
    cases l with
    | nil => exact Nat.le_refl _
    | cons x l => exact absurd (h x List.mem_cons_self) (by omega)
  | n + 1, l, hn, h => by
    have h1 := nodup_le n (l.filter (fun x => decide (x ≠ n))) (hn.filter _) (fun x hx => by
      have := List.mem_filter.1 hx
      have h2 := h x this.1
      have h3 : x ≠ n := by simpa using this.2
      omega)
    have h2 : l.length ≤ (l.filter (fun x => decide (x ≠ n))).length + 1 := by
      have : ∀ l : List Nat, l.Nodup → l.length ≤ (l.filter (fun x => decide (x ≠ n))).length + 1 := by
        intro l
        induction l with
        | nil => intro _; simp
        | cons x l ih =>
          intro hl
          obtain ⟨hx, hl⟩ := List.nodup_cons.1 hl
          by_cases e : x = n
          · subst e
            have : l.filter (fun y => decide (y ≠ x)) = l := by
              rw [List.filter_eq_self]
              intro y hy
              simp
              rintro rfl
              exact hx hy
            rw [List.filter_cons_of_neg (by simp), this]; simp
          · rw [List.filter_cons_of_pos (by simp [e])]
            have := ih hl
            simp only [List.length_cons]; omega
      exact this l hn
    omega
def dp (pa : Nat → Int) : Nat → Nat → Nat
  | 0, _ => 0
  | k + 1, c => if pa c < 0 then 0 else dp pa k (pa c).toNat + 1
theorem Fo_bound {n : Nat} {pa : Nat → Int} {ki : Nat → List Int} (h : Fo n pa ki) : ∃ rk : Nat → Nat, (∀ c, c < n → rk c < n) ∧ ∀ c, c < n → ∀ i : Nat, pa c = (i : Int) → i < n ∧ rk c = rk i + 1 := by
  obtain ⟨rk, hrk⟩ := h.rk
  -- a path that goes up, each node once
  have path : ∀ (m c : Nat), c < n → rk c < m → ∃ l : List Nat, l.Nodup ∧ (∀ x ∈ l, x < n ∧ rk x ≤ rk c) ∧ l.length = dp pa m c + 1 := by
    intro m
    induction m with
    | zero => intro c _ hc; omega
    | succ m ih =>
      intro c hc hm
      rcases h.pk c hc with hp | ⟨i, hp, hi, _⟩
      · refine ⟨[c], by simp, ?_, ?_⟩
        · intro x hx; rw [List.mem_singleton.1 hx]; exact ⟨hc, Nat.le_refl _⟩
        · unfold dp; rw [if_pos (by omega)]; rfl
      · have hr := hrk c hc i hp
        obtain ⟨l, h1, h2, h3⟩ := ih i hi (by omega)
        refine ⟨c :: l, List.nodup_cons.2 ⟨fun hm' => ?_, h1⟩, ?_, ?_⟩
        · have := (h2 c hm').2; omega
        · intro x hx
          rcases List.mem_cons.1 hx with rfl | hx
          · exact ⟨hc, Nat.le_refl _⟩
          · have := h2 x hx; exact ⟨this.1, by omega⟩
        · unfold dp
          rw [if_neg (by omega), hp, Int.toNat_natCast, List.length_cons, h3]
  have stab : ∀ (m c : Nat), c < n → rk c < m → ∀ m', rk c < m' → dp pa m c = dp pa m' c := by
    intro m
    induction m with
    | zero => intro c _ hc; omega
    | succ m ih =>
      intro c hc hm m' hm'
      obtain ⟨m', rfl⟩ : ∃ q, m' = q + 1 := ⟨m' - 1, by omega⟩
      unfold dp
      rcases h.pk c hc with hp | ⟨i, hp, hi, _⟩
      · rw [if_pos (by omega), if_pos (by omega)]
      · have hr := hrk c hc i hp
        rw [if_neg (by omega), if_neg (by omega), hp, Int.toNat_natCast, ih i hi (by omega) m' (by omega)]
  refine ⟨fun c => dp pa (rk c + 1) c, fun c hc => ?_, fun c hc i hp => ?_⟩
  · obtain ⟨l, h1, h2, h3⟩ := path (rk c + 1) c hc (by omega)
    have := nodup_le n l h1 (fun x hx => (h2 x hx).1)
    dsimp only; omega
  · have hi : i < n := by
      rcases h.pk c hc with hq | ⟨i', hq, hi', _⟩
      · omega
      · have : i' = i := by omega
        omega
    refine ⟨hi, ?_⟩
    have hr := hrk c hc i hp
    have e : dp pa (rk c + 1) c = dp pa (rk c) i + 1 := by
      conv => lhs; unfold dp
      rw [if_neg (by omega), hp, Int.toNat_natCast]
    dsimp only
    rw [e, stab (rk c) i hi hr (rk i + 1) (by omega)]
theorem Fo_sub_root {n : Nat} {pa : Nat → Int} {ki : Nat → List Int} (h : Fo n pa ki) {i : Nat} (hi : 0 < i) : ¬ Sub pa i 0 := by
  intro hs
  cases hs with
  | refl => omega
  | step hp _ => rw [h.root] at hp; omega
/- An arena's nodes; what is done to them. -/
def paS (S : List S96) (i : Nat) : Int := match S[i]? with | some x => x.f1 | none => -1
def kiS (S : List S96) (i : Nat) : List Int := match S[i]? with | some x => x.f2 | none => []
def faS (S : List S96) (i : Nat) : S94 := match S[i]? with | some x => x.f0 | none => ⟨0, 0, ⟨#[]⟩, [], ⟨#[]⟩⟩
def setPa (S : List S96) (i : Nat) (x : Int) : List S96 := match S[i]? with | some z => S.set i {z with f1 := x} | none => S
def setKi (S : List S96) (i : Nat) (l : List Int) : List S96 := match S[i]? with | some z => S.set i {z with f2 := l} | none => S
def setFa (S : List S96) (i : Nat) (f : S94) : List S96 := match S[i]? with | some z => S.set i {z with f0 := f} | none => S
def FoS (S : List S96) : Prop := Fo S.length (paS S) (kiS S)
theorem len_setPa (S : List S96) (i : Nat) (x : Int) : (setPa S i x).length = S.length := by unfold setPa; split <;> simp
theorem len_setKi (S : List S96) (i : Nat) (l : List Int) : (setKi S i l).length = S.length := by unfold setKi; split <;> simp
theorem len_setFa (S : List S96) (i : Nat) (f : S94) : (setFa S i f).length = S.length := by unfold setFa; split <;> simp
theorem get_set (S : List S96) (i k : Nat) (z x : S96) (hz : S[i]? = some z) : (S.set i x)[k]? = if k = i then some x else S[k]? := by
  have hi := (List.getElem?_eq_some_iff.1 hz).1
  by_cases e : k = i
  · subst e; rw [if_pos rfl, List.getElem?_set_self hi]
  · rw [if_neg e, List.getElem?_set_ne (Ne.symm e)]
theorem ex_at {S : List S96} {i : Nat} (h : i < S.length) : ∃ z, S[i]? = some z := ⟨_, List.getElem?_eq_getElem h⟩
theorem pa_setPa {S : List S96} {i : Nat} (h : i < S.length) (x : Int) : paS (setPa S i x) = upd (paS S) i x := by
  obtain ⟨z, hz⟩ := ex_at h
  funext k
  unfold paS setPa upd
  rw [hz]
  dsimp only
  rw [get_set S i k z _ hz]
  by_cases e : k = i
  · rw [if_pos e, if_pos e]
  · rw [if_neg e, if_neg e]
theorem ki_setPa (S : List S96) (i : Nat) (x : Int) : kiS (setPa S i x) = kiS S := by
  funext k
  unfold kiS setPa
  cases hz : S[i]? with
  | none => rfl
  | some z =>
    dsimp only
    rw [get_set S i k z _ hz]
    by_cases e : k = i
    · subst e; rw [if_pos rfl, hz]
    · rw [if_neg e]
theorem fa_setPa (S : List S96) (i : Nat) (x : Int) : faS (setPa S i x) = faS S := by
  funext k
  unfold faS setPa
  cases hz : S[i]? with
  | none => rfl
  | some z =>
    dsimp only
    rw [get_set S i k z _ hz]
    by_cases e : k = i
    · subst e; rw [if_pos rfl, hz]
    · rw [if_neg e]
theorem ki_setKi {S : List S96} {i : Nat} (h : i < S.length) (l : List Int) : kiS (setKi S i l) = upd (kiS S) i l := by
  obtain ⟨z, hz⟩ := ex_at h
  funext k
  unfold kiS setKi upd
  rw [hz]
  dsimp only
  rw [get_set S i k z _ hz]
  by_cases e : k = i
  · rw [if_pos e, if_pos e]
  · rw [if_neg e, if_neg e]
theorem pa_setKi (S : List S96) (i : Nat) (l : List Int) : paS (setKi S i l) = paS S := by
  funext k
  unfold paS setKi
  cases hz : S[i]? with
  | none => rfl
  | some z =>
    dsimp only
    rw [get_set S i k z _ hz]
    by_cases e : k = i
    · subst e; rw [if_pos rfl, hz]
    · rw [if_neg e]
theorem fa_setKi (S : List S96) (i : Nat) (l : List Int) : faS (setKi S i l) = faS S := by
  funext k
  unfold faS setKi
  cases hz : S[i]? with
  | none => rfl
  | some z =>
    dsimp only
    rw [get_set S i k z _ hz]
    by_cases e : k = i
    · subst e; rw [if_pos rfl, hz]
    · rw [if_neg e]
theorem pa_setFa (S : List S96) (i : Nat) (f : S94) : paS (setFa S i f) = paS S := by
  funext k
  unfold paS setFa
  cases hz : S[i]? with
  | none => rfl
  | some z =>
    dsimp only
    rw [get_set S i k z _ hz]
    by_cases e : k = i
    · subst e; rw [if_pos rfl, hz]
    · rw [if_neg e]
theorem ki_setFa (S : List S96) (i : Nat) (f : S94) : kiS (setFa S i f) = kiS S := by
  funext k
  unfold kiS setFa
  cases hz : S[i]? with
  | none => rfl
  | some z =>
    dsimp only
    rw [get_set S i k z _ hz]
    by_cases e : k = i
    · subst e; rw [if_pos rfl, hz]
    · rw [if_neg e]
theorem fa_setFa {S : List S96} {i : Nat} (h : i < S.length) (f : S94) : faS (setFa S i f) = upd (faS S) i f := by
  obtain ⟨z, hz⟩ := ex_at h
  funext k
  unfold faS setFa upd
  rw [hz]
  dsimp only
  rw [get_set S i k z _ hz]
  by_cases e : k = i
  · rw [if_pos e, if_pos e]
  · rw [if_neg e, if_neg e]
/- Two lists of nodes are one, if they say the same. -/
theorem S_ext {S T : List S96} (hl : S.length = T.length) (h1 : ∀ i, i < S.length → faS S i = faS T i) (h2 : ∀ i, i < S.length → paS S i = paS T i) (h3 : ∀ i, i < S.length → kiS S i = kiS T i) : S = T := by
  apply List.ext_getElem?
  intro i
  by_cases c : i < S.length
  · obtain ⟨x, hx⟩ := ex_at c
    obtain ⟨y, hy⟩ := ex_at (S := T) (i := i) (by omega)
    have e1 := h1 i c
    have e2 := h2 i c
    have e3 := h3 i c
    unfold faS at e1
    unfold paS at e2
    unfold kiS at e3
    rw [hx, hy] at e1 e2 e3
    rw [hx, hy]
    cases x; cases y
    simp only at e1 e2 e3
    subst e1 e2 e3
    rfl
  · rw [List.getElem?_eq_none (by omega), List.getElem?_eq_none (by omega)]
def outS (S : List S96) (i : Nat) : List S96 := if paS S i < 0 then S else setPa (setKi S (paS S i).toNat ((kiS S (paS S i).toNat).filter (fun x => decide (x ≠ (i : Int))))) i (-1)
def putS (S : List S96) (j a i : Nat) : List S96 := setPa (setKi S j ((kiS S j).take a ++ (i : Int) :: (kiS S j).drop a)) i (j : Int)
theorem len_outS (S : List S96) (i : Nat) : (outS S i).length = S.length := by unfold outS; split <;> simp [len_setPa, len_setKi]
theorem len_putS (S : List S96) (j a i : Nat) : (putS S j a i).length = S.length := by simp [putS, len_setPa, len_setKi]
theorem fa_outS (S : List S96) (i : Nat) : faS (outS S i) = faS S := by unfold outS; split <;> simp [fa_setPa, fa_setKi]
theorem fa_putS (S : List S96) (j a i : Nat) : faS (putS S j a i) = faS S := by simp [putS, fa_setPa, fa_setKi]
theorem FoS_pa {S : List S96} (h : FoS S) {i : Nat} (hi : i < S.length) : paS S i = -1 ∨ ∃ j : Nat, paS S i = (j : Int) ∧ j < S.length ∧ (i : Int) ∈ kiS S j ∧ i ≠ j := by
  rcases h.pk i hi with h1 | ⟨j, h1, h2, h3⟩
  · exact .inl h1
  · refine .inr ⟨j, h1, h2, h3, ?_⟩
    rintro rfl
    obtain ⟨rk, hrk⟩ := h.rk
    exact Nat.lt_irrefl _ (hrk i hi i h1)
theorem pa_outS {S : List S96} (h : FoS S) {i : Nat} (hi : i < S.length) : paS (outS S i) = upd (paS S) i (-1) := by
  unfold outS
  split
  · rename_i c
    have : paS S i = -1 := by
      rcases FoS_pa h hi with h1 | ⟨j, h1, _⟩
      · exact h1
      · omega
    funext k
    unfold upd
    split
    · rename_i e; rw [e, this]
    · rfl
  · rw [pa_setPa (by rw [len_setKi]; exact hi), pa_setKi]
theorem ki_outS {S : List S96} (h : FoS S) {i : Nat} (hi : i < S.length) : kiS (outS S i) = fun k : Nat => if paS S i = (k : Int) then (kiS S k).filter (fun x => decide (x ≠ (i : Int))) else kiS S k := by
  unfold outS
  rcases FoS_pa h hi with h1 | ⟨j, h1, h2, _⟩
  · rw [if_pos (by omega)]
    funext k
    rw [if_neg (by omega)]
  · rw [if_neg (by omega), ki_setPa, h1, Int.toNat_natCast, ki_setKi h2]
    funext k
    unfold upd
    by_cases e : k = j
    · rw [if_pos e, if_pos (by omega), e]
    · rw [if_neg e, if_neg (by omega)]
theorem FoS_out {S : List S96} (h : FoS S) {i : Nat} (hi : i < S.length) : FoS (outS S i) := by
  have := Fo_out h i
  unfold FoS
  rw [len_outS, pa_outS h hi, ki_outS h hi]
  exact this
theorem pa_putS {S : List S96} {i j : Nat} (hi : i < S.length) (a : Nat) : paS (putS S j a i) = upd (paS S) i (j : Int) := by
  unfold putS
  rw [pa_setPa (by rw [len_setKi]; exact hi), pa_setKi]
theorem ki_putS {S : List S96} {i j : Nat} (hj : j < S.length) (a : Nat) : kiS (putS S j a i) = upd (kiS S) j ((kiS S j).take a ++ (i : Int) :: (kiS S j).drop a) := by
  unfold putS
  rw [ki_setPa, ki_setKi hj]
theorem FoS_put {S : List S96} (h : FoS S) {i j : Nat} (hi : i < S.length) (hj : j < S.length) (a : Nat) (hi0 : 0 < i) (hp : paS S i = -1) (hs : ¬ Sub (paS S) i j) : FoS (putS S j a i) := by
  have := Fo_put h i j a hi hj hi0 hp hs
  unfold FoS
  rw [len_putS, pa_putS hi, ki_putS hj]
  exact this
theorem FoS_ki_len {S : List S96} (h : FoS S) {i : Nat} (hi : i < S.length) : (kiS S i).length ≤ S.length := by
  have h1 := nodup_le S.length ((kiS S i).map Int.toNat) ?_ ?_
  · simpa using h1
  · have hn := h.nd i hi
    have : ∀ l : List Int, l.Nodup → (∀ k ∈ l, 0 ≤ k) → (l.map Int.toNat).Nodup := by
      intro l
      induction l with
      | nil => intro _ _; simp
      | cons x l ih =>
        intro hl hk
        obtain ⟨hx, hl⟩ := List.nodup_cons.1 hl
        rw [List.map_cons]
        refine List.nodup_cons.2 ⟨fun hm => ?_, ih hl (fun k hk' => hk k (List.mem_cons_of_mem _ hk'))⟩
        obtain ⟨y, hy, e⟩ := List.mem_map.1 hm
        have h1 := hk x List.mem_cons_self
        have h2 := hk y (List.mem_cons_of_mem _ hy)
        have : x = y := by omega
        subst this
        exact hx hy
    refine this _ hn (fun k hk => ?_)
    obtain ⟨c, rfl, _⟩ := h.kp i hi k hk
    omega
  · intro x hx
    obtain ⟨k, hk, rfl⟩ := List.mem_map.1 hx
    obtain ⟨c, rfl, hc, _⟩ := h.kp i hi k hk
    rw [Int.toNat_natCast]; exact hc
/- A number's place in a row that has it once. -/
theorem first_at {l : List Int} {x : Int} (hn : l.Nodup) (hm : x ∈ l) : ∃ a : Nat, l[a]? = some x ∧ (∀ b, b < a → l[b]? ≠ some x) ∧ l.take a ++ l.drop (a + 1) = l.filter (fun y => decide (y ≠ x)) := by
  induction l with
  | nil => cases hm
  | cons y l ih =>
    obtain ⟨hy, hn⟩ := List.nodup_cons.1 hn
    by_cases e : y = x
    · subst e
      refine ⟨0, rfl, fun b hb => by omega, ?_⟩
      have : l.filter (fun z => decide (z ≠ y)) = l := by
        rw [List.filter_eq_self]
        intro z hz
        simp
        rintro rfl
        exact hy hz
      rw [List.filter_cons_of_neg (by simp), this]
      rfl
    · have hm : x ∈ l := by
        rcases List.mem_cons.1 hm with h | h
        · exact absurd h.symm e
        · exact h
      obtain ⟨a, h1, h2, h3⟩ := ih hn hm
      refine ⟨a + 1, h1, fun b hb => ?_, ?_⟩
      · cases b with
        | zero => simp [e]
        | succ b => simpa using h2 b (by omega)
      · rw [List.filter_cons_of_pos (by simp [e]), ← h3]
        rfl
/- An arena, wherever it lies; O: blocks that are none of its own. -/
def JA (w0 w : World) (p : Nat) (S : List S96) (O : Nat → Prop) : Prop := ∃ v Z, am w0.heap.size w p v Z ∧ Z.map (·.1) = S ∧ Below w0.heap.size w0 w ∧ ∀ k, O k → k < w.heap.size ∧ ¬ aFt p v Z k
def kO (O : Nat → Prop) (w w' : World) : Prop := w.heap.size ≤ w'.heap.size ∧ ∀ k, O k → w'.heap[k]? = w.heap[k]?
theorem kO_refl (O : Nat → Prop) (w : World) : kO O w w := ⟨Nat.le_refl _, fun _ _ => rfl⟩
theorem kO_trans {O : Nat → Prop} {w w1 w2 : World} (h : kO O w w1) (k : kO O w1 w2) : kO O w w2 := ⟨Nat.le_trans h.1 k.1, fun i hi => (k.2 i hi).trans (h.2 i hi)⟩
theorem JA_below {w0 w : World} {p : Nat} {S : List S96} {O : Nat → Prop} (h : JA w0 w p S O) : Below w0.heap.size w0 w := by obtain ⟨v, Z, _, _, h, _⟩ := h; exact h
theorem JA_O {w0 w : World} {p : Nat} {S : List S96} {O : Nat → Prop} (h : JA w0 w p S O) {k : Nat} (hk : O k) : k < w.heap.size := by obtain ⟨v, Z, _, _, _, h⟩ := h; exact (h k hk).1
theorem JA_len {w0 w : World} {p : Nat} {S : List S96} {O : Nat → Prop} (h : JA w0 w p S O) : 0 < S.length := by
  obtain ⟨v, Z, h, rfl, _⟩ := h
  rw [List.length_map]; exact h.ne
/- What is new is not the arena's. -/
theorem JA_deep {w0 w w' : World} {p : Nat} {S : List S96} {O : Nat → Prop} (h : JA w0 w p S O) (b : Below w.heap.size w w') : JA w0 w' p S (fun k => O k ∨ (w.heap.size ≤ k ∧ k < w'.heap.size)) := by
  obtain ⟨v, Z, h1, h2, h3, h4⟩ := h
  refine ⟨v, Z, am_below h1 b, h2, below_step h3 b, fun k hk => ?_⟩
  rcases hk with hk | hk
  · exact ⟨Nat.lt_of_lt_of_le (h4 k hk).1 b.size, (h4 k hk).2⟩
  · exact ⟨hk.2, fun e => by have := am_lt h1 e; omega⟩
theorem JA_mono {w0 w : World} {p : Nat} {S : List S96} {O O' : Nat → Prop} (h : JA w0 w p S O) (ho : ∀ k, O' k → O k) : JA w0 w p S O' := by
  obtain ⟨v, Z, h1, h2, h3, h4⟩ := h
  exact ⟨v, Z, h1, h2, h3, fun k hk => h4 k (ho k hk)⟩
theorem JA_step {w0 w w' : World} {p : Nat} {S : List S96} {O : Nat → Prop} (h : JA w0 w p S O) (b : Below w.heap.size w w') : JA w0 w' p S O := JA_mono (JA_deep h b) (fun _ hk => .inl hk)
theorem kO_below {w0 w w' : World} {p : Nat} {S : List S96} {O : Nat → Prop} (h : JA w0 w p S O) (b : Below w.heap.size w w') : kO O w w' := ⟨b.size, fun k hk => b.block k (JA_O h hk)⟩
/- A block of O is written. -/
theorem JA_write {w0 w : World} {p g j : Nat} {S : List S96} {O : Nat → Prop} (h : JA w0 w p S O) (hO : O g) (hg : w0.heap.size ≤ g) (u : Value) : JA w0 (w.setCell ⟨g, j, none⟩ u) p S O := by
  obtain ⟨v, Z, h1, h2, h3, h4⟩ := h
  have hn := (h4 g hO).2
  refine ⟨v, Z, am_move h1 (fun k hk => Below.heap_setCell w ⟨g, j, none⟩ u k (fun e => hn (by have e : k = g := e; rw [← e]; exact hk))), h2, below_set h3 hg, fun k hk => ⟨by simp only [World.setCell, Array.size_modify]; exact (h4 k hk).1, (h4 k hk).2⟩⟩
theorem JA_act {w0 w w' : World} {p : Nat} {v v' : Value} {Z Z' : List Nz} {S' : List S96} {O : Nat → Prop} (h : am w0.heap.size w p v Z) (hB : Below w0.heap.size w0 w) (hO : ∀ k, O k → k < w.heap.size ∧ ¬ aFt p v Z k) (h' : am w0.heap.size w' p v' Z') (hS : Z'.map (·.1) = S') (hc : chg (aFt p v Z) w w') (hF : ∀ k, aFt p v' Z' k → aFt p v Z k ∨ w.heap.size ≤ k) : JA w0 w' p S' O ∧ kO O w w' := by
  refine ⟨⟨v', Z', h', hS, chg_to_below hB hc (fun k hk => am_base h hk) (Nat.le_refl _), fun k hk => ⟨Nat.lt_of_lt_of_le (hO k hk).1 hc.size, fun e => ?_⟩⟩, hc.size, fun k hk => hc.block k (hO k hk).1 (hO k hk).2⟩
  rcases hF k e with e | e
  · exact (hO k hk).2 e
  · have := (hO k hk).1; omega
theorem aF_set {p i : Nat} {v : Value} {Z : List Nz} {z : Nz} {k : Nat} (h : aFt p v (Z.set i z) k) : aFt p v Z k ∨ some k = z.2.1.ownBlock ∨ some k = z.2.2.ownBlock := by
  rcases h with h | h | ⟨j, y, hy, h⟩
  · exact .inl (.inl h)
  · exact .inl (.inr (.inl h))
  · by_cases e : i = j
    · subst e
      have hl := (List.getElem?_eq_some_iff.1 hy).1
      rw [List.length_set] at hl
      rw [List.getElem?_set_self hl] at hy
      injection hy with hy
      subst hy
      exact .inr h
    · rw [List.getElem?_set_ne e] at hy
      exact .inl (.inr (.inr ⟨j, y, hy, h⟩))
theorem fst_at {Z : List Nz} {S : List S96} (h : Z.map (·.1) = S) {i : Nat} {x : S96} (hx : S[i]? = some x) : ∃ z : Nz, Z[i]? = some z ∧ z.1 = x := by
  subst h
  rw [List.getElem?_map] at hx
  cases hz : Z[i]? with
  | none => rw [hz] at hx; cases hx
  | some z =>
    rw [hz] at hx
    exact ⟨z, rfl, by injection hx⟩
theorem J_is {w0 w : World} {p : Nat} {S : List S96} {O : Nat → Prop} (h : JA w0 w p S O) (i : Int) (b : Bool) (hb : inZ S.length i = b) :
    Calls Try.prog 65 #[.pointer (some ⟨p, 0, none⟩), .int .i64 i] w fun e w' => e = .returned (.bool b) ∧ w = w' := by
  obtain ⟨v, Z, h1, rfl, _⟩ := h
  rw [List.length_map] at hb
  exact ar_isB h1 i b hb
theorem J_Len {w0 w : World} {p : Nat} {S : List S96} {O : Nat → Prop} (h : JA w0 w p S O) :
    Calls Try.prog 30 #[.pointer (some ⟨p, 0, none⟩)] w fun e w' => e = .returned (.int .i64 (S.length : Int)) ∧ w = w' := by
  obtain ⟨v, Z, h1, rfl, _⟩ := h
  rw [List.length_map]
  exact ar_Len h1
def paI (S : List S96) (i : Int) : Int := if inZ S.length i = true then paS S i.toNat else -1
def kiI (S : List S96) (i : Int) : List Int := if inZ S.length i = true then kiS S i.toNat else []
theorem J_Parent {w0 w : World} {p : Nat} {S : List S96} {O : Nat → Prop} (h : JA w0 w p S O) (i r : Int) (hr : paI S i = r) :
    Calls Try.prog 37 #[.pointer (some ⟨p, 0, none⟩), .int .i64 i] w fun e w' => e = .returned (.int .i64 r) ∧ w = w' := by
  obtain ⟨v, Z, h1, rfl, _⟩ := h
  refine ar_Parent h1 i r ?_
  rw [← hr]
  unfold paZ paI paS
  rw [List.length_map, List.getElem?_map]
  cases Z[i.toNat]? <;> rfl
theorem J_Kids {w0 w : World} {p : Nat} {S : List S96} {O : Nat → Prop} (h : JA w0 w p S O) (i : Int) (r : List Int) (hl : r.length ≤ 100000) (hr : kiI S i = r) :
    Calls Try.prog 36 #[.pointer (some ⟨p, 0, none⟩), .int .i64 i] w fun e w' => ∃ v', e = .returned v' ∧ Kd.R (Kd.int .i64) 3 w' w.heap.size (fun _ => True) v' r ∧ Below w.heap.size w w' := by
  obtain ⟨v, Z, h1, rfl, _⟩ := h
  refine ar_Kids h1 i r hl ?_
  rw [← hr]
  unfold kiI kiS
  rw [List.length_map, List.getElem?_map]
  cases Z[i.toNat]? <;> rfl
theorem upZ_sub {Z : List Nz} {S : List S96} (hS : Z.map (·.1) = S) (hF : FoS S) (rk : Nat → Nat) (hrk : ∀ c, c < S.length → ∀ i : Nat, paS S c = (i : Int) → rk i < rk c) : ∀ (k : Nat) (a f : Nat), a < S.length → rk a < k → (upZ Z k (a : Int) (f : Int) = true ↔ Sub (paS S) f a)
  | 0, a, f, _, h => absurd h (by omega)
  | k + 1, a, f, ha, hk => by
    unfold upZ
    by_cases e : (a : Int) ≠ (f : Int)
    · rw [if_pos ⟨by omega, e⟩, Int.toNat_natCast]
      obtain ⟨x, hx⟩ := ex_at ha
      obtain ⟨z, hz, hzx⟩ := fst_at hS hx
      have hp : paS S a = z.1.f1 := by unfold paS; rw [hx, hzx]
      rw [hz]
      dsimp only
      rw [← hp]
      rcases FoS_pa hF ha with h1 | ⟨j, h1, h2, _⟩
      · rw [h1]
        have hu : upZ Z k (-1) (f : Int) = false := by
          cases k with
          | zero => unfold upZ; simp
          | succ k => unfold upZ; rw [if_neg (fun h => by omega)]; simp
        rw [hu]
        constructor
        · intro h; cases h
        · intro h
          cases h with
          | refl => exact absurd rfl e
          | step hq _ => omega
      · rw [h1]
        have hr := hrk a ha j h1
        rw [upZ_sub hS hF rk hrk k j f h2 (by omega)]
        constructor
        · intro h; exact .step h1 h
        · intro h
          cases h with
          | refl => exact absurd rfl e
          | @step _ q hq h4 =>
            have : j = q := by omega
            subst this
            exact h4
    · have e : a = f := by omega
      subst e
      rw [if_neg (fun h => h.2 rfl)]
      constructor
      · intro _; exact .refl
      · intro _; simp
theorem J_within {w0 w : World} {p : Nat} {S : List S96} {O : Nat → Prop} (h : JA w0 w p S O) (hF : FoS S) (a f : Nat) (ha : a < S.length) (b : Bool) (hb : b = true ↔ Sub (paS S) f a) :
    Calls Try.prog 67 #[.pointer (some ⟨p, 0, none⟩), .int .i64 (a : Int), .int .i64 (f : Int)] w fun e w' => e = .returned (.bool b) ∧ w = w' := by
  obtain ⟨v, Z, h1, hS, _⟩ := h
  obtain ⟨rk, hrk⟩ := hF.rk
  have hl : Z.length = S.length := by rw [← hS, List.length_map]
  refine ar_within h1 rk ⟨fun i z hz => ?_⟩ (a : Int) (f : Int) (.inr (by unfold inZ; rw [decide_eq_true (by omega), decide_eq_true (by omega)]; rfl)) (rk a + 1) (.inr (by rw [Int.toNat_natCast]; omega)) b ?_
  · have hi := (List.getElem?_eq_some_iff.1 hz).1
    have hp : paS S i = z.1.f1 := by unfold paS; rw [← hS, List.getElem?_map, hz]; rfl
    rcases FoS_pa hF (show i < S.length by omega) with h1 | ⟨j, h1, h2, _⟩
    · exact .inl (by rw [← hp]; exact h1)
    · exact .inr ⟨j, by rw [← hp]; exact h1, by omega, hrk i (by omega) j h1⟩
  · have := upZ_sub hS hF rk hrk (rk a + 1) a f ha (by omega)
    cases hu : upZ Z (rk a + 1) (a : Int) (f : Int) with
    | true => exact (hb.2 (this.1 hu)).symm
    | false =>
      cases b with
      | false => rfl
      | true => rw [this.2 (hb.1 rfl)] at hu; cases hu
theorem map_set_fst (Z : List Nz) (i : Nat) (z : Nz) : (Z.set i z).map (·.1) = (Z.map (·.1)).set i z.1 := List.map_set
theorem two_set {Z : List Nz} {S : List S96} (hS : Z.map (·.1) = S) {i j : Nat} {z y : Nz} (hz : Z[i]? = some z) (hy : Z[j]? = some y) (hij : i ≠ j) (l : List Int) (x : Int) (vA v' : Value) : (((Z.set j ({y.1 with f2 := l}, vA, v')).set i ({z.1 with f1 := x}, z.2)).map (·.1)) = setPa (setKi S j l) i x := by
  have hzS : S[i]? = some z.1 := by rw [← hS, List.getElem?_map, hz]; rfl
  have hyS : S[j]? = some y.1 := by rw [← hS, List.getElem?_map, hy]; rfl
  rw [map_set_fst, map_set_fst, hS]
  unfold setPa setKi
  rw [hyS]
  dsimp only
  rw [List.getElem?_set_ne (Ne.symm hij), hzS]
theorem J_out {w0 w : World} {p : Nat} {S : List S96} {O : Nat → Prop} (h : JA w0 w p S O) (hF : FoS S) (hl : S.length ≤ 2000) (i : Nat) (hi : i < S.length) :
    Calls Try.prog 68 #[.pointer (some ⟨p, 0, none⟩), .int .i64 (i : Int)] w fun e w' => e = .returned (.tuple #[]) ∧ JA w0 w' p (outS S i) O ∧ kO O w w' := by
  have hJ := h
  obtain ⟨v, Z, h1, hS, hB, hO⟩ := h
  obtain ⟨x, hx⟩ := ex_at hi
  obtain ⟨z, hz, rfl⟩ := fst_at hS hx
  have hp : paS S i = z.1.f1 := by unfold paS; rw [hx]
  rcases FoS_pa hF hi with e | ⟨j, e, hj, hm, hij⟩
  · refine (ar_outNo h1 i z hz (by rw [← hp]; exact e)).mono ?_
    rintro e' w' ⟨rfl, rfl⟩
    refine ⟨rfl, ?_, kO_refl _ _⟩
    unfold outS
    rw [if_pos (by omega)]
    exact hJ
  · obtain ⟨y, hy⟩ := ex_at hj
    obtain ⟨y, hyz, rfl⟩ := fst_at hS hy
    have hk : kiS S j = y.1.f2 := by unfold kiS; rw [hy]
    rw [hk] at hm
    have hnd := hF.nd j hj
    rw [hk] at hnd
    obtain ⟨a, a1, a2, a3⟩ := first_at hnd hm
    have hkl := FoS_ki_len hF hj
    rw [hk] at hkl
    obtain ⟨g, cap, rfl, hcap, hg⟩ := am_hdr h1
    refine (ar_out h1 i j a z y hz hyz hij (by rw [← hp]; exact e) a1 a2 (by omega)).mono ?_
    rintro e' w' ⟨rfl, v', h2, hn, hc⟩
    refine ⟨rfl, JA_act h1 hB hO h2 ?_ hc (fun k hk' => ?_)⟩
    · rw [two_set hS hz hyz hij]
      unfold outS
      rw [if_neg (by omega), e, Int.toNat_natCast, hk, a3]
    · rcases aF_set hk' with h3 | h3 | h3
      · rcases aF_set h3 with h4 | h4 | h4
        · exact .inl h4
        · exact .inl (.inr (.inr ⟨j, y, hyz, .inl h4⟩))
        · exact .inl (.inr (.inr ⟨j, y, hyz, .inr (h4.trans hn)⟩))
      · exact .inl (.inr (.inr ⟨i, z, hz, .inl h3⟩))
      · exact .inl (.inr (.inr ⟨i, z, hz, .inr h3⟩))
theorem J_put {w0 w : World} {p : Nat} {S : List S96} {O : Nat → Prop} (h : JA w0 w p S O) (hF : FoS S) (hl : S.length ≤ 2000) (i j a : Nat) (hi : i < S.length) (hj : j < S.length) (hij : i ≠ j) (ha : a ≤ (kiS S j).length) :
    Calls Try.prog 69 #[.pointer (some ⟨p, 0, none⟩), .int .i64 (j : Int), .int .i64 (a : Int), .int .i64 (i : Int)] w fun e w' => e = .returned (.tuple #[]) ∧ JA w0 w' p (putS S j a i) O ∧ kO O w w' := by
  obtain ⟨v, Z, h1, hS, hB, hO⟩ := h
  obtain ⟨x, hx⟩ := ex_at hi
  obtain ⟨z, hz, rfl⟩ := fst_at hS hx
  obtain ⟨y, hy⟩ := ex_at hj
  obtain ⟨y, hyz, rfl⟩ := fst_at hS hy
  have hk : kiS S j = y.1.f2 := by unfold kiS; rw [hy]
  have hkl := FoS_ki_len hF hj
  rw [hk] at hkl ha
  obtain ⟨g, cap, rfl, hcap, hg⟩ := am_hdr h1
  refine (ar_put h1 hB.size i j a z y hz hyz hij ha (by omega)).mono ?_
  rintro e' w' ⟨rfl, v', h2, hn, hc⟩
  refine ⟨rfl, JA_act h1 hB hO h2 ?_ hc (fun k hk' => ?_)⟩
  · rw [two_set hS hz hyz hij]
    unfold putS
    rw [hk]
  · rcases aF_set hk' with h3 | h3 | h3
    · rcases aF_set h3 with h4 | h4 | h4
      · exact .inl h4
      · exact .inl (.inr (.inr ⟨j, y, hyz, .inl h4⟩))
      · rcases hn with hn | ⟨b, hn, hb⟩
        · exact .inl (.inr (.inr ⟨j, y, hyz, .inr (h4.trans hn)⟩))
        · have e : some k = some b := h4.trans hn
          injection e with e
          exact .inr (by omega)
    · exact .inl (.inr (.inr ⟨i, z, hz, .inl h3⟩))
    · exact .inl (.inr (.inr ⟨i, z, hz, .inr h3⟩))
/- Nodes that are made. -/
def mkS (S : List S96) (x : S94) : List S96 × Int := if 2000 ≤ S.length then (S, -1) else (S ++ [(⟨x, -1, []⟩ : S96)], (S.length : Int))
theorem aF_app {p : Nat} {v v' : Value} {Z : List Nz} {z : Nz} {k : Nat} (h : aFt p v' (Z ++ [z]) k) : k = p ∨ some k = v'.ownBlock ∨ aFt p v Z k ∨ some k = z.2.1.ownBlock ∨ some k = z.2.2.ownBlock := by
  rcases h with h | h | ⟨j, y, hy, h⟩
  · exact .inl h
  · exact .inr (.inl h)
  · by_cases c : j < Z.length
    · rw [List.getElem?_append_left c] at hy
      exact .inr (.inr (.inl (.inr (.inr ⟨j, y, hy, h⟩))))
    · have hi := (List.getElem?_eq_some_iff.1 hy).1
      rw [List.length_append, List.length_singleton] at hi
      have e : j = Z.length := by omega
      subst e
      rw [List.getElem?_append_right (Nat.le_refl _), Nat.sub_self] at hy
      have hy : z = y := Option.some.inj hy
      subst hy
      exact .inr (.inr (.inr h))
theorem J_grow {w0 w : World} {p : Nat} {S : List S96} {O : Nat → Prop} (h : JA w0 w p S O) (x : S94) (vA : Value) (hA : Kd.R k103 103 w w0.heap.size (fun k => some k = vA.ownBlock) vA x.f3) (hN : ∀ k, vA.ownBlock = some k → ¬ O k) (S' : List S96) (r : Int) (hr : mkS S x = (S', r)) :
    Calls Try.prog 63 #[.pointer (some ⟨p, 0, none⟩), .agg #[.int .i64 x.f0, .int .i64 x.f1, .string x.f2, vA, .string x.f4]] w fun e w' => e = .returned (.int .i64 r) ∧ JA w0 w' p S' O ∧ kO O w w' := by
  have hJ := h
  obtain ⟨v, Z, h1, hS, hB, hO⟩ := h
  have hl : Z.length = S.length := by rw [← hS, List.length_map]
  unfold mkS at hr
  by_cases c : 2000 ≤ S.length
  · rw [if_pos c] at hr
    injection hr with e1 e2
    subst e1 e2
    refine (ar_growFull h1 x vA hA (by omega)).mono ?_
    rintro e w' ⟨rfl, hb⟩
    exact ⟨rfl, JA_step hJ hb, kO_below hJ hb⟩
  · rw [if_neg c] at hr
    injection hr with e1 e2
    subst e1 e2
    refine (ar_grow h1 hB.size x vA hA (by omega)).mono ?_
    rintro e w' ⟨rfl, v', h2, hn, hc⟩
    rw [hl]
    refine ⟨rfl, ⟨v', _, h2, by rw [List.map_append, hS]; rfl, chg_to_below hB hc (fun k hk => am_base h1 hk) (Nat.le_refl _), fun k hk => ⟨Nat.lt_of_lt_of_le (hO k hk).1 hc.size, fun hf => ?_⟩⟩, hc.size, fun k hk => hc.block k (hO k hk).1 (hO k hk).2⟩
    rcases aF_app (v := v) (Z := Z) hf with h3 | h3 | h3 | h3 | h3
    · exact (hO k hk).2 (.inl h3)
    · rcases hn with hn | ⟨b, hn, hb⟩
      · exact (hO k hk).2 (.inr (.inl (h3.trans hn)))
      · have e : some k = some b := h3.trans hn
        injection e with e
        have := (hO k hk).1
        omega
    · exact (hO k hk).2 h3
    · exact hN k h3.symm hk
    · cases h3
theorem J_Text {w0 w : World} {p : Nat} {S : List S96} {O : Nat → Prop} (h : JA w0 w p S O) (s : ByteArray) (S' : List S96) (r : Int) (hr : mkS S ⟨2, 0, ⟨#[]⟩, [], s⟩ = (S', r)) :
    Calls Try.prog 26 #[.pointer (some ⟨p, 0, none⟩), .string s] w fun e w' => e = .returned (.int .i64 r) ∧ JA w0 w' p S' O ∧ kO O w w' := by
  have H := Aside0.mk h
  have HR := Aside0.mk hr
  clear h hr
  go_enter Try.func26, Try.ntmps26
  go_wp2_with (go_at_call 63; refine (J_grow H.out ⟨2, 0, ⟨#[]⟩, [], s⟩ (.slice none 0 0) (Kd.R_nil _ _ _ _ _) (fun k hk => by cases hk) _ _ HR.out).mono ?_; rintro e w1 ⟨rfl, hJ, hk⟩; have J1 := Aside0.mk hJ; have K1 := Aside0.mk hk; clear hJ hk)
  go_ret
  exact ⟨rfl, J1.out, K1.out⟩
theorem J_Comment {w0 w : World} {p : Nat} {S : List S96} {O : Nat → Prop} (h : JA w0 w p S O) (s : ByteArray) (S' : List S96) (r : Int) (hr : mkS S ⟨3, 0, ⟨#[]⟩, [], s⟩ = (S', r)) :
    Calls Try.prog 29 #[.pointer (some ⟨p, 0, none⟩), .string s] w fun e w' => e = .returned (.int .i64 r) ∧ JA w0 w' p S' O ∧ kO O w w' := by
  have H := Aside0.mk h
  have HR := Aside0.mk hr
  clear h hr
  go_enter Try.func29, Try.ntmps29
  go_wp2_with (go_at_call 63; refine (J_grow H.out ⟨3, 0, ⟨#[]⟩, [], s⟩ (.slice none 0 0) (Kd.R_nil _ _ _ _ _) (fun k hk => by cases hk) _ _ HR.out).mono ?_; rintro e w1 ⟨rfl, hJ, hk⟩; have J1 := Aside0.mk hJ; have K1 := Aside0.mk hk; clear hJ hk)
  go_ret
  exact ⟨rfl, J1.out, K1.out⟩
theorem Attr_ev (l : List S103) (hl : l.length ≤ 100000) : api_Attr.f l = some l := by
  unfold api_Attr.f
  rw [Option.bind_some, if_pos (by simp; omega), List.nil_append]
theorem J_Element {w0 w : World} {p : Nat} {S : List S96} {O : Nat → Prop} (h : JA w0 w p S O) (sp : Int) (nm : ByteArray) (A : Option Addr) (c : Nat) (l : List S103) (hl : l.length ≤ 100000) (hC : Kd.C k103 w A l.length l) (hc : l.length ≤ c) (S' : List S96) (r : Int) (hr : mkS S ⟨1, sp, nm, l, ⟨#[]⟩⟩ = (S', r)) :
    Calls Try.prog 28 #[.pointer (some ⟨p, 0, none⟩), .int .i64 sp, .string nm, .slice A l.length c] w fun e w' => e = .returned (.int .i64 r) ∧ JA w0 w' p S' O ∧ kO O w w' := by
  have H := Aside0.mk h
  have HR := Aside0.mk hr
  have HC := Aside0.mk hC
  have HL := Aside0.mk hc
  have HE := Aside0.mk (Attr_ev l hl)
  clear h hr hC hc hl
  go_enter Try.func28, Try.ntmps28
  go_wp2_with (first | (go_at_call 64; refine (api_Attr.calls _ _ l l _ HC.out HL.out HE.out).mono ?_; rintro e w1 ⟨v1, rfl, hR, hb⟩; have J1 := Aside0.mk (JA_step H.out hb); have K1 := Aside0.mk (kO_below H.out hb); have R1 := Aside0.mk (Kd.R_lower (Kd.R_tight rfl hR) (JA_below H.out).size); have N1 := Aside0.mk (show ∀ k, v1.ownBlock = some k → ¬ O k from fun k hk ho => by have h1 := Kd.R_base hR k hk; have h2 := JA_O H.out ho; omega); obtain ⟨A1, c1, rfl⟩ := Kd.R_slice hR; clear hR hb) | (go_at_call 63; refine (J_grow J1.out ⟨1, sp, nm, l, ⟨#[]⟩⟩ _ R1.out N1.out _ _ HR.out).mono ?_; rintro e w2 ⟨rfl, hJ, hk⟩; have J2 := Aside0.mk hJ; have K2 := Aside0.mk hk; clear hJ hk))
  go_ret
  exact ⟨rfl, J2.out, kO_trans K1.out K2.out⟩
theorem J_Elem1 {w0 w : World} {p : Nat} {S : List S96} {O : Nat → Prop} (h : JA w0 w p S O) (sp : Int) (nm : ByteArray) (A : Option Addr) (c : Nat) (l : List S103) (m : Nat) (hm : m = l.length) (hl : l.length ≤ 100000) (hC : Kd.C k103 w A l.length l) (hc : l.length ≤ c) (S' : List S96) (r : Int) (hr : mkS S ⟨1, sp, nm, l, ⟨#[]⟩⟩ = (S', r)) (W : World) (hb : Below w.heap.size w W) :
    Calls Try.prog 28 #[.pointer (some ⟨p, 0, none⟩), .int .i64 sp, .string nm, .slice A m c] W fun e w' => e = .returned (.int .i64 r) ∧ JA w0 w' p S' O ∧ kO O w w' := by
  subst hm
  refine (J_Element (JA_step h hb) sp nm A c l hl (Kd.C_below hC hb) hc S' r hr).mono ?_
  rintro e w' ⟨rfl, h1, h2⟩
  exact ⟨rfl, h1, kO_trans (kO_below h hb) h2⟩
def cpS (S : List S96) (n : Int) : List S96 × Int := if inZ S.length n = true then (if (faS S n.toNat).f0 = 1 then mkS S ⟨1, (faS S n.toNat).f1, (faS S n.toNat).f2, (faS S n.toNat).f3, ⟨#[]⟩⟩ else (S, -1)) else (S, -1)
set_option maxHeartbeats 4000000 in
theorem J_Copy {w0 w : World} {p : Nat} {S : List S96} {O : Nat → Prop} (h : JA w0 w p S O) (hl : ∀ i, (faS S i).f3.length ≤ 100000) (n : Int) (S' : List S96) (r : Int) (hr : cpS S n = (S', r)) :
    Calls Try.prog 31 #[.pointer (some ⟨p, 0, none⟩), .int .i64 n] w fun e w' => e = .returned (.int .i64 r) ∧ JA w0 w' p S' O ∧ kO O w w' := by
  have H := Aside0.mk h
  unfold cpS at hr
  by_cases c : inZ S.length n = true
  · rw [if_pos c] at hr
    have C := Aside0.mk c
    obtain ⟨k, rfl, hk⟩ := inZ_nat c
    rw [Int.toNat_natCast] at hr
    obtain ⟨v, Z, h1, hS, hB, hO⟩ := h
    obtain ⟨x, hx⟩ := ex_at hk
    obtain ⟨z, hz, rfl⟩ := fst_at hS hx
    have hfa : faS S k = z.1.f0 := by unfold faS; rw [hx]
    have hlk := hl k
    rw [hfa] at hr hlk
    obtain ⟨g, cap, rfl, hcap, hg⟩ := am_hdr h1
    have hzl : Z.length = S.length := by rw [← hS, List.length_map]
    have z0 : w.cell? ⟨p, 0, none⟩ = some (.slice (some ⟨g, 0, none⟩) Z.length cap) := blk_cell h1.box 0
    have zc := (am_cells h1 k z hz).1
    obtain ⟨A, q, e3⟩ := Kd.R_slice (h1.ats k z hz)
    have ht := h1.ats k z hz
    rw [e3] at ht
    have y0 := zc 0 _ rfl
    have y1 := zc 1 _ rfl
    have y2 := zc 2 _ rfl
    have y3 := zc 3 _ rfl
    have y4 := zc 4 _ rfl
    rw [e3] at y3
    obtain ⟨⟨⟨f0, f1, f2, f3, f4⟩, fp, fk⟩, vA, vK⟩ := z
    dsimp only at y0 y1 y2 y3 y4 hr hlk ht e3
    have RT := Aside0.mk (Kd.R_reads' ht).2
    have HLK := Aside0.mk hlk
    obtain ⟨m, hm⟩ : ∃ m, m = f3.length := ⟨_, rfl⟩
    rw [← hm] at y3
    obtain ⟨nn, hn⟩ : ∃ nn, nn = Z.length := ⟨_, rfl⟩
    rw [← hn] at z0 hcap
    have k1 : (k : Int) < (nn : Int) := by omega
    have k2 : k < nn := by omega
    have y0 : w.cell? ⟨g, k * 7, none⟩ = some (.int .i64 f0) := y0
    have HM := Aside0.mk hm
    clear h1 hS hB hO hx hz hfa hzl zc hm hn c hl hlk ht e3
    by_cases c1 : f0 = 1
    · rw [if_pos c1] at hr
      have HR := Aside0.mk hr
      subst c1
      clear hr
      go_enter Try.func31, Try.ntmps31
      go_wp2_with (first | (go_at_call 65; refine (J_is H.out _ _ C.out).mono ?_; rintro e w1 ⟨rfl, rfl⟩) | (go_at_call 28; refine (J_Elem1 (w := w) H.out f1 f2 A q f3 m HM.out HLK.out RT.out.2 RT.out.1 _ _ HR.out _ (below_alloc (Below.refl _ _) _)).mono ?_; rintro e w2 ⟨rfl, hJ, hk⟩; have J2 := Aside0.mk hJ; have K2 := Aside0.mk hk; clear hJ hk))
      go_ret
      exact ⟨rfl, J2.out, K2.out⟩
    · rw [if_neg c1] at hr
      have c1b : (f0 != 1) = true := bne_iff_ne.2 c1
      have c1c : (f0 == 1) = false := by simpa using c1
      injection hr with e1 e2
      subst e1 e2
      go_enter Try.func31, Try.ntmps31
      go_wp2_with (go_at_call 65; refine (J_is H.out _ _ C.out).mono ?_; rintro e w1 ⟨rfl, rfl⟩)
      go_ret
      exact ⟨rfl, H.out, kO_refl _ _⟩
  · rw [if_neg c] at hr
    have C := Aside0.mk (show inZ S.length n = false by simpa using c)
    injection hr with e1 e2
    subst e1 e2
    clear c h
    go_enter Try.func31, Try.ntmps31
    go_wp2_with (go_at_call 65; refine (J_is H.out _ _ C.out).mono ?_; rintro e w1 ⟨rfl, rfl⟩)
    go_ret
    exact ⟨rfl, H.out, kO_refl _ _⟩
def adS (S : List S96) (n : Int) (s : ByteArray) : List S96 × Int := if inZ S.length n = true then (if (faS S n.toNat).f0 = 2 then (setFa S n.toNat {faS S n.toNat with f4 := (faS S n.toNat).f4 ++ s}, 0) else (S, 1)) else (S, 2)
set_option maxHeartbeats 4000000 in
theorem J_Add {w0 w : World} {p : Nat} {S : List S96} {O : Nat → Prop} (h : JA w0 w p S O) (n : Int) (s : ByteArray) (hsz : ∀ i, (faS S i).f4.size + s.size ≤ 1000000) (S' : List S96) (r : Int) (hr : adS S n s = (S', r)) :
    Calls Try.prog 47 #[.pointer (some ⟨p, 0, none⟩), .int .i64 n, .string s] w fun e w' => e = .returned (.int .i64 r) ∧ JA w0 w' p S' O ∧ kO O w w' := by
  have H := Aside0.mk h
  unfold adS at hr
  by_cases c : inZ S.length n = true
  · rw [if_pos c] at hr
    have C := Aside0.mk c
    obtain ⟨k, rfl, hk⟩ := inZ_nat c
    rw [Int.toNat_natCast] at hr
    obtain ⟨v, Z, h1, hS, hB, hO⟩ := h
    obtain ⟨x, hx⟩ := ex_at hk
    obtain ⟨z, hz, hzx⟩ := fst_at hS hx
    have hfa : faS S k = z.1.f0 := by unfold faS; rw [hx, hzx]
    rw [hfa] at hr
    have hs1 := hsz k
    rw [hfa] at hs1
    clear hsz
    obtain ⟨g, cap, rfl, hcap, hg⟩ := am_hdr h1
    have hzl : Z.length = S.length := by rw [← hS, List.length_map]
    have z0 : w.cell? ⟨p, 0, none⟩ = some (.slice (some ⟨g, 0, none⟩) Z.length cap) := blk_cell h1.box 0
    have y0 := (am_cells h1 k z hz).1 0 _ rfl
    have y4 := (am_cells h1 k z hz).1 4 _ rfl
    have f4 := (am_cells h1 k z hz).2 4
    have y0 : w.cell? ⟨g, k * 7, none⟩ = some (.int .i64 z.1.f0.f0) := y0
    have M := Aside0.mk (am_cell (z' := (({z.1 with f0 := {z.1.f0 with f4 := z.1.f0.f4 ++ s}} : S96), z.2)) (u := .string (z.1.f0.f4 ++ s)) h1 hz (j := 4) (by decide) rfl rfl rfl rfl)
    have ES := Aside0.mk (show (Z.set k (({z.1 with f0 := {z.1.f0 with f4 := z.1.f0.f4 ++ s}} : S96), z.2)).map (·.1) = setFa S k {z.1.f0 with f4 := z.1.f0.f4 ++ s} by
      rw [map_set_fst, hS]
      unfold setFa
      rw [hx, ← hzx])
    have HB := Aside0.mk hB
    have HO := Aside0.mk hO
    have H1 := Aside0.mk h1
    have HZ := Aside0.mk hz
    obtain ⟨kd, hkd⟩ : ∃ kd, kd = z.1.f0.f0 := ⟨_, rfl⟩
    obtain ⟨tx, htx⟩ : ∃ tx, tx = z.1.f0.f4 := ⟨_, rfl⟩
    rw [← hkd] at y0 hr
    rw [← htx] at y4 M ES hr hs1
    have HT := Aside0.mk htx
    obtain ⟨nn, hn⟩ : ∃ nn, nn = Z.length := ⟨_, rfl⟩
    rw [← hn] at z0 hcap
    have k1 : (k : Int) < (nn : Int) := by omega
    have k2 : k < nn := by omega
    clear h1 hS hB hO hx hzx hfa hzl hn c hz hkd htx
    by_cases c1 : kd = 2
    · rw [if_pos c1] at hr
      have HR := Aside0.mk hr
      subst c1
      clear hr
      go_enter Try.func47, Try.ntmps47
      go_wp2_with (go_at_call 65; refine (J_is H.out _ _ C.out).mono ?_; rintro e w1 ⟨rfl, rfl⟩)
      go_ret
      have hr := HR.out
      injection hr with e1 e2
      subst e1 e2
      have := JA_act H1.out HB.out HO.out M.out ES.out (chg_set w g (k * 7 + 4) (.string (tx ++ s)) (.inr (.inl rfl))) (fun q hq => by
        rcases aF_set hq with h3 | h3 | h3
        · exact .inl h3
        · exact .inl (.inr (.inr ⟨k, z, HZ.out, .inl h3⟩))
        · exact .inl (.inr (.inr ⟨k, z, HZ.out, .inr h3⟩)))
      exact ⟨rfl, this⟩
    · rw [if_neg c1] at hr
      have c1b : (kd != 2) = true := bne_iff_ne.2 c1
      have c1c : (kd == 2) = false := by simpa using c1
      injection hr with e1 e2
      subst e1 e2
      go_enter Try.func47, Try.ntmps47
      go_wp2_with (go_at_call 65; refine (J_is H.out _ _ C.out).mono ?_; rintro e w1 ⟨rfl, rfl⟩)
      go_ret
      exact ⟨rfl, H.out, kO_refl _ _⟩
  · rw [if_neg c] at hr
    have C := Aside0.mk (show inZ S.length n = false by simpa using c)
    injection hr with e1 e2
    subst e1 e2
    clear c h
    go_enter Try.func47, Try.ntmps47
    go_wp2_with (go_at_call 65; refine (J_is H.out _ _ C.out).mono ?_; rintro e w1 ⟨rfl, rfl⟩)
    go_ret
    exact ⟨rfl, H.out, kO_refl _ _⟩
def root96 : S96 := ⟨⟨0, 0, ⟨#[]⟩, [], ⟨#[]⟩⟩, -1, []⟩
theorem am_new {W : World} {base p g : Nat} (hb : W.heap[p]? = some (.cells #[.slice (some ⟨g, 0, none⟩) 1 1] 99 (0, 0))) (hg : W.heap[g]? = some (.cells #[.int .i64 0, .int .i64 0, .string ⟨#[]⟩, .slice none 0 0, .string ⟨#[]⟩, .int .i64 (-1), .slice none 0 0] 96 (0, 0))) (h1 : base ≤ p) (h2 : base ≤ g) : am base W p (.slice (some ⟨g, 0, none⟩) 1 1) [(root96, .slice none 0 0, .slice none 0 0)] := by
  refine ⟨hb, ⟨fun k hk => hk.symm, [.int .i64 0, .int .i64 0, .string ⟨#[]⟩, .slice none 0 0, .string ⟨#[]⟩, .int .i64 (-1), .slice none 0 0], ⟨rfl, .inr ⟨g, 1, _, rfl, h2, hg, Nat.le_refl _, by unfold maxLen; omega, rfl, rfl⟩⟩, ⟨rfl, fun j x hx => ?_⟩⟩, fun i z hz => ?_, fun i z hz => ?_, fun i j z y k hz hy hne e1 e2 => ?_, h1, by decide⟩
  · cases j with
    | zero =>
      have : x = nzc (root96, .slice none 0 0, .slice none 0 0) := by simpa using hx.symm
      subst this
      refine ⟨rfl, rfl, ?_⟩
      intro u hu
      have hu : u ∈ [Value.int .i64 0, .int .i64 0, .string ⟨#[]⟩, .slice none 0 0, .string ⟨#[]⟩, .int .i64 (-1), .slice none 0 0] := hu
      simp only [List.mem_cons, List.not_mem_nil, or_false] at hu
      rcases hu with rfl | rfl | rfl | rfl | rfl | rfl | rfl <;> rfl
    | succ j => simp at hx
  · cases i with
    | zero =>
      have : z = (root96, .slice none 0 0, .slice none 0 0) := by simpa using hz.symm
      subst this
      exact Kd.R_nil _ _ _ _ _
    | succ i => simp at hz
  · cases i with
    | zero =>
      have : z = (root96, .slice none 0 0, .slice none 0 0) := by simpa using hz.symm
      subst this
      exact Kd.R_nil _ _ _ _ _
    | succ i => simp at hz
  · have : z = (root96, .slice none 0 0, .slice none 0 0) := by
      cases i with
      | zero => simpa using hz.symm
      | succ i => simp at hz
    subst this
    cases e1
theorem J_New (w : World) :
    Calls Try.prog 25 #[] w fun e w' => ∃ p, e = .returned (.pointer (some ⟨p, 0, none⟩)) ∧ JA w w' p [root96] (fun k => k < w.heap.size) ∧ Below w.heap.size w w' := by
  go_enter Try.func25, Try.ntmps25
  go_wp2
  go_ret
  have b1 := blk_new w (.cells #[.int .i64 0, .int .i64 0, .string ⟨#[]⟩, .slice none 0 0, .string ⟨#[]⟩, .int .i64 (-1), .slice none 0 0] 96 (0, 0))
  refine ⟨_, rfl, ?_⟩
  have bb := below_step (below_alloc (Below.refl w.heap.size w) (.cells #[.int .i64 0, .int .i64 0, .string ⟨#[]⟩, .slice none 0 0, .string ⟨#[]⟩, .int .i64 (-1), .slice none 0 0] 96)) (below_alloc (Below.refl _ _) (.cells #[.slice (some ⟨w.heap.size, 0, none⟩) 1 1] 99))
  have b2 := blk_new (w.alloc (.cells #[.int .i64 0, .int .i64 0, .string ⟨#[]⟩, .slice none 0 0, .string ⟨#[]⟩, .int .i64 (-1), .slice none 0 0] 96)) (.cells #[.slice (some ⟨w.heap.size, 0, none⟩) 1 1] 99 (0, 0))
  have hs : (w.alloc (.cells #[.int .i64 0, .int .i64 0, .string ⟨#[]⟩, .slice none 0 0, .string ⟨#[]⟩, .int .i64 (-1), .slice none 0 0] 96)).heap.size = w.heap.size + 1 := by simp
  rw [hs] at b2
  have M := am_new b2 (blk_below b1 (below_alloc (Below.refl _ _) (.cells #[.slice (some ⟨w.heap.size, 0, none⟩) 1 1] 99))) (Nat.le_succ _) (Nat.le_refl _)
  exact ⟨⟨_, _, M, rfl, bb, fun k hk => ⟨Nat.lt_of_lt_of_le hk bb.size, fun e => by have := am_base M e; omega⟩⟩, bb⟩
def upS (pa : Nat → Int) : Nat → Nat → Nat → Bool
  | 0, q, c => q == c
  | k + 1, q, c => if q = c then true else if pa q < 0 then false else upS pa k (pa q).toNat c
def subB (S : List S96) (c q : Nat) : Bool := upS (paS S) S.length q c
theorem upS_sub {S : List S96} (hF : FoS S) (rk : Nat → Nat) (hrk : ∀ c, c < S.length → ∀ i : Nat, paS S c = (i : Int) → i < S.length ∧ rk c = rk i + 1) : ∀ (k q c : Nat), q < S.length → rk q ≤ k → (upS (paS S) k q c = true ↔ Sub (paS S) c q)
  | 0, q, c, hq, hk => by
    unfold upS
    constructor
    · intro h
      have : q = c := by simpa using h
      subst this
      exact .refl
    · intro h
      cases h with
      | refl => simp
      | @step _ b hb _ =>
        have := (hrk q hq b hb).2
        omega
  | k + 1, q, c, hq, hk => by
    unfold upS
    by_cases e : q = c
    · rw [if_pos e]
      subst e
      exact ⟨fun _ => .refl, fun _ => rfl⟩
    · rw [if_neg e]
      rcases FoS_pa hF hq with h1 | ⟨j, h1, h2, _⟩
      · rw [if_pos (by omega)]
        constructor
        · intro h; cases h
        · intro h
          cases h with
          | refl => exact absurd rfl e
          | step hb _ => omega
      · rw [if_neg (by omega), h1, Int.toNat_natCast, upS_sub hF rk hrk k j c h2 (by have := (hrk q hq j h1).2; omega)]
        constructor
        · intro h; exact .step h1 h
        · intro h
          cases h with
          | refl => exact absurd rfl e
          | @step _ b hb h4 =>
            have : j = b := by omega
            subst this
            exact h4
theorem subB_iff {S : List S96} (hF : FoS S) {c q : Nat} (hq : q < S.length) : subB S c q = true ↔ Sub (paS S) c q := by
  obtain ⟨rk, h1, h2⟩ := Fo_bound hF
  exact upS_sub hF rk h2 S.length q c hq (by have := h1 q hq; omega)
theorem JA_at {w0 w : World} {p : Nat} {S : List S96} {O : Nat → Prop} (h : JA w0 w p S O) (i : Nat) (hi : i < S.length) : ∃ g cap A c, w.cell? ⟨p, 0, none⟩ = some (.slice (some ⟨g, 0, none⟩) S.length cap) ∧ S.length ≤ cap ∧ w.cell? ⟨g, i * 7, none⟩ = some (.int .i64 (faS S i).f0) ∧ w.cell? ⟨g, i * 7 + 5, none⟩ = some (.int .i64 (paS S i)) ∧ w.cell? ⟨g, i * 7 + 6, none⟩ = some (.slice A (kiS S i).length c) ∧ Kd.R (Kd.int .i64) 3 w w0.heap.size (fun _ => True) (.slice A (kiS S i).length c) (kiS S i) := by
  obtain ⟨v, Z, h1, hS, _⟩ := h
  obtain ⟨x, hx⟩ := ex_at hi
  obtain ⟨z, hz, rfl⟩ := fst_at hS hx
  obtain ⟨g, cap, rfl, hcap, hg⟩ := am_hdr h1
  have hzl : Z.length = S.length := by rw [← hS, List.length_map]
  have e1 : faS S i = z.1.f0 := by unfold faS; rw [hx]
  have e2 : paS S i = z.1.f1 := by unfold paS; rw [hx]
  have e3 : kiS S i = z.1.f2 := by unfold kiS; rw [hx]
  obtain ⟨A, c, hK⟩ := Kd.R_slice (h1.kis i z hz)
  have hc := (am_cells h1 i z hz).1
  have hk := h1.kis i z hz
  have c6 := hc 6 _ rfl
  rw [hK] at hk c6
  rw [← hzl, e1, e2, e3]
  exact ⟨g, cap, A, c, blk_cell h1.box 0, hcap, hc 0 _ rfl, hc 5 _ rfl, c6, Kd.R_mono hk (fun _ _ => trivial)⟩
def apS (S : List S96) (q c : Int) : List S96 × Int := if (inZ S.length q && inZ S.length c) = true then (if (!hoB (faS S q.toNat).f0 || (c == 0 || subB S c.toNat q.toNat)) = true then (S, 1) else (putS (outS S c.toNat) q.toNat (kiS (outS S c.toNat) q.toNat).length c.toNat, 0)) else (S, 2)
set_option maxRecDepth 20000 in
set_option maxHeartbeats 4000000 in
theorem J_Append {w0 w : World} {p : Nat} {S : List S96} {O : Nat → Prop} (h : JA w0 w p S O) (hF : FoS S) (hl : S.length ≤ 2000) (q c : Int) (S' : List S96) (r : Int) (hr : apS S q c = (S', r)) :
    Calls Try.prog 32 #[.pointer (some ⟨p, 0, none⟩), .int .i64 q, .int .i64 c] w fun e w' => e = .returned (.int .i64 r) ∧ JA w0 w' p S' O ∧ kO O w w' := by
  have H := Aside0.mk h
  have HF := Aside0.mk hF
  unfold apS at hr
  cases cq : inZ S.length q with
  | false =>
    rw [cq] at hr
    have CQ := Aside0.mk cq
    rw [Bool.false_and, if_neg (by decide)] at hr
    injection hr with e1 e2
    subst e1 e2
    clear h hF cq hl
    go_enter Try.func32, Try.ntmps32
    go_wp2_with (go_at_call 65; refine (J_is H.out _ _ CQ.out).mono ?_; rintro e w1 ⟨rfl, rfl⟩)
    go_ret
    exact ⟨rfl, H.out, kO_refl _ _⟩
  | true =>
    rw [cq] at hr
    have CQ := Aside0.mk cq
    rw [Bool.true_and] at hr
    cases cc : inZ S.length c with
    | false =>
      rw [cc] at hr
      have CC := Aside0.mk cc
      rw [if_neg (by decide)] at hr
      injection hr with e1 e2
      subst e1 e2
      clear h hF cq cc hl
      go_enter Try.func32, Try.ntmps32
      go_wp2_with (first | (go_at_call 65; refine (J_is H.out _ _ (by first | exact CQ.out | exact CC.out)).mono ?_; rintro e w1 ⟨rfl, rfl⟩))
      go_ret
      exact ⟨rfl, H.out, kO_refl _ _⟩
    | true =>
      rw [cc] at hr
      have CC := Aside0.mk cc
      rw [if_pos rfl] at hr
      obtain ⟨q, rfl, hq⟩ := inZ_nat cq
      obtain ⟨c, rfl, hc⟩ := inZ_nat cc
      rw [Int.toNat_natCast, Int.toNat_natCast] at hr
      obtain ⟨g, cap, A, cp, z0, hcap, y0, y5, y6, hk⟩ := JA_at h q hq
      obtain ⟨kd, hkd⟩ : ∃ kd, kd = (faS S q).f0 := ⟨_, rfl⟩
      rw [← hkd] at y0 hr
      have Y0 := Aside0.mk y0
      obtain ⟨n, hn⟩ : ∃ n, n = S.length := ⟨_, rfl⟩
      have HN := Aside0.mk hn
      rw [← hn] at z0 hcap hq hc hl
      have q1 : (q : Int) < (n : Int) := by omega
      have HQ := Aside0.mk hq
      have HC := Aside0.mk hc
      have HL := Aside0.mk hl
      clear h hF cq cc y5 y6 hk hkd hn
      cases ch : hoB kd with
      | false =>
        rw [ch] at hr
        have CH := Aside0.mk ch
        rw [Bool.not_false, Bool.true_or, if_pos rfl] at hr
        injection hr with e1 e2
        subst e1 e2
        clear ch
        go_enter Try.func32, Try.ntmps32
        go_wp2_with (first | (go_at_call 65; refine (J_is H.out _ _ (by first | exact CQ.out | exact CC.out)).mono ?_; rintro e w1 ⟨rfl, rfl⟩) | (go_at_call 66; refine (ar_holds Y0.out _ CH.out).mono ?_; rintro e w1 ⟨rfl, rfl⟩))
        go_ret
        exact ⟨rfl, H.out, kO_refl _ _⟩
      | true =>
        rw [ch] at hr
        have CH := Aside0.mk ch
        rw [Bool.not_true, Bool.false_or] at hr
        clear ch
        by_cases c0 : c = 0
        · subst c0
          rw [show (((0 : Nat) : Int) == 0) = true from rfl, Bool.true_or, if_pos rfl] at hr
          injection hr with e1 e2
          subst e1 e2
          go_enter Try.func32, Try.ntmps32
          go_wp2_with (first | (go_at_call 65; refine (J_is H.out _ _ (by first | exact CQ.out | exact CC.out)).mono ?_; rintro e w1 ⟨rfl, rfl⟩) | (go_at_call 66; refine (ar_holds Y0.out _ CH.out).mono ?_; rintro e w1 ⟨rfl, rfl⟩))
          go_ret
          exact ⟨rfl, H.out, kO_refl _ _⟩
        · have c0b : ((c : Int) == 0) = false := by simp; omega
          have c0c : ((c : Int) != 0) = true := by simp; omega
          rw [c0b, Bool.false_or] at hr
          cases cs : subB S c q with
          | true =>
            rw [cs, if_pos rfl] at hr
            have CS := Aside0.mk ((subB_iff HF.out (by have := HN.out; have := HQ.out; omega)).1 cs)
            injection hr with e1 e2
            subst e1 e2
            clear cs
            go_enter Try.func32, Try.ntmps32
            go_wp2_with (first | (go_at_call 65; refine (J_is H.out _ _ (by first | exact CQ.out | exact CC.out)).mono ?_; rintro e w1 ⟨rfl, rfl⟩) | (go_at_call 66; refine (ar_holds Y0.out _ CH.out).mono ?_; rintro e w1 ⟨rfl, rfl⟩) | (go_at_call 67; refine (J_within H.out HF.out q c (by have := HN.out; have := HQ.out; omega) true ⟨fun _ => CS.out, fun _ => rfl⟩).mono ?_; rintro e w1 ⟨rfl, rfl⟩))
            go_ret
            exact ⟨rfl, H.out, kO_refl _ _⟩
          | false =>
            rw [cs, if_neg (by decide)] at hr
            have CS := Aside0.mk (show ¬ Sub (paS S) c q from fun e => by rw [(subB_iff HF.out (by have := HN.out; have := HQ.out; omega)).2 e] at cs; cases cs)
            have HR := Aside0.mk hr
            have CQN := Aside0.mk (show c ≠ q from fun e => by subst e; exact CS.out .refl)
            clear cs hr
            go_enter Try.func32, Try.ntmps32
            go_upto_region 6 with (first | (go_at_call 65; refine (J_is H.out _ _ (by first | exact CQ.out | exact CC.out)).mono ?_; rintro e w1 ⟨rfl, rfl⟩) | (go_at_call 66; refine (ar_holds Y0.out _ CH.out).mono ?_; rintro e w1 ⟨rfl, rfl⟩) | (go_at_call 67; refine (J_within H.out HF.out q c (by have := HN.out; have := HQ.out; omega) false ⟨(fun e => by cases e), fun e => absurd e CS.out⟩).mono ?_; rintro e w1 ⟨rfl, rfl⟩) | (go_at_call 68; refine (J_out H.out HF.out (by have := HN.out; have := HL.out; omega) c (by have := HN.out; have := HC.out; omega)).mono ?_; rintro e w2 ⟨rfl, hJ, hK⟩; have J2 := Aside0.mk hJ; have K2 := Aside0.mk hK; clear hJ hK))
            obtain ⟨g2, cap2, A2, cp2, z0', hcap2, y0', y5', y6', hk'⟩ := JA_at J2.out q (by rw [len_outS]; have := HN.out; have := HQ.out; omega)
            rw [len_outS, ← HN.out] at z0' hcap2
            obtain ⟨m, hm⟩ : ∃ m, m = (kiS (outS S c) q).length := ⟨_, rfl⟩
            rw [← hm] at y6'
            have HM := Aside0.mk hm
            clear hm hk' y0' y5' z0 y0
            go_wp2_with (go_at_call 69; refine (J_put J2.out (FoS_out HF.out (by have := HN.out; have := HC.out; omega)) (by rw [len_outS]; have := HN.out; have := HL.out; omega) c q m (by rw [len_outS]; have := HN.out; have := HC.out; omega) (by rw [len_outS]; have := HN.out; have := HQ.out; omega) CQN.out (by rw [HM.out]; exact Nat.le_refl _)).mono ?_; rintro e w3 ⟨rfl, hJ, hK⟩; have J3 := Aside0.mk hJ; have K3 := Aside0.mk hK; clear hJ hK)
            go_ret
            have hr := HR.out
            injection hr with e1 e2
            rw [← e2, ← e1, ← HM.out]
            exact ⟨rfl, J3.out, kO_trans K2.out K3.out⟩
def idx : List Int → Int → Nat
  | [], _ => 0
  | y :: l, x => if y = x then 0 else idx l x + 1
theorem idx_at : ∀ (l : List Int) (x : Int), x ∈ l → l[idx l x]? = some x ∧ ∀ b, b < idx l x → l[b]? ≠ some x
  | [], x, h => by cases h
  | y :: l, x, h => by
    unfold idx
    by_cases e : y = x
    · rw [if_pos e]
      exact ⟨by rw [e]; rfl, fun b hb => by omega⟩
    · rw [if_neg e]
      have hm : x ∈ l := by
        rcases List.mem_cons.1 h with h | h
        · exact absurd h.symm e
        · exact h
      obtain ⟨h1, h2⟩ := idx_at l x hm
      refine ⟨h1, fun b hb => ?_⟩
      cases b with
      | zero => simp [e]
      | succ b => simpa using h2 b (by omega)
def beS (S : List S96) (q c : Int) : List S96 × Int := if (inZ S.length q && inZ S.length c) = true then (if (decide (paS S q.toNat < 0) || (c == 0 || subB S c.toNat q.toNat)) = true then (S, 1) else (putS (outS S c.toNat) (paS S q.toNat).toNat (idx (kiS (outS S c.toNat) (paS S q.toNat).toNat) q) c.toNat, 0)) else (S, 2)
set_option maxRecDepth 20000 in
set_option maxHeartbeats 4000000 in
theorem J_Before {w0 w : World} {p : Nat} {S : List S96} {O : Nat → Prop} (h : JA w0 w p S O) (hF : FoS S) (hl : S.length ≤ 2000) (q c : Int) (S' : List S96) (r : Int) (hr : beS S q c = (S', r)) :
    Calls Try.prog 41 #[.pointer (some ⟨p, 0, none⟩), .int .i64 q, .int .i64 c] w fun e w' => e = .returned (.int .i64 r) ∧ JA w0 w' p S' O ∧ kO O w w' := by
  have H := Aside0.mk h
  have HF := Aside0.mk hF
  unfold beS at hr
  cases cq : inZ S.length q with
  | false =>
    rw [cq] at hr
    have CQ := Aside0.mk cq
    rw [Bool.false_and, if_neg (by decide)] at hr
    injection hr with e1 e2
    subst e1 e2
    clear h hF cq hl
    go_enter Try.func41, Try.ntmps41
    go_wp2_with (go_at_call 65; refine (J_is H.out _ _ CQ.out).mono ?_; rintro e w1 ⟨rfl, rfl⟩)
    go_ret
    exact ⟨rfl, H.out, kO_refl _ _⟩
  | true =>
    rw [cq] at hr
    have CQ := Aside0.mk cq
    rw [Bool.true_and] at hr
    cases cc : inZ S.length c with
    | false =>
      rw [cc] at hr
      have CC := Aside0.mk cc
      rw [if_neg (by decide)] at hr
      injection hr with e1 e2
      subst e1 e2
      clear h hF cq cc hl
      go_enter Try.func41, Try.ntmps41
      go_wp2_with (go_at_call 65; refine (J_is H.out _ _ (by first | exact CQ.out | exact CC.out)).mono ?_; rintro e w1 ⟨rfl, rfl⟩)
      go_ret
      exact ⟨rfl, H.out, kO_refl _ _⟩
    | true =>
      rw [cc] at hr
      have CC := Aside0.mk cc
      rw [if_pos rfl] at hr
      obtain ⟨q, rfl, hq⟩ := inZ_nat cq
      obtain ⟨c, rfl, hc⟩ := inZ_nat cc
      rw [Int.toNat_natCast, Int.toNat_natCast] at hr
      obtain ⟨g, cap, A, cp, z0, hcap, y0, y5, y6, hk⟩ := JA_at h q hq
      have hpq := FoS_pa hF hq
      obtain ⟨n, hn⟩ : ∃ n, n = S.length := ⟨_, rfl⟩
      have HN := Aside0.mk hn
      rw [← hn] at z0 hcap hq hc hl
      have q1 : (q : Int) < (n : Int) := by omega
      have HQ := Aside0.mk hq
      have HC := Aside0.mk hc
      have HL := Aside0.mk hl
      clear h hF cq cc y0 y6 hk hn
      rcases hpq with e5 | ⟨j, e5, hj, hmem, hqj⟩
      · rw [e5] at y5 hr
        rw [show decide ((-1 : Int) < 0) = true from rfl, Bool.true_or, if_pos rfl] at hr
        injection hr with e1 e2
        subst e1 e2
        clear e5
        go_enter Try.func41, Try.ntmps41
        go_wp2_with (go_at_call 65; refine (J_is H.out _ _ (by first | exact CQ.out | exact CC.out)).mono ?_; rintro e w1 ⟨rfl, rfl⟩)
        go_ret
        exact ⟨rfl, H.out, kO_refl _ _⟩
      · have E5 := Aside0.mk e5
        rw [e5] at y5 hr
        rw [decide_eq_false (show ¬ ((j : Int) < 0) by omega), Bool.false_or, Int.toNat_natCast] at hr
        have HJ := Aside0.mk hj
        have HM := Aside0.mk hmem
        have j0 : ¬ ((j : Int) < 0) := by omega
        have j1 : (0 : Int) ≤ (j : Int) := by omega
        clear e5 hmem hqj hj
        by_cases c0 : c = 0
        · subst c0
          rw [show (((0 : Nat) : Int) == 0) = true from rfl, Bool.true_or, if_pos rfl] at hr
          injection hr with e1 e2
          subst e1 e2
          go_enter Try.func41, Try.ntmps41
          go_wp2_with (go_at_call 65; refine (J_is H.out _ _ (by first | exact CQ.out | exact CC.out)).mono ?_; rintro e w1 ⟨rfl, rfl⟩)
          go_ret
          exact ⟨rfl, H.out, kO_refl _ _⟩
        · have c0b : ((c : Int) == 0) = false := by simp; omega
          have c0c : ((c : Int) != 0) = true := by simp; omega
          rw [c0b, Bool.false_or] at hr
          cases cs : subB S c q with
          | true =>
            rw [cs, if_pos rfl] at hr
            have CS := Aside0.mk ((subB_iff HF.out (by have := HN.out; have := HQ.out; omega)).1 cs)
            injection hr with e1 e2
            subst e1 e2
            clear cs
            go_enter Try.func41, Try.ntmps41
            go_wp2_with (first | (go_at_call 65; refine (J_is H.out _ _ (by first | exact CQ.out | exact CC.out)).mono ?_; rintro e w1 ⟨rfl, rfl⟩) | (go_at_call 67; refine (J_within H.out HF.out q c (by have := HN.out; have := HQ.out; omega) true ⟨fun _ => CS.out, fun _ => rfl⟩).mono ?_; rintro e w1 ⟨rfl, rfl⟩))
            go_ret
            exact ⟨rfl, H.out, kO_refl _ _⟩
          | false =>
            rw [cs, if_neg (by decide)] at hr
            have CS := Aside0.mk (show ¬ Sub (paS S) c q from fun e => by rw [(subB_iff HF.out (by have := HN.out; have := HQ.out; omega)).2 e] at cs; cases cs)
            have HR := Aside0.mk hr
            have CJ := Aside0.mk (show c ≠ j from fun e => by subst e; exact CS.out (.step E5.out .refl))
            have FT := Aside0.mk (FoS_out HF.out (show c < S.length by have := HN.out; have := HC.out; omega))
            have HK := Aside0.mk (show (q : Int) ∈ kiS (outS S c) j by
              rw [ki_outS HF.out (by have := HN.out; have := HC.out; omega)]
              dsimp only
              split
              · refine List.mem_filter.2 ⟨HM.out, ?_⟩
                have : q ≠ c := fun e => by subst e; exact CS.out .refl
                simp; omega
              · exact HM.out)
            clear cs hr
            go_enter Try.func41, Try.ntmps41
            go_upto_region 7 with (first | (go_at_call 65; refine (J_is H.out _ _ (by first | exact CQ.out | exact CC.out)).mono ?_; rintro e w1 ⟨rfl, rfl⟩) | (go_at_call 67; refine (J_within H.out HF.out q c (by have := HN.out; have := HQ.out; omega) false ⟨(fun e => by cases e), fun e => absurd e CS.out⟩).mono ?_; rintro e w1 ⟨rfl, rfl⟩) | (go_at_call 68; refine (J_out H.out HF.out (by have := HN.out; have := HL.out; omega) c (by have := HN.out; have := HC.out; omega)).mono ?_; rintro e w2 ⟨rfl, hJ, hK⟩; have J2 := Aside0.mk hJ; have K2 := Aside0.mk hK; clear hJ hK))
            obtain ⟨g2, cap2, A2, cp2, z0', hcap2, y0', y5', y6', hk'⟩ := JA_at J2.out j (by rw [len_outS]; exact HJ.out)
            rw [len_outS, ← HN.out] at z0' hcap2
            have hj1 : j < n := by have := HN.out; have := HJ.out; omega
            have j2 : (j : Int) < (n : Int) := by omega
            obtain ⟨i1, i2⟩ := idx_at _ _ HK.out
            have hkl := FoS_ki_len FT.out (show j < (outS S c).length by rw [len_outS]; exact HJ.out)
            rw [len_outS] at hkl
            have IX := Aside0.mk (Index_ev (kiS (outS S c) j) (q : Int) (idx (kiS (outS S c) j) (q : Int)) i1 (by have := HN.out; have := HL.out; omega) i2)
            have ia := (List.getElem?_eq_some_iff.1 i1).1
            have IA := Aside0.mk (show idx (kiS (outS S c) j) (q : Int) ≤ (kiS (outS S c) j).length by omega)
            obtain ⟨a, hadef⟩ : ∃ a, a = idx (kiS (outS S c) j) (q : Int) := ⟨_, rfl⟩
            rw [← hadef] at IX IA
            have HA := Aside0.mk hadef
            obtain ⟨m, hm⟩ : ∃ m, m = (kiS (outS S c) j).length := ⟨_, rfl⟩
            rw [← hm] at y6' hk'
            have HK' := Aside0.mk hk'
            clear hm hk' y0' y5' z0 y5 i1 i2 hkl ia hadef
            go_wp2_with (first | (go_at_call 80; refine (ar_Index HK'.out IX.out).mono ?_; rintro e w3 ⟨rfl, hd⟩; have J3 := Aside0.mk (JA_step J2.out (drawn_below hd)); have K3 := Aside0.mk (kO_below J2.out (drawn_below hd)); clear hd) | (go_at_call 69; refine (J_put J3.out FT.out (by rw [len_outS]; have := HN.out; have := HL.out; omega) c j a (by rw [len_outS]; have := HN.out; have := HC.out; omega) (by rw [len_outS]; exact HJ.out) CJ.out IA.out).mono ?_; rintro e w4 ⟨rfl, hJ, hK⟩; have J4 := Aside0.mk hJ; have K4 := Aside0.mk hK; clear hJ hK))
            go_ret
            have hr := HR.out
            injection hr with e1 e2
            rw [← e2, ← e1, ← HA.out]
            exact ⟨rfl, J4.out, kO_trans K2.out (kO_trans K3.out K4.out)⟩
def reS (S : List S96) (n : Int) : List S96 × Int := if inZ S.length n = true then (if paS S n.toNat < 0 then (S, 1) else (outS S n.toNat, 0)) else (S, 2)
set_option maxHeartbeats 4000000 in
theorem J_Remove {w0 w : World} {p : Nat} {S : List S96} {O : Nat → Prop} (h : JA w0 w p S O) (hF : FoS S) (hl : S.length ≤ 2000) (q : Int) (S' : List S96) (r : Int) (hr : reS S q = (S', r)) :
    Calls Try.prog 39 #[.pointer (some ⟨p, 0, none⟩), .int .i64 q] w fun e w' => e = .returned (.int .i64 r) ∧ JA w0 w' p S' O ∧ kO O w w' := by
  have H := Aside0.mk h
  have HF := Aside0.mk hF
  unfold reS at hr
  cases cq : inZ S.length q with
  | false =>
    rw [cq, if_neg (by decide)] at hr
    have CQ := Aside0.mk cq
    injection hr with e1 e2
    subst e1 e2
    clear h hF cq hl
    go_enter Try.func39, Try.ntmps39
    go_wp2_with (go_at_call 65; refine (J_is H.out _ _ CQ.out).mono ?_; rintro e w1 ⟨rfl, rfl⟩)
    go_ret
    exact ⟨rfl, H.out, kO_refl _ _⟩
  | true =>
    rw [cq, if_pos rfl] at hr
    have CQ := Aside0.mk cq
    obtain ⟨q, rfl, hq⟩ := inZ_nat cq
    rw [Int.toNat_natCast] at hr
    obtain ⟨g, cap, A, cp, z0, hcap, y0, y5, y6, hk⟩ := JA_at h q hq
    have hpq := FoS_pa hF hq
    obtain ⟨n, hn⟩ : ∃ n, n = S.length := ⟨_, rfl⟩
    have HN := Aside0.mk hn
    rw [← hn] at z0 hcap hq hl
    have q1 : (q : Int) < (n : Int) := by omega
    have HQ := Aside0.mk hq
    have HL := Aside0.mk hl
    clear h hF cq y0 y6 hk hn
    rcases hpq with e5 | ⟨j, e5, hj, hmem, hqj⟩
    · rw [e5] at y5 hr
      rw [if_pos (by decide)] at hr
      injection hr with e1 e2
      subst e1 e2
      clear e5
      go_enter Try.func39, Try.ntmps39
      go_wp2_with (go_at_call 65; refine (J_is H.out _ _ CQ.out).mono ?_; rintro e w1 ⟨rfl, rfl⟩)
      go_ret
      exact ⟨rfl, H.out, kO_refl _ _⟩
    · rw [e5] at y5 hr
      rw [if_neg (show ¬ ((j : Int) < 0) by omega)] at hr
      have j0 : ¬ ((j : Int) < 0) := by omega
      injection hr with e1 e2
      subst e1 e2
      clear e5 hmem hqj hj
      go_enter Try.func39, Try.ntmps39
      go_wp2_with (first | (go_at_call 65; refine (J_is H.out _ _ CQ.out).mono ?_; rintro e w1 ⟨rfl, rfl⟩) | (go_at_call 68; refine (J_out H.out HF.out (by have := HN.out; have := HL.out; omega) q (by have := HN.out; have := HQ.out; omega)).mono ?_; rintro e w2 ⟨rfl, hJ, hK⟩; have J2 := Aside0.mk hJ; have K2 := Aside0.mk hK; clear hJ hK))
      go_ret
      exact ⟨rfl, J2.out, K2.out⟩
/- Each act leaves a forest. -/
theorem FoS_root : FoS [root96] := by
  refine ⟨by decide, rfl, fun i hi k hk => ?_, fun c hc => .inl ?_, fun i hi => ?_, fun _ => 0, fun c hc i hp => ?_⟩
  · obtain rfl : i = 0 := by simp at hi; omega
    have hk : k ∈ ([] : List Int) := hk
    cases hk
  · obtain rfl : c = 0 := by simp at hc; omega
    rfl
  · obtain rfl : i = 0 := by simp at hi; omega
    exact List.nodup_nil
  · obtain rfl : c = 0 := by simp at hc; omega
    have hp : (-1 : Int) = (i : Int) := hp
    omega
theorem app_at (S : List S96) (z : S96) (k : Nat) : (S ++ [z])[k]? = if k < S.length then S[k]? else if k = S.length then some z else none := by
  by_cases c : k < S.length
  · rw [if_pos c, List.getElem?_append_left c]
  · rw [if_neg c, List.getElem?_append_right (by omega)]
    by_cases e : k = S.length
    · rw [if_pos e, e, Nat.sub_self]; rfl
    · rw [if_neg e, List.getElem?_eq_none]
      simp; omega
theorem pa_app (S : List S96) (z : S96) (k : Nat) (hk : k < S.length) : paS (S ++ [z]) k = paS S k := by unfold paS; rw [app_at, if_pos hk]
theorem ki_app (S : List S96) (z : S96) (k : Nat) (hk : k < S.length) : kiS (S ++ [z]) k = kiS S k := by unfold kiS; rw [app_at, if_pos hk]
theorem fa_app (S : List S96) (z : S96) (k : Nat) (hk : k < S.length) : faS (S ++ [z]) k = faS S k := by unfold faS; rw [app_at, if_pos hk]
theorem pa_new (S : List S96) (x : S94) : paS (S ++ [(⟨x, -1, []⟩ : S96)]) S.length = -1 := by unfold paS; rw [app_at, if_neg (by omega), if_pos rfl]
theorem ki_new (S : List S96) (x : S94) : kiS (S ++ [(⟨x, -1, []⟩ : S96)]) S.length = [] := by unfold kiS; rw [app_at, if_neg (by omega), if_pos rfl]
theorem fa_new (S : List S96) (x : S94) : faS (S ++ [(⟨x, -1, []⟩ : S96)]) S.length = x := by unfold faS; rw [app_at, if_neg (by omega), if_pos rfl]
theorem FoS_app {S : List S96} (h : FoS S) (x : S94) : FoS (S ++ [(⟨x, -1, []⟩ : S96)]) := by
  obtain ⟨rk, hrk⟩ := h.rk
  have hl : (S ++ [(⟨x, -1, []⟩ : S96)]).length = S.length + 1 := by simp
  unfold FoS
  rw [hl]
  have cs : ∀ i, i < S.length + 1 → i < S.length ∨ i = S.length := fun i hi => by omega
  refine ⟨by omega, ?_, fun i hi k hk => ?_, fun c hc => ?_, fun i hi => ?_, rk, fun c hc i hp => ?_⟩
  · rw [pa_app _ _ _ h.pos]; exact h.root
  · rcases cs i hi with e | rfl
    · rw [ki_app _ _ _ e] at hk
      obtain ⟨c, rfl, hc, hp⟩ := h.kp i e k hk
      exact ⟨c, rfl, by omega, by rw [pa_app _ _ _ hc]; exact hp⟩
    · rw [ki_new] at hk; cases hk
  · rcases cs c hc with e | rfl
    · rw [pa_app _ _ _ e]
      rcases h.pk c e with h1 | ⟨i, h1, h2, h3⟩
      · exact .inl h1
      · exact .inr ⟨i, h1, by omega, by rw [ki_app _ _ _ h2]; exact h3⟩
    · exact .inl (pa_new S x)
  · rcases cs i hi with e | rfl
    · rw [ki_app _ _ _ e]; exact h.nd i e
    · rw [ki_new]; exact List.nodup_nil
  · rcases cs c hc with e | rfl
    · rw [pa_app _ _ _ e] at hp
      exact hrk c e i hp
    · rw [pa_new] at hp; omega
theorem FoS_mk {S : List S96} (h : FoS S) (x : S94) : FoS (mkS S x).1 := by
  unfold mkS
  split
  · exact h
  · exact FoS_app h x
theorem mkS_len (S : List S96) (x : S94) (hS : S.length ≤ 2000) : (mkS S x).1.length ≤ 2000 ∧ (mkS S x).1.length ≤ S.length + 1 ∧ S.length ≤ (mkS S x).1.length := by
  unfold mkS
  split
  · dsimp only; omega
  · simp; omega
theorem FoS_cp {S : List S96} (h : FoS S) (n : Int) : FoS (cpS S n).1 := by
  unfold cpS
  split
  · split
    · exact FoS_mk h _
    · exact h
  · exact h
theorem FoS_setFa {S : List S96} (h : FoS S) (i : Nat) (f : S94) : FoS (setFa S i f) := by
  unfold FoS
  rw [len_setFa, pa_setFa, ki_setFa]
  exact h
theorem FoS_ad {S : List S96} (h : FoS S) (n : Int) (s : ByteArray) : FoS (adS S n s).1 := by
  unfold adS
  split
  · split
    · exact FoS_setFa h _ _
    · exact h
  · exact h
theorem FoS_move1 {S : List S96} (h : FoS S) {c q : Nat} (hc : c < S.length) (hq : q < S.length) (a : Nat) (hc0 : 0 < c) (hs : ¬ Sub (paS S) c q) : FoS (putS (outS S c) q a c) := by
  refine FoS_put (FoS_out h hc) (by rw [len_outS]; exact hc) (by rw [len_outS]; exact hq) a hc0 ?_ ?_
  · rw [pa_outS h hc, upd_self]
  · rw [pa_outS h hc]
    exact fun e => hs (Sub_out e)
theorem FoS_ap {S : List S96} (h : FoS S) (q c : Int) : FoS (apS S q c).1 := by
  unfold apS
  split
  · rename_i h1
    rw [Bool.and_eq_true] at h1
    obtain ⟨q, rfl, hq⟩ := inZ_nat h1.1
    obtain ⟨c, rfl, hc⟩ := inZ_nat h1.2
    rw [Int.toNat_natCast, Int.toNat_natCast]
    split
    · exact h
    · rename_i h2
      simp only [Bool.or_eq_true, not_or, Bool.not_eq_true, beq_eq_false_iff_ne, ne_eq] at h2
      refine FoS_move1 h hc hq _ (by have := h2.2.1; omega) (fun e => ?_)
      rw [(subB_iff h hq).2 e] at h2
      exact absurd h2.2.2 (by decide)
  · exact h
theorem FoS_be {S : List S96} (h : FoS S) (q c : Int) : FoS (beS S q c).1 := by
  unfold beS
  split
  · rename_i h1
    rw [Bool.and_eq_true] at h1
    obtain ⟨q, rfl, hq⟩ := inZ_nat h1.1
    obtain ⟨c, rfl, hc⟩ := inZ_nat h1.2
    rw [Int.toNat_natCast, Int.toNat_natCast]
    split
    · exact h
    · rename_i h2
      simp only [Bool.or_eq_true, not_or, Bool.not_eq_true, beq_eq_false_iff_ne, ne_eq, decide_eq_false_iff_not] at h2
      rcases FoS_pa h hq with e | ⟨j, e, hj, _, _⟩
      · omega
      · rw [e, Int.toNat_natCast]
        refine FoS_move1 h hc hj _ (by have := h2.2.1; omega) (fun e2 => ?_)
        rw [(subB_iff h hq).2 (.step e e2)] at h2
        exact absurd h2.2.2 (by decide)
  · exact h
theorem FoS_re {S : List S96} (h : FoS S) (q : Int) : FoS (reS S q).1 := by
  unfold reS
  split
  · rename_i h1
    obtain ⟨q, rfl, hq⟩ := inZ_nat h1
    rw [Int.toNat_natCast]
    split
    · exact h
    · exact FoS_out h hq
  · exact h
theorem len_cp (S : List S96) (n : Int) (hS : S.length ≤ 2000) : (cpS S n).1.length ≤ 2000 := by
  unfold cpS
  split
  · split
    · exact (mkS_len S _ hS).1
    · exact hS
  · exact hS
theorem len_ad (S : List S96) (n : Int) (s : ByteArray) : (adS S n s).1.length = S.length := by
  unfold adS
  split
  · split
    · exact len_setFa _ _ _
    · rfl
  · rfl
theorem len_ap (S : List S96) (q c : Int) : (apS S q c).1.length = S.length := by
  unfold apS
  split
  · split
    · rfl
    · simp [len_putS, len_outS]
  · rfl
theorem len_be (S : List S96) (q c : Int) : (beS S q c).1.length = S.length := by
  unfold beS
  split
  · split
    · rfl
    · simp [len_putS, len_outS]
  · rfl
theorem len_re (S : List S96) (q : Int) : (reS S q).1.length = S.length := by
  unfold reS
  split
  · split
    · rfl
    · simp [len_outS]
  · rfl
/- alive. -/
theorem pair_of {α β : Type} {x : α × β} {b : β} (h : x.2 = b) : x = (x.1, b) := by rw [← h]
def al0 : List S96 := [root96]
def al1 : List S96 := (mkS al0 ⟨1, 0, ⟨#[97]⟩, [], ⟨#[]⟩⟩).1
def al2 : List S96 := (mkS al1 ⟨1, 0, ⟨#[98]⟩, [], ⟨#[]⟩⟩).1
def al3 : List S96 := (apS al2 0 1).1
def al4 : List S96 := (apS al3 1 2).1
def al5 : List S96 := (beS al4 1 2).1
theorem al_e1 : mkS al0 ⟨1, 0, ⟨#[97]⟩, [], ⟨#[]⟩⟩ = (al1, 1) := pair_of (by decide +kernel)
theorem al_e2 : mkS al1 ⟨1, 0, ⟨#[98]⟩, [], ⟨#[]⟩⟩ = (al2, 2) := pair_of (by decide +kernel)
theorem al_e3 : apS al2 0 1 = (al3, 0) := pair_of (by decide +kernel)
theorem al_e4 : apS al3 1 2 = (al4, 0) := pair_of (by decide +kernel)
theorem al_e5 : beS al4 1 2 = (al5, 0) := pair_of (by decide +kernel)
theorem al_k : kiI al5 0 = [2, 1] := by decide +kernel
theorem al_e6 : (apS al5 1 0).2 = 1 := by decide +kernel
theorem al_F0 : FoS al0 := FoS_root
theorem al_F1 : FoS al1 := FoS_mk al_F0 _
theorem al_F2 : FoS al2 := FoS_mk al_F1 _
theorem al_F3 : FoS al3 := FoS_ap al_F2 _ _
theorem al_F4 : FoS al4 := FoS_ap al_F3 _ _
theorem al_F5 : FoS al5 := FoS_be al_F4 _ _
theorem al_l : al2.length = 3 ∧ al3.length = 3 ∧ al4.length = 3 ∧ al5.length = 3 := by decide +kernel
set_option maxRecDepth 20000 in
set_option maxHeartbeats 8000000 in
theorem arena_alive (w : World) : Calls Try.prog 27 #[] w fun e w' => e = .returned (.bool true) ∧ Below w.heap.size w w' := by
  go_enter Try.func27, Try.ntmps27
  go_upto_region 10 with (first | (go_at_call 25; refine (J_New _).mono ?_; rintro e w1 ⟨p, rfl, hJ, hb⟩; have J1 := Aside0.mk (show JA w w1 p al0 (fun _ => False) from JA_mono hJ (fun _ h => h.elim)); clear hJ hb) | (go_at_call 28; refine (J_Element J1.out 0 ⟨#[97]⟩ none 0 [] (by decide) (Kd.C_nil _ _) (Nat.le_refl _) _ _ al_e1).mono ?_; rintro e w2 ⟨rfl, hJ, hk⟩; have J2 := Aside0.mk hJ; clear hJ hk J1) | (go_at_call 28; refine (J_Element J2.out 0 ⟨#[98]⟩ none 0 [] (by decide) (Kd.C_nil _ _) (Nat.le_refl _) _ _ al_e2).mono ?_; rintro e w3 ⟨rfl, hJ, hk⟩; have J3 := Aside0.mk hJ; clear hJ hk J2) | (go_at_call 32; refine (J_Append J3.out al_F2 (by rw [al_l.1]; decide) 0 1 _ _ al_e3).mono ?_; rintro e w4 ⟨rfl, hJ, hk⟩; have J4 := Aside0.mk hJ; clear hJ hk J3) | (go_at_call 32; refine (J_Append J4.out al_F3 (by rw [al_l.2.1]; decide) 1 2 _ _ al_e4).mono ?_; rintro e w5 ⟨rfl, hJ, hk⟩; have J5 := Aside0.mk hJ; clear hJ hk J4) | (go_at_call 41; refine (J_Before J5.out al_F4 (by rw [al_l.2.2.1]; decide) 1 2 _ _ al_e5).mono ?_; rintro e w6 ⟨rfl, hJ, hk⟩; have J6 := Aside0.mk hJ; clear hJ hk J5) | (go_at_call 36; refine (J_Kids J6.out 0 [2, 1] (by decide) al_k).mono ?_; rintro e w7 ⟨v7, rfl, hR, hb⟩; have R7 := Aside0.mk hR; have J7 := Aside0.mk (JA_step J6.out hb); clear hR hb J6))
  obtain ⟨g, cap, e7, _, _, cells, hc⟩ := Kd.R_form R7.out (by decide)
  subst e7
  have q0 : w7.cell? ⟨g, 0, none⟩ = some (.int .i64 2) := (Kd.R_celln (0 : Int) R7.out 0 (by decide) (by decide)).1
  have q1 : w7.cell? ⟨g, 1, none⟩ = some (.int .i64 1) := (Kd.R_celln (0 : Int) R7.out 1 (by decide) (by decide)).1
  obtain ⟨S6, hS6⟩ : ∃ S6, S6 = (apS al5 1 0).1 := ⟨_, rfl⟩
  have E6 := Aside0.mk (show apS al5 1 0 = (S6, 1) by rw [hS6]; exact pair_of al_e6)
  clear hS6
  go_wp2_with (go_at_call 32; refine (J_Append J7.out al_F5 (by rw [al_l.2.2.2]; decide) 1 0 _ _ E6.out).mono ?_; rintro e w8 ⟨rfl, hJ, hk⟩; have J8 := Aside0.mk hJ; clear hJ hk J7)
  go_ret
  exact ⟨by simp, JA_below J8.out⟩
def marginalialaw05_alive.f : Option (Bool) := some true
theorem marginalialaw05_alive.calls (r : Bool) (w : World) (h : marginalialaw05_alive.f = some r) :
    Calls Try.prog 27 #[] w fun e w' => e = .returned (.bool r) ∧ Below w.heap.size w w' := by
  obtain rfl := Option.some.inj h
  exact arena_alive w

end Go.Proofs.Ytnkaidaflegnlaa.A
