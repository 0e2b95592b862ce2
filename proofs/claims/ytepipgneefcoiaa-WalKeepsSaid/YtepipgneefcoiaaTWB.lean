/- The functions of the program that these laws reach, each as a plain Lean function, and the proof that the machine's call comes to it; no condition beyond those that each theorem names. Made by wip/xprint.py. -/
import Derived.Test.YtepipgneefcoiaaTWA
import Derived.Test.YtepipgneefcoiaaDf67
import Derived.Test.YtepipgneefcoiaaDf80
import Derived.Test.YtepipgneefcoiaaMCuts
import Derived.Test.YtepipgneefcoiaaMJoins
import Derived.Test.YtepipgneefcoiaaDx0
namespace Go.Proofs.Ytepipgneefcoiaa.D
open Go.RowKit Go.Proofs.YtepipgneefcoiaaW.PrintWords Go.Proofs.YtepipgneefcoiaaW.PrintLast Go.Proofs.YtepipgneefcoiaaW.PrintMore
attribute [local go_sem] max2_int min2_int max_two min_two max_three min_three max_four min_four
set_option linter.unusedVariables false
set_option linter.unusedSimpArgs false
/- The cells of sectors; the record that begins with cells; all records. -/
open Classical in
noncomputable def decZ (b : List Int) : S106 := if CellLaws.Good b then ⟨CellLaws.e0 b, CellLaws.e1 b, CellLaws.pt b, CellLaws.ofs b, CellLaws.dat b⟩ else ⟨0, 0, 0, 0, []⟩
theorem dec_ev {b : List Int} (hb : CrcK.Bytes b) : ∃ r6, Ev (fun k => cell_Decode.f k b) ((decZ b).f0, (decZ b).f1, (decZ b).f2, (decZ b).f3, (decZ b).f4, r6) := by
  unfold decZ
  by_cases c : CellLaws.Good b
  · rw [if_pos c]; exact ⟨0, CellLaws.decode_good hb c⟩
  · rw [if_neg c]; exact ⟨8, CellLaws.decode_bad hb c⟩
structure CellOk (c : S106) : Prop where
  f0 : 0 ≤ c.f0 ∧ c.f0 < 18446744073709551616
  f1 : 0 ≤ c.f1 ∧ c.f1 < 18446744073709551616
  f3 : 0 ≤ c.f3
  f4 : c.f4.length ≤ 39
theorem num8 {l : List Int} (hb : CrcK.Bytes l) (h : l.length = 8) : 0 ≤ CellLaws.num l ∧ CellLaws.num l < 18446744073709551616 := by
  have := CellLaws.num_range l hb
  rw [h] at this
  exact ⟨this.1, by have := this.2; omega⟩
theorem decZ_ok {b : List Int} (hb : CrcK.Bytes b) : CellOk (decZ b) := by
  unfold decZ
  by_cases c : CellLaws.Good b
  · rw [if_pos c]
    have hl := c.1
    have ho := CellLaws.ofs_le hb hl
    refine ⟨num8 (CellLaws.by_take hb _) (by rw [List.length_take]; omega), num8 (CellLaws.by_drop (CellLaws.by_take hb _) _) (by rw [List.length_drop, List.length_take]; omega), ho.2.2.1, ?_⟩
    show (CellLaws.dat b).length ≤ 39
    rw [CellLaws.dat_length hl c.2.1]
    exact c.2.1
  · rw [if_neg c]
    exact ⟨⟨by decide, by decide⟩, ⟨by decide, by decide⟩, by decide, by decide⟩
theorem cells_ev (rows : List (List Int)) (hb : ∀ b ∈ rows, CrcK.Bytes b) (hl : rows.length ≤ 100000) : Ev (fun k => wal_cells.f k rows) (rows.map decZ) := by
  have key : ∀ (m j : Nat), j + m = rows.length → Ev (fun k => wal_cells.l0 k ((rows.take j).map decZ) rows (rows.length : Int) (j : Int)) (rows.map decZ) := by
    intro m
    induction m with
    | zero =>
      intro j hj
      refine Ev.step (f := fun _ => some (rows.map decZ)) (fun k => ?_) (Ev.now _)
      rw [wal_cells.l0, if_neg (by omega), List.take_of_length_le (by omega)]
    | succ m ih =>
      intro j hj
      have hjl : j < rows.length := by omega
      obtain ⟨r6, hd⟩ := dec_ev (hb _ (List.getElem_mem hjl))
      have hrd : rd_L3 rows (j : Int) = rows[j] := by
        unfold rd_L3
        rw [Int.toNat_natCast, List.getD_eq_getElem?_getD, List.getElem?_eq_getElem hjl]; rfl
      refine Ev.step (f := fun k => (cell_Decode.f k (rd_L3 rows (j : Int))).bind fun bt => wal_cells.l0 k ((rows.take j).map decZ ++ [(⟨bt.1, bt.2.1, bt.2.2.1, bt.2.2.2.1, bt.2.2.2.2.1⟩ : S106)]) rows (rows.length : Int) (wrap64 ((j : Int) + 1))) (fun k => ?_) ?_
      · rw [wal_cells.l0, if_pos (by omega), if_pos (by omega), if_pos (by omega)]
        congr 1
        funext bt
        rw [if_pos (by rw [List.length_map, List.length_take]; omega)]
      · rw [hrd]
        refine Ev.bind hd ?_
        have h1 : (rows.take j).map decZ ++ [decZ rows[j]] = (rows.take (j + 1)).map decZ := by rw [List.take_succ_eq_append_getElem hjl, List.map_append]; rfl
        show Ev (fun k => wal_cells.l0 k ((rows.take j).map decZ ++ [decZ rows[j]]) rows (rows.length : Int) (wrap64 ((j : Int) + 1))) _
        rw [h1, show wrap64 ((j : Int) + 1) = ((j + 1 : Nat) : Int) by unfold wrap64; omega]
        exact ih (j + 1) (by omega)
  exact key rows.length 0 (by omega)
open Classical in
noncomputable def rec1 (cs : List S106) (ep : Int) : Option (List Int × Int × Nat) :=
  if cs.length = 0 then none else if (rd_T106 cs 0).f3 = 0 then none else if (rd_T106 cs 0).f3 > (cs.length : Int) then none else if (rd_T106 cs 0).f0 ≠ ep then none
  else if CellLaws.Row (cs.take (rd_T106 cs 0).f3.toNat) then some (CellLaws.cat (cs.take (rd_T106 cs 0).f3.toNat), (rd_T106 cs 0).f1, (rd_T106 cs 0).f3.toNat) else none
def RecIs (o : Option (List Int × Int × Nat)) (b : List Int) (li of : Int) (ok : Bool) : Prop := (o = none ∧ ok = false) ∨ ∃ n : Nat, o = some (b, li, n) ∧ ok = true ∧ of = (n : Int) ∧ 0 < n
/- All records that begin with cells. -/
noncomputable def prs (ep : Int) : Nat → List S106 → Int → List (List Int) × Nat
  | 0, _, _ => ([], 0)
  | k + 1, cs, least => match rec1 cs ep with
    | none => ([], 0)
    | some (b, li, n) => if li < least then ([], 0) else (b :: (prs ep k (cs.drop n) li).1, n + (prs ep k (cs.drop n) li).2)
def lmax (cs : List S106) : Int := cs.foldl (fun m c => if m < c.f1 then c.f1 else m) 0
/- The record that begins with cells. -/
theorem join_at {w : World} {A : Option Addr} {m c : Nat} {l : List S106} {b : List Int} {ok : Bool} {j : Nat} (hm : m = l.length) (hc : m ≤ c) (hC : Kd.C k106 w A l.length l) (h : cell_Join.f j l = some (b, ok)) :
    Calls Try.prog 80 #[.slice A m c] w fun e w' => ∃ (A' : Option Addr) (m' c' : Nat), e = .returned (.tuple #[.slice A' m' c', .bool ok]) ∧ Kd.R (Kd.int .u8) 5 w' w.heap.size (fun _ => True) (.slice A' m' c') b ∧ Below w.heap.size w w' := by
  subst hm
  refine (cell_Join.calls j A c l b ok w hC hc h).mono ?_
  rintro e w' ⟨v, rfl, hR, hb⟩
  obtain ⟨A', c', rfl⟩ := Kd.R_slice hR
  exact ⟨A', _, c', rfl, hR, hb⟩
theorem ad_zero (ad : Addr) : ad.add 0 = ad := by cases ad; unfold Addr.add; split <;> simp_all
def RecOut (w : World) (cs : List S106) (ep : Int) (e : Ending) (w' : World) : Prop := ∃ (A2 : Option Addr) (m2 c2 : Nat) (b : List Int) (r2 r3 r4 r5 : Int) (A5 : Option Addr) (m5 c5 : Nat) (ok : Bool), e = .returned (.tuple #[.slice A2 m2 c2, .agg #[.int .u64 r2, .int .u64 r3, .int .i64 r4, .int .i64 r5, .slice A5 m5 c5], .bool ok]) ∧ RecIs (rec1 cs ep) b r3 r5 ok ∧ Kd.R (Kd.int .u8) 5 w' w.heap.size (fun _ => True) (.slice A2 m2 c2) b ∧ Below w.heap.size w w'
set_option maxRecDepth 20000 in
set_option maxHeartbeats 16000000 in
theorem L_record {w : World} {A : Option Addr} {n c : Nat} {cs : List S106} (hn : n = cs.length) (hc : n ≤ c) (hC : Kd.C k106 w A n cs) (ep : Int) (hl : cs.length ≤ 1000) (ho : ∀ c ∈ cs, CellOk c) :
    Calls Try.prog 68 #[.slice A n c, .int .u64 ep] w (RecOut w cs ep) := by
  have HN := Aside0.mk hn
  have HCC := Aside0.mk hc
  have HC := Aside0.mk hC
  have HL := Aside0.mk hl
  have HO := Aside0.mk ho
  have nb : n ≤ 1000 := by omega
  clear hC hc hl ho
  go_enter Try.func68, Try.ntmps68
  go_upto_region 1 with (fail)
  obtain ⟨g5, hg5⟩ : ∃ g5, g5 = w.heap.size := ⟨_, rfl⟩
  obtain ⟨W0, hW0⟩ : ∃ W0, W0 = w.alloc (.cells #[.int .u64 0, .int .u64 0, .int .i64 0, .int .i64 0, .slice none 0 0] 106) := ⟨_, rfl⟩
  have B0 := Aside0.mk (show Below w.heap.size w W0 by rw [hW0]; exact below_alloc (Below.refl _ _) _)
  have K5 := Aside0.mk (show W0.heap[g5]? = some (.cells #[.int .u64 0, .int .u64 0, .int .i64 0, .int .i64 0, .slice none 0 0] 106 (0, 0)) by rw [hW0, hg5]; exact blk_new _ _)
  have L5 := Aside0.mk (show w.heap.size ≤ g5 by omega)
  rw [← hW0, ← hg5]
  clear hW0 hg5 hn
  have fz := fun i => blk_frozen K5.out i
  have z0 := (blk_cell K5.out 0).trans (rfl : (#[.int .u64 0, .int .u64 0, .int .i64 0, .int .i64 0, .slice none 0 0] : Array Value)[0]? = some (.int .u64 0))
  have z1 := (blk_cell K5.out 1).trans (rfl : (#[.int .u64 0, .int .u64 0, .int .i64 0, .int .i64 0, .slice none 0 0] : Array Value)[1]? = some (.int .u64 0))
  have z2 := (blk_cell K5.out 2).trans (rfl : (#[.int .u64 0, .int .u64 0, .int .i64 0, .int .i64 0, .slice none 0 0] : Array Value)[2]? = some (.int .i64 0))
  have z3 := (blk_cell K5.out 3).trans (rfl : (#[.int .u64 0, .int .u64 0, .int .i64 0, .int .i64 0, .slice none 0 0] : Array Value)[3]? = some (.int .i64 0))
  have z4 := (blk_cell K5.out 4).trans (rfl : (#[.int .u64 0, .int .u64 0, .int .i64 0, .int .i64 0, .slice none 0 0] : Array Value)[4]? = some (.slice none 0 0))
  by_cases c1 : n = 0
  · have c1b : ((n : Int) == 0) = true := by simp [c1]
    have HR := Aside0.mk (show RecIs (rec1 cs ep) [] 0 0 false from .inl ⟨by unfold rec1; rw [if_pos (by rw [← HN.out]; exact c1)], rfl⟩)
    subst c1
    go_wp2
    refine bodyPost_ret (results_list (rs := [.tmp 4, .cell 5 106, .tmp 6]) rfl (by simp) (.tmp (.cell g5 106 #[.int .u64 0, .int .u64 0, .int .i64 0, .int .i64 0, .slice none 0 0] (0, 0) _ rfl (by exact blk_put (cs := #[.int .u64 0, .int .u64 0, .int .i64 0, .int .i64 0, .slice none 0 0]) (blk_put (cs := #[.int .u64 0, .int .u64 0, .int .i64 0, .int .i64 0, .slice none 0 0]) (blk_put (cs := #[.int .u64 0, .int .u64 0, .int .i64 0, .int .i64 0, .slice none 0 0]) (blk_put (cs := #[.int .u64 0, .int .u64 0, .int .i64 0, .int .i64 0, .slice none 0 0]) (blk_put (cs := #[.int .u64 0, .int .u64 0, .int .i64 0, .int .i64 0, .slice none 0 0]) K5.out 0 _ rfl) 1 _ rfl) 2 _ rfl) 3 _ rfl) 4 _ rfl) Try.underlying106 rfl (by kernel_rfl) (.tmp .nil)))) rfl ?_
    exact ⟨_, _, _, [], _, _, _, _, _, _, _, _, rfl, HR.out, Kd.R_nil _ _ _ _ _, below_set (below_set (below_set (below_set (below_set B0.out L5.out) L5.out) L5.out) L5.out) L5.out⟩
  · have c1b : ((n : Int) == 0) = false := by simp [c1]
    have npos : (0 : Int) < (n : Int) := by omega
    have npos2 : 0 < n := by omega
    obtain ⟨ad, A4, c4, rfl, y0, y1, y2, y3, y4, l4, C4⟩ := at_T106 HC.out 0 (by omega) (by omega)
    rw [show (0 : Int).toNat * 5 = 0 from rfl, ad_zero] at y0 y1 y2 y3 y4
    obtain ⟨x, hx⟩ : ∃ x, x = rd_T106 cs 0 := ⟨_, rfl⟩
    have HX := Aside0.mk hx
    rw [← hx] at y0 y1 y2 y3 y4 l4 C4
    have XO := Aside0.mk (show CellOk x from HO.out x (by rw [hx]; unfold rd_T106; rw [show (0 : Int).toNat = 0 from rfl, List.getD_eq_getElem?_getD, List.getElem?_eq_getElem (by rw [← HN.out]; omega)]; exact List.getElem_mem _))
    obtain ⟨x0, x1, x2, x3, x4⟩ := x
    dsimp only at y0 y1 y2 y3 y4 l4 C4
    obtain ⟨m4, hm4⟩ : ∃ m4, m4 = x4.length := ⟨_, rfl⟩
    rw [← hm4] at y4
    have Y := Aside0.mk (show w.cell? ad = some (.int .u64 x0) ∧ w.cell? ⟨ad.block, ad.off + 1, none⟩ = some (.int .u64 x1) ∧ w.cell? ⟨ad.block, ad.off + 2, none⟩ = some (.int .i64 x2) ∧ w.cell? ⟨ad.block, ad.off + 3, none⟩ = some (.int .i64 x3) ∧ w.cell? ⟨ad.block, ad.off + 4, none⟩ = some (.slice A4 m4 c4) from ⟨y0, y1, y2, y3, y4⟩)
    have y0 := pw_cell_below B0.out Y.out.1
    have y3 := pw_cell_below B0.out Y.out.2.2.2.1
    have HCL := Aside0.mk (show cs.length ≠ 0 by rw [← HN.out]; exact c1)
    clear hx y1 y2 y4 l4 C4 hm4 c1
    by_cases c2 : x3 = 0
    · have c2b : (x3 == 0) = true := by simp [c2]
      have HR := Aside0.mk (show RecIs (rec1 cs ep) [] 0 0 false from .inl ⟨by unfold rec1; rw [if_neg HCL.out, if_pos (by rw [← HX.out]; exact c2)], rfl⟩)
      subst c2
      go_wp2
      refine bodyPost_ret (results_list (rs := [.tmp 4, .cell 5 106, .tmp 6]) rfl (by simp) (.tmp (.cell g5 106 #[.int .u64 0, .int .u64 0, .int .i64 0, .int .i64 0, .slice none 0 0] (0, 0) _ rfl (by exact blk_put (cs := #[.int .u64 0, .int .u64 0, .int .i64 0, .int .i64 0, .slice none 0 0]) (blk_put (cs := #[.int .u64 0, .int .u64 0, .int .i64 0, .int .i64 0, .slice none 0 0]) (blk_put (cs := #[.int .u64 0, .int .u64 0, .int .i64 0, .int .i64 0, .slice none 0 0]) (blk_put (cs := #[.int .u64 0, .int .u64 0, .int .i64 0, .int .i64 0, .slice none 0 0]) (blk_put (cs := #[.int .u64 0, .int .u64 0, .int .i64 0, .int .i64 0, .slice none 0 0]) K5.out 0 _ rfl) 1 _ rfl) 2 _ rfl) 3 _ rfl) 4 _ rfl) Try.underlying106 rfl (by kernel_rfl) (.tmp .nil)))) rfl ?_
      exact ⟨_, _, _, [], _, _, _, _, _, _, _, _, rfl, HR.out, Kd.R_nil _ _ _ _ _, below_set (below_set (below_set (below_set (below_set B0.out L5.out) L5.out) L5.out) L5.out) L5.out⟩
    · have c2b : (x3 == 0) = false := by simp [c2]
      by_cases c3 : x3 > (n : Int)
      · have c3b : decide (x3 > (n : Int)) = true := decide_eq_true c3
        have c3c : (n : Int) < x3 := c3
        have c3d : decide ((n : Int) < x3) = true := decide_eq_true c3
        have HR := Aside0.mk (show RecIs (rec1 cs ep) [] 0 0 false from .inl ⟨by unfold rec1; rw [if_neg HCL.out, if_neg (by rw [← HX.out]; exact c2), if_pos (by rw [← HX.out, ← HN.out]; exact c3)], rfl⟩)
        clear c2 c3
        go_wp2
        refine bodyPost_ret (results_list (rs := [.tmp 4, .cell 5 106, .tmp 6]) rfl (by simp) (.tmp (.cell g5 106 #[.int .u64 0, .int .u64 0, .int .i64 0, .int .i64 0, .slice none 0 0] (0, 0) _ rfl (by exact blk_put (cs := #[.int .u64 0, .int .u64 0, .int .i64 0, .int .i64 0, .slice none 0 0]) (blk_put (cs := #[.int .u64 0, .int .u64 0, .int .i64 0, .int .i64 0, .slice none 0 0]) (blk_put (cs := #[.int .u64 0, .int .u64 0, .int .i64 0, .int .i64 0, .slice none 0 0]) (blk_put (cs := #[.int .u64 0, .int .u64 0, .int .i64 0, .int .i64 0, .slice none 0 0]) (blk_put (cs := #[.int .u64 0, .int .u64 0, .int .i64 0, .int .i64 0, .slice none 0 0]) K5.out 0 _ rfl) 1 _ rfl) 2 _ rfl) 3 _ rfl) 4 _ rfl) Try.underlying106 rfl (by kernel_rfl) (.tmp .nil)))) rfl ?_
        exact ⟨_, _, _, [], _, _, _, _, _, _, _, _, rfl, HR.out, Kd.R_nil _ _ _ _ _, below_set (below_set (below_set (below_set (below_set B0.out L5.out) L5.out) L5.out) L5.out) L5.out⟩
      · have c3b : decide (x3 > (n : Int)) = false := decide_eq_false c3
        have c3d : decide ((n : Int) < x3) = false := decide_eq_false c3
        by_cases c4 : x0 = ep
        · have c4b : (x0 != ep) = false := by simp [c4]
          obtain ⟨k, rfl⟩ : ∃ k : Nat, x3 = (k : Int) := ⟨x3.toNat, by have := XO.out.f3; dsimp only at this; omega⟩
          have k0 : 0 < k := by omega
          have kn : k ≤ n := by omega
          have kc : k ≤ c := by have := HCC.out; omega
          have kn1 : (k : Int) ≤ (n : Int) := by omega
          have kc1 : (k : Int) ≤ (c : Int) := by omega
          obtain ⟨b, ok, hj, hrec⟩ : ∃ b ok, Ev (fun j => cell_Join.f j (cs.take k)) (b, ok) ∧ RecIs (rec1 cs ep) b x1 (k : Int) ok := by
            have hne : cs.take k ≠ [] := by
              intro e
              have h1 : (cs.take k).length = 0 := by rw [e]; rfl
              rw [List.length_take] at h1
              have h2 := HN.out
              omega
            have hj := CellLaws.join_ev (l := cs.take k) (by rw [List.length_take]; have := HL.out; omega) (fun j hj => by
              have := (HO.out _ (List.mem_of_mem_take (List.getElem_mem hj))).f4
              omega)
            unfold rec1
            rw [if_neg HCL.out, if_neg (by rw [← HX.out]; exact c2), if_neg (by rw [← HX.out, ← HN.out]; exact c3), if_neg (by rw [← HX.out]; simpa using c4), ← HX.out]
            dsimp only
            rw [Int.toNat_natCast]
            by_cases c5 : CellLaws.Row (cs.take k)
            · rw [if_pos c5]
              rw [if_pos ⟨c5, hne⟩] at hj
              exact ⟨_, _, hj, .inr ⟨k, rfl, rfl, rfl, k0⟩⟩
            · rw [if_neg c5]
              rw [if_neg (fun h => c5 h.1)] at hj
              exact ⟨_, _, hj, .inl ⟨rfl, rfl⟩⟩
          obtain ⟨j, hj⟩ := Ev.rounds hj
          have EJ := Aside0.mk hj
          have HR := Aside0.mk hrec
          have KT := Aside0.mk (show k = (cs.take k).length by rw [List.length_take, ← HN.out]; omega)
          have CT := Aside0.mk (show Kd.C k106 w (some ad) (cs.take k).length (cs.take k) from Kd.C_take (by rw [← HN.out]; exact HC.out) (by rw [← HN.out]; exact kn))
          clear c2 c3 c4 hj hrec
          go_upto_region 4 with (go_at_call 80; refine (join_at KT.out kc (Kd.C_below CT.out B0.out) EJ.out).mono ?_; rintro e w2 ⟨A2, m2, c2', rfl, hR, hb⟩; have R2 := Aside0.mk hR; have B2 := Aside0.mk (below_step B0.out hb); have D5 := Aside0.mk (blk_below K5.out hb); clear hR hb)
          have BX := Aside0.mk (below_step B2.out (below_drew (Below.refl _ w2)))
          have DX := Aside0.mk (blk_below D5.out (below_drew (Below.refl _ w2)))
          have RX := Aside0.mk (Kd.R_below R2.out (below_drew (Below.refl _ w2)))
          refine start_ (n := 8) (S := fun w' => w'.cell? ad = some (.int .u64 x0) ∧ w'.cell? ⟨ad.block, ad.off + 1, none⟩ = some (.int .u64 x1) ∧ w'.cell? ⟨ad.block, ad.off + 2, none⟩ = some (.int .i64 x2) ∧ w'.cell? ⟨ad.block, ad.off + 3, none⟩ = some (.int .i64 (k : Int)) ∧ w'.cell? ⟨ad.block, ad.off + 4, none⟩ = some (.slice A4 m4 c4)) (ds := [6]) #[false, false, false, false, false, false, false, false] (by kernel_rfl) rfl rfl ⟨(pw_cell_below (below_step B2.out (below_drew (Below.refl _ _))) Y.out.1), (pw_cell_below (below_step B2.out (below_drew (Below.refl _ _))) Y.out.2.1), (pw_cell_below (below_step B2.out (below_drew (Below.refl _ _))) Y.out.2.2.1), (pw_cell_below (below_step B2.out (below_drew (Below.refl _ _))) Y.out.2.2.2.1), (pw_cell_below (below_step B2.out (below_drew (Below.refl _ _))) Y.out.2.2.2.2)⟩ (fun hHeld => ?_)
          generalize w2.drew = W1 at hHeld BX DX RX ⊢
          have fz := fun i => blk_frozen DX.out i
          have z0 := (blk_cell DX.out 0).trans (rfl : (#[.int .u64 0, .int .u64 0, .int .i64 0, .int .i64 0, .slice none 0 0] : Array Value)[0]? = some (.int .u64 0))
          have z1 := (blk_cell DX.out 1).trans (rfl : (#[.int .u64 0, .int .u64 0, .int .i64 0, .int .i64 0, .slice none 0 0] : Array Value)[1]? = some (.int .u64 0))
          have z2 := (blk_cell DX.out 2).trans (rfl : (#[.int .u64 0, .int .u64 0, .int .i64 0, .int .i64 0, .slice none 0 0] : Array Value)[2]? = some (.int .i64 0))
          have z3 := (blk_cell DX.out 3).trans (rfl : (#[.int .u64 0, .int .u64 0, .int .i64 0, .int .i64 0, .slice none 0 0] : Array Value)[3]? = some (.int .i64 0))
          have z4 := (blk_cell DX.out 4).trans (rfl : (#[.int .u64 0, .int .u64 0, .int .i64 0, .int .i64 0, .slice none 0 0] : Array Value)[4]? = some (.slice none 0 0))
          refine pure_ (i := 0) (N := some 47) (v := ?_) (a' := ?_) #[true, false, false, false, false, false, false, false] rfl rfl (by kernel_rfl) (fun _ _ _ h => h) (Or.inl ⟨by rfl, ?_⟩) ?_ ?_
          rotate_left
          · intro w'
            go_simp
            with_reducible rfl
          rotate_left
          · simp only [Act.put, List.setIfInBounds_toArray, List.set_cons_zero, List.set_cons_succ, i64_w, i32_w]
            rfl
          refine pure_ (i := 1) (N := some 48) (v := ?_) (a' := ?_) #[true, true, false, false, false, false, false, false] rfl rfl (by kernel_rfl) (fun _ _ _ h => h) (Or.inl ⟨by rfl, ?_⟩) ?_ ?_
          rotate_left
          · intro w'
            go_simp
            with_reducible rfl
          rotate_left
          · simp only [Act.put, List.setIfInBounds_toArray, List.set_cons_zero, List.set_cons_succ, i64_w, i32_w]
            rfl
          refine pure_ (i := 2) (N := some 49) (v := ?_) (a' := ?_) #[true, true, true, false, false, false, false, false] rfl rfl (by kernel_rfl) (fun _ _ _ h => h) (Or.inl ⟨by rfl, ?_⟩) ?_ ?_
          rotate_left
          · intro w'
            go_simp
            with_reducible rfl
          rotate_left
          · simp only [Act.put, List.setIfInBounds_toArray, List.set_cons_zero, List.set_cons_succ, i64_w, i32_w]
            rfl
          refine pure_ (i := 4) (N := some 51) (v := ?_) (a' := ?_) #[true, true, true, false, true, false, false, false] rfl rfl (by kernel_rfl) (fun _ _ _ h => h) (Or.inl ⟨by rfl, ?_⟩) ?_ ?_
          rotate_left
          · intro w'
            go_simp
            with_reducible rfl
          rotate_left
          · simp only [Act.put, List.setIfInBounds_toArray, List.set_cons_zero, List.set_cons_succ, i64_w, i32_w]
            rfl
          refine pure_ (i := 5) (N := some 4) (v := ?_) (a' := ?_) #[true, true, true, false, true, true, false, false] rfl rfl (by kernel_rfl) (fun _ _ _ h => h) (Or.inl ⟨by rfl, ?_⟩) ?_ ?_
          rotate_left
          · intro w'
            go_simp
            with_reducible rfl
          rotate_left
          · simp only [Act.put, List.setIfInBounds_toArray, List.set_cons_zero, List.set_cons_succ, i64_w, i32_w]
            rfl
          refine take_ (i := 3) (N := some 50) (v := ?_) (a' := ?_) #[true, true, true, true, true, true, false, false] rfl rfl (by kernel_rfl) (fun _ _ _ h => h) (Or.inl ⟨by rfl, ?_⟩) hHeld ?_ ?_
          rotate_left
          · rintro w' ⟨s0, s1, s2, s3, s4⟩
            go_simp
            with_reducible rfl
          rotate_left
          · simp only [Act.put, List.setIfInBounds_toArray, List.set_cons_zero, List.set_cons_succ, i64_w, i32_w]
            rfl
          refine last_ (i := 6) (N := none) #[true, true, true, true, true, true, true, false] rfl rfl (by kernel_rfl) (by decide) (fun K hK => ?_)
          refine skip_ (w1 := ?_) (by rfl) rfl ?_ ?_
          rotate_left
          · go_simp
            rfl
          refine hK.out _ _ ?_
          clear hK K
          refine pure_ (i := 7) (N := some 6) (v := ?_) (a' := ?_) #[true, true, true, true, true, true, true, true] rfl rfl (by kernel_rfl) (fun _ _ _ h => h) (Or.inl ⟨by rfl, ?_⟩) ?_ ?_
          rotate_left
          · intro w'
            go_simp
            with_reducible rfl
          rotate_left
          · simp only [Act.put, List.setIfInBounds_toArray, List.set_cons_zero, List.set_cons_succ, i64_w, i32_w]
            rfl
          refine done_ (by kernel_rfl) ?_
          go_wp2
          have hD := DX.out
          refine bodyPost_ret (results_list (rs := [.tmp 4, .cell 5 106, .tmp 6]) rfl (by simp) (.tmp (.cell g5 106 #[.int .u64 x0, .int .u64 x1, .int .i64 x2, .int .i64 (k : Int), .slice A4 m4 c4] (0, 0) _ rfl (by exact blk_put (blk_put (blk_put (blk_put (blk_put (cs := #[.int .u64 0, .int .u64 0, .int .i64 0, .int .i64 0, .slice none 0 0]) hD 0 (.int .u64 x0) rfl) 1 (.int .u64 x1) rfl) 2 (.int .i64 x2) rfl) 3 (.int .i64 (k : Int)) rfl) 4 (.slice A4 m4 c4) rfl) Try.underlying106 rfl (by kernel_rfl) (.tmp .nil)))) rfl ?_
          have hb5 : ∀ v, Below w.heap.size w _ := fun v => below_set (j := 4) (v := v) (below_set (j := 3) (v := .int .i64 (k : Int)) (below_set (j := 2) (v := .int .i64 x2) (below_set (j := 1) (v := .int .u64 x1) (below_set (j := 0) (v := .int .u64 x0) BX.out L5.out) L5.out) L5.out) L5.out) L5.out
          refine ⟨_, _, _, b, _, _, _, _, _, _, _, ok, rfl, HR.out, ?_, hb5 _⟩
          have far : ∀ q, q ≠ g5 → (((((W1.setCell ⟨g5, 0, none⟩ (.int .u64 x0)).setCell ⟨g5, 1, none⟩ (.int .u64 x1)).setCell ⟨g5, 2, none⟩ (.int .i64 x2)).setCell ⟨g5, 3, none⟩ (.int .i64 (k : Int))).setCell ⟨g5, 4, none⟩ (.slice A4 m4 c4)).heap[q]? = W1.heap[q]? := fun q hq => (Below.heap_setCell _ ⟨g5, 4, none⟩ _ q hq).trans ((Below.heap_setCell _ ⟨g5, 3, none⟩ _ q hq).trans ((Below.heap_setCell _ ⟨g5, 2, none⟩ _ q hq).trans ((Below.heap_setCell _ ⟨g5, 1, none⟩ _ q hq).trans (Below.heap_setCell _ ⟨g5, 0, none⟩ _ q hq))))
          refine Kd.R_mono (Kd.R_move (Kd.R_tight rfl (Kd.R_lower RX.out B0.out.size)) (fun q hq => far q (fun e => ?_))) (fun _ _ => trivial)
          obtain ⟨cc, hcc⟩ := Kd.R_typed RX.out q hq.symm
          rw [e] at hcc
          exact absurd rfl (blk_ne hcc DX.out (by decide))
        · have c4b : (x0 != ep) = true := by simp [c4]
          have HR := Aside0.mk (show RecIs (rec1 cs ep) [] 0 0 false from .inl ⟨by unfold rec1; rw [if_neg HCL.out, if_neg (by rw [← HX.out]; exact c2), if_neg (by rw [← HX.out, ← HN.out]; exact c3), if_pos (by rw [← HX.out]; exact c4)], rfl⟩)
          clear c2 c3 c4
          go_wp2
          refine bodyPost_ret (results_list (rs := [.tmp 4, .cell 5 106, .tmp 6]) rfl (by simp) (.tmp (.cell g5 106 #[.int .u64 0, .int .u64 0, .int .i64 0, .int .i64 0, .slice none 0 0] (0, 0) _ rfl (by exact blk_put (cs := #[.int .u64 0, .int .u64 0, .int .i64 0, .int .i64 0, .slice none 0 0]) (blk_put (cs := #[.int .u64 0, .int .u64 0, .int .i64 0, .int .i64 0, .slice none 0 0]) (blk_put (cs := #[.int .u64 0, .int .u64 0, .int .i64 0, .int .i64 0, .slice none 0 0]) (blk_put (cs := #[.int .u64 0, .int .u64 0, .int .i64 0, .int .i64 0, .slice none 0 0]) (blk_put (cs := #[.int .u64 0, .int .u64 0, .int .i64 0, .int .i64 0, .slice none 0 0]) K5.out 0 _ rfl) 1 _ rfl) 2 _ rfl) 3 _ rfl) 4 _ rfl) Try.underlying106 rfl (by kernel_rfl) (.tmp .nil)))) rfl ?_
          exact ⟨_, _, _, [], _, _, _, _, _, _, _, _, rfl, HR.out, Kd.R_nil _ _ _ _ _, below_set (below_set (below_set (below_set (below_set B0.out L5.out) L5.out) L5.out) L5.out) L5.out⟩
/- Opening: what may not be; what is off. -/
theorem L_OpenArg {w0 w : World} {q : Nat} {s : Dk} {O : Nat → Prop} (h : JO w0 w q s O) (hnb : s.nb ≤ 4096) (fi si ep : Int) (hi : -9223372036854775808 ≤ fi ∧ fi ≤ 9223372036854775807) (hs : -9223372036854775808 ≤ si ∧ si ≤ 9223372036854775807) (hx : fi < 0 ∨ si < 1 ∨ si > (s.nb : Int) ∨ fi > (s.nb : Int) - si) :
    Calls Try.prog 35 #[.pointer (some ⟨q, 0, none⟩), .int .i64 fi, .int .i64 si, .int .u64 ep] w fun e w' => e = .returned (.tuple #[.pointer none, .int .i64 1]) ∧ Below w.heap.size w w' := by
  have H := Aside0.mk h
  clear h
  obtain ⟨nb, hnb'⟩ : ∃ nb, nb = s.nb := ⟨_, rfl⟩
  rw [← hnb'] at hx hnb
  have HB := Aside0.mk hnb'
  clear hnb'
  have BL := Aside0.mk (fun (e : Ending) (w' : World) (he : e = .returned (.int .i64 (s.nb : Int)) ∧ Below w.heap.size w w') => (by rw [← HB.out] at he; exact he : e = .returned (.int .i64 (nb : Int)) ∧ Below w.heap.size w w'))
  by_cases c1 : fi < 0
  · have c1b : decide (fi < 0) = true := decide_eq_true c1
    clear hx
    go_enter Try.func35, Try.ntmps35
    go_wp2_with (go_at_call 17; refine ((JO_Blocks H.out).mono BL.out).mono ?_; rintro e w1 ⟨rfl, hb⟩; have B1 := Aside0.mk hb; clear hb)
    go_ret2
    exact ⟨rfl, B1.out⟩
  have c1b : decide (fi < 0) = false := decide_eq_false c1
  by_cases c2 : si < 1
  · have c2b : decide (si < 1) = true := decide_eq_true c2
    clear hx
    go_enter Try.func35, Try.ntmps35
    go_wp2_with (go_at_call 17; refine ((JO_Blocks H.out).mono BL.out).mono ?_; rintro e w1 ⟨rfl, hb⟩; have B1 := Aside0.mk hb; clear hb)
    go_ret2
    exact ⟨rfl, B1.out⟩
  have c2b : decide (si < 1) = false := decide_eq_false c2
  by_cases c3 : si > (nb : Int)
  · have c3b : decide (si > (nb : Int)) = true := decide_eq_true c3
    have c3c : decide ((nb : Int) < si) = true := decide_eq_true c3
    clear hx
    go_enter Try.func35, Try.ntmps35
    go_wp2_with (go_at_call 17; refine ((JO_Blocks H.out).mono BL.out).mono ?_; rintro e w1 ⟨rfl, hb⟩; have B1 := Aside0.mk hb; clear hb)
    go_ret2
    exact ⟨rfl, B1.out⟩
  have c3b : decide (si > (nb : Int)) = false := decide_eq_false c3
  have c3c : decide ((nb : Int) < si) = false := decide_eq_false c3
  have c4 : fi > (nb : Int) - si := by omega
  have wq : wrap64 ((nb : Int) - si) = (nb : Int) - si := by unfold wrap64; omega
  have c4b : decide (fi > (nb : Int) - si) = true := decide_eq_true c4
  have c4c : decide ((nb : Int) - si < fi) = true := decide_eq_true c4
  clear hx
  go_enter Try.func35, Try.ntmps35
  go_wp2_with (go_at_call 17; refine ((JO_Blocks H.out).mono BL.out).mono ?_; rintro e w1 ⟨rfl, hb⟩; have B1 := Aside0.mk hb; clear hb)
  go_ret2
  exact ⟨rfl, B1.out⟩
theorem rec1_le {cs : List S106} {ep : Int} {b : List Int} {li : Int} {n : Nat} (h : rec1 cs ep = some (b, li, n)) : n ≤ cs.length := by
  unfold rec1 at h
  split at h
  · cases h
  split at h
  · cases h
  split at h
  · cases h
  split at h
  · cases h
  split at h
  · rename_i c3 _ _
    injection h with h
    injection h with h1 h
    injection h with h2 h
    omega
  · cases h
theorem from106 (A : Option Addr) (n c en : Nat) (h : en ≤ n) (W : World) : (Instr.slice 62 (.slice A n c) (some (.int .i64 (en : Int))) none none).run Try.prog W = .ok (.slice (if c = en then A else A.map (·.add (en * 5))) (n - en) (c - en)) W := by
  obtain ⟨i, hi, he⟩ := Option.map_eq_some_iff.1 info106
  have h5 : i.size = 5 := congrArg (fun x => x.2.1) he
  have := cut_from (P := Try.prog) 62 106 .i64 Try.underlying62 hi 5 h5 A n c (en : Int) (by omega) (by omega) W
  rwa [Int.toNat_natCast] at this
def enOf (w : World) (p : Nat) : Nat := match w.cell? ⟨p, 5, none⟩ with | some v => (intOf v).toNat | none => 0
/- A log's cells while it is opened. -/
def opc (q fi si : Nat) (ep m : Int) (en : Nat) (v : Value) : Array Value := #[.pointer (some ⟨q, 0, none⟩), .int .i64 (fi : Int), .int .i64 (si : Int), .int .u64 ep, .int .u64 m, .int .i64 (en : Int), v, .bool false]
theorem lmax_succ (cs : List S106) {j : Nat} (hj : j < cs.length) : lmax (cs.take (j + 1)) = (if lmax (cs.take j) < cs[j].f1 then cs[j].f1 else lmax (cs.take j)) := by
  unfold lmax
  rw [List.take_succ_eq_append_getElem hj, List.foldl_append]
  rfl
theorem lmax_range {cs : List S106} (h : ∀ c ∈ cs, CellOk c) : 0 ≤ lmax cs ∧ lmax cs < 18446744073709551616 := by
  have : ∀ (l : List S106) (a : Int), (∀ c ∈ l, CellOk c) → 0 ≤ a → a < 18446744073709551616 → 0 ≤ l.foldl (fun m (c : S106) => if m < c.f1 then c.f1 else m) a ∧ l.foldl (fun m (c : S106) => if m < c.f1 then c.f1 else m) a < 18446744073709551616 := by
    intro l
    induction l with
    | nil => intro a _ h0 h1; exact ⟨h0, h1⟩
    | cons x l ih =>
      intro a hl h0 h1
      have hx := (hl x List.mem_cons_self).f1
      refine ih _ (fun c hc => hl c (List.mem_cons_of_mem _ hc)) ?_ ?_ <;> (dsimp only; split <;> omega)
  exact this cs 0 h (by decide) (by decide)
theorem rd106_at {cs : List S106} {j : Nat} (hj : j < cs.length) : rd_T106 cs (j : Int) = cs[j] := by
  unfold rd_T106
  rw [Int.toNat_natCast, List.getD_eq_getElem?_getD, List.getElem?_eq_getElem hj]; rfl
theorem cells_at {w : World} {OK : Nat → Prop} {A : Option Addr} {m c : Nat} {rows : List (List Int)} {cs : List S106} {k : Nat} (hm : m = rows.length) (hV : Kd.V kL 27 w 0 OK (.slice A m c) rows) (h : wal_cells.f k rows = some cs) :
    Calls Try.prog 67 #[.slice A m c] w fun e w' => ∃ (A' : Option Addr) (m' c' : Nat), e = .returned (.slice A' m' c') ∧ m' = cs.length ∧ Kd.V k106 106 w' 0 (fun k => w.heap.size ≤ k ∧ k < w'.heap.size) (.slice A' m' c') cs ∧ Below w.heap.size w w' := by
  subst hm
  obtain ⟨_, h2, h3⟩ := Kd.V_reads' hV
  refine (wal_cells.calls k A c rows cs w h3 h2 h).mono ?_
  rintro e w' ⟨v, rfl, hS, hb⟩
  obtain ⟨A', c', rfl⟩ := Kd.S_slice hS
  exact ⟨A', _, c', rfl, rfl, Kd.V_mono (Kd.R_V (Kd.R_bound (Kd.S_R hS))) (fun k hk => ⟨hk.2.1, hk.2.2.1⟩), hb⟩
set_option maxRecDepth 20000 in
set_option maxHeartbeats 40000000 in
theorem L_Open0 {w0 w : World} {q : Nat} {s : Dk} {O : Nat → Prop} (h : JO w0 w q s O) (X : Nat → Prop) (hX : ∀ k, X k → O k) (hby : CrcK.Bytes s.now) (ho : s.of = false) (fi si : Nat) (ep : Int) (h1 : 1 ≤ si) (h200 : si ≤ 200) (hf : fi + si ≤ s.nb) (cs : List S106) (hcs : cs = (secL s.now (fi * 4) (si * 4)).map decZ) (Q : Ending → World → Prop)
    (hbad : lmax cs = 18446744073709551615 → ∀ w', Below w.heap.size w w' → Q (.returned (.tuple #[.pointer none, .int .i64 8])) w')
    (hok : lmax cs < 18446744073709551615 → ∀ p w' l, l = (⟨fi, si, ep, lmax cs + 1, (prs ep (cs.length + 1) cs 0).2, (prs ep (cs.length + 1) cs 0).1, false, X⟩ : Wl) → LG w0 p q l s (fun k => O k ∨ (w.heap.size ≤ k ∧ k < w'.heap.size)) w' → w.heap.size ≤ p → Below w.heap.size w w' → Q (.returned (.tuple #[.pointer (some ⟨p, 0, none⟩), .int .i64 0])) w') :
    Calls Try.prog 35 #[.pointer (some ⟨q, 0, none⟩), .int .i64 (fi : Int), .int .i64 (si : Int), .int .u64 ep] w Q := by
  have H := Aside0.mk h
  have OKD := Aside0.mk (J_ok (JO_J h))
  have HO := Aside0.mk ho
  have HF := Aside0.mk hf
  have RB := Aside0.mk (show ∀ b ∈ secL s.now (fi * 4) (si * 4), CrcK.Bytes b from fun b hb => by
    unfold secL at hb
    obtain ⟨i, _, rfl⟩ := List.mem_map.1 hb
    exact CellLaws.by_take (CellLaws.by_drop hby _) _)
  have CL := Aside0.mk (show cs.length = si * 4 by rw [hcs, List.length_map, secL_len])
  have CO := Aside0.mk (show ∀ c ∈ cs, CellOk c from fun c hc => by
    rw [hcs] at hc
    obtain ⟨b, hb, rfl⟩ := List.mem_map.1 hc
    exact decZ_ok (RB.out b hb))
  have EV := Aside0.mk (show ∃ k, wal_cells.f k (secL s.now (fi * 4) (si * 4)) = some cs by rw [hcs]; exact (cells_ev _ RB.out (by rw [secL_len]; have := OKD.out.nb1; omega)).rounds)
  have HBAD := Aside0.mk hbad
  have HOK := Aside0.mk hok
  have HX0 := Aside0.mk hX
  obtain ⟨k0, hk0⟩ := EV.out
  have EV := Aside0.mk hk0
  obtain ⟨nb, hnb'⟩ : ∃ nb, nb = s.nb := ⟨_, rfl⟩
  have nb1 : nb ≤ 4096 := by rw [hnb']; exact OKD.out.nb1
  rw [← hnb'] at hf
  have HB := Aside0.mk hnb'
  have BL := Aside0.mk (fun (e : Ending) (w' : World) (he : e = .returned (.int .i64 (s.nb : Int)) ∧ Below w.heap.size w w') => (by rw [← HB.out] at he; exact he : e = .returned (.int .i64 (nb : Int)) ∧ Below w.heap.size w w'))
  have c1b : decide ((fi : Int) < 0) = false := decide_eq_false (by omega)
  have c2b : decide ((si : Int) < 1) = false := decide_eq_false (by omega)
  have c3b : decide ((si : Int) > (nb : Int)) = false := decide_eq_false (by omega)
  have c3c : decide ((nb : Int) < (si : Int)) = false := decide_eq_false (by omega)
  have c3d : decide (nb < si) = false := decide_eq_false (by omega)
  have wq : wrap64 ((nb : Int) - (si : Int)) = (nb : Int) - (si : Int) := by unfold wrap64; omega
  have c4b : decide ((fi : Int) > (nb : Int) - (si : Int)) = false := decide_eq_false (by omega)
  have c4c : decide ((nb : Int) - (si : Int) < (fi : Int)) = false := decide_eq_false (by omega)
  clear h ho hby hcs hbad hok hk0 hnb' hX
  go_enter Try.func35, Try.ntmps35
  go_upto_region 7 with (first | (go_at_call 17; refine ((JO_Blocks H.out).mono BL.out).mono ?_; rintro e w1 ⟨rfl, hb⟩; have B1 := Aside0.mk hb; clear hb) | (go_at_call 66; refine (L_read (JO_step H.out B1.out) HO.out fi si HF.out OKD.out.nb1 OKD.out.now).mono ?_; rintro e w2 ⟨AR, mR, cR, rfl, hm, hV, hb⟩; have MR := Aside0.mk hm; have VR := Aside0.mk hV; have B2 := Aside0.mk (below_step B1.out hb); clear hm hV hb))
  go_upto_region 8 with (fail)
  obtain ⟨p, hp⟩ : ∃ p, p = w2.heap.size := ⟨_, rfl⟩
  obtain ⟨W3, hW3⟩ : ∃ W3, W3 = w2.alloc (.cells (opc q fi si ep 0 0 (.slice none 0 0)) 115) := ⟨_, rfl⟩
  have P3 := Aside0.mk (show W3.heap[p]? = some (.cells (opc q fi si ep 0 0 (.slice none 0 0)) 115 (0, 0)) by rw [hW3, hp]; exact blk_new _ _)
  have B3 := Aside0.mk (show Below w.heap.size w W3 by rw [hW3]; exact below_step B2.out (below_alloc (Below.refl _ _) _))
  have LP := Aside0.mk (show w.heap.size ≤ p by rw [hp]; exact B2.out.size)
  have VR3 := Aside0.mk (show Kd.V kL 27 W3 0 (fun k => w1.heap.size ≤ k) (.slice AR mR cR) (secL s.now (fi * 4) (si * 4)) by rw [hW3]; exact Kd.V_below VR.out (below_alloc (Below.refl _ _) _))
  have MR2 := Aside0.mk (show mR = (secL s.now (fi * 4) (si * 4)).length by rw [secL_len]; exact MR.out)
  have eW : w2.alloc (.cells #[.pointer (some ⟨q, 0, none⟩), .int .i64 (fi : Int), .int .i64 (si : Int), .int .u64 ep, .int .u64 0, .int .i64 0, .slice none 0 0, .bool false] 115) = W3 := hW3.symm
  rw [eW, ← hp]
  clear hW3 hp eW VR
  go_upto_block 0 with (go_at_call 67; refine (cells_at MR2.out VR3.out EV.out).mono ?_; rintro e w4 ⟨AC, mC, cC, rfl, hm, hV, hb⟩; have MC := Aside0.mk hm; have VC := Aside0.mk hV; have B4 := Aside0.mk (below_step B3.out hb); have P4 := Aside0.mk (blk_below P3.out hb); have LT := Aside0.mk (show p < W3.heap.size from blk_lt P3.out); have S4 := Aside0.mk hb.size; clear hm hV hb)
  clear VR3 P3 B3 MR MR2
  obtain ⟨z0, hz0⟩ : ∃ z, z = W3.heap.size := ⟨_, rfl⟩
  obtain ⟨z1, hz1⟩ : ∃ z, z = w4.heap.size := ⟨_, rfl⟩
  rw [← hz0, ← hz1] at VC
  rw [← hz0] at LT
  have Z1 := Aside0.mk (show z1 ≤ w4.heap.size from Nat.le_of_eq hz1)
  have Z01 := Aside0.mk (show z0 ≤ z1 by rw [hz0, hz1]; exact S4.out)
  clear hz0 hz1 S4
  have mcb : mC ≤ 16384 := by have h1 := MC.out; have h2 := CL.out; omega
  go_wp2
  go_loopw [16, 61] (fun v16 v61 wr => ∃ (j : Nat) (m : Int), v61 = .int .i64 (j : Int) ∧ j ≤ mC ∧ Aside0 (m = lmax (cs.take j)) ∧ Aside0 (wr.heap[p]? = some (.cells (opc q fi si ep m 0 (.slice none 0 0)) 115 (0, 0))) ∧ Aside0 (Kd.V k106 106 wr 0 (fun k => z0 ≤ k ∧ k < z1) (.slice AC mC cC) cs) ∧ Aside0 (Below w.heap.size w wr) ∧ Aside0 (z1 ≤ wr.heap.size)) (fun v16 v61 _ => mC - (intOf v61).toNat)
  case atStart => exact ⟨0, 0, rfl, Nat.zero_le _, ⟨rfl⟩, P4, VC, B4, Z1⟩
  case round =>
    clear P4 VC B4 Z1
    obtain ⟨j, m, rfl, hj, HMX, PJ, VJ, BJ, ZJ⟩ := hrel
    by_cases d : j < mC
    · have d1 : (j : Int) < (mC : Int) := by omega
      have db : decide (j < mC) = true := decide_eq_true d
      have DD := Aside0.mk d
      have JL := Aside0.mk (show j < cs.length by rw [← MC.out]; exact d)
      obtain ⟨ad, A4, c4, eA, y0, y1, y2, y3, y4, l4, C4⟩ := at_T106 (show Kd.C k106 wr AC mC cs from by rw [MC.out]; exact (Kd.V_reads' VJ.out).2.2) (j : Int) (by omega) d1
      subst eA
      rw [rd106_at JL.out, Int.toNat_natCast] at y0 y1 y2 y3 y4
      obtain ⟨x, hx⟩ : ∃ x, x = cs[j]'JL.out := ⟨_, rfl⟩
      have MS := Aside0.mk (lmax_succ cs JL.out)
      have XO := Aside0.mk (show CellOk x by rw [hx]; exact CO.out _ (List.getElem_mem _))
      rw [← hx] at y0 y1 y2 y3 y4 MS
      rw [← HMX.out] at MS
      obtain ⟨x0, x1, x2, x3, x4⟩ := x
      dsimp only at y0 y1 y2 y3 y4 MS
      obtain ⟨m4, hm4⟩ : ∃ m4, m4 = x4.length := ⟨_, rfl⟩
      rw [← hm4] at y4
      have ZL := Aside0.mk (show p < z1 from Nat.lt_of_lt_of_le LT.out Z01.out)
      clear hx l4 C4 hm4 d
      go_upto_region 12 with (fail)
      obtain ⟨g, hg⟩ : ∃ g, g = wr.heap.size := ⟨_, rfl⟩
      obtain ⟨W1, hW1⟩ : ∃ W1, W1 = wr.alloc (.cells #[.int .u64 x0, .int .u64 x1, .int .i64 x2, .int .i64 x3, .slice A4 m4 c4] 106) := ⟨_, rfl⟩
      have hb1 := below_alloc (Below.refl wr.heap.size wr) (.cells #[.int .u64 x0, .int .u64 x1, .int .i64 x2, .int .i64 x3, .slice A4 m4 c4] 106)
      have GX := Aside0.mk (show W1.drew.heap[g]? = some (.cells #[.int .u64 x0, .int .u64 x1, .int .i64 x2, .int .i64 x3, .slice A4 m4 c4] 106 (0, 0)) by rw [hW1, hg]; exact blk_new _ _)
      have PX := Aside0.mk (show W1.drew.heap[p]? = some (.cells (opc q fi si ep m 0 (.slice none 0 0)) 115 (0, 0)) by rw [hW1]; exact blk_below PJ.out (below_step hb1 (below_drew (Below.refl _ _))))
      have BX := Aside0.mk (show Below w.heap.size w W1.drew by rw [hW1]; exact below_step BJ.out (below_step hb1 (below_drew (Below.refl _ _))))
      have VX := Aside0.mk (show Kd.V k106 106 W1.drew 0 (fun k => z0 ≤ k ∧ k < z1) (.slice (some ad) mC cC) cs by rw [hW1]; exact Kd.V_below VJ.out (below_step hb1 (below_drew (Below.refl _ _))))
      have ZX := Aside0.mk (show z1 ≤ W1.drew.heap.size by rw [hW1]; exact Nat.le_trans ZJ.out (below_step hb1 (below_drew (Below.refl _ _))).size)
      rw [← hW1, ← hg]
      clear hW1 hg hb1 y0 y1 y2 y3 y4 PJ BJ VJ ZJ
      by_cases lt : m < x1
      · have lt1 : decide (m < x1) = true := decide_eq_true lt
        have MS := Aside0.mk (show lmax (cs.take (j + 1)) = x1 by have := MS.out; rw [if_pos lt] at this; exact this)
        refine start_ (n := 11) (S := fun w' => w'.cell? ⟨p, 4, none⟩ = some (.int .u64 m) ∧ w'.cell? ⟨g, 1, none⟩ = some (.int .u64 x1)) (ds := [10]) #[false, false, false, false, false, false, false, false, false, false, false] (by kernel_rfl) rfl rfl ⟨((blk_cell PX.out 4).trans rfl), ((blk_cell GX.out 1).trans rfl)⟩ (fun hHeld => ?_)
        generalize W1.drew = W2 at hHeld BX PX GX VX ZX ⊢
        have fz := fun i => blk_frozen PX.out i
        have y4 : W2.cell? ⟨p, 4, none⟩ = some (.int .u64 m) := (blk_cell PX.out 4).trans rfl
        refine pure_ (i := 0) (N := some 65) (v := ?_) (a' := ?_) #[true, false, false, false, false, false, false, false, false, false, false] rfl rfl (by kernel_rfl) (fun _ _ _ h => h) (Or.inl ⟨by rfl, ?_⟩) ?_ ?_
        rotate_left
        · intro w'
          go_simp
          with_reducible rfl
        rotate_left
        · simp only [Act.put, List.setIfInBounds_toArray, List.set_cons_zero, List.set_cons_succ, i64_w, i32_w]
          rfl
        refine pure_ (i := 1) (N := some 66) (v := ?_) (a' := ?_) #[true, true, false, false, false, false, false, false, false, false, false] rfl rfl (by kernel_rfl) (fun _ _ _ h => h) (Or.inl ⟨by rfl, ?_⟩) ?_ ?_
        rotate_left
        · intro w'
          go_simp
          with_reducible rfl
        rotate_left
        · simp only [Act.put, List.setIfInBounds_toArray, List.set_cons_zero, List.set_cons_succ, i64_w, i32_w]
          rfl
        refine pure_ (i := 2) (N := some 67) (v := ?_) (a' := ?_) #[true, true, true, false, false, false, false, false, false, false, false] rfl rfl (by kernel_rfl) (fun _ _ _ h => h) (Or.inl ⟨by rfl, ?_⟩) ?_ ?_
        rotate_left
        · intro w'
          go_simp
          with_reducible rfl
        rotate_left
        · simp only [Act.put, List.setIfInBounds_toArray, List.set_cons_zero, List.set_cons_succ, i64_w, i32_w]
          rfl
        refine pure_ (i := 3) (N := some 68) (v := ?_) (a' := ?_) #[true, true, true, true, false, false, false, false, false, false, false] rfl rfl (by kernel_rfl) (fun _ _ _ h => h) (Or.inl ⟨by rfl, ?_⟩) ?_ ?_
        rotate_left
        · intro w'
          go_simp
          with_reducible rfl
        rotate_left
        · simp only [Act.put, List.setIfInBounds_toArray, List.set_cons_zero, List.set_cons_succ, i64_w, i32_w]
          rfl
        refine pure_ (i := 5) (N := some 70) (v := ?_) (a' := ?_) #[true, true, true, true, false, true, false, false, false, false, false] rfl rfl (by kernel_rfl) (fun _ _ _ h => h) (Or.inl ⟨by rfl, ?_⟩) ?_ ?_
        rotate_left
        · intro w'
          go_simp
          with_reducible rfl
        rotate_left
        · simp only [Act.put, List.setIfInBounds_toArray, List.set_cons_zero, List.set_cons_succ, i64_w, i32_w]
          rfl
        refine take_ (i := 4) (N := some 69) (v := ?_) (a' := ?_) #[true, true, true, true, true, true, false, false, false, false, false] rfl rfl (by kernel_rfl) (fun _ _ _ h => h) (Or.inl ⟨by rfl, ?_⟩) hHeld ?_ ?_
        rotate_left
        · rintro w' ⟨s0, s1⟩
          go_simp
          with_reducible rfl
        rotate_left
        · simp only [Act.put, List.setIfInBounds_toArray, List.set_cons_zero, List.set_cons_succ, i64_w, i32_w]
          rfl
        refine take_ (i := 6) (N := some 71) (v := ?_) (a' := ?_) #[true, true, true, true, true, true, true, false, false, false, false] rfl rfl (by kernel_rfl) (fun _ _ _ h => h) (Or.inl ⟨by rfl, ?_⟩) hHeld ?_ ?_
        rotate_left
        · rintro w' ⟨s0, s1⟩
          go_simp
          with_reducible rfl
        rotate_left
        · simp only [Act.put, List.setIfInBounds_toArray, List.set_cons_zero, List.set_cons_succ, i64_w, i32_w]
          rfl
        refine pure_ (i := 7) (N := some 72) (v := ?_) (a' := ?_) #[true, true, true, true, true, true, true, true, false, false, false] rfl rfl (by kernel_rfl) (fun _ _ _ h => h) (Or.inl ⟨by rfl, ?_⟩) ?_ ?_
        rotate_left
        · intro w'
          go_simp
          with_reducible rfl
        rotate_left
        · simp only [Act.put, List.setIfInBounds_toArray, List.set_cons_zero, List.set_cons_succ, i64_w, i32_w]
          rfl
        refine pure_ (i := 8) (N := some 73) (v := ?_) (a' := ?_) #[true, true, true, true, true, true, true, true, true, false, false] rfl rfl (by kernel_rfl) (fun _ _ _ h => h) (Or.inl ⟨by rfl, ?_⟩) ?_ ?_
        rotate_left
        · intro w'
          go_simp
          with_reducible rfl
        rotate_left
        · simp only [Act.put, List.setIfInBounds_toArray, List.set_cons_zero, List.set_cons_succ, i64_w, i32_w]
          rfl
        refine pure_ (i := 9) (N := some 74) (v := ?_) (a' := ?_) #[true, true, true, true, true, true, true, true, true, true, false] rfl rfl (by kernel_rfl) (fun _ _ _ h => h) (Or.inl ⟨by rfl, ?_⟩) ?_ ?_
        rotate_left
        · intro w'
          go_simp
          with_reducible rfl
        rotate_left
        · simp only [Act.put, List.setIfInBounds_toArray, List.set_cons_zero, List.set_cons_succ, i64_w, i32_w]
          rfl
        refine last_ (i := 10) (N := none) #[true, true, true, true, true, true, true, true, true, true, true] rfl rfl (by kernel_rfl) (by decide) (fun K hK => ?_)
        refine skip_ (w1 := ?_) (by rfl) rfl ?_ ?_
        rotate_left
        · go_simp
          rfl
        refine hK.out _ _ ?_
        clear hK K
        refine done_ (by kernel_rfl) ?_
        go_wp2
        go_roundw
        case rel => exact ⟨j + 1, x1, by go_num, DD.out, ⟨MS.out.symm⟩, ⟨blk_put PX.out 4 _ rfl⟩, ⟨Kd.V_step VX.out (fun k hk _ => Below.heap_setCell W2 ⟨p, 4, none⟩ _ k (Nat.ne_of_gt (Nat.lt_of_lt_of_le LT.out hk.1)))⟩, ⟨below_set BX.out LP.out⟩, ⟨by have := ZX.out; simpa using this⟩⟩
        case measure => have := DD.out; simp [intOf]; omega
      · have lt1 : decide (m < x1) = false := decide_eq_false lt
        have MS := Aside0.mk (show lmax (cs.take (j + 1)) = m by have := MS.out; rw [if_neg lt] at this; exact this)
        refine start_ (n := 11) (S := fun w' => w'.cell? ⟨p, 4, none⟩ = some (.int .u64 m) ∧ w'.cell? ⟨g, 1, none⟩ = some (.int .u64 x1)) (ds := [10]) #[false, false, false, false, false, false, false, false, false, false, false] (by kernel_rfl) rfl rfl ⟨((blk_cell PX.out 4).trans rfl), ((blk_cell GX.out 1).trans rfl)⟩ (fun hHeld => ?_)
        generalize W1.drew = W2 at hHeld BX PX GX VX ZX ⊢
        have fz := fun i => blk_frozen PX.out i
        have y4 : W2.cell? ⟨p, 4, none⟩ = some (.int .u64 m) := (blk_cell PX.out 4).trans rfl
        refine pure_ (i := 0) (N := some 65) (v := ?_) (a' := ?_) #[true, false, false, false, false, false, false, false, false, false, false] rfl rfl (by kernel_rfl) (fun _ _ _ h => h) (Or.inl ⟨by rfl, ?_⟩) ?_ ?_
        rotate_left
        · intro w'
          go_simp
          with_reducible rfl
        rotate_left
        · simp only [Act.put, List.setIfInBounds_toArray, List.set_cons_zero, List.set_cons_succ, i64_w, i32_w]
          rfl
        refine pure_ (i := 1) (N := some 66) (v := ?_) (a' := ?_) #[true, true, false, false, false, false, false, false, false, false, false] rfl rfl (by kernel_rfl) (fun _ _ _ h => h) (Or.inl ⟨by rfl, ?_⟩) ?_ ?_
        rotate_left
        · intro w'
          go_simp
          with_reducible rfl
        rotate_left
        · simp only [Act.put, List.setIfInBounds_toArray, List.set_cons_zero, List.set_cons_succ, i64_w, i32_w]
          rfl
        refine pure_ (i := 2) (N := some 67) (v := ?_) (a' := ?_) #[true, true, true, false, false, false, false, false, false, false, false] rfl rfl (by kernel_rfl) (fun _ _ _ h => h) (Or.inl ⟨by rfl, ?_⟩) ?_ ?_
        rotate_left
        · intro w'
          go_simp
          with_reducible rfl
        rotate_left
        · simp only [Act.put, List.setIfInBounds_toArray, List.set_cons_zero, List.set_cons_succ, i64_w, i32_w]
          rfl
        refine pure_ (i := 3) (N := some 68) (v := ?_) (a' := ?_) #[true, true, true, true, false, false, false, false, false, false, false] rfl rfl (by kernel_rfl) (fun _ _ _ h => h) (Or.inl ⟨by rfl, ?_⟩) ?_ ?_
        rotate_left
        · intro w'
          go_simp
          with_reducible rfl
        rotate_left
        · simp only [Act.put, List.setIfInBounds_toArray, List.set_cons_zero, List.set_cons_succ, i64_w, i32_w]
          rfl
        refine pure_ (i := 5) (N := some 70) (v := ?_) (a' := ?_) #[true, true, true, true, false, true, false, false, false, false, false] rfl rfl (by kernel_rfl) (fun _ _ _ h => h) (Or.inl ⟨by rfl, ?_⟩) ?_ ?_
        rotate_left
        · intro w'
          go_simp
          with_reducible rfl
        rotate_left
        · simp only [Act.put, List.setIfInBounds_toArray, List.set_cons_zero, List.set_cons_succ, i64_w, i32_w]
          rfl
        refine take_ (i := 4) (N := some 69) (v := ?_) (a' := ?_) #[true, true, true, true, true, true, false, false, false, false, false] rfl rfl (by kernel_rfl) (fun _ _ _ h => h) (Or.inl ⟨by rfl, ?_⟩) hHeld ?_ ?_
        rotate_left
        · rintro w' ⟨s0, s1⟩
          go_simp
          with_reducible rfl
        rotate_left
        · simp only [Act.put, List.setIfInBounds_toArray, List.set_cons_zero, List.set_cons_succ, i64_w, i32_w]
          rfl
        refine take_ (i := 6) (N := some 71) (v := ?_) (a' := ?_) #[true, true, true, true, true, true, true, false, false, false, false] rfl rfl (by kernel_rfl) (fun _ _ _ h => h) (Or.inl ⟨by rfl, ?_⟩) hHeld ?_ ?_
        rotate_left
        · rintro w' ⟨s0, s1⟩
          go_simp
          with_reducible rfl
        rotate_left
        · simp only [Act.put, List.setIfInBounds_toArray, List.set_cons_zero, List.set_cons_succ, i64_w, i32_w]
          rfl
        refine pure_ (i := 7) (N := some 72) (v := ?_) (a' := ?_) #[true, true, true, true, true, true, true, true, false, false, false] rfl rfl (by kernel_rfl) (fun _ _ _ h => h) (Or.inl ⟨by rfl, ?_⟩) ?_ ?_
        rotate_left
        · intro w'
          go_simp
          with_reducible rfl
        rotate_left
        · simp only [Act.put, List.setIfInBounds_toArray, List.set_cons_zero, List.set_cons_succ, i64_w, i32_w]
          rfl
        refine pure_ (i := 8) (N := some 73) (v := ?_) (a' := ?_) #[true, true, true, true, true, true, true, true, true, false, false] rfl rfl (by kernel_rfl) (fun _ _ _ h => h) (Or.inl ⟨by rfl, ?_⟩) ?_ ?_
        rotate_left
        · intro w'
          go_simp
          with_reducible rfl
        rotate_left
        · simp only [Act.put, List.setIfInBounds_toArray, List.set_cons_zero, List.set_cons_succ, i64_w, i32_w]
          rfl
        refine pure_ (i := 9) (N := some 74) (v := ?_) (a' := ?_) #[true, true, true, true, true, true, true, true, true, true, false] rfl rfl (by kernel_rfl) (fun _ _ _ h => h) (Or.inl ⟨by rfl, ?_⟩) ?_ ?_
        rotate_left
        · intro w'
          go_simp
          with_reducible rfl
        rotate_left
        · simp only [Act.put, List.setIfInBounds_toArray, List.set_cons_zero, List.set_cons_succ, i64_w, i32_w]
          rfl
        refine last_ (i := 10) (N := none) #[true, true, true, true, true, true, true, true, true, true, true] rfl rfl (by kernel_rfl) (by decide) (fun K hK => ?_)
        refine skip_ (w1 := ?_) (by rfl) rfl ?_ ?_
        rotate_left
        · go_simp
          rfl
        refine hK.out _ _ ?_
        clear hK K
        refine done_ (by kernel_rfl) ?_
        go_wp2
        go_roundw
        case rel => exact ⟨j + 1, m, by go_num, DD.out, ⟨MS.out.symm⟩, ⟨blk_put PX.out 4 _ rfl⟩, ⟨Kd.V_step VX.out (fun k hk _ => Below.heap_setCell W2 ⟨p, 4, none⟩ _ k (Nat.ne_of_gt (Nat.lt_of_lt_of_le LT.out hk.1)))⟩, ⟨below_set BX.out LP.out⟩, ⟨by have := ZX.out; simpa using this⟩⟩
        case measure => have := DD.out; simp [intOf]; omega
    · have d1 : ¬ (j : Int) < (mC : Int) := by omega
      have db : decide (j < mC) = false := decide_eq_false d
      have MM := Aside0.mk (show m = lmax cs by have := HMX.out; rw [List.take_of_length_le (by rw [← MC.out]; omega)] at this; exact this)
      have MRG := Aside0.mk (show 0 ≤ m ∧ m < 18446744073709551616 by rw [MM.out]; exact lmax_range CO.out)
      have y4 : wr.cell? ⟨p, 4, none⟩ = some (.int .u64 m) := (blk_cell PJ.out 4).trans rfl
      have fz := fun i => blk_frozen PJ.out i
      clear d hj HMX
      by_cases big : m = 18446744073709551615
      · have BG := Aside0.mk big
        have wq2 : IntKind.u64.wrap (m + 1) = 0 := by rw [big]; decide
        have KB : Aside0 ((wr.setCell ⟨p, 4, none⟩ (.int .u64 0)).heap[p]? = some (.cells (opc q fi si ep 0 0 (.slice none 0 0)) 115 (0, 0))) := ⟨blk_put PJ.out 4 _ rfl⟩
        have x4 : (wr.setCell ⟨p, 4, none⟩ (.int .u64 0)).cell? ⟨p, 4, none⟩ = some (.int .u64 0) := (blk_cell KB.out 4).trans rfl
        clear big
        go_wp2
        exact HBAD.out (by rw [← MM.out]; exact BG.out) _ (below_set BJ.out LP.out)
      · have LT2 := Aside0.mk (show lmax cs < 18446744073709551615 by rw [← MM.out]; have := MRG.out; omega)
        have wq2 : IntKind.u64.wrap (m + 1) = m + 1 := CellLaws.u64w (by have h1 := MRG.out; omega) (by have h1 := MRG.out; omega)
        have nz : ((m + 1 : Int) == 0) = false := by have h1 := MRG.out; simp; omega
        obtain ⟨W5, hW5⟩ : ∃ W5, W5 = wr.setCell ⟨p, 4, none⟩ (.int .u64 (m + 1)) := ⟨_, rfl⟩
        have P5 := Aside0.mk (show W5.heap[p]? = some (.cells (opc q fi si ep (m + 1) 0 (.slice none 0 0)) 115 (0, 0)) by rw [hW5]; exact blk_put PJ.out 4 _ rfl)
        have B5 := Aside0.mk (show Below w.heap.size w W5 by rw [hW5]; exact below_set BJ.out LP.out)
        have V5 := Aside0.mk (show Kd.V k106 106 W5 0 (fun k => z0 ≤ k ∧ k < z1) (.slice AC mC cC) cs by rw [hW5]; exact Kd.V_step VJ.out (fun k hk _ => Below.heap_setCell wr ⟨p, 4, none⟩ _ k (Nat.ne_of_gt (Nat.lt_of_lt_of_le LT.out hk.1))))
        have Z5 := Aside0.mk (show z1 ≤ W5.heap.size by rw [hW5]; simpa using ZJ.out)
        have x4 : W5.cell? ⟨p, 4, none⟩ = some (.int .u64 (m + 1)) := (blk_cell P5.out 4).trans rfl
        have HM1 := Aside0.mk (show m + 1 = lmax cs + 1 by rw [MM.out])
        clear big MM
        go_upto_region 15 with (fail)
        rw [← hW5]
        clear hW5 y4 fz PJ BJ VJ ZJ
        go_upto_region 17 with (fail)
        clear x4 nz wq2 c1b c2b c3b c3c c3d c4b c4c wq
        have FIN := Aside0.mk (show ∃ k, cs.length < 0 + k ∧ [] ++ (prs ep k (cs.drop 0) 0).1 = (prs ep (cs.length + 1) cs 0).1 ∧ 0 + (prs ep k (cs.drop 0) 0).2 = (prs ep (cs.length + 1) cs 0).2 from ⟨cs.length + 1, by omega, by simp, by simp⟩)
        obtain ⟨RS, hRS⟩ : ∃ RS, RS = (prs ep (cs.length + 1) cs 0).1 := ⟨_, rfl⟩
        obtain ⟨EN, hEN⟩ : ∃ EN, EN = (prs ep (cs.length + 1) cs 0).2 := ⟨_, rfl⟩
        rw [← hRS, ← hEN] at FIN HOK
        obtain ⟨mm, hmm⟩ : ∃ mm, mm = m + 1 := ⟨_, rfl⟩
        rw [← hmm] at P5 HM1
        clear hRS hEN hmm MRG
        go_wp2
        go_loopw [17, 18, 19, 20] (fun v17 v18 v19 v20 wr => ∃ (en : Nat) (rs : List (List Int)) (least : Int) (AV : Option Addr) (mV cV : Nat), v17 = .int .u64 least ∧ Aside0 (en ≤ mC ∧ rs.length ≤ en) ∧ Aside0 (∃ k, cs.length < en + k ∧ rs ++ (prs ep k (cs.drop en) least).1 = RS ∧ en + (prs ep k (cs.drop en) least).2 = EN) ∧ Aside0 (wr.heap[p]? = some (.cells (opc q fi si ep mm en (.slice AV mV cV)) 115 (0, 0))) ∧ Aside0 (mV = rs.length) ∧ Aside0 (Kd.N kL 27 wr w.heap.size (fun k => z1 ≤ k) (.slice AV mV cV) rs) ∧ Aside0 (Kd.V k106 106 wr 0 (fun k => z0 ≤ k ∧ k < z1) (.slice AC mC cC) cs) ∧ Aside0 (Below w.heap.size w wr) ∧ Aside0 (z1 ≤ wr.heap.size)) (fun v17 v18 v19 v20 wr => mC - enOf wr p)
        case atStart => exact ⟨0, [], 0, none, 0, 0, rfl, ⟨Nat.zero_le _, Nat.le_refl _⟩, FIN, P5, ⟨rfl⟩, ⟨Kd.N_nil _ _ _ _ _⟩, V5, B5, Z5⟩
        case round =>
          clear FIN P5 B5 V5 Z5
          obtain ⟨en, rs, least, AV, mV, cV, rfl, EL, FIN, PJ, MV, NJ, VJ, BJ, ZJ⟩ := hrel
          have y5 : wr.cell? ⟨p, 5, none⟩ = some (.int .i64 (en : Int)) := (blk_cell PJ.out 5).trans rfl
          have emc : en ≤ mC := EL.out.1
          have cC1 : mC ≤ cC := (Kd.V_reads' VJ.out).2.1
          obtain ⟨AX, hAX⟩ : ∃ AX, AX = (if cC = en then AC else AC.map (·.add (en * 5))) := ⟨_, rfl⟩
          have kc : ∀ W : World, (Instr.slice 62 (.slice AC mC cC) (some (.int .i64 (en : Int))) none none).run Try.prog W = .ok (.slice AX (mC - en) (cC - en)) W := fun W => by
            rw [hAX]; exact from106 AC mC cC en emc W
          have DL := Aside0.mk (show mC - en = (cs.drop en).length by rw [List.length_drop, ← MC.out])
          have CX := Aside0.mk (show Kd.C k106 wr AX (mC - en) (cs.drop en) by
            have h1 := (Kd.V_at VJ.out).2.2
            have h2 := Kd.F_now (Kd.F_cut (m := en) (c := cC) h1 (by rw [← MC.out]; exact emc) (by rw [← MC.out]; exact cC1))
            rw [DL.out, hAX]
            exact h2)
          clear hAX
          go_upto_region 19 with (go_at_call 68; refine (L_record DL.out (by omega) CX.out ep (by rw [List.length_drop]; have := CL.out; omega) (fun c hc => CO.out c (List.mem_of_mem_drop hc))).mono ?_; rintro e w6 ⟨A2, m2, c2, b, r2, r3, r4, r5, A5, m5, c5, ok, rfl, hrc, hR, hb⟩; have RC := Aside0.mk hrc; have R6 := Aside0.mk hR; have B6 := Aside0.mk (below_step BJ.out hb); have HB6 := Aside0.mk hb; clear hrc hR hb)
          obtain ⟨g, hg⟩ : ∃ g, g = w6.heap.size := ⟨_, rfl⟩
          obtain ⟨W7, hW7⟩ : ∃ W7, W7 = w6.alloc (.cells #[.int .u64 r2, .int .u64 r3, .int .i64 r4, .int .i64 r5, .slice A5 m5 c5] 106) := ⟨_, rfl⟩
          have hb67 := below_alloc (Below.refl w6.heap.size w6) (.cells #[.int .u64 r2, .int .u64 r3, .int .i64 r4, .int .i64 r5, .slice A5 m5 c5] 106)
          have hb7 := below_step HB6.out hb67
          have GX := Aside0.mk (show W7.heap[g]? = some (.cells #[.int .u64 r2, .int .u64 r3, .int .i64 r4, .int .i64 r5, .slice A5 m5 c5] 106 (0, 0)) by rw [hW7, hg]; exact blk_new _ _)
          have P7 := Aside0.mk (show W7.heap[p]? = some (.cells (opc q fi si ep mm en (.slice AV mV cV)) 115 (0, 0)) by rw [hW7]; exact blk_below PJ.out hb7)
          have B7 := Aside0.mk (show Below w.heap.size w W7 by rw [hW7]; exact below_step BJ.out hb7)
          have V7 := Aside0.mk (show Kd.V k106 106 W7 0 (fun k => z0 ≤ k ∧ k < z1) (.slice AC mC cC) cs by rw [hW7]; exact Kd.V_below VJ.out hb7)
          have N7 := Aside0.mk (show Kd.N kL 27 W7 w.heap.size (fun k => z1 ≤ k) (.slice AV mV cV) rs by rw [hW7]; exact Kd.N_below NJ.out hb7)
          have Z7 := Aside0.mk (show z1 ≤ W7.heap.size by rw [hW7]; exact Nat.le_trans ZJ.out hb7.size)
          have R7 := Aside0.mk (show Kd.R (Kd.int .u8) 5 W7 z1 (fun k => k < g) (.slice A2 m2 c2) b by rw [hW7, hg]; exact Kd.R_lower (Kd.R_mono (Kd.R_bound (Kd.R_below (Kd.R_mono (Kd.R_bound R6.out) (fun k hk => hk.2.2.1)) hb67)) (fun k hk => hk.1)) ZJ.out)
          have G7 := Aside0.mk (show g < W7.heap.size ∧ z1 ≤ g from ⟨blk_lt GX.out, by rw [hg]; exact Nat.le_trans ZJ.out HB6.out.size⟩)
          have x1 : W7.cell? ⟨g, 1, none⟩ = some (.int .u64 r3) := (blk_cell GX.out 1).trans rfl
          have EM := Aside0.mk (show enOf wr p = en by have y : wr.cell? ⟨p, 5, none⟩ = some (.int .i64 (en : Int)) := (blk_cell PJ.out 5).trans rfl; unfold enOf; rw [y]; exact Int.toNat_natCast en)
          rw [← hW7, ← hg]
          clear hW7 hg hb67 hb7 PJ NJ VJ BJ ZJ R6 B6 HB6 kc y5 CX DL emc cC1
          rcases RC.out with ⟨hr, rfl⟩ | ⟨nn, hr, rfl, rfl, hn0⟩
          · have HRN := Aside0.mk hr
            clear hr
            have FIN2 := Aside0.mk (show rs = RS ∧ en = EN from by
              obtain ⟨k, h1, h2, h3⟩ := FIN.out
              obtain ⟨k, rfl⟩ : ∃ k', k = k' + 1 := ⟨k - 1, by have := EL.out.1; have := MC.out; omega⟩
              have hp : prs ep (k + 1) (cs.drop en) least = ([], 0) := by rw [prs, HRN.out]
              rw [hp] at h2 h3
              exact ⟨by simpa using h2, by simpa using h3⟩)
            clear FIN
            go_wp2
            exact HOK.out LT2.out p W7 _ rfl ⟨AV, mV, cV, fun k => z1 ≤ k ∧ k < W7.heap.size, JO_deep H.out B7.out, by rw [← FIN2.out.1, ← FIN2.out.2, ← HM1.out]; exact P7.out, .inr ⟨LP.out, blk_lt P7.out⟩, Nat.le_trans (JO_below H.out).size LP.out, fun k hk => ⟨.inr ⟨Nat.le_trans LP.out (Nat.le_of_lt (Nat.lt_of_lt_of_le (Nat.lt_of_lt_of_le LT.out Z01.out) hk.1)), hk.2⟩, Nat.ne_of_gt (Nat.lt_of_lt_of_le (Nat.lt_of_lt_of_le LT.out Z01.out) hk.1), fun hx => Nat.lt_irrefl k (Nat.lt_of_lt_of_le (JO_O H.out (HX0.out k hx)) (Nat.le_trans LP.out (Nat.le_of_lt (Nat.lt_of_lt_of_le (Nat.lt_of_lt_of_le LT.out Z01.out) hk.1))))⟩, by rw [← FIN2.out.1]; exact Kd.V_bound (Kd.N_V N7.out), by rw [← FIN2.out.1]; exact MV.out, fun k hk => .inl (HX0.out k hk)⟩ LP.out B7.out
          · by_cases lt : r3 < least
            · have lt1 : decide (r3 < least) = true := decide_eq_true lt
              have HRN := Aside0.mk hr
              have LTT := Aside0.mk lt
              clear hr lt hn0
              have FIN2 := Aside0.mk (show rs = RS ∧ en = EN from by
                obtain ⟨k, h1, h2, h3⟩ := FIN.out
                obtain ⟨k, rfl⟩ : ∃ k', k = k' + 1 := ⟨k - 1, by have := EL.out.1; have := MC.out; omega⟩
                have hp : prs ep (k + 1) (cs.drop en) least = ([], 0) := by rw [prs, HRN.out]; exact if_pos LTT.out
                rw [hp] at h2 h3
                exact ⟨by simpa using h2, by simpa using h3⟩)
              clear FIN
              go_wp2
              exact HOK.out LT2.out p W7 _ rfl ⟨AV, mV, cV, fun k => z1 ≤ k ∧ k < W7.heap.size, JO_deep H.out B7.out, by rw [← FIN2.out.1, ← FIN2.out.2, ← HM1.out]; exact P7.out, .inr ⟨LP.out, blk_lt P7.out⟩, Nat.le_trans (JO_below H.out).size LP.out, fun k hk => ⟨.inr ⟨Nat.le_trans LP.out (Nat.le_of_lt (Nat.lt_of_lt_of_le (Nat.lt_of_lt_of_le LT.out Z01.out) hk.1)), hk.2⟩, Nat.ne_of_gt (Nat.lt_of_lt_of_le (Nat.lt_of_lt_of_le LT.out Z01.out) hk.1), fun hx => Nat.lt_irrefl k (Nat.lt_of_lt_of_le (JO_O H.out (HX0.out k hx)) (Nat.le_trans LP.out (Nat.le_of_lt (Nat.lt_of_lt_of_le (Nat.lt_of_lt_of_le LT.out Z01.out) hk.1))))⟩, by rw [← FIN2.out.1]; exact Kd.V_bound (Kd.N_V N7.out), by rw [← FIN2.out.1]; exact MV.out, fun k hk => .inl (HX0.out k hk)⟩ LP.out B7.out
            · have lt1 : decide (r3 < least) = false := decide_eq_false lt
              have HRN := Aside0.mk hr
              have LTT := Aside0.mk lt
              have NN0 := Aside0.mk hn0
              clear hr lt hn0
              obtain ⟨e2, _, _⟩ := Kd.R_reads' R7.out
              have FKb := Aside0.mk (show Kd.FK kL W7 (fun k => some k = (Value.slice A2 m2 c2).ownBlock) b [.slice A2 m2 c2] from by
                have h1 := Kd.R_reads' R7.out
                have h2 := Kd.R_F (Kd.R_tight rfl R7.out)
                rw [e2] at h2 ⊢
                exact Kd.FK_slice_mk (by rw [← e2]; exact h1.2.1) h2)
              clear e2
              have y6 : W7.cell? ⟨p, 6, none⟩ = some (.slice AV mV cV) := (blk_cell P7.out 6).trans rfl
              have NP := Aside0.mk (fun (e : some p = (Value.slice AV mV cV).ownBlock) => (by obtain ⟨cc, hc⟩ := Kd.N_typed N7.out p e.symm; exact absurd rfl (blk_ne P7.out hc (by decide)) : False))
              have NG := Aside0.mk (fun (e : some g = (Value.slice AV mV cV).ownBlock) => (by obtain ⟨cc, hc⟩ := Kd.N_typed N7.out g e.symm; exact absurd rfl (blk_ne GX.out hc (by decide)) : False))
              have RSL := Aside0.mk (show rs.length ≤ 16384 by have h1 := EL.out; omega)
              have VN := Aside0.mk (show ∀ k, some k = (Value.slice AV mV cV).ownBlock → ¬ (z0 ≤ k ∧ k < z1) from fun k e hk => by
                rcases Nat.eq_zero_or_pos mV with h0 | h0
                · exact absurd hk.2 (by have := (show z1 ≤ k from N7.out.1 k e.symm); omega)
                · exact absurd hk.2 (by have := (show z1 ≤ k from N7.out.1 k e.symm); omega))
              go_upto_region 23 with ((with_reducible refine gate_builtin (b := .append) (xs := #[.tmp 115, .tmp 117]) rfl ?_); at_builtin; refine Kd.N_append kL (w0 := w) w.heap.size rfl (.tmp 115) (.tmp 117) 46 27 (.slice none 0 0) 24 rfl Try.underlying46 info27w rfl (by decide) (by omega) (.slice AV mV cV) rs b _ (fun k => z1 ≤ k) (fun k => some k = (Value.slice A2 m2 c2).ownBlock) rfl rfl FKb.out ?aK ?aF N7.out B7.out B7.out.size ?aL ?_; (case aK => exact fun k hk => ⟨Kd.R_base R7.out k hk.symm, fun e => by obtain ⟨c5', h5'⟩ := Kd.R_typed R7.out k hk.symm; obtain ⟨c6', h6'⟩ := Kd.N_typed N7.out k e.symm; exact absurd rfl (blk_ne h5' h6' (by decide))⟩); (case aF => exact fun k hk => Nat.le_trans Z7.out hk); (case aL => have h1 := RSL.out; omega); intro v9 w8 hN hb hg hat; have N8 := Aside0.mk hN; have B8 := Aside0.mk hb; have P8 := Aside0.mk (blk_grown P7.out hg (fun e => NP.out e)); have G8 := Aside0.mk (blk_grown GX.out hg (fun e => NG.out e)); have V8 := Aside0.mk (Kd.V_step V7.out (fun k hk hl => hg.block k hl (fun e => VN.out k e hk))); have Z8 := Aside0.mk (Nat.le_trans Z7.out hg.size); obtain ⟨A9, c9, e9⟩ := Kd.N_slice hN; obtain ⟨m9, hm9⟩ : ∃ m9, m9 = (rs ++ [b]).length := ⟨_, rfl⟩; have M9 := Aside0.mk hm9; rw [← hm9] at e9; subst e9; have f6 := blk_frozen P8.out 6; have u6 : w8.cell? ⟨p, 6, none⟩ = some (.slice AV mV cV) := (blk_cell P8.out 6).trans rfl; clear hN hb hg hat hm9 y6)
              clear f6 u6 x1
              obtain ⟨W1, hW1⟩ : ∃ W1, W1 = w8.setCell ⟨p, 6, none⟩ (.slice A9 m9 c9) := ⟨_, rfl⟩
              have PX := Aside0.mk (show W1.drew.heap[p]? = some (.cells (opc q fi si ep mm en (.slice A9 m9 c9)) 115 (0, 0)) by rw [hW1]; exact blk_put P8.out 6 _ rfl)
              have pg : g ≠ p := fun e => by have h1 := G7.out.2; have h2 := LT.out; have h3 := Z01.out; omega
              have GX2 := Aside0.mk (show W1.drew.heap[g]? = some (.cells #[.int .u64 r2, .int .u64 r3, .int .i64 r4, .int .i64 (nn : Int), .slice A5 m5 c5] 106 (0, 0)) by rw [hW1]; exact blk_far (p := ⟨p, 6, none⟩) G8.out pg _)
              have BX := Aside0.mk (show Below w.heap.size w W1.drew by rw [hW1]; exact below_step (below_set B8.out LP.out) (below_drew (Below.refl _ _)))
              have VX := Aside0.mk (show Kd.V k106 106 W1.drew 0 (fun k => z0 ≤ k ∧ k < z1) (.slice AC mC cC) cs by rw [hW1]; exact Kd.V_step V8.out (fun k hk _ => Below.heap_setCell w8 ⟨p, 6, none⟩ _ k (Nat.ne_of_gt (Nat.lt_of_lt_of_le LT.out hk.1))))
              have NX := Aside0.mk (show Kd.N kL 27 W1.drew w.heap.size (fun k => z1 ≤ k) (.slice A9 m9 c9) (rs ++ [b]) by rw [hW1]; exact Kd.N_below (Kd.N_step N8.out (fun k hk _ => Below.heap_setCell w8 ⟨p, 6, none⟩ _ k (Nat.ne_of_gt (Nat.lt_of_lt_of_le (Nat.lt_of_lt_of_le LT.out Z01.out) hk)))) (below_drew (Below.refl _ _)))
              have ZX := Aside0.mk (show z1 ≤ W1.drew.heap.size by rw [hW1]; simpa using Z8.out)
              have NNB := Aside0.mk (show en + nn ≤ mC ∧ 0 < nn from by
                have h1 := rec1_le HRN.out
                rw [List.length_drop, ← MC.out] at h1
                have := EL.out.1
                have h3 := NN0.out
                omega)
              have wen : wrap64 ((en : Int) + (nn : Int)) = ((en + nn : Nat) : Int) := by have h1 := NNB.out; unfold wrap64; omega
              rw [← hW1]
              clear hW1 P8 G8 B8 V8 N8 Z8 P7 B7 V7 N7 Z7 R7 GX pg FKb NP NG VN
              refine start_ (n := 10) (S := fun w' => w'.cell? ⟨p, 5, none⟩ = some (.int .i64 (en : Int)) ∧ w'.cell? ⟨g, 3, none⟩ = some (.int .i64 (nn : Int))) (ds := [9]) #[false, false, false, false, false, false, false, false, false, false] (by kernel_rfl) rfl rfl ⟨((blk_cell PX.out 5).trans rfl), ((blk_cell GX2.out 3).trans rfl)⟩ (fun hHeld => ?_)
              generalize W1.drew = W2 at hHeld BX PX GX2 VX NX ZX ⊢
              have fz := fun i => blk_frozen PX.out i
              have y5 : W2.cell? ⟨p, 5, none⟩ = some (.int .i64 (en : Int)) := (blk_cell PX.out 5).trans rfl
              refine pure_ (i := 0) (N := some 121) (v := ?_) (a' := ?_) #[true, false, false, false, false, false, false, false, false, false] rfl rfl (by kernel_rfl) (fun _ _ _ h => h) (Or.inl ⟨by rfl, ?_⟩) ?_ ?_
              rotate_left
              · intro w'
                go_simp
                with_reducible rfl
              rotate_left
              · simp only [Act.put, List.setIfInBounds_toArray, List.set_cons_zero, List.set_cons_succ, i64_w, i32_w]
                rfl
              refine pure_ (i := 1) (N := some 122) (v := ?_) (a' := ?_) #[true, true, false, false, false, false, false, false, false, false] rfl rfl (by kernel_rfl) (fun _ _ _ h => h) (Or.inl ⟨by rfl, ?_⟩) ?_ ?_
              rotate_left
              · intro w'
                go_simp
                with_reducible rfl
              rotate_left
              · simp only [Act.put, List.setIfInBounds_toArray, List.set_cons_zero, List.set_cons_succ, i64_w, i32_w]
                rfl
              refine pure_ (i := 2) (N := some 123) (v := ?_) (a' := ?_) #[true, true, true, false, false, false, false, false, false, false] rfl rfl (by kernel_rfl) (fun _ _ _ h => h) (Or.inl ⟨by rfl, ?_⟩) ?_ ?_
              rotate_left
              · intro w'
                go_simp
                with_reducible rfl
              rotate_left
              · simp only [Act.put, List.setIfInBounds_toArray, List.set_cons_zero, List.set_cons_succ, i64_w, i32_w]
                rfl
              refine pure_ (i := 4) (N := some 125) (v := ?_) (a' := ?_) #[true, true, true, false, true, false, false, false, false, false] rfl rfl (by kernel_rfl) (fun _ _ _ h => h) (Or.inl ⟨by rfl, ?_⟩) ?_ ?_
              rotate_left
              · intro w'
                go_simp
                with_reducible rfl
              rotate_left
              · simp only [Act.put, List.setIfInBounds_toArray, List.set_cons_zero, List.set_cons_succ, i64_w, i32_w]
                rfl
              refine take_ (i := 3) (N := some 124) (v := ?_) (a' := ?_) #[true, true, true, true, true, false, false, false, false, false] rfl rfl (by kernel_rfl) (fun _ _ _ h => h) (Or.inl ⟨by rfl, ?_⟩) hHeld ?_ ?_
              rotate_left
              · rintro w' ⟨s0, s1⟩
                go_simp
                with_reducible rfl
              rotate_left
              · simp only [Act.put, List.setIfInBounds_toArray, List.set_cons_zero, List.set_cons_succ, i64_w, i32_w]
                rfl
              refine take_ (i := 5) (N := some 126) (v := ?_) (a' := ?_) #[true, true, true, true, true, true, false, false, false, false] rfl rfl (by kernel_rfl) (fun _ _ _ h => h) (Or.inl ⟨by rfl, ?_⟩) hHeld ?_ ?_
              rotate_left
              · rintro w' ⟨s0, s1⟩
                go_simp
                with_reducible rfl
              rotate_left
              · simp only [Act.put, List.setIfInBounds_toArray, List.set_cons_zero, List.set_cons_succ, i64_w, i32_w]
                rfl
              refine pure_ (i := 6) (N := some 127) (v := ?_) (a' := ?_) #[true, true, true, true, true, true, true, false, false, false] rfl rfl (by kernel_rfl) (fun _ _ _ h => h) (Or.inl ⟨by rfl, ?_⟩) ?_ ?_
              rotate_left
              · intro w'
                go_simp
                with_reducible rfl
              rotate_left
              · simp only [Act.put, List.setIfInBounds_toArray, List.set_cons_zero, List.set_cons_succ, i64_w, i32_w]
                rfl
              refine pure_ (i := 7) (N := some 128) (v := ?_) (a' := ?_) #[true, true, true, true, true, true, true, true, false, false] rfl rfl (by kernel_rfl) (fun _ _ _ h => h) (Or.inl ⟨by rfl, ?_⟩) ?_ ?_
              rotate_left
              · intro w'
                go_simp
                with_reducible rfl
              rotate_left
              · simp only [Act.put, List.setIfInBounds_toArray, List.set_cons_zero, List.set_cons_succ, i64_w, i32_w]
                rfl
              refine pure_ (i := 8) (N := some 129) (v := ?_) (a' := ?_) #[true, true, true, true, true, true, true, true, true, false] rfl rfl (by kernel_rfl) (fun _ _ _ h => h) (Or.inl ⟨by rfl, ?_⟩) ?_ ?_
              rotate_left
              · intro w'
                go_simp
                with_reducible rfl
              rotate_left
              · simp only [Act.put, List.setIfInBounds_toArray, List.set_cons_zero, List.set_cons_succ, i64_w, i32_w]
                rfl
              refine last_ (i := 9) (N := none) #[true, true, true, true, true, true, true, true, true, true] rfl rfl (by kernel_rfl) (by decide) (fun K hK => ?_)
              refine skip_ (w1 := ?_) (by rfl) rfl ?_ ?_
              rotate_left
              · go_simp
                rfl
              refine hK.out _ _ ?_
              clear hK K
              refine done_ (by kernel_rfl) ?_
              have FIN2 := Aside0.mk (show ∃ k, cs.length < en + nn + k ∧ (rs ++ [b]) ++ (prs ep k (cs.drop (en + nn)) r3).1 = RS ∧ en + nn + (prs ep k (cs.drop (en + nn)) r3).2 = EN from by
                obtain ⟨k, h1, h2, h3⟩ := FIN.out
                obtain ⟨k, rfl⟩ : ∃ k', k = k' + 1 := ⟨k - 1, by have := EL.out.1; have := MC.out; omega⟩
                have hp : prs ep (k + 1) (cs.drop en) least = (b :: (prs ep k ((cs.drop en).drop nn) r3).1, nn + (prs ep k ((cs.drop en).drop nn) r3).2) := by rw [prs, HRN.out]; exact if_neg LTT.out
                rw [hp, List.drop_drop] at h2 h3
                exact ⟨k, by have := NNB.out; omega, by rw [← h2, List.append_assoc]; rfl, by rw [← h3, Nat.add_assoc]⟩)
              have P9 : Aside0 ((W2.setCell ⟨p, 5, none⟩ (.int .i64 ((en + nn : Nat) : Int))).heap[p]? = some (.cells (opc q fi si ep mm (en + nn) (.slice A9 m9 c9)) 115 (0, 0))) := ⟨blk_put PX.out 5 _ rfl⟩
              have E9 := Aside0.mk (show enOf (W2.setCell ⟨p, 5, none⟩ (.int .i64 ((en + nn : Nat) : Int))) p = en + nn by have y : (W2.setCell ⟨p, 5, none⟩ (.int .i64 ((en + nn : Nat) : Int))).cell? ⟨p, 5, none⟩ = some (.int .i64 ((en + nn : Nat) : Int)) := (blk_cell P9.out 5).trans rfl; unfold enOf; rw [y]; exact Int.toNat_natCast _)
              clear y5 fz
              go_wp2
              go_roundw
              case rel => exact ⟨en + nn, rs ++ [b], r3, A9, m9, c9, rfl, ⟨NNB.out.1, by rw [List.length_append]; have h1 := EL.out.2; have h2 := NNB.out.2; simp; omega⟩, FIN2, P9, M9, ⟨Kd.N_step NX.out (fun k hk _ => Below.heap_setCell W2 ⟨p, 5, none⟩ _ k (Nat.ne_of_gt (Nat.lt_of_lt_of_le (Nat.lt_of_lt_of_le LT.out Z01.out) hk)))⟩, ⟨Kd.V_step VX.out (fun k hk _ => Below.heap_setCell W2 ⟨p, 5, none⟩ _ k (Nat.ne_of_gt (Nat.lt_of_lt_of_le LT.out hk.1)))⟩, ⟨below_set BX.out LP.out⟩, ⟨by have := ZX.out; simpa using this⟩⟩
              case measure => have e9 := E9.out; push_cast at e9; rw [e9, EM.out]; have := NNB.out; omega
end Go.Proofs.Ytepipgneefcoiaa.D
