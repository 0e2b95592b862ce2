/- The functions of the program that these laws reach, each as a plain Lean function, and the proof that the machine's call comes to it; no condition beyond those that each theorem names. Made by wip/xprint.py. -/
-- squeezed
import Derived.Test.YtnkaidaflegnlaaGx0
import Derived.Test.YtnkaidaflegnlaaGf15
import Derived.Test.YtnkaidaflegnlaaPageLoose
import Derived.Test.YtnkaidaflegnlaaPageSame
import Derived.Test.YtnkaidaflegnlaaGf22
import Derived.Test.YtnkaidaflegnlaaGf23
import Derived.Test.YtnkaidaflegnlaaGf24
import Derived.Test.YtnkaidaflegnlaaGh
namespace Go.Proofs.Ytnkaidaflegnlaa.G
open Go.RowKit Go.Proofs.YtnkaidaflegnlaaW.PrintWords Go.Proofs.YtnkaidaflegnlaaW.PrintLast Go.Proofs.YtnkaidaflegnlaaW.PrintMore
attribute [local go_sem] max2_int min2_int max_two min_two max_three min_three max_four min_four   -- for this text's walks alone
set_option linter.unusedVariables false
set_option linter.unusedSimpArgs false

/-! ### marginalialaw20_PageDecode: function 5: by hand -/
/- Blocks keep their types and sizes; those of another type than bytes keep their cells. -/
def k5 (w w' : World) : Prop := w.heap.size ≤ w'.heap.size ∧ ∀ (i : Nat) (cells : Array Value) (t : TypeId), w.heap[i]? = some (.cells cells t (0, 0)) → ∃ cells' : Array Value, w'.heap[i]? = some (.cells cells' t (0, 0)) ∧ cells'.size = cells.size ∧ (t ≠ 5 → cells' = cells)
theorem k5_refl (w : World) : k5 w w := ⟨Nat.le_refl _, fun i cells t h => ⟨cells, h, rfl, fun _ => rfl⟩⟩
theorem k5_blk {w w' : World} (h : k5 w w') {i : Nat} {cells : Array Value} {t : TypeId} (hb : w.heap[i]? = some (.cells cells t (0, 0))) (ht : t ≠ 5) : w'.heap[i]? = some (.cells cells t (0, 0)) := by
 obtain ⟨c, h1, h2, h3⟩ := h.2 i cells t hb
 rw [h1, h3 ht]
theorem k5_cell {w w' : World} (h : k5 w w') {g j : Nat} {y : Value} {cells : Array Value} (hb : w.heap[g]? = some (.cells cells 5 (0, 0))) (hc : w.cell? ⟨g, j, none⟩ = some y) : (∃ x, w'.cell? ⟨g, j, none⟩ = some x) ∧ w'.frozen? ⟨g, j, none⟩ = false := by
 obtain ⟨c, h1, h2, h3⟩ := h.2 g cells 5 hb
 refine ⟨?_, blk_frozen h1 j⟩
 rw [blk_cell hb] at hc
 rw [blk_cell h1]
 have hj : j < cells.size := (Array.getElem?_eq_some_iff.1 hc).1
 exact ⟨_, Array.getElem?_eq_getElem (by omega)⟩
theorem k5_set {w w' : World} (h : k5 w w') {g : Nat} {cells : Array Value} (hb : w.heap[g]? = some (.cells cells 5 (0, 0))) (j : Nat) (u : Value) : k5 w (w'.setCell ⟨g, j, none⟩ u) := by
 refine ⟨by simpa [World.setCell] using h.1, fun i cs t hi => ?_⟩
 obtain ⟨c, h1, h2, h3⟩ := h.2 i cs t hi
 by_cases e : i = g
 ·subst e
  have ht : t = 5 := by rw [hb] at hi; injection hi with hi; injection hi with _ e; exact e.symm
  exact ⟨_, blk_set h1 j u, by simpa using h2, fun e => absurd ht e⟩
 ·exact ⟨c, blk_far h1 (p := ⟨g, j, none⟩) e u, h2, h3⟩
/- An item's data in a page that was read. -/
theorem item_row {w : World} {base : Nat} {ok : Nat → Prop} {ad : Addr} {n c : Nat} {xs : List S39} (h : Kd.S k39 39 w base ok (.slice (some ad) n c) xs) (i : Nat) (hi : i < n) : ∃ A2 c2, w.cell? ⟨(ad.add (i * 4)).block, (ad.add (i * 4)).off + 2, none⟩ = some (.slice A2 (rd_T39 xs (i : Int)).f2.length c2) ∧ Kd.R (Kd.int .u8) 5 w base (fun _ => True) (.slice A2 (rd_T39 xs (i : Int)).f2.length c2) (rd_T39 xs (i : Int)).f2 := by
 obtain ⟨cs, hl, hM, hc⟩ := Kd.S_get h z39 (i : Int) (by omega) (by omega)
 obtain ⟨c0, c1, rfl, h0, q0, q1, rfl, h1, q2, q3, rfl, ⟨v, rfl, hR⟩, h3⟩ := hM
 have e0 : c0 = [.int .u64 (xs.getD (i : Int).toNat z39).f0] := h0
 have e1 : q0 = [.int .i64 (xs.getD (i : Int).toNat z39).f1] := h1
 subst e0 e1
 have hcell := hc 2 v rfl
 have hR' : Kd.R (Kd.int .u8) 5 w base (fun _ => True) v (rd_T39 xs (i : Int)).f2 := Kd.R_mono hR (fun _ _ => trivial)
 obtain ⟨A2, c2, rfl⟩ := Kd.R_slice hR'
 refine ⟨A2, c2, ?_, hR'⟩
 rw [Int.toNat_natCast] at hcell
 rw [← hcell]
 congr 1
 show _ = ad.add (i * 4 + 2)
 obtain ⟨g, rfl⟩ := Kd.R_head (Kd.S_R h)
 by_cases e : i * 4 = 0
 ·simp [Addr.add, e]
 ·simp [Addr.add, e]
theorem row_fact {w : World} {base : Nat} {ok : Nat → Prop} {A : Option Addr} {n c : Nat} {xs : List Int} (h : Kd.R (Kd.int .u8) 5 w base ok (.slice A n c) xs) : n ≤ 9223372036854775807 ∧ (0 < n → ∃ q, A = some ⟨q, 0, none⟩ ∧ base ≤ q ∧ ∃ cells : Array Value, w.heap[q]? = some (.cells cells 5 (0, 0)) ∧ ∀ j, j < n → ∃ y, w.cell? ⟨q, j, none⟩ = some y) := by
 have r := Kd.R_reads' h
 have hm := Kd.C_max r.2.2
 obtain rfl := r.1
 refine ⟨hm, fun h0 => ?_⟩
 obtain ⟨q, cap, e, hq, _, cells, hc⟩ := Kd.R_form h h0
 injection e with e1 e2 e3
 subst e1
 exact ⟨q, rfl, hq, cells, hc, fun j hj => by
  have := (Kd.R_celln (0 : Int) h (j : Int) (by omega) (by omega)).1
  rw [Int.toNat_natCast] at this
  exact ⟨_, this⟩⟩
theorem items_fact {w : World} {base : Nat} {ok : Nat → Prop} {A : Option Addr} {n c : Nat} {xs : List S39} (h : Kd.S k39 39 w base ok (.slice A n c) xs) (i : Nat) (hi : i < n) : ∃ (ad : Addr) (A2 : Option Addr) (m c2 : Nat), A = some ad ∧ (∀ wr, k5 w wr → wr.cell? ⟨(ad.add (i * 4)).block, (ad.add (i * 4)).off + 2, none⟩ = some (.slice A2 m c2)) ∧ m ≤ 9223372036854775807 ∧ (0 < m → ∃ q, A2 = some ⟨q, 0, none⟩ ∧ base ≤ q ∧ ∃ cells : Array Value, w.heap[q]? = some (.cells cells 5 (0, 0)) ∧ ∀ j, j < m → ∃ y, w.cell? ⟨q, j, none⟩ = some y) := by
 have hn := (Kd.S_reads' h).1
 subst hn
 obtain ⟨q, cap, e, hq, _, cells, hc⟩ := Kd.S_form h (by omega)
 injection e with e1 e2 e3
 subst e1
 obtain ⟨A2, c2, h1, h2⟩ := item_row h i hi
 obtain ⟨r1, r2⟩ := row_fact h2
 refine ⟨⟨q, 0, none⟩, A2, _, c2, rfl, fun wr hk => ?_, r1, r2⟩
 rw [← h1]
 have hb : ((⟨q, 0, none⟩ : Addr).add (i * 4)).block = q := by
  by_cases e : i * 4 = 0
  ·simp [Addr.add, e]
  ·simp [Addr.add, e]
 exact World.cell?_of_block (by rw [show (⟨((⟨q, 0, none⟩ : Addr).add (i * 4)).block, ((⟨q, 0, none⟩ : Addr).add (i * 4)).off + 2, none⟩ : Addr).block = q from hb]; exact (k5_blk hk hc (by decide)).trans hc.symm)
theorem box4 {w3 w4 : World} {g : Nat} {a b c d : Value} (hb : w4.heap[g]? = some (.cells #[a, b, c, d] 26 (0, 0))) (hg : g = w3.heap.size) (hB : Below w3.heap.size w3 w4) (u0 u1 u2 u3 : Value) :
  ((((w4.setCell ⟨g, 0, none⟩ u0).setCell ⟨g, 1, none⟩ u1).setCell ⟨g, 2, none⟩ u2).setCell ⟨g, 3, none⟩ u3).heap[g]? = some (.cells #[u0, u1, u2, u3] 26 (0, 0)) ∧ Below w3.heap.size w3 ((((w4.setCell ⟨g, 0, none⟩ u0).setCell ⟨g, 1, none⟩ u1).setCell ⟨g, 2, none⟩ u2).setCell ⟨g, 3, none⟩ u3) :=
 ⟨blk_put (blk_put (blk_put (blk_put hb 0 u0 rfl) 1 u1 rfl) 2 u2 rfl) 3 u3 rfl, below_set (below_set (below_set (below_set hB (by omega)) (by omega)) (by omega)) (by omega)⟩
set_option maxRecDepth 20000 in
set_option maxHeartbeats 16000000 in
theorem law_Decode (A0 : Option Addr) (c0 : Nat) (l0 : List Int) (w : World) (hr0 : Kd.C (Kd.int .u8) w A0 l0.length l0) (hc0 : l0.length ≤ c0) (hbs : PageLaws.Bs l0) : Calls Try.prog 5 #[.slice A0 l0.length c0] w fun e w' => e = .returned (.bool true) ∧ Below w.heap.size w w' := by
 have HR := Aside0.mk hr0
 have HC := Aside0.mk hc0
 have HS := Aside0.mk hbs
 clear hr0 hc0 hbs
 by_cases d1 : l0.length ≤ 300
 ·have d1b : decide (300 < l0.length) = false := decide_eq_false (by omega)
  obtain ⟨⟨ra, rx, ry, rd_, re⟩, ⟨K1, q1⟩, ⟨K2, q2⟩, hx⟩ := PageLaws.decodes HS.out
  obtain ⟨K3, q3⟩ := PageLaws.same_ev (a := ra) (x := rx) (y := ry) (d := rd_) hx
  have E1 := Aside0.mk (q1 (K1 + K2 + K3) (by omega))
  have E2 := Aside0.mk (q2 (K1 + K2 + K3) (by omega))
  have E3 := Aside0.mk (q3 (K1 + K2 + K3) (by omega))
  clear q1 q2 q3 hx
  go_enter Try.func5, Try.ntmps5
  go_upto_region 4 with (first | ((with_reducible refine gate_dst (N := 16) rfl ?_); refine Kd.R_lit (Kd.int .u8) _ 5 ?hg (N := 16) ?hd (xs := ([] : List Int)) (inner := []) (ok := fun _ => True) (okp := fun _ => True) ?hr ?hp (fun _ hk => hk) trivial (Below.refl _ _) (Nat.le_refl _) (by simp) ?_; (case hd => rfl); (case hg => rfl); (case hr => first | (go_simp; done) | (go_simp; rfl)); (case hp => exact (Reps.none _ _)); intro v16 w1 ho hb hg_ hnew_; have R1 := Aside0.mk ho; have B1 := Aside0.mk hb; clear ho hb hg_ hnew_) | ((with_reducible refine gate_builtin (b := .append) (xs := #[.tmp 16, .tmp 17]) rfl ?_); at_builtin; refine Kd.R_append_rows (Kd.int .u8) (w0 := w) w.heap.size rfl (.tmp 16) (.tmp 17) 24 5 (.int .u8 0) 1 rfl Try.underlying24 info5 rfl (by decide) (by omega) v16 [] l0 _ _ _ (fun _ => True) (fun _ => False) rfl rfl ?aO ?aR (fun _ _ h => h) (fun _ h => h.elim) (fun _ _ => trivial) ?aB ?aS ?aL ?_; (case aO => exact R1.out); (case aR => exact Kd.C_below HR.out B1.out); (case aB => exact B1.out); (case aS => exact B1.out.size); (case aL => rw [List.length_nil]; omega); intro v18 w2 ho hb hg hat; rw [List.nil_append] at ho; have R2 := Aside0.mk ho; have B2 := Aside0.mk hb; clear ho hb hg hat R1 B1))
  obtain ⟨Ao, co, rfl⟩ := Kd.R_slice R2.out
  have CO := Aside0.mk (Kd.R_reads' R2.out)
  go_upto_region 5 with (first | (go_at_call 22; refine (page_Decode.calls (K1 + K2 + K3) Ao co l0 ra rx ry rd_ re _ CO.out.2.2 CO.out.2.1 E1.out).mono ?_; rintro e w3 ⟨v1, v3, rfl, hS, hR, hb⟩; have S3 := Aside0.mk (Kd.S_mono hS (ok' := fun _ => True) (fun _ _ => trivial)); have D3 := Aside0.mk hR; have B3 := Aside0.mk hb; clear hS hR hb; obtain ⟨A1, c1, rfl⟩ := Kd.S_slice S3.out; obtain ⟨A3, c3, rfl⟩ := Kd.R_slice D3.out) | ((with_reducible refine gate_dst (N := 4) rfl ?_); refine box_event ?hg (N := 4) ?hd (cs := #[.int .i64 0, .slice none 0 0, .int .i64 0, .slice none 0 0]) (t := 26) ?hr ?_; (case hd => rfl); (case hg => rfl); (case hr => first | (go_simp; done) | (go_simp; rfl)); intro g4 hg w4 hbox hb; have K4 := Aside0.mk hbox; have GK4 := Aside0.mk hg; have LK4 := Aside0.mk hb; clear hg hbox hb; have hcz0 : w4.cell? ⟨g4, 0, none⟩ = some (.int .i64 0) := (blk_cell K4.out 0).trans rfl; have hcz1 : w4.cell? ⟨g4, 1, none⟩ = some (.slice none 0 0) := (blk_cell K4.out 1).trans rfl; have hcz2 : w4.cell? ⟨g4, 2, none⟩ = some (.int .i64 0) := (blk_cell K4.out 2).trans rfl; have hcz3 : w4.cell? ⟨g4, 3, none⟩ = some (.slice none 0 0) := (blk_cell K4.out 3).trans rfl; have hfz0 := blk_frozen K4.out 0; have hfz1 := blk_frozen K4.out 1; have hfz2 := blk_frozen K4.out 2; have hfz3 := blk_frozen K4.out 3))
  clear hcz0 hcz1 hcz2 hcz3 hfz0 hfz1 hfz2 hfz3
  have X4 := Aside0.mk (box4 K4.out GK4.out LK4.out (.int .i64 ra) (.slice A1 rx.length c1) (.int .i64 ry) (.slice A3 rd_.length c3))
  generalize ((((w4.setCell ⟨g4, 0, none⟩ (.int .i64 ra)).setCell ⟨g4, 1, none⟩ (.slice A1 rx.length c1)).setCell ⟨g4, 2, none⟩ (.int .i64 ry)).setCell ⟨g4, 3, none⟩ (.slice A3 rd_.length c3)) = w5 at X4 ⊢
  clear K4 GK4 LK4
  have B5 := Aside0.mk (below_step B3.out X4.out.2)
  go_upto_region 6 with (first | (go_at_call 23; refine (marginaliaref20_Decode.calls (K1 + K2 + K3) A0 c0 l0 ra rx ry rd_ re _ (Kd.C_below HR.out (below_step B2.out B5.out)) HC.out E2.out).mono ?_; rintro e w6 ⟨v1, v3, rfl, hS, hR, hb⟩; have S6 := Aside0.mk (Kd.S_mono hS (ok' := fun _ => True) (fun _ _ => trivial)); have D6 := Aside0.mk hR; have B6 := Aside0.mk hb; clear hS hR hb; obtain ⟨A1', c1', rfl⟩ := Kd.S_slice S6.out; obtain ⟨A3', c3', rfl⟩ := Kd.R_slice D6.out) | ((with_reducible refine gate_dst (N := 6) rfl ?_); refine box_event ?hg (N := 6) ?hd (cs := #[.int .i64 0, .slice none 0 0, .int .i64 0, .slice none 0 0]) (t := 26) ?hr ?_; (case hd => rfl); (case hg => rfl); (case hr => first | (go_simp; done) | (go_simp; rfl)); intro g6 hg w7 hbox hb; have K6 := Aside0.mk hbox; have GK6 := Aside0.mk hg; have LK6 := Aside0.mk hb; clear hg hbox hb; have hcz0 : w7.cell? ⟨g6, 0, none⟩ = some (.int .i64 0) := (blk_cell K6.out 0).trans rfl; have hcz1 : w7.cell? ⟨g6, 1, none⟩ = some (.slice none 0 0) := (blk_cell K6.out 1).trans rfl; have hcz2 : w7.cell? ⟨g6, 2, none⟩ = some (.int .i64 0) := (blk_cell K6.out 2).trans rfl; have hcz3 : w7.cell? ⟨g6, 3, none⟩ = some (.slice none 0 0) := (blk_cell K6.out 3).trans rfl; have hfz0 := blk_frozen K6.out 0; have hfz1 := blk_frozen K6.out 1; have hfz2 := blk_frozen K6.out 2; have hfz3 := blk_frozen K6.out 3))
  clear hcz0 hcz1 hcz2 hcz3 hfz0 hfz1 hfz2 hfz3
  have X6 := Aside0.mk (box4 K6.out GK6.out LK6.out (.int .i64 ra) (.slice A1' rx.length c1') (.int .i64 ry) (.slice A3' rd_.length c3'))
  generalize ((((w7.setCell ⟨g6, 0, none⟩ (.int .i64 ra)).setCell ⟨g6, 1, none⟩ (.slice A1' rx.length c1')).setCell ⟨g6, 2, none⟩ (.int .i64 ry)).setCell ⟨g6, 3, none⟩ (.slice A3' rd_.length c3')) = w8 at X6 ⊢
  clear K6 GK6 LK6
  have B8 := Aside0.mk (below_step B6.out X6.out.2)
  have B38 := Aside0.mk (below_step X4.out.2 B8.out)
  have Y4 := Aside0.mk (blk_below X4.out.1 B8.out)
  have z0 : w8.cell? ⟨g4, 0, none⟩ = some (.int .i64 ra) := (blk_cell Y4.out 0).trans rfl
  have z1 : w8.cell? ⟨g4, 1, none⟩ = some (.slice A1 rx.length c1) := (blk_cell Y4.out 1).trans rfl
  have z2 : w8.cell? ⟨g4, 2, none⟩ = some (.int .i64 ry) := (blk_cell Y4.out 2).trans rfl
  have z3 : w8.cell? ⟨g4, 3, none⟩ = some (.slice A3 rd_.length c3) := (blk_cell Y4.out 3).trans rfl
  have y0 : w8.cell? ⟨g6, 0, none⟩ = some (.int .i64 ra) := (blk_cell X6.out.1 0).trans rfl
  have y1 : w8.cell? ⟨g6, 1, none⟩ = some (.slice A1' rx.length c1') := (blk_cell X6.out.1 1).trans rfl
  have y2 : w8.cell? ⟨g6, 2, none⟩ = some (.int .i64 ry) := (blk_cell X6.out.1 2).trans rfl
  have y3 : w8.cell? ⟨g6, 3, none⟩ = some (.slice A3' rd_.length c3') := (blk_cell X6.out.1 3).trans rfl
  have S8 := Aside0.mk (Kd.S_below S3.out B38.out)
  have D8 := Aside0.mk (Kd.R_below D3.out B38.out)
  have S8' := Aside0.mk (Kd.S_below S6.out X6.out.2)
  have D8' := Aside0.mk (Kd.R_below D6.out X6.out.2)
  go_upto_region 7 with (go_at_call 24; refine (marginaliaref20_Same.calls (K1 + K2 + K3) ra A1 c1 rx ry A3 c3 rd_ ra A1' c1' rx ry A3' c3' rd_ true _ (Kd.S_reads' S8.out).2.2 (Kd.S_reads' S8.out).2.1 (Kd.R_reads' D8.out).2.2 (Kd.R_reads' D8.out).2.1 (Kd.S_reads' S8'.out).2.2 (Kd.S_reads' S8'.out).2.1 (Kd.R_reads' D8'.out).2.2 (Kd.R_reads' D8'.out).2.1 E3.out).mono ?_; rintro e w9 ⟨rfl, hb⟩; have B9 := Aside0.mk hb; clear hb)
  clear z0 z1 z2 z3 y0 y1 y2 y3
  have Y9 := Aside0.mk (blk_below Y4.out B9.out)
  have S9 := Aside0.mk (Kd.S_below S8.out B9.out)
  have D9 := Aside0.mk (Kd.R_below D8.out B9.out)
  have L9 := Aside0.mk (below_step (below_step (below_step B3.out X4.out.2) B8.out) B9.out)
  obtain ⟨n3, hn3⟩ : ∃ n3, n3 = rd_.length := ⟨_, rfl⟩
  obtain ⟨n1, hn1⟩ : ∃ n1, n1 = rx.length := ⟨_, rfl⟩
  rw [← hn3, ← hn1] at Y9
  rw [← hn3] at D9
  rw [← hn1] at S9
  have F3 := Aside0.mk (row_fact D9.out)
  have m3 := F3.out.1
  have m1 := Kd.C_max (Kd.S_reads' S9.out).2.2
  have hn1' : n1 ≤ 9223372036854775807 := by rw [hn1]; exact m1
  clear m1
  have HN3 := Aside0.mk hn3
  have HN1 := Aside0.mk hn1
  clear hn3 hn1 Y4
  go_wp2
  go_loopw [9] (fun v9 wr => ∃ i : Nat, v9 = .int .i64 (i : Int) ∧ i ≤ n3 ∧ Aside0 (k5 w9 wr) ∧ Aside0 (Below w2.heap.size w2 wr)) (fun v9 _ => n3 - (intOf v9).toNat)
  case atStart => exact ⟨0, rfl, Nat.zero_le _, ⟨k5_refl _⟩, L9⟩
  case round =>
   obtain ⟨i, rfl, hi, HK, HL⟩ := hrel
   have z3 : wr.cell? ⟨g4, 3, none⟩ = some (.slice A3 n3 c3) := (blk_cell (k5_blk HK.out Y9.out (by decide)) 3).trans rfl
   by_cases e1 : i < n3
   ·have e1b : decide (i < n3) = true := decide_eq_true e1
    obtain ⟨q, rfl, hq, cells, hc, hy⟩ := F3.out.2 (by omega)
    obtain ⟨y, hy⟩ := hy i e1
    obtain ⟨⟨x, hx⟩, hf⟩ := k5_cell HK.out hc hy
    have NK := Aside0.mk (k5_set HK.out hc i (.int .u8 7))
    have NL := Aside0.mk (below_set (j := i) (v := .int .u8 7) HL.out hq)
    clear hy hc hq
    go_wp2
    go_roundw
    case rel => exact ⟨i + 1, by go_num, by omega, NK, NL⟩
    case measure => simp [intOf]; omega
   ·have e1b : decide (i < n3) = false := decide_eq_false e1
    go_wp2
    clear z3
    go_loopw [10] (fun v10 wr => ∃ i : Nat, v10 = .int .i64 (i : Int) ∧ i ≤ n1 ∧ Aside0 (k5 w9 wr) ∧ Aside0 (Below w2.heap.size w2 wr)) (fun v10 _ => n1 - (intOf v10).toNat)
    case atStart => exact ⟨0, rfl, Nat.zero_le _, HK, HL⟩
    case round =>
     clear HK HL
     obtain ⟨j, rfl, hj, HK, HL⟩ := hrel
     have z1 : wr.cell? ⟨g4, 1, none⟩ = some (.slice A1 n1 c1) := (blk_cell (k5_blk HK.out Y9.out (by decide)) 1).trans rfl
     by_cases e2 : j < n1
     ·have e2b : decide (j < n1) = true := decide_eq_true e2
      obtain ⟨ad, A2, m, c2, rfl, hit, hm, hrow⟩ := items_fact S9.out j e2
      have IT := Aside0.mk hit
      have RW_ := Aside0.mk hrow
      clear hit hrow
      go_wp2
      clear z1
      go_loopw [11] (fun v11 wr => ∃ i : Nat, v11 = .int .i64 (i : Int) ∧ i ≤ m ∧ Aside0 (k5 w9 wr) ∧ Aside0 (Below w2.heap.size w2 wr)) (fun v11 _ => m - (intOf v11).toNat)
      case atStart => exact ⟨0, rfl, Nat.zero_le _, HK, HL⟩
      case round =>
       clear HK HL
       obtain ⟨t, rfl, ht, HK, HL⟩ := hrel
       have z1 : wr.cell? ⟨g4, 1, none⟩ = some (.slice (some ad) n1 c1) := (blk_cell (k5_blk HK.out Y9.out (by decide)) 1).trans rfl
       have z2 := IT.out wr HK.out
       by_cases e3 : t < m
       ·have e3b : decide (t < m) = true := decide_eq_true e3
        obtain ⟨q, rfl, hq, cells, hc, hy⟩ := RW_.out (by omega)
        obtain ⟨y, hy⟩ := hy t e3
        obtain ⟨⟨x, hx⟩, hf⟩ := k5_cell HK.out hc hy
        have NK := Aside0.mk (k5_set HK.out hc t (.int .u8 7))
        have NL := Aside0.mk (below_set (j := t) (v := .int .u8 7) HL.out hq)
        clear hy hc hq
        go_wp2
        go_roundw
        case rel => exact ⟨t + 1, by go_num, by omega, NK, NL⟩
        case measure => simp [intOf]; omega
       ·have e3b : decide (t < m) = false := decide_eq_false e3
        go_wp2
        go_roundw
        case rel => exact ⟨j + 1, by go_num, by omega, HK, HL⟩
        case measure => simp [intOf]; omega
     ·have e2b : decide (j < n1) = false := decide_eq_false e2
      go_wp2_with (go_at_call 15; refine (marginalialaw20_alive.calls true _ rfl).mono ?_; rintro e wf ⟨rfl, hb⟩; have BF := Aside0.mk (below_step HL.out hb); have hcv1 := Kd.C_string (P := Try.prog) (A := Ao) (c := co) Try.underlying24 Try.underlying5 Try.underlying9 (Kd.C_below CO.out.2.2 BF.out); have hcv2 := Kd.C_string (P := Try.prog) (A := A0) (c := c0) Try.underlying24 Try.underlying5 Try.underlying9 (Kd.C_below HR.out (below_step B2.out BF.out)); clear hb)
      go_ret
      exact ⟨by simp, below_step B2.out BF.out⟩
 ·have d1b : decide (300 < l0.length) = true := decide_eq_true (by omega)
  go_enter Try.func5, Try.ntmps5
  go_wp2_with (go_at_call 15; refine (marginalialaw20_alive.calls true _ rfl).mono ?_; rintro e w1 ⟨rfl, hb⟩; have B1 := Aside0.mk hb; clear hb)
  go_ret
  exact ⟨rfl, B1.out⟩
def marginalialaw20_PageDecode.f (l0 : List Int) : Option (Bool) := if l0.all (fun x => decide (0 ≤ x ∧ x < 256)) = true then some true else none
theorem marginalialaw20_PageDecode.calls (A0 : Option Addr) (c0 : Nat) (l0 : List Int) (r : Bool) (w : World) (hr0 : Kd.C (Kd.int .u8) w A0 l0.length l0) (hc0 : l0.length ≤ c0) (h : marginalialaw20_PageDecode.f l0 = some r) :
  Calls Try.prog 5 #[.slice A0 l0.length c0] w fun e w' => e = .returned (.bool r) ∧ Below w.heap.size w w' := by
 unfold marginalialaw20_PageDecode.f at h
 split at h
 ·rename_i hb
  obtain rfl := Option.some.inj h
  exact law_Decode A0 c0 l0 w hr0 hc0 (fun x hx => by simpa using List.all_eq_true.1 hb x hx)
 ·cases h

end Go.Proofs.Ytnkaidaflegnlaa.G
