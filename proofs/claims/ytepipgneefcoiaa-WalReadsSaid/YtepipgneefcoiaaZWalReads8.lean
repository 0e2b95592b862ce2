/- What the law WalReads rests on, part 8: words on memory, the functions that it reaches as plain Lean functions with the proofs that the machine's calls come to them, and the mathematics; no condition beyond those that each theorem names. -/
import Derived.Test.YtepipgneefcoiaaZWalReads7
set_option linter.unusedVariables false
set_option linter.unusedSimpArgs false
namespace Go.Proofs.Ytepipgneefcoiaa.D
open Go.RowKit Go.Proofs.YtepipgneefcoiaaW.PrintWords Go.Proofs.YtepipgneefcoiaaW.PrintLast Go.Proofs.YtepipgneefcoiaaW.PrintMore
structure Rs (n j : Nat) (s : Dk) (F : List ByteArray) (P : List S111) (le : Int) (fu of : Bool) : Prop where
  rl : Rl s F P le fu of
  nb : s.nb = n
  pd : s.pend.length ≤ 4 * j
  o : s.of = false
  f : s.fu = false
  by_ : CrcK.Bytes s.now
theorem Rl_Sx {s : Dk} {F : List ByteArray} {P : List S111} {le : Int} {fu of : Bool} (h : Rl s F P le fu of) : Sx s := by
 refine ⟨h.nw, fun y hy => ?_⟩
 have h1 := h.al y hy
 have h2 := h.nw.1.pend y hy
 unfold psx
 omega
theorem sp8_bytes {L X : List Int} {o : Nat} (hL : CrcK.Bytes L) (hX : CrcK.Bytes X) : CrcK.Bytes (sp8 L o X) := by
 intro x hx
 unfold sp8 at hx
 rcases List.mem_append.1 hx with hx | hx
 · rcases List.mem_append.1 hx with hx | hx
   · exact hL x (List.mem_of_mem_take hx)
   exact hX x hx
 exact hL x (List.mem_of_mem_drop hx)
theorem Rs_step {n j : Nat} {s : Dk} {F : List ByteArray} {P : List S111} {le : Int} {fu of : Bool} (h : Rs n j s F P le fu of) (hj : j < n) (hn : n ≤ 12) {B : List Int} (hB : B.length = 256) (hBy : CrcK.Bytes B) : ∃ s' F' P' le' fu' of', wrx s (j : Int) B = (s', 0) ∧ marginaliaref14_Write.f 1000 F P le fu of (j : Int) B = some (F', P', le', fu', of', 0) ∧ Rs n (j + 1) s' F' P' le' fu' of' := by
 have hp := h.pd
 obtain ⟨F', P', le', fu', of', w1, w2⟩ := Write_ev h.rl (by omega) 1000 (by omega) (j : Int) B
 obtain ⟨⟨s', e'⟩, hx⟩ : ∃ q, wrx s (j : Int) B = q := ⟨_, rfl⟩
 rw [hx] at w1 w2
 obtain ⟨q1, q2, q3, q4, q5⟩ := wrx_sec (Rl_Sx h.rl) (by rw [h.nb]; exact hj) hB hx
 obtain ⟨e0, o1, o2⟩ := q4 h.o h.f
 subst e0
 refine ⟨s', F', P', le', fu', of', hx, w1, w2, q2.trans h.nb, by omega, o1, o2, ?_⟩
 rcases q5 with ⟨_, q6, _⟩ | ⟨e9, _⟩
 · rw [q6]
   exact sp8_bytes h.by_ hBy
 cases e9
theorem bx4r {W : World} {g T : Nat} {a b c d : Value} (h : W.heap[g]? = some (.cells #[a, b, c, d] T (0, 0))) : W.cell? ⟨g, 0, none⟩ = some a ∧ W.cell? ⟨g, 1, none⟩ = some b ∧ W.cell? ⟨g, 2, none⟩ = some c ∧ W.cell? ⟨g, 3, none⟩ = some d :=
  ⟨(blk_cell h 0).trans rfl, (blk_cell h 1).trans rfl, (blk_cell h 2).trans rfl, (blk_cell h 3).trans rfl⟩
theorem B_kept {w W : World} {b0 base : Nat} {ok : Nat → Prop} {u0 u1 v : Value} {F : List ByteArray} {P : List S111} {B : List Int} (h4 : Kd.R Kd.string 9 w b0 (fun k => some k = u0.ownBlock) u0 F) (h5 : Kd.R k111 111 w b0 (fun k => some k = u1.ownBlock) u1 P) (hR : Kd.R (Kd.int .u8) 5 w base ok v B) (hk : Kept w W (fun k => some k = u0.ownBlock ∨ some k = u1.ownBlock)) : Kd.R (Kd.int .u8) 5 W base (fun k => some k = v.ownBlock) v B := by
 refine Kd.R_step (Kd.R_tight rfl hR) (fun k hk1 hlt => hk.2 k hlt (fun e => ?_))
 obtain ⟨c, hc⟩ := Kd.R_typed hR k hk1.symm
 rcases e with e | e
 · obtain ⟨c', hc'⟩ := Kd.R_typed h4 k e.symm
   exact blk_ne hc hc' (by decide) rfl
 obtain ⟨c', hc'⟩ := Kd.R_typed h5 k e.symm
 exact blk_ne hc hc' (by decide) rfl
theorem B_store {w : World} {base g : Nat} {ok : Nat → Prop} {v : Value} {B : List Int} {X : Array Value} (hR : Kd.R (Kd.int .u8) 5 w base ok v B) (h3 : w.heap[g]? = some (.cells X 51 (0, 0))) (a b c d e : Value) : Kd.R (Kd.int .u8) 5 (((((w.setCell ⟨g, 0, none⟩ a).setCell ⟨g, 1, none⟩ b).setCell ⟨g, 2, none⟩ c).setCell ⟨g, 3, none⟩ d).setCell ⟨g, 4, none⟩ e) base (fun k => some k = v.ownBlock) v B := by
 refine Kd.R_step (Kd.R_tight rfl hR) (fun k hk1 hlt => ?_)
 obtain ⟨c', hc⟩ := Kd.R_typed hR k hk1.symm
 have hne : k ≠ g := fun e => by
   subst e
   exact blk_ne hc h3 (by decide) rfl
 exact (Below.heap_setCell _ ⟨g, 4, none⟩ _ k hne).trans ((Below.heap_setCell _ ⟨g, 3, none⟩ _ k hne).trans ((Below.heap_setCell _ ⟨g, 2, none⟩ _ k hne).trans ((Below.heap_setCell _ ⟨g, 1, none⟩ _ k hne).trans (Below.heap_setCell _ ⟨g, 0, none⟩ _ k hne))))
theorem prs_bound {ep : Int} : ∀ (f : Nat) (cs : List S106) (least : Int), (∀ c ∈ cs, CellOk c) → (prs ep f cs least).2 ≤ cs.length ∧ (prs ep f cs least).1.length ≤ (prs ep f cs least).2 ∧ ∀ r ∈ (prs ep f cs least).1, r.length ≤ 39 * cs.length
  | 0, cs, least, h => ⟨Nat.zero_le _, Nat.le_refl _, fun r hr => by cases hr⟩
  | f + 1, cs, least, h => by
    have stop : prs ep (f + 1) cs least = ([], 0) → (prs ep (f + 1) cs least).2 ≤ cs.length ∧ (prs ep (f + 1) cs least).1.length ≤ (prs ep (f + 1) cs least).2 ∧ ∀ r ∈ (prs ep (f + 1) cs least).1, r.length ≤ 39 * cs.length := fun e => by
      rw [e]
      exact ⟨Nat.zero_le _, Nat.le_refl _, fun r hr => by cases hr⟩
    cases hr : rec1 cs ep with
    | none => exact stop (by unfold prs; rw [hr])
    | some t =>
      obtain ⟨b, li, n⟩ := t
      by_cases c : li < least
      · exact stop (by unfold prs; rw [hr]; exact if_pos c)
      · have hp : prs ep (f + 1) cs least = (b :: (prs ep f (cs.drop n) li).1, n + (prs ep f (cs.drop n) li).2) := by
          rw [prs, hr]
          dsimp only
          rw [if_neg c]
        have hle := rec1_le hr
        have h3 : 0 ≤ (rd_T106 cs 0).f3 := by
          by_cases c : 0 < cs.length
          · have := rd106_at c
            rw [show ((0 : Nat) : Int) = 0 from rfl] at this
            rw [this]
            exact (h _ (List.getElem_mem c)).f3
          · have : cs = [] := List.eq_nil_of_length_eq_zero (by omega)
            rw [this]
            decide
        obtain ⟨e1, e2, e3⟩ := rec1_some hr h3
        have hpos := mny_pos e2
        obtain ⟨q1, q2, q3⟩ := prs_bound f (cs.drop n) li (fun c hc => h c (List.mem_of_mem_drop hc))
        rw [List.length_drop] at q1 q3
        rw [hp]
        refine ⟨?_, ?_, fun r hr => ?_⟩
        · exact q_add hle q1
        · have hn0 : 1 ≤ n := by rw [e1]; exact hpos
          exact Nat.le_trans (Nat.add_le_add q2 hn0) (Nat.le_of_eq (Nat.add_comm ..))
        · rcases List.mem_cons.1 hr with rfl | hr
          · have : mny r = (r.length + 38) / 39 := rfl
            omega
          · have := q3 r hr
            omega
theorem reads_no {n : Nat} {s : Dk} {F : List ByteArray} {P : List S111} {le : Int} {fu of : Bool} (h : Rs n n s F P le fu of) (hn : n ≤ 12) (a1 a2 a3 : Int) (h1 : -9223372036854775808 ≤ a1 ∧ a1 ≤ 9223372036854775807) (h2 : -9223372036854775808 ≤ a2 ∧ a2 ≤ 9223372036854775807) (hbad : (a1 < 0 ∨ a2 < 1 ∨ a2 > (s.nb : Int) ∨ a1 > (s.nb : Int) - a2) ∨ lmax ((secL s.now (a1.toNat * 4) (a2.toNat * 4)).map decZ) = 18446744073709551615) :
    ∃ (E : Int) (k : Nat), E ≠ 0 ∧ marginaliaref17_Open.f k F P le fu of a1 a2 a3 = some (0, 0, 0, 0, 0, [], false, E) ∧ ∀ (w0 W : World) (q : Nat), J w0 W q s → Calls Try.prog 35 #[.pointer (some ⟨q, 0, none⟩), .int .i64 a1, .int .i64 a2, .int .u64 a3] W fun e W' => e = .returned (.tuple #[.pointer none, .int .i64 E]) ∧ Below W.heap.size W W' := by
  have hnb := h.nb
  obtain ⟨k, hk⟩ := open_ev h.rl (by have := h.pd; omega) (by omega) h.by_ a1 a2 a3 h1 h2
  have hk := hk k (Nat.le_refl _)
  have hof : of = false := h.rl.of.trans h.o
  by_cases c : a1 < 0 ∨ a2 < 1 ∨ a2 > (s.nb : Int) ∨ a1 > (s.nb : Int) - a2
  · rw [if_pos c] at hk
    exact ⟨1, k, by decide, hk, fun w0 W q hJ => L_OpenArg (J_JO hJ) (by omega) a1 a2 a3 h1 h2 c⟩
  · have hl := hbad.resolve_left c
    rw [if_neg c, hof, if_neg (by simp)] at hk
    unfold o17 at hk
    rw [if_pos hl] at hk
    rw [hof]
    refine ⟨8, k, by decide, hk, fun w0 W q hJ => ?_⟩
    obtain ⟨x, hx⟩ : ∃ x : Nat, a1 = (x : Int) := ⟨a1.toNat, by omega⟩
    obtain ⟨y, hy⟩ : ∃ y : Nat, a2 = (y : Int) := ⟨a2.toNat, by omega⟩
    subst hx hy
    rw [Int.toNat_natCast, Int.toNat_natCast] at hl
    refine L_Open0 (J_JO hJ) (fun _ => False) (fun _ hk => hk.elim) h.by_ h.o x y a3 (by omega) (by omega) (by omega) _ rfl _ (fun _ w' hb => ⟨rfl, hb⟩) (fun hlt => by omega)
theorem reads_ok {n : Nat} {s : Dk} {F : List ByteArray} {P : List S111} {le : Int} {fu of : Bool} (h : Rs n n s F P le fu of) (hn : n ≤ 12) (a1 a2 a3 : Int) (h1 : -9223372036854775808 ≤ a1 ∧ a1 ≤ 9223372036854775807) (h2 : -9223372036854775808 ≤ a2 ∧ a2 ≤ 9223372036854775807) (hgood : ¬ (a1 < 0 ∨ a2 < 1 ∨ a2 > (s.nb : Int) ∨ a1 > (s.nb : Int) - a2)) (hlm : lmax ((secL s.now (a1.toNat * 4) (a2.toNat * 4)).map decZ) ≠ 18446744073709551615) :
    ∃ (l : Wl) (k : Nat), marginaliaref17_Open.f k F P le fu of a1 a2 a3 = some ((l.fi : Int), (l.si : Int), l.ep, l.li, (l.en : Int), l.rs, false, 0) ∧ l.ep = a3 ∧ l.br = false ∧ l.si ≤ 12 ∧ l.en ≤ l.si * 4 ∧ l.rs.length ≤ 100 ∧ (∀ r ∈ l.rs, r.length ≤ 10000) ∧ ∀ (w0 W : World) (q : Nat), J w0 W q s → Calls Try.prog 35 #[.pointer (some ⟨q, 0, none⟩), .int .i64 a1, .int .i64 a2, .int .u64 a3] W fun e W' => ∃ p O', e = .returned (.tuple #[.pointer (some ⟨p, 0, none⟩), .int .i64 0]) ∧ LG w0 p q l s O' W' ∧ Below W.heap.size W W' := by
  have hnb := h.nb
  obtain ⟨k, hk⟩ := open_ev h.rl (by have := h.pd; omega) (by omega) h.by_ a1 a2 a3 h1 h2
  have hk := hk k (Nat.le_refl _)
  have hof : of = false := h.rl.of.trans h.o
  rw [if_neg hgood, hof, if_neg (by simp)] at hk
  unfold o17 at hk
  rw [if_neg hlm] at hk
  obtain ⟨x, hx⟩ : ∃ x : Nat, a1 = (x : Int) := ⟨a1.toNat, by omega⟩
  obtain ⟨y, hy⟩ : ∃ y : Nat, a2 = (y : Int) := ⟨a2.toNat, by omega⟩
  subst hx hy
  rw [Int.toNat_natCast, Int.toNat_natCast] at hk hlm
  have hRows := sec_rows (fi := x) (si := y) h.rl.nw h.by_ (by omega) (by omega)
  have hco := cellsok hRows
  obtain ⟨cs, hcs⟩ : ∃ cs, cs = (secL s.now (x * 4) (y * 4)).map decZ := ⟨_, rfl⟩
  rw [← hcs] at hk hlm hco
  have hlen : cs.length = y * 4 := by rw [hcs, List.length_map, secL_len]
  obtain ⟨b1, b2, b3⟩ := prs_bound (ep := a3) (cs.length + 1) cs 0 hco
  have hy12 : y ≤ 12 := by omega
  have hc48 : cs.length ≤ 48 := by rw [hlen]; omega
  refine ⟨⟨x, y, a3, lmax cs + 1, (prs a3 (cs.length + 1) cs 0).2, (prs a3 (cs.length + 1) cs 0).1, false, fun _ => False⟩, k, by rw [hof]; exact hk, rfl, rfl, hy12, Nat.le_trans b1 (Nat.le_of_eq hlen), Nat.le_trans b2 (Nat.le_trans b1 (Nat.le_trans hc48 (by decide))), fun r hr => Nat.le_trans (b3 r hr) (Nat.le_trans (Nat.mul_le_mul_left 39 hc48) (by decide)), fun w0 W q hJ => ?_⟩
  refine L_Open0 (J_JO hJ) (fun _ => False) (fun _ hk => hk.elim) h.by_ h.o x y a3 (by omega) (by omega) (by omega) cs hcs _ (fun e => absurd e hlm) (fun _ p w' l e hG _ hb => ?_)
  subst e
  exact ⟨p, _, rfl, hG, hb⟩
theorem same17_lr (l : List (List Int)) (hl : l.length ≤ 100000) : ∀ m j : Nat, j + m = l.length → ∃ k, marginaliaref17_Same.l0 k l l (j : Int) = some true
  | 0, j, hj => ⟨1, by unfold marginaliaref17_Same.l0; rw [if_neg (by omega)]⟩
  | m + 1, j, hj => by
    obtain ⟨k, hk⟩ := same17_lr l hl m (j + 1) (by omega)
    refine ⟨k + 1, ?_⟩
    unfold marginaliaref17_Same.l0
    rw [if_pos (by omega), if_pos (by omega), if_pos (by omega), if_pos rfl, show wrap64 ((j : Int) + 1) = ((j + 1 : Nat) : Int) by unfold wrap64; omega]
    exact hk
theorem same17r (l : List (List Int)) (hl : l.length ≤ 100000) : ∃ k, marginaliaref17_Same.f k l l = some true := by
 obtain ⟨k, hk⟩ := same17_lr l hl l.length 0 (by omega)
 exact ⟨k, by unfold marginaliaref17_Same.f; rw [if_pos rfl]; exact hk⟩
theorem K_samer {W : World} {A8 A9 : Option Addr} {k c8 c9 b8 b9 : Nat} {o8 o9 : Nat → Prop} {rs : List (List Int)} (hk : k = rs.length) (hl : rs.length ≤ 1000) (hR : Kd.R kL 27 W b8 o8 (.slice A8 k c8) rs) (hR9 : Kd.R kL 27 W b9 o9 (.slice A9 k c9) rs) :
    Calls Try.prog 38 #[.slice A8 k c8, .slice A9 k c9] W fun e W' => e = .returned (.bool true) ∧ Drawn0 W W' := by
 subst hk
 obtain ⟨m, hm⟩ := same17r rs (by omega)
 obtain ⟨_, h2, h3⟩ := Kd.R_reads' hR
 obtain ⟨_, h4, h5⟩ := Kd.R_reads' hR9
 exact marginaliaref17_Same.calls m A8 c8 rs A9 c9 rs true W h3 h2 h5 h4 hm
theorem K_Recordsr {w1 W : World} {p q : Nat} {l : Wl} {s : Dk} {O : Nat → Prop} {m : Nat} {rs : List (List Int)} (h : LG w1 p q l s O W) (hm : m = rs.length) (hrs : l.rs = rs) (hl : rs.length ≤ 1000) (hr : ∀ r ∈ rs, r.length ≤ 10000) :
    Calls Try.prog 39 #[.pointer (some ⟨p, 0, none⟩)] W fun e W' => ∃ (A : Option Addr) (c : Nat), e = .returned (.slice A m c) ∧ Kd.R kL 27 W' W.heap.size (fun _ => True) (.slice A m c) rs ∧ Below W.heap.size W W' := by
 subst hrs
 refine (L_Records h (by omega) (fun r hr' => by have := hr r hr'; omega)).mono ?_
 rintro e w' ⟨A, n, c, rfl, hn, hR, hb⟩
 have e : n = m := hn.trans hm.symm
 subst e
 exact ⟨A, c, rfl, hR, hb⟩
theorem room17 {l : Wl} {rm : Int} (hbr : l.br = false) (hs : l.si ≤ 12) (he : l.en ≤ l.si * 4) (hr : rm = rmx l) : marginaliaref17_Room.f (l.fi : Int) (l.si : Int) l.ep l.li (l.en : Int) l.rs false = some rm := by
 obtain ⟨si, hsi⟩ : ∃ si, si = l.si := ⟨_, rfl⟩
 obtain ⟨en, hen⟩ : ∃ en, en = l.en := ⟨_, rfl⟩
 unfold rmx at hr
 rw [hbr, if_neg (by simp)] at hr
 rw [← hsi, ← hen] at hr
 rw [← hsi] at hs
 rw [← hsi, ← hen] at he
 have f1 : wrap64 ((si : Int) * 4) = (si : Int) * 4 := by unfold wrap64; omega
 have f2 : wrap64 ((si : Int) * 4 - (en : Int)) = (si : Int) * 4 - (en : Int) := by unfold wrap64; omega
 have f3 : wrap64 (((si : Int) * 4 - (en : Int)) * 39) = ((si : Int) * 4 - (en : Int)) * 39 := by unfold wrap64; omega
 unfold marginaliaref17_Room.f
 rw [← hsi, ← hen, if_neg (by simp), f1, f2, f3, hr]
theorem R_Room {W : World} {l : Wl} {A : Option Addr} {m c base : Nat} {ok : Nat → Prop} {rm : Int} (hV : Kd.R kL 27 W base ok (.slice A m c) l.rs) (hm : m = l.rs.length) (hr : marginaliaref17_Room.f (l.fi : Int) (l.si : Int) l.ep l.li (l.en : Int) l.rs false = some rm) :
    Calls Try.prog 41 #[.agg #[.int .i64 (l.fi : Int), .int .i64 (l.si : Int), .int .u64 l.ep, .int .u64 l.li, .int .i64 (l.en : Int), .slice A m c, .bool false]] W fun e w' => e = .returned (.int .i64 rm) ∧ Below W.heap.size W w' := by
 subst hm
 obtain ⟨_, h2, h3⟩ := Kd.R_reads' hV
 exact marginaliaref17_Room.calls (l.fi : Int) (l.si : Int) l.ep l.li (l.en : Int) A c l.rs false rm W h3 h2 hr
theorem wrap_up {n j : Nat} (h : j < n) (hn : n ≤ 12) : wrap64 ((j : Int) + 1) = ((j + 1 : Nat) : Int) := by unfold wrap64; omega
theorem meas_up {n j : Nat} (h : j < n) (hn : n ≤ 12) : n - (intOf (.int .i64 (wrap64 ((j : Int) + 1)))).toNat < n - (intOf (.int .i64 (j : Int))).toNat := by
 rw [wrap_up h hn]
 have e1 : (intOf (.int .i64 (((j + 1 : Nat) : Int)))).toNat = j + 1 := by show (((j + 1 : Nat) : Int)).toNat = j + 1; omega
 have e2 : (intOf (.int .i64 (j : Int))).toNat = j := by show ((j : Int)).toNat = j; omega
 rw [e1, e2]
 omega
theorem num_up {n j : Nat} (h : j < n) (hn : n ≤ 12) : (Value.int .i64 (wrap64 ((j : Int) + 1))) = .int .i64 ((j + 1 : Nat) : Int) := by rw [wrap_up h hn]
end Go.Proofs.Ytepipgneefcoiaa.D
namespace Go.Proofs.Ytepipgneefcoiaa.D
open Go.RowKit Go.Proofs.YtepipgneefcoiaaW.PrintWords Go.Proofs.YtepipgneefcoiaaW.PrintLast Go.Proofs.YtepipgneefcoiaaW.PrintMore
set_option maxRecDepth 20000 in
set_option maxHeartbeats 40000000 in
theorem law_WReads (a0 a1 a2 a3 : Int) (A1 : Option Addr) (c1 : Nat) (l1 : List S106) (w : World) (hr1 : Kd.C k106 w A1 l1.length l1) (hc1 : l1.length ≤ c1) (hb : (-9223372036854775808 ≤ a0 ∧ a0 ≤ 9223372036854775807) ∧ (-9223372036854775808 ≤ a1 ∧ a1 ≤ 9223372036854775807) ∧ (-9223372036854775808 ≤ a2 ∧ a2 ≤ 9223372036854775807) ∧ (0 ≤ a3 ∧ a3 < 18446744073709551616) ∧ (∀ x ∈ l1, (0 ≤ x.f0 ∧ x.f0 < 18446744073709551616) ∧ (0 ≤ x.f1 ∧ x.f1 < 18446744073709551616) ∧ (-9223372036854775808 ≤ x.f2 ∧ x.f2 ≤ 9223372036854775807) ∧ (-9223372036854775808 ≤ x.f3 ∧ x.f3 ≤ 9223372036854775807) ∧ (∀ b ∈ x.f4, 0 ≤ b ∧ b < 256))) : Calls Try.prog 9 #[.agg #[.int .i64 a0, .int .i64 a1, .int .i64 a2, .int .u64 a3], .slice A1 l1.length c1] w fun e w' => e = .returned (.bool true) ∧ Below w.heap.size w w' := by
 have HR1 := Aside0.mk hr1
 have HC1 := Aside0.mk hc1
 have HB4 := Aside0.mk (show ∀ x ∈ l1, CrcK.Bytes x.f4 from fun x hx y hy => by have := (hb.2.2.2.2 x hx).2.2.2.2 y hy; omega)
 have HA1 := Aside0.mk hb.2.1
 have HA2 := Aside0.mk hb.2.2.1
 obtain ⟨r, hr, hr8⟩ := pick17 a0 12 (by omega) (by omega)
 have PK := Aside0.mk hr
 obtain ⟨n, hn⟩ : ∃ n : Nat, n = 1 + r := ⟨_, rfl⟩
 have e1 : wrap64 (1 + (r : Int)) = ((n : Nat) : Int) := by unfold wrap64; omega
 have N1 := Aside0.mk (show 1 ≤ n ∧ n ≤ 12 by omega)
 obtain ⟨F0, hF, hRl⟩ := New_ev n N1.out.1 (by have := N1.out.2; omega) 1000 (by have := N1.out.2; omega)
 have HF := Aside0.mk hF
 have I0 := Aside0.mk (show Rs n 0 (new8 n) F0 [] 0 false false from ⟨hRl, rfl, Nat.zero_le _, rfl, rfl, zeros_bytes _⟩)
 have hu61 := Try.underlying61
 have hu51 := Try.underlying51
 have hu69 := Try.underlying69
 clear hr1 hc1 hb hr hr8 hn hF hRl
 go_enter Try.func9, Try.ntmps9
 go_upto_region 4 with (first
   | ((with_reducible refine gate_dst (N := 2) rfl ?_); refine bx 2 #[.int .i64 a0, .int .i64 a1, .int .i64 a2, .int .u64 a3] 61 ?_; intro g2 hg w1 hbox hb; have B1 := Aside0.mk hb; have X1 := Aside0.mk hbox; obtain ⟨y0, y1, y2, y3⟩ := bx4r hbox; clear hbox hg hb)
   | (go_at_call 32; refine (marginalialaw17_pick.calls a0 12 _ _ PK.out).mono ?_; rintro e w2 ⟨rfl, hb⟩; have B2 := Aside0.mk (below_step B1.out (drawn_below hb)); have X2 := Aside0.mk (blk_below X1.out (drawn_below hb)); clear hb y0 y1 y2 y3 X1 B1)
   | (go_at_call 14; refine (J_New _ n N1.out.1 (by have := N1.out.2; omega)).mono ?_; rintro e w3 ⟨q, rfl, hJ⟩; have J3 := Aside0.mk (show J w2 w3 q (new8 n) from hJ); have X3 := Aside0.mk (blk_below X2.out (J_below hJ)); clear hJ X2)
   | (go_at_call 28; refine (marginaliaref14_New.calls 1000 (n : Int) F0 [] 0 false false 0 _ HF.out).mono ?_; rintro e w4 ⟨v0, v1, rfl, r0, r1, hb⟩; obtain ⟨A0, c0, rfl⟩ := Kd.R_slice r0; obtain ⟨A2, c2, rfl⟩ := Kd.R_slice r1; have J4 := Aside0.mk (And.intro (J_deep J3.out hb) (And.intro r0 r1)); have X4 := Aside0.mk (blk_below X3.out hb); clear r0 r1 hb X3))
 have K4 := Aside0.mk (JM_new B2.out J3.out J4.out.1 J4.out.2.1 J4.out.2.2)
 have X5 := Aside0.mk (blk_below X4.out (below_alloc (Below.refl w4.heap.size w4) (.cells #[.slice A0 F0.length c0, .slice A2 ([] : List S111).length c2, .int .i64 0, .bool false, .bool false] 51)))
 obtain ⟨g8, hg8⟩ : ∃ g, g = w4.heap.size := ⟨_, rfl⟩
 rw [← hg8] at K4 ⊢
 clear J3 J4 X4 hg8 e1 PK HF
 go_wp2
 go_loopw [9, 10, 11] (fun v9 v10 v11 wr => ∃ (j : Nat) (s : Dk) (F : List ByteArray) (P : List S111) (le : Int) (fu of : Bool), v10 = .int .i64 (j : Int) ∧ j ≤ n ∧ Aside0 (Rs n j s F P le fu of) ∧ Aside0 (JM w wr q g8 s F P le fu of) ∧ Aside0 (wr.heap[g2]? = some (.cells #[.int .i64 a0, .int .i64 a1, .int .i64 a2, .int .u64 a3] 61 (0, 0)))) (fun v9 v10 v11 _ => n - (intOf v10).toNat)
 case atStart => exact ⟨0, _, F0, [], 0, false, false, rfl, Nat.zero_le _, I0, K4, X5⟩
 clear K4 X5 I0
 obtain ⟨j, s, F, P, le, fu, of, rfl, hj, HI, HJ, HX⟩ := hrel
 by_cases d1 : j < n
 · have d1b : decide (j < n) = true := decide_eq_true d1
   have DJ := Aside0.mk d1
   obtain ⟨m4, hm4⟩ : ∃ m4, m4 = j * 4 := ⟨_, rfl⟩
   have e4 : wrap64 ((j : Int) * 4) = (m4 : Int) := by have := N1.out.2; unfold wrap64; omega
   obtain ⟨B, hB1, hB2, ⟨k3, hB3⟩⟩ := sect_ev l1 HB4.out m4 (by have := N1.out.2; omega)
   have SE := Aside0.mk (hB3 k3 (Nat.le_refl _))
   obtain ⟨s', F', P', le', fu', of', g1, g2', g3⟩ := Rs_step HI.out d1 N1.out.2 hB1 hB2
   have WX := Aside0.mk g1
   have WF := Aside0.mk g2'
   have I1 := Aside0.mk g3
   have PD := Aside0.mk (show s.pend.length ≤ 100000 from by have := HI.out.pd; have := N1.out.2; omega)
   clear hB1 hB2 hB3 g1 g2' g3 hm4
   go_upto_region 10 with (first
     | (go_at_call 33; refine (marginalialaw17_sectors.calls k3 A1 c1 l1 (m4 : Int) B _ (Kd.C_below HR1.out (J_below HJ.out.1)) HC1.out SE.out).mono ?_; rintro e w5 ⟨v5, rfl, hR, hb⟩; obtain ⟨A5, c5, rfl⟩ := Kd.R_slice hR; have K5 := Aside0.mk (JM_deep HJ.out hb); have X6 := Aside0.mk (blk_below HX.out hb); have R5 := Aside0.mk hR; clear hR hb HJ HX))
   obtain ⟨j1, j2, u0, u1, j3, j4, j5⟩ := K5.out
   obtain ⟨Au, qu, rfl⟩ := Kd.R_slice j4
   obtain ⟨Av, qv, rfl⟩ := Kd.R_slice j5
   obtain ⟨z0, z1, z2, z3, z4⟩ := bx5 j3
   have K6 := Aside0.mk (And.intro j1 (And.intro j2 (And.intro j3 (And.intro j4 j5))))
   clear K5 j1 j2 j3 j4 j5
   go_upto_region 11 with (first
     | (go_at_call 34; refine (marginaliaref14_Write.calls 1000 _ _ F _ _ P le fu of (j : Int) _ _ B F' P' le' fu' of' 0 w _ (J_below K6.out.1) K6.out.2.2.2.1 K6.out.2.2.2.2 (fun W_ hk_ => (Kd.R_reads' (B_kept K6.out.2.2.2.1 K6.out.2.2.2.2 R5.out hk_)).2.2) (Kd.R_reads' R5.out).2.1 WF.out).mono ?_; rintro e w6 ⟨v0, v1, rfl, r0, r1, hb, hk⟩; obtain ⟨A3, q3, rfl⟩ := Kd.R_slice r0; obtain ⟨A4, q4, rfl⟩ := Kd.R_slice r1; have K7' := JM_model K6.out.1 K6.out.2.1 K6.out.2.2.1 K6.out.2.2.2.1 K6.out.2.2.2.2 r0 r1 hb hk; have X7 := Aside0.mk (K7'.2.2.2.2 _ _ _ X6.out (by decide) (by decide)); have R7 := Aside0.mk (B_kept K6.out.2.2.2.1 K6.out.2.2.2.2 R5.out hk); have K7 := Aside0.mk (And.intro K7'.1 (And.intro K7'.2.1 (And.intro K7'.2.2.1 K7'.2.2.2.1))); have G8 := Aside0.mk K6.out.2.1; have K8 := Aside0.mk (JM_store K7.out.1 G8.out K7.out.2.1 K7.out.2.2.1 K7.out.2.2.2 X7.out (le := le') (fu := fu') (of := of')); have R8 := Aside0.mk (B_store R7.out K7.out.2.1 (.slice A3 F'.length q3) (.slice A4 P'.length q4) (.int .i64 le') (.bool fu') (.bool of')); have z5 := blk_frozen K7.out.2.1 0; have z6 := blk_frozen K7.out.2.1 1; have z7 := blk_frozen K7.out.2.1 2; have z8 := blk_frozen K7.out.2.1 3; have z9 := blk_frozen K7.out.2.1 4; clear z0 z1 z2 z3 z4; obtain ⟨z0, z1, z2, z3, z4⟩ := bx5 K7.out.2.1; clear K7' r0 r1 hb hk K6 X6 R5))
   clear z0 z1 z2 z3 z4 z5 z6 z7 z8 z9 K7 X7 R7
   generalize World.setCell _ ⟨g8, 4, none⟩ _ = W5 at K8 R8 ⊢
   go_wp2_with (first
     | (go_at_call 22; refine (J_Write K8.out.1.1 PD.out (j : Int) _ _ _ _ B (Kd.R_mono R8.out (fun _ _ => trivial)) s' 0 WX.out).mono ?_; rintro e w9 ⟨rfl, hJ, ho⟩; have K9 := Aside0.mk (JM_oth K8.out.1 hJ ho); have X9 := Aside0.mk (ho.2 _ _ _ K8.out.2 (by decide) (by decide) (by decide)); clear hJ ho K8 R8))
   go_roundw
   case rel => exact ⟨j + 1, s', F', P', le', fu', of', num_up DJ.out N1.out.2, Nat.succ_le_of_lt DJ.out, I1, K9, X9⟩
   case measure => exact meas_up DJ.out N1.out.2
 have d1b : decide (j < n) = false := decide_eq_false d1
 obtain rfl : j = n := by omega
 clear d1
 have X0 := Aside0.mk HX.out
 have K0 := Aside0.mk HJ.out
 obtain ⟨y0, y1, y2, y3⟩ := bx4r HX.out
 clear HX HJ
 by_cases hbad : (a1 < 0 ∨ a2 < 1 ∨ a2 > (s.nb : Int) ∨ a1 > (s.nb : Int) - a2) ∨ lmax ((secL s.now (a1.toNat * 4) (a2.toNat * 4)).map decZ) = 18446744073709551615
 · obtain ⟨E, ko, hE, href, hopn⟩ := reads_no HI.out N1.out.2 a1 a2 a3 HA1.out HA2.out hbad
   have RF := Aside0.mk href
   have OPN := Aside0.mk hopn
   have EB : (E == 0) = false := by simpa using hE
   clear hE href hopn hbad
   go_upto_region 14 with (first
     | (go_at_call 35; refine (OPN.out w _ q K0.out.1).mono ?_; rintro e w5 ⟨rfl, hb⟩; have K5 := Aside0.mk (JM_deep K0.out hb); have X5 := Aside0.mk (blk_below X0.out hb); clear hb K0 X0 y0 y1 y2 y3))
   obtain ⟨y0, y1, y2, y3⟩ := bx4r X5.out
   obtain ⟨j1, j2, u0, u1, j3, j4, j5⟩ := K5.out
   obtain ⟨Au, qu, rfl⟩ := Kd.R_slice j4
   obtain ⟨Av, qv, rfl⟩ := Kd.R_slice j5
   obtain ⟨z0, z1, z2, z3, z4⟩ := bx5 j3
   have K6 := Aside0.mk (And.intro j1 (And.intro j2 (And.intro j3 (And.intro j4 j5))))
   clear K5 j1 j2 j3 j4 j5
   go_upto_region 15 with (first
     | (go_at_call 36; refine (marginaliaref17_Open.calls ko _ _ F _ _ P le fu of a1 a2 a3 0 0 0 0 0 [] false E _ (Kd.R_reads' K6.out.2.2.2.1).2.2 (Kd.R_reads' K6.out.2.2.2.1).2.1 (Kd.R_reads' K6.out.2.2.2.2).2.2 (Kd.R_reads' K6.out.2.2.2.2).2.1 RF.out).mono ?_; rintro e w6 ⟨v6, rfl, hS, hb⟩; obtain ⟨A6, c6, rfl⟩ := Kd.S_slice hS; have J6 := Aside0.mk (J_deep K6.out.1 hb); clear hb hS K6 X5 y0 y1 y2 y3 z0 z1 z2 z3 z4))
   go_wp2_with (first
     | (go_at_call 37; refine (L_alive _).mono ?_; rintro e w7 ⟨rfl, hb⟩; have B7 := Aside0.mk (below_step (J_below J6.out) (below_step (below_alloc (Below.refl _ _) _) hb)); clear hb))
   go_ret
   exact ⟨rfl, B7.out⟩
 obtain ⟨hg, hlm⟩ : ¬ (a1 < 0 ∨ a2 < 1 ∨ a2 > (s.nb : Int) ∨ a1 > (s.nb : Int) - a2) ∧ lmax ((secL s.now (a1.toNat * 4) (a2.toNat * 4)).map decZ) ≠ 18446744073709551615 := ⟨fun h => hbad (.inl h), fun h => hbad (.inr h)⟩
 obtain ⟨l, ko, href, hep, hbr, hsi, hen, hrs, hrl, hopn⟩ := reads_ok HI.out N1.out.2 a1 a2 a3 HA1.out HA2.out hg hlm
 have RF := Aside0.mk href
 have OPN := Aside0.mk hopn
 have HEP := Aside0.mk hep
 have HBR := Aside0.mk hbr
 have HSI := Aside0.mk hsi
 have HEN := Aside0.mk hen
 have HRL := Aside0.mk (show l.rs.length ≤ 1000 from Nat.le_trans hrs (by decide))
 have HRR := Aside0.mk hrl
 obtain ⟨rm, hrm⟩ : ∃ rm, rm = rmx l := ⟨_, rfl⟩
 have RM := Aside0.mk hrm.symm
 have RR17 := Aside0.mk (room17 hbr hsi hen hrm)
 obtain ⟨m6, hm6⟩ : ∃ m, m = l.rs.length := ⟨_, rfl⟩
 have HM6 := Aside0.mk hm6
 clear href hopn hbad hg hlm hep hbr hsi hen hrs hrl hrm hm6
 go_upto_region 14 with (first
   | (go_at_call 35; refine (OPN.out w _ q K0.out.1).mono ?_; rintro e w5 ⟨p, O5, rfl, hG, hb⟩; have G5 := Aside0.mk hG; have K5 := Aside0.mk (JM_deep K0.out hb); have X5 := Aside0.mk (blk_below X0.out hb); clear hG hb K0 X0 y0 y1 y2 y3))
 obtain ⟨y0, y1, y2, y3⟩ := bx4r X5.out
 obtain ⟨j1, j2, u0, u1, j3, j4, j5⟩ := K5.out
 obtain ⟨Au, qu, rfl⟩ := Kd.R_slice j4
 obtain ⟨Av, qv, rfl⟩ := Kd.R_slice j5
 obtain ⟨z0, z1, z2, z3, z4⟩ := bx5 j3
 have K6 := Aside0.mk (And.intro j1 (And.intro j2 (And.intro j3 (And.intro j4 j5))))
 clear K5 j1 j2 j3 j4 j5
 go_upto_region 15 with (first
   | (go_at_call 36; refine (marginaliaref17_Open.calls ko _ _ F _ _ P le fu of a1 a2 a3 (l.fi : Int) (l.si : Int) l.ep l.li (l.en : Int) l.rs false 0 _ (Kd.R_reads' K6.out.2.2.2.1).2.2 (Kd.R_reads' K6.out.2.2.2.1).2.1 (Kd.R_reads' K6.out.2.2.2.2).2.2 (Kd.R_reads' K6.out.2.2.2.2).2.1 RF.out).mono ?_; rintro e w6 ⟨v6, rfl, hS, hb⟩; obtain ⟨A6, c6, rfl⟩ := Kd.S_slice hS; rw [← HM6.out] at hS; rw [← HM6.out]; have G6 := Aside0.mk (LG_step G5.out hb); have V6 := Aside0.mk (show Kd.R kL 27 w6 w5.heap.size (fun _ => True) (.slice A6 m6 c6) l.rs from Kd.S_R hS); have X6 := Aside0.mk (blk_below X5.out hb); clear hb hS K6 X5 G5 y0 y1 y2 y3 z0 z1 z2 z3 z4))
 have ba := below_alloc (Below.refl w6.heap.size w6) (.cells #[.int .i64 (l.fi : Int), .int .i64 (l.si : Int), .int .u64 l.ep, .int .u64 l.li, .int .i64 (l.en : Int), .slice A6 m6 c6, .bool false] 69)
 have G7 := Aside0.mk (LG_step G6.out ba)
 have X7 := Aside0.mk (blk_below X6.out ba)
 have V7 := Aside0.mk (Kd.R_below V6.out ba)
 have M7 := Aside0.mk (blk_new w6 (.cells #[.int .i64 (l.fi : Int), .int .i64 (l.si : Int), .int .u64 l.ep, .int .u64 l.li, .int .i64 (l.en : Int), .slice A6 m6 c6, .bool false] 69 (0, 0)))
 obtain ⟨g14, hg14⟩ : ∃ g, g = w6.heap.size := ⟨_, rfl⟩
 rw [← hg14] at M7 ⊢
 clear ba G6 X6 hg14
 generalize w6.alloc _ = W7 at G7 X7 V7 M7 ⊢
 go_upto_region 19 with (fail)
 refine start_ (n := 30) (S := fun w' => w'.cell? ⟨g14, 0, none⟩ = some (.int .i64 (l.fi : Int)) ∧ w'.cell? ⟨g14, 1, none⟩ = some (.int .i64 (l.si : Int)) ∧ w'.cell? ⟨g14, 2, none⟩ = some (.int .u64 l.ep) ∧ w'.cell? ⟨g14, 3, none⟩ = some (.int .u64 l.li) ∧ w'.cell? ⟨g14, 4, none⟩ = some (.int .i64 (l.en : Int)) ∧ w'.cell? ⟨g14, 5, none⟩ = some (.slice A6 m6 c6) ∧ w'.cell? ⟨g14, 6, none⟩ = some (.bool false) ∧ w'.cell? ⟨g2, 3, none⟩ = some (.int .u64 a3)) (ds := []) #[false, false, false, false, false, false, false, false, false, false, false, false, false, false, false, false, false, false, false, false, false, false, false, false, false, false, false, false, false, false] (by kernel_rfl) rfl rfl ⟨((blk_cell (blk_below M7.out (below_drew (Below.refl _ _))) 0).trans rfl), ((blk_cell (blk_below M7.out (below_drew (Below.refl _ _))) 1).trans rfl), ((blk_cell (blk_below M7.out (below_drew (Below.refl _ _))) 2).trans rfl), ((blk_cell (blk_below M7.out (below_drew (Below.refl _ _))) 3).trans rfl), ((blk_cell (blk_below M7.out (below_drew (Below.refl _ _))) 4).trans rfl), ((blk_cell (blk_below M7.out (below_drew (Below.refl _ _))) 5).trans rfl), ((blk_cell (blk_below M7.out (below_drew (Below.refl _ _))) 6).trans rfl), ((blk_cell (blk_below X7.out (below_drew (Below.refl _ _))) 3).trans rfl)⟩ (fun hHeld => ?_)
 refine one_ (i := 0) (N := some 100) #[true, false, false, false, false, false, false, false, false, false, false, false, false, false, false, false, false, false, false, false, false, false, false, false, false, false, false, false, false, false] rfl rfl (by kernel_rfl) (by decide) (fun K hK => ?_)
 refine goes_ Try.func37 (by kernel_rfl) rfl #[] (by rfl) rfl rfl (by simp only [List.map_toArray, List.map_cons, List.map_nil]) ?_
 with_reducible refine (L_alive _).mono ?_
 rintro e w8 ⟨rfl, hb⟩
 refine ⟨_, rfl, ?_⟩
 have BB := below_step (below_drew (Below.refl _ _)) hb
 have G8 := Aside0.mk (LG_step G7.out BB)
 have M8 := Aside0.mk (blk_below M7.out BB)
 have X8 := Aside0.mk (blk_below X7.out BB)
 have V8 := Aside0.mk (Kd.R_below V7.out BB)
 clear hb BB
 refine hK.out _ _ ⟨((blk_cell (M8.out) 0).trans rfl), ((blk_cell (M8.out) 1).trans rfl), ((blk_cell (M8.out) 2).trans rfl), ((blk_cell (M8.out) 3).trans rfl), ((blk_cell (M8.out) 4).trans rfl), ((blk_cell (M8.out) 5).trans rfl), ((blk_cell (M8.out) 6).trans rfl), ((blk_cell (X8.out) 3).trans rfl)⟩ (fun hHeld => ?_)
 clear hK K
 refine no (some 100) ?_
 refine pu 1 (some 101) (bm 30 3) ?_
 refine pu 2 (some 102) (bm 30 7) ?_
 refine pu 4 (some 104) (bm 30 23) ?_
 refine take_ (i := 5) (N := some 105) (v := ?_) (a' := ?_) #[true, true, true, false, true, true, false, false, false, false, false, false, false, false, false, false, false, false, false, false, false, false, false, false, false, false, false, false, false, false] rfl rfl (by kernel_rfl) (fun _ _ _ h => h) (Or.inl ⟨by rfl, ?_⟩) hHeld ?_ ?_
 rotate_left
 · rintro w' ⟨s0, s1, s2, s3, s4, s5, s6, s7⟩
   go_simp
   with_reducible rfl
 rotate_left
 · simp only [Act.put, List.setIfInBounds_toArray, List.set_cons_zero, List.set_cons_succ, i64_w, i32_w]
   rfl
 refine one_ (i := 3) (N := some 103) #[true, true, true, true, true, true, false, false, false, false, false, false, false, false, false, false, false, false, false, false, false, false, false, false, false, false, false, false, false, false] rfl rfl (by kernel_rfl) (by decide) (fun K hK => ?_)
 refine goes_ Try.func39 (by kernel_rfl) rfl #[.pointer (some ⟨p, 0, none⟩)] (by rfl) rfl rfl (by simp only [List.map_toArray, List.map_cons, List.map_nil]; rfl) ?_
 with_reducible refine (K_Recordsr G8.out HM6.out rfl HRL.out HRR.out).mono ?_
 rintro e w9 ⟨A9, c9, rfl, hR, hb⟩
 refine ⟨_, rfl, ?_⟩
 have BB := hb
 have G9 := Aside0.mk (LG_step G8.out BB)
 have M9 := Aside0.mk (blk_below M8.out BB)
 have X9 := Aside0.mk (blk_below X8.out BB)
 have V9 := Aside0.mk (Kd.R_below V8.out BB)
 have R9 := Aside0.mk hR
 clear hb BB hR
 refine hK.out _ _ ⟨((blk_cell (M9.out) 0).trans rfl), ((blk_cell (M9.out) 1).trans rfl), ((blk_cell (M9.out) 2).trans rfl), ((blk_cell (M9.out) 3).trans rfl), ((blk_cell (M9.out) 4).trans rfl), ((blk_cell (M9.out) 5).trans rfl), ((blk_cell (M9.out) 6).trans rfl), ((blk_cell (X9.out) 3).trans rfl)⟩ (fun hHeld => ?_)
 clear hK K
 refine no (some 103) ?_
 refine one_ (i := 6) (N := some 106) #[true, true, true, true, true, true, true, false, false, false, false, false, false, false, false, false, false, false, false, false, false, false, false, false, false, false, false, false, false, false] rfl rfl (by kernel_rfl) (by decide) (fun K hK => ?_)
 refine goes_ Try.func38 (by kernel_rfl) rfl #[.slice A9 m6 c9, .slice A6 m6 c6] (by rfl) rfl rfl (by simp only [List.map_toArray, List.map_cons, List.map_nil]; rfl) ?_
 with_reducible refine (K_samer HM6.out HRL.out R9.out V9.out).mono ?_
 rintro e w10 ⟨rfl, hd⟩
 refine ⟨_, rfl, ?_⟩
 have BB := drawn_below hd
 have G10 := Aside0.mk (LG_step G9.out BB)
 have M10 := Aside0.mk (blk_below M9.out BB)
 have X10 := Aside0.mk (blk_below X9.out BB)
 have V10 := Aside0.mk (Kd.R_below V9.out BB)
 clear hd BB
 refine hK.out _ _ ⟨((blk_cell (M10.out) 0).trans rfl), ((blk_cell (M10.out) 1).trans rfl), ((blk_cell (M10.out) 2).trans rfl), ((blk_cell (M10.out) 3).trans rfl), ((blk_cell (M10.out) 4).trans rfl), ((blk_cell (M10.out) 5).trans rfl), ((blk_cell (M10.out) 6).trans rfl), ((blk_cell (X10.out) 3).trans rfl)⟩ (fun hHeld => ?_)
 clear hK K
 refine no (some 106) ?_
 refine pu 7 (some 107) (bm 30 255) ?_
 refine pu 8 (some 108) (bm 30 511) ?_
 refine pu 9 (some 109) (bm 30 1023) ?_
 refine take_ (i := 11) (N := some 111) (v := ?_) (a' := ?_) #[true, true, true, true, true, true, true, true, true, true, false, true, false, false, false, false, false, false, false, false, false, false, false, false, false, false, false, false, false, false] rfl rfl (by kernel_rfl) (fun _ _ _ h => h) (Or.inl ⟨by rfl, ?_⟩) hHeld ?_ ?_
 rotate_left
 · rintro w' ⟨s0, s1, s2, s3, s4, s5, s6, s7⟩
   go_simp
   with_reducible rfl
 rotate_left
 · simp only [Act.put, List.setIfInBounds_toArray, List.set_cons_zero, List.set_cons_succ, i64_w, i32_w]
   rfl
 refine one_ (i := 10) (N := some 110) #[true, true, true, true, true, true, true, true, true, true, true, true, false, false, false, false, false, false, false, false, false, false, false, false, false, false, false, false, false, false] rfl rfl (by kernel_rfl) (by decide) (fun K hK => ?_)
 refine goes_ Try.func40 (by kernel_rfl) rfl #[.pointer (some ⟨p, 0, none⟩)] (by rfl) rfl rfl (by simp only [List.map_toArray, List.map_cons, List.map_nil]; rfl) ?_
 with_reducible refine (L_Room G10.out (by have := HSI.out; omega) HEN.out rm RM.out).mono ?_
 rintro e w11 ⟨rfl, hb⟩
 refine ⟨_, rfl, ?_⟩
 have BB := hb
 have G11 := Aside0.mk (LG_step G10.out BB)
 have M11 := Aside0.mk (blk_below M10.out BB)
 have X11 := Aside0.mk (blk_below X10.out BB)
 have V11 := Aside0.mk (Kd.R_below V10.out BB)
 clear hb BB
 refine hK.out _ _ ⟨((blk_cell (M11.out) 0).trans rfl), ((blk_cell (M11.out) 1).trans rfl), ((blk_cell (M11.out) 2).trans rfl), ((blk_cell (M11.out) 3).trans rfl), ((blk_cell (M11.out) 4).trans rfl), ((blk_cell (M11.out) 5).trans rfl), ((blk_cell (M11.out) 6).trans rfl), ((blk_cell (X11.out) 3).trans rfl)⟩ (fun hHeld => ?_)
 clear hK K
 refine no (some 110) ?_
 refine one_ (i := 12) (N := some 112) #[true, true, true, true, true, true, true, true, true, true, true, true, true, false, false, false, false, false, false, false, false, false, false, false, false, false, false, false, false, false] rfl rfl (by kernel_rfl) (by decide) (fun K hK => ?_)
 refine goes_ Try.func41 (by kernel_rfl) rfl #[.agg #[.int .i64 (l.fi : Int), .int .i64 (l.si : Int), .int .u64 l.ep, .int .u64 l.li, .int .i64 (l.en : Int), .slice A6 m6 c6, .bool false]] (by rfl) rfl rfl (by simp only [List.map_toArray, List.map_cons, List.map_nil]; rfl) ?_
 with_reducible refine (R_Room V11.out HM6.out RR17.out).mono ?_
 rintro e w12 ⟨rfl, hb⟩
 refine ⟨_, rfl, ?_⟩
 have BB := hb
 have G12 := Aside0.mk (LG_step G11.out BB)
 have M12 := Aside0.mk (blk_below M11.out BB)
 have X12 := Aside0.mk (blk_below X11.out BB)
 have V12 := Aside0.mk (Kd.R_below V11.out BB)
 clear hb BB
 refine hK.out _ _ ⟨((blk_cell (M12.out) 0).trans rfl), ((blk_cell (M12.out) 1).trans rfl), ((blk_cell (M12.out) 2).trans rfl), ((blk_cell (M12.out) 3).trans rfl), ((blk_cell (M12.out) 4).trans rfl), ((blk_cell (M12.out) 5).trans rfl), ((blk_cell (M12.out) 6).trans rfl), ((blk_cell (X12.out) 3).trans rfl)⟩ (fun hHeld => ?_)
 clear hK K
 refine no (some 112) ?_
 refine pu 13 (some 113) (bm 30 16383) ?_
 refine pu 14 (some 114) (bm 30 32767) ?_
 refine pu 15 (some 115) (bm 30 65535) ?_
 refine pu 16 (some 116) (bm 30 131071) ?_
 refine pu 18 (some 118) (bm 30 393215) ?_
 refine take_ (i := 19) (N := some 119) (v := ?_) (a' := ?_) #[true, true, true, true, true, true, true, true, true, true, true, true, true, true, true, true, true, false, true, true, false, false, false, false, false, false, false, false, false, false] rfl rfl (by kernel_rfl) (fun _ _ _ h => h) (Or.inl ⟨by rfl, ?_⟩) hHeld ?_ ?_
 rotate_left
 · rintro w' ⟨s0, s1, s2, s3, s4, s5, s6, s7⟩
   go_simp
   with_reducible rfl
 rotate_left
 · simp only [Act.put, List.setIfInBounds_toArray, List.set_cons_zero, List.set_cons_succ, i64_w, i32_w]
   rfl
 refine one_ (i := 17) (N := some 117) #[true, true, true, true, true, true, true, true, true, true, true, true, true, true, true, true, true, true, true, true, false, false, false, false, false, false, false, false, false, false] rfl rfl (by kernel_rfl) (by decide) (fun K hK => ?_)
 refine goes_ Try.func42 (by kernel_rfl) rfl #[.pointer (some ⟨p, 0, none⟩)] (by rfl) rfl rfl (by simp only [List.map_toArray, List.map_cons, List.map_nil]; rfl) ?_
 with_reducible refine (L_Life G12.out).mono ?_
 rintro e w13 ⟨rfl, rfl⟩
 refine ⟨_, rfl, ?_⟩
 refine hK.out _ _ ⟨((blk_cell (M12.out) 0).trans rfl), ((blk_cell (M12.out) 1).trans rfl), ((blk_cell (M12.out) 2).trans rfl), ((blk_cell (M12.out) 3).trans rfl), ((blk_cell (M12.out) 4).trans rfl), ((blk_cell (M12.out) 5).trans rfl), ((blk_cell (M12.out) 6).trans rfl), ((blk_cell (X12.out) 3).trans rfl)⟩ (fun hHeld => ?_)
 clear hK K
 refine no (some 117) ?_
 refine pu 20 (some 120) (bm 30 2097151) ?_
 refine pu 21 (some 121) (bm 30 4194303) ?_
 refine pu 22 (some 122) (bm 30 8388607) ?_
 refine pu 23 (some 123) (bm 30 16777215) ?_
 refine pu 25 (some 125) (bm 30 50331647) ?_
 refine take_ (i := 26) (N := some 126) (v := ?_) (a' := ?_) #[true, true, true, true, true, true, true, true, true, true, true, true, true, true, true, true, true, true, true, true, true, true, true, true, false, true, true, false, false, false] rfl rfl (by kernel_rfl) (fun _ _ _ h => h) (Or.inl ⟨by rfl, ?_⟩) hHeld ?_ ?_
 rotate_left
 · rintro w' ⟨s0, s1, s2, s3, s4, s5, s6, s7⟩
   go_simp
   with_reducible rfl
 rotate_left
 · simp only [Act.put, List.setIfInBounds_toArray, List.set_cons_zero, List.set_cons_succ, i64_w, i32_w]
   rfl
 refine one_ (i := 24) (N := some 124) #[true, true, true, true, true, true, true, true, true, true, true, true, true, true, true, true, true, true, true, true, true, true, true, true, true, true, true, false, false, false] rfl rfl (by kernel_rfl) (by decide) (fun K hK => ?_)
 refine goes_ Try.func43 (by kernel_rfl) rfl #[.pointer (some ⟨p, 0, none⟩)] (by rfl) rfl rfl (by simp only [List.map_toArray, List.map_cons, List.map_nil]; rfl) ?_
 with_reducible refine (L_Epoch G12.out).mono ?_
 rintro e w14 ⟨rfl, rfl⟩
 refine ⟨_, rfl, ?_⟩
 refine hK.out _ _ ⟨((blk_cell (M12.out) 0).trans rfl), ((blk_cell (M12.out) 1).trans rfl), ((blk_cell (M12.out) 2).trans rfl), ((blk_cell (M12.out) 3).trans rfl), ((blk_cell (M12.out) 4).trans rfl), ((blk_cell (M12.out) 5).trans rfl), ((blk_cell (M12.out) 6).trans rfl), ((blk_cell (X12.out) 3).trans rfl)⟩ (fun hHeld => ?_)
 clear hK K
 refine no (some 124) ?_
 refine pu 27 (some 127) (bm 30 268435455) ?_
 refine pu 28 (some 128) (bm 30 536870911) ?_
 refine pu 29 (some 4) (bm 30 1073741823) ?_
 refine done_ (by kernel_rfl) ?_
 go_wp2
 go_ret
 exact ⟨by simp [HEP.out], LG_below G12.out⟩
end Go.Proofs.Ytepipgneefcoiaa.D
namespace Go.Proofs.Ytepipgneefcoiaa.D
open Go.RowKit Go.Proofs.YtepipgneefcoiaaW.PrintWords Go.Proofs.YtepipgneefcoiaaW.PrintLast Go.Proofs.YtepipgneefcoiaaW.PrintMore
open Classical in
noncomputable def marginalialaw17_WalReads.f (a0_0 : Int) (a0_1 : Int) (a0_2 : Int) (a0_3 : Int) (l1 : List S106) : Option (Bool) := if (-9223372036854775808 ≤ a0_0 ∧ a0_0 ≤ 9223372036854775807) ∧ (-9223372036854775808 ≤ a0_1 ∧ a0_1 ≤ 9223372036854775807) ∧ (-9223372036854775808 ≤ a0_2 ∧ a0_2 ≤ 9223372036854775807) ∧ (0 ≤ a0_3 ∧ a0_3 < 18446744073709551616) ∧ (∀ x ∈ l1, (0 ≤ x.f0 ∧ x.f0 < 18446744073709551616) ∧ (0 ≤ x.f1 ∧ x.f1 < 18446744073709551616) ∧ (-9223372036854775808 ≤ x.f2 ∧ x.f2 ≤ 9223372036854775807) ∧ (-9223372036854775808 ≤ x.f3 ∧ x.f3 ≤ 9223372036854775807) ∧ (∀ b ∈ x.f4, 0 ≤ b ∧ b < 256)) then some true else none
theorem marginalialaw17_WalReads.calls (a0_0 : Int) (a0_1 : Int) (a0_2 : Int) (a0_3 : Int) (A1 : Option Addr) (c1 : Nat) (l1 : List S106) (r : Bool) (w : World) (hr1 : Kd.C k106 w A1 l1.length l1) (hc1 : l1.length ≤ c1) (h : marginalialaw17_WalReads.f a0_0 a0_1 a0_2 a0_3 l1 = some r) :
    Calls Try.prog 9 #[.agg #[.int .i64 a0_0, .int .i64 a0_1, .int .i64 a0_2, .int .u64 a0_3], .slice A1 l1.length c1] w fun e w' => e = .returned (.bool r) ∧ Below w.heap.size w w' := by
 unfold marginalialaw17_WalReads.f at h
 split at h
 · rename_i hb
   obtain rfl := Option.some.inj h
   exact law_WReads a0_0 a0_1 a0_2 a0_3 A1 c1 l1 w hr1 hc1 hb
 cases h
end Go.Proofs.Ytepipgneefcoiaa.D
namespace Go.Proofs.Ytepipgneefcoiaa.D
open Go.RowKit Go.Proofs.YtepipgneefcoiaaW.PrintWords Go.Proofs.YtepipgneefcoiaaW.PrintLast Go.Proofs.YtepipgneefcoiaaW.PrintMore
section
variable {H : Type} {enc : TypeId × Value → H} {P : Program} {w : World} {α β : Type}
def Opens (enc : TypeId × Value → H) (P : Program) (w : World) (t : TypeId) (d : Kd α) (wf : α → Prop) : Prop :=
  ∀ (fuel : Nat) (cs : List Value) (x : DataW H × List MemPlace), DataW.trod enc P w 0 (fun _ => true) true fuel t cs = some x → ∃ a, d.K w a cs ∧ wf a
theorem opens_int {t : TypeId} {k : IntKind} (h : P.underlying t = some (.int k)) : Opens enc P w t (Kd.int k) (fun n => (Lit.int k n).wf = true) := fun fuel cs x hx => by
  obtain ⟨n, rfl, _, hw⟩ := DataW.trod_int h hx
  exact ⟨n, rfl, hw⟩
def WfL (wf : α → Prop) (xs : List α) : Prop := xs.length ≤ maxLen ∧ ∀ x ∈ xs, wf x
theorem opens_slice {t e : TypeId} {d : Kd α} {wf : α → Prop} (ht : P.underlying t = some (.slice e)) (hz : P.cellsOf e = d.sz) (he : Opens enc P w e d wf) : Opens enc P w t (Kd.slice e d) (WfL wf) := fun fuel cs x hx => by
  rcases DataW.trod_slice ht hx with ⟨rfl, _⟩ | ⟨a, len, cap, elems, rest, n, _, rfl, _, _, hl, hm, hlen, hel, _, _⟩
  · exact ⟨[], ⟨none, 0, rfl, Nat.le_refl _, rfl, by simp, fun h => absurd h (Nat.lt_irrefl 0)⟩, by unfold maxLen; simp, fun x hx => by cases hx⟩
  · have hone : ∀ i, i < len → ∃ v : α, wf v ∧ ∃ c, c.length = d.sz ∧ d.K w v c ∧ ∀ j u, c[j]? = some u → w.cell? (a.add (i * d.sz + j)) = some u := fun i hi => by
      have h1 := hel i hi
      rw [List.getElem?_eq_getElem (by omega), Option.bind_eq_some_iff] at h1
      obtain ⟨c, hc, hy⟩ := h1
      obtain ⟨v, hK, hwf⟩ := he _ _ _ hy
      obtain ⟨_, hcl, hat⟩ := World.cells?_some hc
      refine ⟨v, hwf, c, by rw [hcl, hz], hK, fun j u hj => ?_⟩
      have hjl : j < c.length := (List.getElem?_eq_some_iff.1 hj).1
      have h2 := hat j (by omega)
      rw [hz, Go.Deep.add_add] at h2
      rw [h2]
      exact hj
    obtain ⟨xs, hxl, hxs⟩ : ∃ xs : List α, xs.length = len ∧ ∀ i (hi : i < len), ∃ v, xs[i]? = some v ∧ wf v ∧ ∃ c, c.length = d.sz ∧ d.K w v c ∧ ∀ j u, c[j]? = some u → w.cell? (a.add (i * d.sz + j)) = some u := by
      refine ⟨(List.finRange len).map fun i => Classical.choose (hone i.1 i.2), by simp, fun i hi => ⟨Classical.choose (hone i hi), ?_, Classical.choose_spec (hone i hi)⟩⟩
      simp [hi]
    refine ⟨xs, ⟨some a, cap, by rw [hxl], by omega, rfl, ?_, fun _ => ⟨a, rfl, fun j p hj => ?_⟩⟩, by omega, fun v hv => ?_⟩
    · unfold maxLen at hm; omega
    · have hjl : j < len := by have := (List.getElem?_eq_some_iff.1 hj).1; omega
      obtain ⟨v, hv, _, hc⟩ := hxs j hjl
      rw [hj] at hv
      injection hv with hv
      subst hv
      exact hc
    · obtain ⟨i, hi⟩ := List.getElem?_of_mem hv
      have hil : i < len := by have := (List.getElem?_eq_some_iff.1 hi).1; omega
      obtain ⟨v', hv', hw, _⟩ := hxs i hil
      rw [hi] at hv'
      injection hv' with hv'
      subst hv'
      exact hw
def OpensF (enc : TypeId × Value → H) (P : Program) (w : World) (fs : List Field) (off : Nat) (d : Kd α) (wf : α → Prop) : Prop :=
  ∀ (n : Nat) (cs : List Value), (∀ f ∈ fs, ∃ y, DataW.trod enc P w 0 (fun _ => true) true n f.type ((cs.drop f.offset).take (P.cellsOf f.type)) = some y) → cs.length = off + d.sz → ∃ a, d.K w a (cs.drop off) ∧ wf a
theorem opensF_one {f : Field} {off : Nat} {d : Kd α} {wf : α → Prop} (ho : f.offset = off) (hz : P.cellsOf f.type = d.sz) (h : Opens enc P w f.type d wf) : OpensF enc P w [f] off d wf := fun n cs hf hl => by
  obtain ⟨y, hy⟩ := hf f (List.mem_singleton.2 rfl)
  obtain ⟨a, hK, hw⟩ := h _ _ _ hy
  refine ⟨a, ?_, hw⟩
  rw [ho, hz, List.take_of_length_le (by rw [List.length_drop]; omega)] at hK
  exact hK
theorem opensF_cons {f : Field} {fs : List Field} {off : Nat} {d : Kd α} {d' : Kd β} {wf : α → Prop} {wf' : β → Prop} (ho : f.offset = off) (hz : P.cellsOf f.type = d.sz) (h : Opens enc P w f.type d wf) (hr : OpensF enc P w fs (off + d.sz) d' wf') :
    OpensF enc P w (f :: fs) off (Kd.pair d d') (fun a => wf a.1 ∧ wf' a.2) := fun n cs hf hl => by
  obtain ⟨y, hy⟩ := hf f (List.mem_cons_self ..)
  obtain ⟨a, hK, hw⟩ := h _ _ _ hy
  obtain ⟨b, hK', hw'⟩ := hr n cs (fun g hg => hf g (List.mem_cons_of_mem _ hg)) (by rw [hl]; show off + (d.sz + d'.sz) = _; omega)
  rw [ho, hz] at hK
  refine ⟨(a, b), ⟨_, _, ?_, hK, hK'⟩, hw, hw'⟩
  rw [← List.drop_drop, List.take_append_drop]
theorem opens_struct {t : TypeId} {fs : Array Field} {d : Kd α} {f : β → α} {g : α → β} {wf : α → Prop} (ht : P.underlying t = some (.struct fs)) (hz : P.cellsOf t = d.sz) (hg : ∀ a, f (g a) = a) (h : OpensF enc P w fs.toList 0 d wf) :
    Opens enc P w t (Kd.iso d f) (fun b => wf (f b)) := fun fuel cs x hx => by
  obtain ⟨ys, n, _, _, hl, hyl, hf⟩ := DataW.trod_struct ht hx
  obtain ⟨a, hK, hw⟩ := h n cs (fun q hq => by
    obtain ⟨i, hi⟩ := List.getElem?_of_mem hq
    have hia : fs[i]? = some q := by simpa using hi
    have hil : i < fs.size := (Array.getElem?_eq_some_iff.1 hia).1
    exact ⟨ys[i]'(by omega), by rw [hf i q hia, List.getElem?_eq_getElem (by omega)]⟩) (by rw [hl, hz]; omega)
  refine ⟨g a, ?_, ?_⟩
  · show d.K w (f (g a)) cs
    rw [hg]
    exact hK
  · show wf (f (g a))
    rw [hg]
    exact hw
end
end Go.Proofs.Ytepipgneefcoiaa.D
namespace Go.Proofs.Ytepipgneefcoiaa.D.walReadsOpen
open Go.RowKit Go.Proofs.YtepipgneefcoiaaW.PrintWords Go.Proofs.YtepipgneefcoiaaW.PrintLast Go.Proofs.YtepipgneefcoiaaW.PrintMore
open Go.Proofs.Ytepipgneefcoiaa.D
def wf61 (x : S61) : Prop := (Lit.int .i64 x.f0).wf = true ∧ (Lit.int .i64 x.f1).wf = true ∧ (Lit.int .i64 x.f2).wf = true ∧ (Lit.int .u64 x.f3).wf = true
set_option maxRecDepth 20000 in
theorem opens61 {H : Type} {enc : TypeId × Value → H} {w : World} : Opens enc Try.prog w 61 k61 wf61 :=
  opens_struct (wf := fun (a : Int × Int × Int × Int) => (Lit.int .i64 a.1).wf = true ∧ (Lit.int .i64 a.2.1).wf = true ∧ (Lit.int .i64 a.2.2.1).wf = true ∧ (Lit.int .u64 a.2.2.2).wf = true) (g := fun (a : Int × Int × Int × Int) => (⟨a.1, a.2.1, a.2.2.1, a.2.2.2⟩ : S61)) Try.underlying61 (by kernel_rfl) (fun _ => rfl) (opensF_cons rfl (by kernel_rfl) (opens_int Try.underlying3) (opensF_cons rfl (by kernel_rfl) (opens_int Try.underlying3) (opensF_cons rfl (by kernel_rfl) (opens_int Try.underlying3) (opensF_one rfl (by kernel_rfl) (opens_int Try.underlying59)))))
def wf106 (x : S106) : Prop := (Lit.int .u64 x.f0).wf = true ∧ (Lit.int .u64 x.f1).wf = true ∧ (Lit.int .i64 x.f2).wf = true ∧ (Lit.int .i64 x.f3).wf = true ∧ WfL (fun z => (Lit.int .u8 z).wf = true) x.f4
set_option maxRecDepth 20000 in
theorem opens106 {H : Type} {enc : TypeId × Value → H} {w : World} : Opens enc Try.prog w 106 k106 wf106 :=
  opens_struct (wf := fun (a : Int × Int × Int × Int × (List Int)) => (Lit.int .u64 a.1).wf = true ∧ (Lit.int .u64 a.2.1).wf = true ∧ (Lit.int .i64 a.2.2.1).wf = true ∧ (Lit.int .i64 a.2.2.2.1).wf = true ∧ WfL (fun z => (Lit.int .u8 z).wf = true) a.2.2.2.2) (g := fun (a : Int × Int × Int × Int × (List Int)) => (⟨a.1, a.2.1, a.2.2.1, a.2.2.2.1, a.2.2.2.2⟩ : S106)) Try.underlying106 (by kernel_rfl) (fun _ => rfl) (opensF_cons rfl (by kernel_rfl) (opens_int Try.underlying59) (opensF_cons rfl (by kernel_rfl) (opens_int Try.underlying59) (opensF_cons rfl (by kernel_rfl) (opens_int Try.underlying3) (opensF_cons rfl (by kernel_rfl) (opens_int Try.underlying3) (opensF_one rfl (by kernel_rfl) (opens_slice Try.underlying27 (by kernel_rfl) (opens_int Try.underlying5)))))))
def Pure : Prop := ∀ (x0 : S61) (x1 : List (S106)), wf61 x0 → WfL (fun z => wf106 z) x1 → marginalialaw17_WalReads.f x0.f0 x0.f1 x0.f2 x0.f3 x1 = some true
end Go.Proofs.Ytepipgneefcoiaa.D.walReadsOpen
namespace Go.Proofs.Ytepipgneefcoiaa.Pure
open Go.RowKit Go.Proofs.YtepipgneefcoiaaW.PrintWords Go.Proofs.YtepipgneefcoiaaW.PrintLast Go.Proofs.YtepipgneefcoiaaW.PrintMore
open Go.Proofs.Ytepipgneefcoiaa.D Go.Proofs.Ytepipgneefcoiaa.D.walReadsOpen
theorem wf_i64 {x : Int} (h : (Lit.int .i64 x).wf = true) : -9223372036854775808 ≤ x ∧ x ≤ 9223372036854775807 := by
  simp [Lit.wf, IntKind.min, IntKind.max, IntKind.bits, IntKind.signed] at h
  omega
theorem wf_u8 {x : Int} (h : (Lit.int .u8 x).wf = true) : 0 ≤ x ∧ x < 256 := by
  simp [Lit.wf, IntKind.min, IntKind.max, IntKind.bits, IntKind.signed] at h
  omega
theorem wf_u64 {x : Int} (h : (Lit.int .u64 x).wf = true) : 0 ≤ x ∧ x < 18446744073709551616 := by
  simp [Lit.wf, IntKind.min, IntKind.max, IntKind.bits, IntKind.signed] at h
  omega
theorem WalReads : walReadsOpen.Pure := by
  intro x0 x1 h0 h1
  unfold marginalialaw17_WalReads.f
  obtain ⟨g0, g1, g2, g3⟩ := h0
  refine if_pos ⟨wf_i64 g0, wf_i64 g1, wf_i64 g2, wf_u64 g3, fun x hx => ?_⟩
  obtain ⟨k0, k1, k2, k3, k4⟩ := h1.2 x hx
  exact ⟨wf_u64 k0, wf_u64 k1, wf_i64 k2, wf_i64 k3, fun b hb => wf_u8 (k4.2 b hb)⟩
end Go.Proofs.Ytepipgneefcoiaa.Pure
