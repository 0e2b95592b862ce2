/- What the law WalReads rests on, part 5: words on memory, the functions that it reaches as plain Lean functions with the proofs that the machine's calls come to them, and the mathematics; no condition beyond those that each theorem names. -/
import Derived.Test.YtepipgneefcoiaaZWalReads4
set_option linter.unusedVariables false
set_option linter.unusedSimpArgs false
namespace Go.Proofs.Ytepipgneefcoiaa.D
open Go.RowKit Go.Proofs.YtepipgneefcoiaaW.PrintWords Go.Proofs.YtepipgneefcoiaaW.PrintLast Go.Proofs.YtepipgneefcoiaaW.PrintMore
theorem V_cells {α : Type} {d : Kd α} {t base : Nat} {w : World} {ok : Nat → Prop} {A : Option Addr} {n c : Nat} {xs : List α} (h : Kd.V d t w base ok (.slice A n c) xs) :
    ∃ cs : List Value, cs.length = xs.length * d.sz ∧ Reps (fun x c => Kd.FK d w ok x c) d.sz xs cs ∧ (0 < xs.length → ∃ ad, A = some ad ∧ ∀ j v, cs[j]? = some v → w.cell? (ad.add j) = some v) ∧ ∀ v ∈ cs, v.oneCell' = true := by
  have hr := Kd.F_rows (Kd.V_at h).2.2
  have hl := (Kd.V_reads' h).1
  rcases Nat.eq_zero_or_pos xs.length with h0 | hp
  · have hx : xs = [] := List.eq_nil_of_length_eq_zero h0
    subst hx
    exact ⟨[], by simp, Reps.none _ _, fun hp => absurd hp (by simp), fun v hv => by cases hv⟩
  · obtain ⟨ad, rfl, _⟩ := hr.2.2 (by omega)
    obtain ⟨inner, hrep, hc⟩ := ReadsRow.inner_ hr
    refine ⟨inner, hrep.1, hrep, fun _ => ⟨ad, rfl, hc⟩, fun v hv => ?_⟩
    obtain ⟨i, hi, rfl⟩ := List.getElem_of_mem hv
    have hil : i < xs.length * d.sz := by rw [← hrep.1]; exact hi
    have hsz : 0 < d.sz := by rcases Nat.eq_zero_or_pos d.sz with h | h; (rw [h] at hil; omega); exact h
    have hq : i / d.sz < xs.length := (Nat.div_lt_iff_lt_mul hsz).2 hil
    have hk := hrep.2 (i / d.sz) _ (List.getElem?_eq_getElem hq)
    refine d.K_one (Kd.FK_now hk) _ ?_
    have hm : i % d.sz < d.sz := Nat.mod_lt _ hsz
    have e : i = i / d.sz * d.sz + i % d.sz := by rw [Nat.mul_comm]; exact (Nat.div_add_mod i d.sz).symm
    refine List.mem_iff_getElem?.2 ⟨i % d.sz, ?_⟩
    rw [List.getElem?_take, if_pos hm, List.getElem?_drop, ← e, List.getElem?_eq_getElem hi]
theorem reps_app {α : Type} {R : α → List Value → Prop} {sz : Nat} {xs ys : List α} {a b : List Value} (h : Reps R sz xs a) (k : Reps R sz ys b) : Reps R sz (xs ++ ys) (a ++ b) := by
 refine ⟨by rw [List.length_append, h.1, k.1, List.length_append, Nat.add_mul], fun j p hj => ?_⟩
 by_cases c : j < xs.length
 rotate_left
 · rw [List.getElem?_append_right (by omega)] at hj
   have e : j * sz = a.length + (j - xs.length) * sz := by
     rw [h.1, ← Nat.add_mul]; congr 1; omega
   rw [e, ← List.drop_drop, List.drop_left' rfl]
   exact k.2 _ p hj
 rw [List.getElem?_append_left c] at hj
 have hle : j * sz + sz ≤ a.length := by
   rw [h.1]
   have := Nat.mul_le_mul_right sz (show j + 1 ≤ xs.length by omega)
   rwa [Nat.add_mul, Nat.one_mul] at this
 rw [List.drop_append_of_le_length (by omega), List.take_append_of_le_length (by rw [List.length_drop]; omega)]
 exact h.2 j p hj
theorem N_of_own {α : Type} {d : Kd α} {e base : Nat} {v : Value} {W w1 : World} {okp ok : Nat → Prop} {xs : List α} {cs : List Value} (ho : w1.ownsRow W.heap.size e d.sz v xs.length cs) (hrep : Reps (fun x c => Kd.FK d W okp x c) d.sz xs cs)
    (hg : W.grownBy w1 none) (hbase : base ≤ W.heap.size) (hok : ∀ k, okp k → ok k) (hfresh : ∀ k, W.heap.size ≤ k → ok k) : Kd.N d e w1 base ok v xs := by
  refine ⟨fun k hk => hfresh k (own_base ho k hk), Kd.chunks d.sz xs.length cs, Kd.chunks_length _ _ _, ⟨fun k hk => hk.symm, cs, ?_, ?_⟩, fun j x c hx hc => ?_⟩
  · rw [Kd.chunks_length]
    exact own_weaken ho hbase
  · exact Kd.reps_raw hrep (fun y c hk => ⟨d.K_len (Kd.FK_now hk), d.K_one (Kd.FK_now hk)⟩)
  · rw [Kd.chunks_get hc]
    refine Kd.FK_mono (Kd.FK_step (Kd.FK_bound (hrep.2 j x hx)) (fun k hk hlt => hg.block k hlt (by simp))) (fun k hk => ⟨hok k hk.1, fun he => ?_⟩)
    have := own_base ho k he.symm
    have := hk.2
    omega
theorem append_full_step {P : Program} {ops : Array Oper} {o : Oper} {a : Act} {Q : Exit → Act → World → Prop} {Kc : Act → World → Prop} {α : Type} (d : Kd α) {w0 W : World} (base : Nat) (hw : Region.wanted o (yielded ops a.tmps) = true) (s x : Operand) (t e : TypeId) (z : Value) (bytes : Nat)
    (ho : o.op = .call { callee := .builtin .append, args := #[s, x], argTypes := #[t, t] })
    (ht : P.underlying t = some (.slice e)) (hinfo : (P.info? e).map (fun i => (i.zero, i.size, i.bytes)) = some (some z, d.sz, bytes)) (hz : z.cells.size = d.sz) (hs0 : 0 < d.sz)
    (xs ys : List α) (A : Option Addr) (n : Nat) (B : Option Addr) (m c : Nat) (ok okp : Nat → Prop) (hs : a.eval s = .slice A n n) (hx : a.eval x = .slice B m c) (hm : 0 < m)
    (HX : Kd.V d e W base okp (.slice A n n) xs) (HY : Kd.V d e W base okp (.slice B m c) ys) (hokp : ∀ k, okp k → ok k) (hfresh : ∀ k, W.heap.size ≤ k → ok k)
    (HB : Below base w0 W) (hbase : base ≤ W.heap.size) (hl : (n + m) * bytes ≤ 140737488355328) (hl2 : n + m ≤ 1000000000000000)
    (h : ∀ v1 w1, Kd.N d e w1 base ok v1 (xs ++ ys) → Below base w0 w1 → Below W.heap.size W w1 → Kc (a.put o.dst v1) w1) :
    if Region.wanted o (yielded ops a.tmps) = true then Oper.wp P o a W Kc Q else Kc (a.put o.dst undef) W := by
  rw [if_pos hw]
  obtain ⟨i, hi, hzz⟩ := Option.map_eq_some_iff.1 hinfo
  simp only [Prod.mk.injEq] at hzz
  obtain ⟨hz1, hsz, hby⟩ := hzz
  have nx := (Kd.V_reads' HX).1
  have ny := (Kd.V_reads' HY).1
  obtain ⟨cx, lx, rx, ax, ox⟩ := V_cells HX
  obtain ⟨cy, ly, ry, ay, oy⟩ := V_cells HY
  obtain ⟨ad, rfl, hay⟩ := ay (by omega)
  have hrun : ∃ v' w', (Builtin.append_ #[t, t] o.type #[.slice A n n, .slice (some ad) m c]).run P W = .ok v' w' ∧ w'.ownsRow W.heap.size e d.sz v' (n + m) (cx ++ cy) ∧ W.grownBy w' none := by
    rcases Nat.eq_zero_or_pos n with h0 | hp
    · cases A with
      | some b =>
        have hcx : cx = [] := List.eq_nil_of_length_eq_zero (by rw [lx, ← nx, h0, Nat.zero_mul])
        exact run_append_arg_grows (P := P) W t o.type e i z d.sz bytes ht hi hz1 hsz hby hz hs0 b n n cx (by rw [lx, ← nx]) (fun j u hj => by rw [hcx] at hj; cases hj) ad m c cy (by rw [ly, ← ny]) hay (by omega) (by unfold maxLen; omega) hl
      | none =>
        have hcx : cx = [] := List.eq_nil_of_length_eq_zero (by rw [lx, ← nx, h0, Nat.zero_mul])
        subst h0
        subst hcx
        obtain ⟨v', w', hrun, r1, r2, _⟩ := run_append_own (P := P) W W.heap.size t o.type e i z d.sz bytes ht hi hz1 hsz hby hz hs0 (.slice none 0 0) 0 [] (World.ownsRow_nil W _ e d.sz) ad m c cy (by rw [ly, ← ny]) hay oy (by unfold maxLen; omega) hl (Nat.le_refl _)
        exact ⟨v', w', hrun, r1, r2⟩
    · obtain ⟨b, rfl, hax⟩ := ax (by omega)
      exact run_append_arg_grows (P := P) W t o.type e i z d.sz bytes ht hi hz1 hsz hby hz hs0 b n n cx (by rw [lx, ← nx]) hax ad m c cy (by rw [ly, ← ny]) hay (by omega) (by unfold maxLen; omega) hl
  obtain ⟨v', w', hrun, hown, hgr⟩ := hrun
  unfold Oper.wp
  simp [execOp, ho, resolve, invoke, builtin, hs, hx, hrun, Result.andThen]
  refine h v' w' (N_of_own (xs := xs ++ ys) (cs := cx ++ cy) (okp := okp) (by rw [List.length_append, ← nx, ← ny]; exact hown) (reps_app rx ry) hgr hbase hokp hfresh) (pw_below_grown HB none hbase hgr (fun k hk => by cases hk)) (pw_below_grown (Below.refl _ _) none (Nat.le_refl _) hgr (fun k hk => by cases hk))
noncomputable def apx (l : Wl) (s : Dk) (b : List Int) : Wl × Dk × Int :=
  if b.length = 0 then (l, s, 1) else if 6000 < b.length then (l, s, 4) else if l.br = true then (l, s, 9) else if rmx l < (b.length : Int) then (l, s, 3) else
  if (layx l.fi (CellLaws.many b.length + 1) s l.en ((CellLaws.cutn b l.ep l.li (CellLaws.many b.length : Int) (CellLaws.many b.length)).map encC)).2 ≠ 0
  then ({l with br := true}, (layx l.fi (CellLaws.many b.length + 1) s l.en ((CellLaws.cutn b l.ep l.li (CellLaws.many b.length : Int) (CellLaws.many b.length)).map encC)))
  else ({l with en := l.en + CellLaws.many b.length, rs := l.rs ++ [b]}, (layx l.fi (CellLaws.many b.length + 1) s l.en ((CellLaws.cutn b l.ep l.li (CellLaws.many b.length : Int) (CellLaws.many b.length)).map encC)).1, 0)
theorem cut_at {w : World} {A : Option Addr} {m c : Nat} {b : List Int} {ep li : Int} (hm : m = b.length) (hc : m ≤ c) (hC : Kd.C (Kd.int .u8) w A b.length b) (hl : b.length ≤ 100000) :
    Calls Try.prog 73 #[.slice A m c, .int .u64 ep, .int .u64 li] w fun e w' => ∃ (A' : Option Addr) (n' c' : Nat), e = .returned (.slice A' n' c') ∧ n' = CellLaws.many b.length ∧ Kd.V k106 106 w' 0 (fun k => w.heap.size ≤ k ∧ k < w'.heap.size) (.slice A' n' c') (CellLaws.cutn b ep li (CellLaws.many b.length : Int) (CellLaws.many b.length)) ∧ Below w.heap.size w w' := by
 subst hm
 obtain ⟨k, hk⟩ := (CellLaws.cut_ev (l := b) ep li hl).rounds
 refine (cell_Cut.calls k A c b ep li _ w hC hc hk).mono ?_
 rintro e w' ⟨v, rfl, hS, hb⟩
 obtain ⟨A', c', rfl⟩ := Kd.S_slice hS
 have hl2 : (CellLaws.cutn b ep li (CellLaws.many b.length : Int) (CellLaws.many b.length)).length = CellLaws.many b.length := CellLaws.cutn_length _ _ _ _ _
 have hV := Kd.V_mono (ok' := fun k => w.heap.size ≤ k ∧ k < w'.heap.size) (Kd.R_V (base' := 0) (Kd.R_bound (Kd.S_R hS))) (fun k hk => ⟨hk.2.1, hk.2.2.1⟩)
 rw [hl2] at hV ⊢
 exact ⟨A', _, c', rfl, rfl, hV, hb⟩
theorem cut_may {b : List Int} (hb : CrcK.Bytes b) (hl : b.length ≤ 6000) (ep li : Int) : ∀ x ∈ CellLaws.cutn b ep li (CellLaws.many b.length : Int) (CellLaws.many b.length), MayC x := by
 intro x hx
 unfold CellLaws.cutn at hx
 obtain ⟨i, hi, rfl⟩ := List.mem_map.1 hx
 rw [List.mem_range] at hi
 have hm : CellLaws.many b.length ≤ 200 := by unfold CellLaws.many; omega
 refine ⟨⟨by show (0 : Int) ≤ (i : Int); omega, by show (i : Int) < ((CellLaws.many b.length : Nat) : Int); omega, by show ((CellLaws.many b.length : Nat) : Int) ≤ 65535; omega, ?_⟩, CellLaws.part_bytes hb i⟩
 show (CellLaws.part b i).length ≤ 39
 rw [CellLaws.part_length]; omega
theorem one_V {w : World} {base base' m : Nat} {A : Option Addr} {c : Nat} {b : List Int} (hm : m = b.length) (hR : Kd.R (Kd.int .u8) 5 w base (fun _ => True) (.slice A m c) b) (hbb : base' ≤ base) (hbw : base' ≤ w.heap.size) : Kd.V kL 27 (w.alloc (.cells #[.slice A m c] 27)) base' (fun k => base' ≤ k) (.slice (some ⟨w.heap.size, 0, none⟩) 1 1) [b] := by
 subst hm
 refine Kd.V_mk (xs := [b]) (Nat.le_refl _) (fun W' hW => ?_)
 have hb := blk_new w (.cells #[.slice A b.length c] 27)
 have hb' := (hW _ hbw (blk_lt hb)).trans hb
 have h1 := below_alloc (Below.refl w.heap.size w) (.cells #[.slice A b.length c] 27)
 have hR' := Kd.R_reads' (Kd.R_move (Kd.R_bound hR) (w1 := W') (fun k hk => (hW k (Nat.le_trans hbb hk.2.1) (Nat.lt_of_lt_of_le hk.2.2.1 h1.size)).trans (h1.block k hk.2.2.1)))
 refine ⟨rfl, by show 1 ≤ 9223372036854775807; omega, fun _ => ⟨⟨w.heap.size, 0, none⟩, rfl, fun j p hj => ?_⟩⟩
 cases j with
 | zero =>
  have e : b = p := by simpa using hj
  subst e
  refine ⟨[.slice A b.length c], rfl, ⟨A, c, rfl, hR'.2.1, hR'.2.2⟩, fun i u hu => ?_⟩
  cases i with
  | zero =>
   have e : u = .slice A b.length c := by simpa using hu.symm
   subst e
   have := (blk_cell hb' 0).trans (rfl : #[Value.slice A b.length c][0]? = some (.slice A b.length c))
   simpa [Addr.add] using this
  | succ i => simp at hu
 | succ j => simp at hj
theorem room_many {l : Wl} {b : List Int} (h : ¬ rmx l < (b.length : Int)) (h6 : b.length ≤ 6000) (he : l.en ≤ l.si * 4) : l.en + CellLaws.many b.length ≤ l.si * 4 ∧ CellLaws.many b.length ≤ 200 := by
 unfold rmx mn at h
 unfold CellLaws.many
 split at h
 · omega
 split at h <;> omega
theorem V_full {w : World} {base : Nat} {ok : Nat → Prop} {A : Option Addr} {n c : Nat} {rs : List (List Int)} (h : Kd.V kL 27 w base ok (.slice A n c) rs) (hn : n = rs.length) : Kd.V kL 27 w base ok (.slice A n n) rs := by
 subst hn
 obtain ⟨_, _, hF⟩ := Kd.V_at h
 exact Kd.V_mk (Nat.le_refl _) hF
section
variable {w0 w : World} {p q n c : Nat} {l : Wl} {s : Dk} {A : Option Addr} {O OV : Nat → Prop}
set_option maxRecDepth 20000 in
set_option maxHeartbeats 40000000 in
theorem L_Append (h : LG w0 p q l s O w) (hs : l.si ≤ 4096) (he : l.en ≤ l.si * 4) (hfs : l.fi + l.si ≤ s.nb) (hrs : l.rs.length ≤ 16384) (hpd : s.pend.length + 800 ≤ 90000) (Ab : Option Addr) (cb mb : Nat) (b : List Int) (hm : mb = b.length) (hmb : mb ≤ cb) (hC : ∀ W, Below w0.heap.size w0 W → kO (fun k => O k ∧ k ≠ p) w W → Kd.C (Kd.int .u8) W Ab b.length b) (hby : CrcK.Bytes b) (l' : Wl) (s' : Dk) (e' : Int) (hx : apx l s b = (l', s', e')) :
    Calls Try.prog 45 #[.pointer (some ⟨p, 0, none⟩), .slice Ab mb cb] w fun e w' => e = .returned (.int .i64 e') ∧ (∃ O', (∀ k, O k → O' k) ∧ LG w0 p q l' s' O' w') ∧ kO (fun k => O k ∧ k ≠ p) w w' := by
 have MB := Aside0.mk hm
 have MBC := Aside0.mk hmb
 have C0 := Aside0.mk hC
 have HS := Aside0.mk hs
 have HE := Aside0.mk he
 have HFS := Aside0.mk hfs
 have HRS := Aside0.mk hrs
 have HPD := Aside0.mk hpd
 have HBY := Aside0.mk hby
 have HG := Aside0.mk h
 have stay : ∀ w', Below w.heap.size w w' → (∃ O' : Nat → Prop, (∀ k, O k → O' k) ∧ LG w0 p q l s O' w') ∧ kO (fun k => O k ∧ k ≠ p) w w' := fun w' hb => by
   obtain ⟨A, n, c, OV, h⟩ := HG.out
   exact ⟨⟨O, fun _ hk => hk, ⟨A, n, c, OV, LX_step h hb⟩⟩, kO_mono (kO_below h.d hb) (fun k hk => hk.1)⟩
 have STAY := Aside0.mk stay
 obtain ⟨A, n, c, OV, hX⟩ := h
 have X0 := Aside0.mk hX
 unfold apx at hx
 clear stay hm hmb hC hs he hfs hrs hpd hby
 by_cases c1 : b.length = 0
 · rw [if_pos c1] at hx
   have HX := Aside0.mk hx
   have c1b : ((mb : Int) == 0) = true := by rw [MB.out]; simp [c1]
   clear hx c1 hX
   go_enter Try.func45, Try.ntmps45
   go_wp2
   go_ret
   have hx := HX.out
   injection hx with e1 e2
   injection e2 with e2 e3
   subst e1 e2 e3
   exact ⟨rfl, STAY.out _ (Below.refl _ _)⟩
 rw [if_neg c1] at hx
 have c1b : ((mb : Int) == 0) = false := beq_eq_false_iff_ne.mpr (by rw [MB.out]; omega)
 by_cases c2 : 6000 < b.length
 · rw [if_pos c2] at hx
   have HX := Aside0.mk hx
   have c2b : decide ((mb : Int) > 6000) = true := decide_eq_true (by rw [MB.out]; omega)
   have c2c : decide (6000 < mb) = true := decide_eq_true (by rw [MB.out]; omega)
   clear hx c1 c2 hX
   go_enter Try.func45, Try.ntmps45
   go_wp2
   go_ret
   have hx := HX.out
   injection hx with e1 e2
   injection e2 with e2 e3
   subst e1 e2 e3
   exact ⟨rfl, STAY.out _ (Below.refl _ _)⟩
 rw [if_neg c2] at hx
 have BLN := Aside0.mk (show b.length ≤ 100000 by omega)
 have BLN2 := Aside0.mk (show b.length ≤ 100000 by omega)
 have B6000 := Aside0.mk (show b.length ≤ 6000 by omega)
 have c2b : decide ((mb : Int) > 6000) = false := decide_eq_false (by rw [MB.out]; omega)
 have c2c : decide (6000 < mb) = false := decide_eq_false (by rw [MB.out]; omega)
 have y7 : w.cell? ⟨p, 7, none⟩ = some (.bool l.br) := (blk_cell hX.box 7).trans rfl
 obtain ⟨br, hbr⟩ : ∃ br, br = l.br := ⟨_, rfl⟩
 rw [← hbr] at hx y7
 cases br with
 | true =>
  rw [if_pos rfl] at hx
  have HX := Aside0.mk hx
  clear hx c1 c2 hX hbr
  go_enter Try.func45, Try.ntmps45
  go_wp2
  go_ret
  have hx := HX.out
  injection hx with e1 e2
  injection e2 with e2 e3
  subst e1 e2 e3
  exact ⟨rfl, STAY.out _ (Below.refl _ _)⟩
 | false =>
 rw [if_neg (by decide)] at hx
 obtain ⟨rm, hrm⟩ : ∃ rm, rm = rmx l := ⟨_, rfl⟩
 rw [← hrm] at hx
 have RM := Aside0.mk hrm.symm
 have mbl : mb ≤ 6000 := by rw [MB.out]; exact B6000.out
 by_cases c3 : rm < (b.length : Int)
 · rw [if_pos c3] at hx
   have HX := Aside0.mk hx
   have c3b : decide ((mb : Int) > rm) = true := decide_eq_true (by rw [MB.out]; exact c3)
   have c3c : decide (rm < (mb : Int)) = true := decide_eq_true (by rw [MB.out]; exact c3)
   clear hx c1 c2 c3 hX hbr hrm
   go_enter Try.func45, Try.ntmps45
   go_wp2_with (go_at_call 40; refine (L_Room HG.out HS.out HE.out rm RM.out).mono ?_; rintro e w1 ⟨rfl, hb⟩; have B1 := Aside0.mk hb; clear hb)
   go_ret
   have hx := HX.out
   injection hx with e1 e2
   injection e2 with e2 e3
   subst e1 e2 e3
   exact ⟨rfl, STAY.out _ B1.out⟩
 rw [if_neg c3] at hx
 have c3b : decide ((mb : Int) > rm) = false := decide_eq_false (by rw [MB.out]; exact c3)
 have c3c : decide (rm < (mb : Int)) = false := decide_eq_false (by rw [MB.out]; exact c3)
 have HX := Aside0.mk hx
 have HBR := Aside0.mk hbr
 have c3' := Aside0.mk c3
 clear hx c1 c2 c3 hX hbr hrm
 go_enter Try.func45, Try.ntmps45
 go_upto_region 9 with (go_at_call 40; refine (L_Room HG.out HS.out HE.out rm RM.out).mono ?_; rintro e w1 ⟨rfl, hb⟩; have B1 := Aside0.mk hb; clear hb)
 have X1 := Aside0.mk (LX_step X0.out B1.out)
 have K1 := Aside0.mk (kO_below X0.out.d B1.out)
 refine start_ (n := 11) (S := fun w' => w'.cell? ⟨p, 3, none⟩ = some (.int .u64 l.ep) ∧ w'.cell? ⟨p, 4, none⟩ = some (.int .u64 l.li)) (ds := []) #[false, false, false, false, false, false, false, false, false, false, false] (by kernel_rfl) rfl rfl ⟨((LX_cells (LX_step X1.out (below_drew (Below.refl _ _)))).2.2.2.1), ((LX_cells (LX_step X1.out (below_drew (Below.refl _ _)))).2.2.2.2.1)⟩ (fun hHeld => ?_)
 refine pu 0 (some 30) (bm 11 1) ?_
 refine pu 1 (some 31) (bm 11 3) ?_
 refine pu 2 (some 32) (bm 11 7) ?_
 refine pu 3 (some 33) (bm 11 15) ?_
 refine pu 5 (some 35) (bm 11 47) ?_
 refine pu 6 (some 36) (bm 11 111) ?_
 refine pu 7 (some 37) (bm 11 239) ?_
 refine take_ (i := 4) (N := some 34) (v := ?_) (a' := ?_) #[true, true, true, true, true, true, true, true, false, false, false] rfl rfl (by kernel_rfl) (fun _ _ _ h => h) (Or.inl ⟨by rfl, ?_⟩) hHeld ?_ ?_
 rotate_left
 · rintro w' ⟨s0, s1⟩
   go_simp
   with_reducible rfl
 rotate_left
 · simp only [Act.put, List.setIfInBounds_toArray, List.set_cons_zero, List.set_cons_succ, i64_w, i32_w]
   rfl
 refine take_ (i := 8) (N := some 38) (v := ?_) (a' := ?_) #[true, true, true, true, true, true, true, true, true, false, false] rfl rfl (by kernel_rfl) (fun _ _ _ h => h) (Or.inl ⟨by rfl, ?_⟩) hHeld ?_ ?_
 rotate_left
 · rintro w' ⟨s0, s1⟩
   go_simp
   with_reducible rfl
 rotate_left
 · simp only [Act.put, List.setIfInBounds_toArray, List.set_cons_zero, List.set_cons_succ, i64_w, i32_w]
   rfl
 refine one_ (i := 9) (N := some 39) #[true, true, true, true, true, true, true, true, true, true, false] rfl rfl (by kernel_rfl) (by decide) (fun K hK => ?_)
 refine goes_ Try.func73 (by kernel_rfl) rfl #[.slice Ab mb cb, .int .u64 l.ep, .int .u64 l.li] (by rfl) rfl rfl (by simp only [List.map_toArray, List.map_cons, List.map_nil]; rfl) ?_
 with_reducible refine (cut_at MB.out MBC.out (C0.out _ (LX_below (LX_step X1.out (below_drew (Below.refl _ _)))) (kO_mono (kO_trans K1.out (kO_below X1.out.d (below_drew (Below.refl _ _)))) (fun _ hk => hk.1))) BLN.out).mono ?_
 rintro e w3 ⟨A3, n3, c3, rfl, hn, hV, hb⟩
 refine ⟨_, rfl, ?_⟩
 have N3 := Aside0.mk hn
 have V3 := Aside0.mk hV
 have X3 := Aside0.mk (LX_deep (LX_step X1.out (below_drew (Below.refl _ _))) hb)
 have HB3 := Aside0.mk hb
 clear hn hV hb
 refine hK.out _ _ ⟨((LX_cells (X3.out)).2.2.2.1), ((LX_cells (X3.out)).2.2.2.2.1)⟩ (fun hHeld => ?_)
 clear hK K
 refine no (some 39) ?_
 refine pu 10 (some 5) (bm 11 2047) ?_
 refine done_ (by kernel_rfl) ?_
 have MC := Aside0.mk (cut_may HBY.out B6000.out l.ep l.li)
 have PL := Aside0.mk (JO_O X1.out.d X1.out.op)
 have K3 := Aside0.mk (kO_trans K1.out (kO_below X1.out.d (below_step (below_drew (Below.refl _ w1)) HB3.out)))
 obtain ⟨cs, hcs⟩ : ∃ cs, cs = CellLaws.cutn b l.ep l.li (CellLaws.many b.length : Int) (CellLaws.many b.length) := ⟨_, rfl⟩
 have CL := Aside0.mk (show cs.length = CellLaws.many b.length by rw [hcs]; exact CellLaws.cutn_length _ _ _ _ _)
 obtain ⟨mn', hmn⟩ : ∃ mn', mn' = CellLaws.many b.length := ⟨_, rfl⟩
 have MNY := Aside0.mk (show l.en + mn' ≤ l.si * 4 ∧ mn' ≤ 200 by rw [hmn]; exact room_many (show ¬ rmx l < (b.length : Int) by rw [RM.out]; have := c3'.out; omega) B6000.out HE.out)
 have hx := HX.out
 rw [← hcs, ← hmn] at hx
 obtain ⟨⟨s2, e2⟩, hly⟩ : ∃ r, r = layx l.fi (mn' + 1) s l.en (cs.map encC) := ⟨_, rfl⟩
 rw [← hly] at hx
 have HXX := Aside0.mk hx
 rw [← hcs] at V3 MC
 rw [← hmn] at N3 CL
 have LY := Aside0.mk (show layx l.fi (cs.length + 1) s l.en (cs.map encC) = (s2, e2) by rw [CL.out]; exact hly.symm)
 clear hx hcs hmn hly HX c3'
 go_upto_region 11 with (go_at_call 74; refine (L_lay ⟨_, _, _, _, X3.out⟩ V3.out (fun k hk => ⟨.inr hk, fun e => by have h1 := PL.out; have h2 := hk.1; rw [e] at h2; exact absurd h2 (by simpa using h1)⟩) (by rw [N3.out, CL.out]) MC.out (by rw [CL.out]; have h1 := MNY.out.1; have h2 := HFS.out; omega) (by rw [CL.out]; have h1 := MNY.out.2; have h2 := HPD.out; omega) s2 e2 LY.out).mono ?_; rintro e w4 ⟨rfl, hj, hk⟩; have G4 := Aside0.mk hj; have K4 := Aside0.mk hk; clear hj hk)
 have OO := Aside0.mk (show ∀ k, O k → O k ∨ (w1.drew.heap.size ≤ k ∧ k < w3.heap.size) from fun k hk => .inl hk)
 have KF := Aside0.mk (kO_trans K3.out (kO_mono K4.out OO.out))
 obtain ⟨O', hG4, hOO⟩ : ∃ O' : Nat → Prop, LG w0 p q l s2 O' w4 ∧ ∀ k, O k → O' k := ⟨_, G4.out, OO.out⟩
 have OO := Aside0.mk hOO
 obtain ⟨A, n, c, OV, hX4⟩ := hG4
 have X4 := Aside0.mk hX4
 clear hX4 hOO G4 K4 V3 X3 MC
 by_cases ce : e2 = 0
 rotate_left
 · have FIN := Aside0.mk (show ({l with br := true} : Wl) = l' ∧ s2 = s' ∧ e2 = e' from by
     have hx := HXX.out
     rw [if_pos ce] at hx
     injection hx with e1 e3
     injection e3 with e3 e4
     exact ⟨e1, e3, e4⟩)
   have ceb : (e2 != 0) = true := by simp [ce]
   have f7 := blk_frozen X4.out.box 7
   have y7' : w4.cell? ⟨p, 7, none⟩ = some (.bool l.br) := (blk_cell X4.out.box 7).trans rfl
   clear ce HXX
   go_wp2
   go_ret
   refine ⟨by rw [FIN.out.2.2]; rfl, ⟨O', OO.out, ⟨A, n, c, OV, by rw [← FIN.out.1, ← FIN.out.2.1]; exact LX_set X4.out 7 _ rfl rfl⟩⟩, kO_trans (kO_mono KF.out (fun k hk => hk.1)) ⟨Nat.le_of_eq (by simp), fun k hk => Below.heap_setCell w4 ⟨p, 7, none⟩ _ k hk.2⟩⟩
 have FIN := Aside0.mk (show ({l with en := l.en + mn', rs := l.rs ++ [b]} : Wl) = l' ∧ s2 = s' ∧ e' = 0 from by
   have hx := HXX.out
   rw [if_neg (by simp [ce])] at hx
   injection hx with e1 e2
   injection e2 with e2 e3
   exact ⟨by rw [← HBR.out]; exact e1, e2, e3.symm⟩)
 subst ce
 clear HXX
 have y5 : w4.cell? ⟨p, 5, none⟩ = some (.int .i64 (l.en : Int)) := (blk_cell X4.out.box 5).trans rfl
 have f5 := blk_frozen X4.out.box 5
 have en1 : l.en ≤ 16384 := by have h1 := HS.out; have h2 := HE.out; omega
 have mn1 : mn' ≤ 200 := MNY.out.2
 have N3M := Aside0.mk (show n3 = mn' from N3.out)
 have w5 : wrap64 ((l.en : Int) + (n3 : Int)) = (l.en : Int) + (mn' : Int) := by rw [N3M.out]; unfold wrap64; omega
 obtain ⟨W5, hW5⟩ : ∃ W5, W5 = w4.setCell ⟨p, 5, none⟩ (.int .i64 ((l.en : Int) + (mn' : Int))) := ⟨_, rfl⟩
 have X6 := Aside0.mk (show LX w0 p q {l with en := l.en + mn'} s2 A n c O' OV W5.drew from by rw [hW5, ← Int.natCast_add]; exact LX_step (LX_set X4.out 5 _ rfl rfl) (below_drew (Below.refl _ _)))
 have far5 := Aside0.mk (show ∀ k, k ≠ p → W5.drew.heap[k]? = w4.heap[k]? from fun k hk => by rw [hW5]; exact Below.heap_setCell w4 ⟨p, 5, none⟩ _ k hk)
 have SZ5 := Aside0.mk (show w4.heap.size ≤ W5.drew.heap.size by rw [hW5]; simp)
 have HW5 := Aside0.mk hW5
 clear hW5
 have nc : n ≤ c := (Kd.V_at X4.out.v).2.1
 go_upto_region 15 with (fail)
 rw [← HW5.out]
 clear y5 f5
 refine start_ (n := 23) (S := fun w' => w'.cell? ⟨p, 6, none⟩ = some (.slice A n c)) (ds := [22]) #[false, false, false, false, false, false, false, false, false, false, false, false, false, false, false, false, false, false, false, false, false, false, false] (by kernel_rfl) rfl rfl (((blk_cell X6.out.box 6).trans rfl)) (fun hHeld => ?_)
 have FAR5 := far5.out; have SZQ5 := SZ5.out; have KQ6 := kO_trans (kO_mono KF.out (fun k (hk : O k ∧ k ≠ p) => hk.1)) (show kO (fun k => O k ∧ k ≠ p) w4 W5.drew from ⟨SZ5.out, fun k hk => far5.out k hk.2⟩); clear far5 SZ5; generalize W5.drew = w6 at hHeld X6 FAR5 SZQ5 KQ6 ⊢; have far5 := Aside0.mk FAR5; have SZ5 := Aside0.mk SZQ5; have K6 := Aside0.mk KQ6; clear FAR5 SZQ5 KQ6
 refine pu 0 (some 58) (bm 23 1) ?_
 refine pu 1 (some 59) (bm 23 3) ?_
 refine pu 2 (some 60) (bm 23 7) ?_
 refine pu 3 (some 61) (bm 23 15) ?_
 refine pu 5 (some 63) (bm 23 47) ?_
 refine pu 6 (some 64) (bm 23 111) ?_
 refine pu 7 (some 65) (bm 23 239) ?_
 refine pu 10 (some 68) (bm 23 1263) ?_
 refine pu 11 (some 69) (bm 23 3311) ?_
 refine pu 12 (some 70) (bm 23 7407) ?_
 refine pu 16 (some 74) (bm 23 72943) ?_
 refine take_ (i := 4) (N := some 62) (v := ?_) (a' := ?_) #[true, true, true, true, true, true, true, true, false, false, true, true, true, false, false, false, true, false, false, false, false, false, false] rfl rfl (by kernel_rfl) (fun _ _ _ h => h) (Or.inl ⟨by rfl, ?_⟩) hHeld ?_ ?_
 rotate_left
 · intro w' s0
   go_simp
   with_reducible rfl
 rotate_left
 · simp only [Act.put, List.setIfInBounds_toArray, List.set_cons_zero, List.set_cons_succ, i64_w, i32_w]
   rfl
 refine take_ (i := 8) (N := some 66) (v := ?_) (a' := ?_) #[true, true, true, true, true, true, true, true, true, false, true, true, true, false, false, false, true, false, false, false, false, false, false] rfl rfl (by kernel_rfl) (fun _ _ _ h => h) (Or.inl ⟨by rfl, ?_⟩) hHeld ?_ ?_
 rotate_left
 · intro w' s0
   go_simp
   with_reducible rfl
 rotate_left
 · simp only [Act.put, List.setIfInBounds_toArray, List.set_cons_zero, List.set_cons_succ, i64_w, i32_w]
   rfl
 refine pu 9 (some 67) (bm 23 73727) ?_
 refine take_ (i := 13) (N := some 71) (v := ?_) (a' := ?_) #[true, true, true, true, true, true, true, true, true, true, true, true, true, true, false, false, true, false, false, false, false, false, false] rfl rfl (by kernel_rfl) (fun _ _ _ h => h) (Or.inl ⟨by rfl, ?_⟩) hHeld ?_ ?_
 rotate_left
 · intro w' s0
   go_simp
   with_reducible rfl
 rotate_left
 · simp only [Act.put, List.setIfInBounds_toArray, List.set_cons_zero, List.set_cons_succ, i64_w, i32_w]
   rfl
 refine pu 14 (some 72) (bm 23 98303) ?_
 refine pu 15 (some 73) (bm 23 131071) ?_
 refine one_ (i := 17) (N := some 75) #[true, true, true, true, true, true, true, true, true, true, true, true, true, true, true, true, true, true, false, false, false, false, false] rfl rfl (by kernel_rfl) (by decide) (fun K hK => ?_)
 refine goes_ Try.func72 (by kernel_rfl) rfl #[.slice Ab mb cb] (by rfl) rfl rfl (by simp only [List.map_toArray, List.map_cons, List.map_nil]; rfl) ?_
 with_reducible refine (clone_at MB.out MBC.out BLN2.out (C0.out _ (LX_below X6.out) K6.out)).mono ?_
 rintro e w7 ⟨A7, c7, rfl, hR, hb⟩
 refine ⟨_, rfl, ?_⟩
 have R7 := Aside0.mk hR
 have X7 := Aside0.mk (LX_step X6.out hb)
 have B7 := Aside0.mk hb
 clear hR hb
 refine hK.out _ _ (((blk_cell X7.out.box 6).trans rfl)) (fun hHeld => ?_)
 clear hK K
 refine no (some 75) ?_
 refine one_ (i := 18) (N := some 76) #[true, true, true, true, true, true, true, true, true, true, true, true, true, true, true, true, true, true, true, false, false, false, false] rfl rfl (by kernel_rfl) (by decide) (fun K hK => ?_)
 refine value_ (w1 := w7.alloc (.cells #[.slice A7 mb c7] 27)) (v := .slice (some ⟨w7.heap.size, 0, none⟩) 1 1) (by rfl) rfl ?_ ?_
 · first | (go_simp; done) | (go_simp; rfl)
 have X8 := Aside0.mk (LX_step X7.out (below_alloc (Below.refl _ _) (.cells #[.slice A7 mb c7] 27)))
 have B8 := Aside0.mk (below_step B7.out (below_alloc (Below.refl _ _) (.cells #[.slice A7 mb c7] 27)))
 have Y8 := Aside0.mk (one_V (base' := w6.heap.size) MB.out R7.out (Nat.le_refl _) B7.out.size)
 refine hK.out _ _ (((blk_cell X8.out.box 6).trans rfl)) (fun hHeld => ?_)
 clear hK K
 refine no (some 76) ?_
 refine one_ (i := 19) (N := some 77) #[true, true, true, true, true, true, true, true, true, true, true, true, true, true, true, true, true, true, true, true, false, false, false] rfl rfl (by kernel_rfl) (by decide) (fun K hK => ?_)
 refine append_full_step (W := w7.alloc (.cells #[.slice A7 mb c7] 27)) kL (w0 := w6) w6.heap.size (by have hq := nc; first | exact if_pos hq | (rw [if_pos hq]; rfl) | (simp only [if_pos hq]; rfl) | (go_simp; simp [hq])) (.tmp 73) (.tmp 76) 46 27 (.slice none 0 0) 24 rfl Try.underlying46 info27w rfl (by decide) l.rs [b] A n (some ⟨w7.heap.size, 0, none⟩) 1 1 (fun k => OV k ∨ w6.heap.size ≤ k) (fun k => OV k ∨ w6.heap.size ≤ k) rfl rfl (by decide) (Kd.V_mono (show Kd.V kL 27 _ w6.heap.size OV (.slice A n n) l.rs from V_full X8.out.v X8.out.hn) (fun _ hk => .inl hk)) (Kd.V_mono Y8.out (fun _ hk => .inr hk)) (fun _ hk => hk) (fun k hk => .inr (Nat.le_trans B8.out.size hk)) B8.out B8.out.size (by have h1 := HRS.out; have h2 := (show n = l.rs.length from X8.out.hn); omega) (by have h1 := HRS.out; have h2 := (show n = l.rs.length from X8.out.hn); omega) ?_
 intro v9 w9 hN hb hB
 have N9 := Aside0.mk hN
 have B9 := Aside0.mk hb
 have HB9 := Aside0.mk hB
 have X9 := Aside0.mk (LX_step X8.out hB)
 obtain ⟨A9, c9, e9⟩ := Kd.N_slice hN
 obtain ⟨m9, hm9⟩ : ∃ m9, m9 = (l.rs ++ [b]).length := ⟨_, rfl⟩
 rw [← hm9] at e9
 have M9 := Aside0.mk hm9
 subst e9
 have f6 := blk_frozen X9.out.box 6
 have y6 : w9.cell? ⟨p, 6, none⟩ = some (.slice A n c) := (blk_cell X9.out.box 6).trans rfl
 clear hN hb hB hm9
 refine hK.out _ _ (((blk_cell X9.out.box 6).trans rfl)) (fun hHeld => ?_)
 clear hK K
 refine no (some 77) ?_
 refine pu 20 (some 78) (bm 23 2097151) ?_
 refine pu 21 (some 79) (bm 23 4194303) ?_
 refine last_ (i := 22) (N := none) #[true, true, true, true, true, true, true, true, true, true, true, true, true, true, true, true, true, true, true, true, true, true, true] rfl rfl (by kernel_rfl) (by decide) (fun K hK => ?_)
 refine skip_ (w1 := ?_) (by rfl) rfl ?_ ?_
 rotate_left
 · go_simp
   rfl
 refine hK.out _ _ ?_
 clear hK K
 refine done_ (by kernel_rfl) ?_
 go_wp2
 go_ret
 have LP6 := Aside0.mk (show p < w6.heap.size from JO_O X6.out.d X6.out.op)
 have RS9 := Aside0.mk (Kd.V_bound (Kd.N_V (base' := 0) N9.out))
 have hd := JO_write (j := 6) (JO_deep X6.out.d B9.out) (.inl X6.out.op) X6.out.lp (.slice A9 m9 c9)
 have hbox := blk_put X9.out.box 6 (u := .slice A9 m9 c9) (cs' := lgc q {l with en := l.en + mn', rs := l.rs ++ [b]} (.slice A9 m9 c9)) rfl
 have hne : ∀ k, (OV k ∨ w6.heap.size ≤ k) ∧ k < w9.heap.size → k ≠ p := fun k hk => by
   rcases hk.1 with h1 | h1
   · exact (X9.out.ov k h1).2.1
   · have := LP6.out; omega
 have hV := Kd.V_step (w1 := w9.setCell ⟨p, 6, none⟩ (.slice A9 m9 c9)) RS9.out (fun k hk _ => Below.heap_setCell w9 ⟨p, 6, none⟩ _ k (hne k hk))
 have hfin : LG w0 p q {l with en := l.en + mn', rs := l.rs ++ [b]} s2 (fun k => O' k ∨ (w6.heap.size ≤ k ∧ k < w9.heap.size)) (w9.setCell ⟨p, 6, none⟩ (.slice A9 m9 c9)) :=
   ⟨A9, m9, c9, _, hd, hbox, .inl X9.out.op, X9.out.lp, fun k hk => ⟨hk.1.elim (fun h1 => .inl (X9.out.ov k h1).1) (fun h1 => .inr ⟨h1, hk.2⟩), hne k hk, fun hx => hk.1.elim (fun h1 => (X9.out.ov k h1).2.2 hx) (fun h1 => Nat.lt_irrefl k (Nat.lt_of_lt_of_le (JO_O X6.out.d (X6.out.xo k hx)) h1))⟩, hV, M9.out, fun k hk => .inl (X9.out.xo k hk)⟩
 rw [FIN.out.1, FIN.out.2.1] at hfin
 refine ⟨by rw [FIN.out.2.2]; rfl, ⟨_, fun k hk => .inl (OO.out k hk), hfin⟩, ?_, fun k hk => ?_⟩
 · have h1 := KF.out.1
   have h2 := SZ5.out
   have h3 := B9.out.size
   simp
   omega
 have h1 := JO_O X4.out.d (OO.out k hk.1)
 exact (Below.heap_setCell w9 ⟨p, 6, none⟩ _ k hk.2).trans ((B9.out.block k (Nat.lt_of_lt_of_le h1 SZ5.out)).trans ((far5.out k hk.2).trans (KF.out.2 k hk.1)))
end
end Go.Proofs.Ytepipgneefcoiaa.D
namespace Go.Proofs.Ytepipgneefcoiaa.CellLaws
open Go.RowKit Go.Proofs.Ytepipgneefcoiaa Go.Proofs.Ytepipgneefcoiaa.D Go.Proofs.YtepipgneefcoiaaW.PrintWords Go.Proofs.YtepipgneefcoiaaW.PrintLast Go.Proofs.YtepipgneefcoiaaW.PrintMore
open Go.Proofs.Ytepipgneefcoiaa.CrcK (Bytes u32 more sum_ev refsum_ev bytes_rd u32_lt bytes_wf)
theorem wf_u64 {x : Int} (h : (Lit.int .u64 x).wf = true) : 0 ≤ x ∧ x < 18446744073709551616 := by
  have := bounds_u64 h
  omega
end Go.Proofs.Ytepipgneefcoiaa.CellLaws
namespace Go.Proofs.Ytepipgneefcoiaa.D
open Go.RowKit Go.Proofs.YtepipgneefcoiaaW.PrintWords Go.Proofs.YtepipgneefcoiaaW.PrintLast Go.Proofs.YtepipgneefcoiaaW.PrintMore
set_option maxRecDepth 8000 in
theorem sp8_get {L X : List Int} {o : Nat} (h : o + X.length ≤ L.length) (i : Nat) : (sp8 L o X)[i]? = if o ≤ i ∧ i < o + X.length then X[i - o]? else L[i]? := by
 unfold sp8
 by_cases c1 : i < o
 · rw [if_neg (by omega), List.append_assoc, List.getElem?_append_left (by rw [List.length_take]; omega), List.getElem?_take, if_pos c1]
 by_cases c2 : i < o + X.length
 rotate_left
 · rw [if_neg (by omega), List.getElem?_append_right (by rw [List.length_append, List.length_take]; omega), List.length_append, List.length_take, List.getElem?_drop]
   congr 1
   omega
 rw [if_pos ⟨by omega, c2⟩, List.getElem?_append_left (by rw [List.length_append, List.length_take]; omega), List.getElem?_append_right (by rw [List.length_take]; omega), List.length_take, Nat.min_eq_left (by omega)]
def aps (P : List Pc) (F : List Int) : List Int := P.foldl (fun F x => sp8 F (x.bl.toNat * 256 + x.at_.toNat) x.b) F
set_option maxRecDepth 8000 in
theorem rdP_eq {P : List Pc} {j : Nat} (h : j < P.length) : P[j]? = some (rdP P j) := by
 unfold rdP
 rw [List.getD_eq_getElem?_getD, List.getElem?_eq_getElem h]; rfl
set_option maxRecDepth 8000 in
theorem keepF_aps (P : List Pc) (F : List Int) : ∀ j, j ≤ P.length → keepF (fun _ => true) P j F = aps (P.take j) F
  | 0, _ => rfl
  | j + 1, hj => by
    have e : P.take (j + 1) = P.take j ++ [rdP P j] := by rw [List.take_add_one, rdP_eq (by omega)]; rfl
    unfold keepF
    rw [if_pos rfl, keepF_aps P F j (by omega), e]
    unfold aps
    rw [List.foldl_append]
    rfl
set_option maxRecDepth 8000 in
theorem keepF_all (P : List Pc) (F : List Int) : keepF (fun _ => true) P P.length F = aps P F := by
 rw [keepF_aps P F _ (Nat.le_refl _), List.take_of_length_le (Nat.le_refl _)]
def inB (x : Pc) (i : Nat) : Prop := x.bl.toNat * 256 ≤ i ∧ i < x.bl.toNat * 256 + 256
set_option maxRecDepth 8000 in
theorem keepF_far {s : Dk} (h : s.Ok) (kept : Nat → Bool) (i : Nat) : ∀ j, j ≤ s.pend.length → (∀ k, k < j → ¬ inB (rdP s.pend k) i) → (keepF kept s.pend j s.safe)[i]? = s.safe[i]?
  | 0, _, _ => rfl
  | j + 1, hj, hk => by
    have ih := keepF_far h kept i j (by omega) (fun k hk' => hk k (by omega))
    obtain ⟨h1, h2, h3, h4, h5⟩ := h.pend _ (rdP_mem (show j < s.pend.length by omega))
    have hf : (rdP s.pend j).bl.toNat * 256 + (rdP s.pend j).at_.toNat + (rdP s.pend j).b.length ≤ (keepF kept s.pend j s.safe).length := by rw [keepF_len h kept j (by omega), h5, h.safe]; omega
    unfold keepF
    split
    · have := hk j (by omega)
      unfold inB at this
      rw [sp8_get hf, if_neg (by rw [h5]; omega), ih]
    · exact ih
set_option maxRecDepth 8000 in
theorem backF_get {s : Dk} (h : s.Ok) (F : List Int) (hF : F.length = s.safe.length) (i : Nat) : ∀ j, j ≤ s.pend.length → (backF F s.pend j s.now)[i]? = F[i]? ∨ ((∀ k, k < j → ¬ inB (rdP s.pend k) i) ∧ (backF F s.pend j s.now)[i]? = s.now[i]?)
  | 0, _ => .inr ⟨fun k hk => by omega, rfl⟩
  | j + 1, hj => by
    have ih := backF_get h F hF i j (by omega)
    obtain ⟨h1, h2, h3, h4, h5⟩ := h.pend _ (rdP_mem (show j < s.pend.length by omega))
    have hc : (cut8 F ((rdP s.pend j).bl.toNat * 256) 256).length = 256 := cut8_len (by rw [hF, h.safe]; omega)
    have hf : (rdP s.pend j).bl.toNat * 256 + (cut8 F ((rdP s.pend j).bl.toNat * 256) 256).length ≤ (backF F s.pend j s.now).length := by rw [backF_len h F hF j (by omega), hc, h.now]; omega
    unfold backF
    rw [sp8_get hf, hc]
    by_cases c : (rdP s.pend j).bl.toNat * 256 ≤ i ∧ i < (rdP s.pend j).bl.toNat * 256 + 256
    · rw [if_pos c, cut8_at (by omega)]
      refine .inl ?_
      congr 1
      omega
    · rw [if_neg c]
      rcases ih with ih | ⟨ih1, ih2⟩
      · exact .inl ih
      · refine .inr ⟨fun k hk => ?_, ih2⟩
        by_cases e : k = j
        · subst e; exact c
        · exact ih1 k (by omega)
def Nw (s : Dk) : Prop := s.Ok ∧ s.now = aps s.pend s.safe
set_option maxRecDepth 8000 in
theorem stl_eq {s : Dk} (h : Nw s) (kept : Nat → Bool) : stl kept s = {s with safe := keepF kept s.pend s.pend.length s.safe, now := keepF kept s.pend s.pend.length s.safe, pend := []} := by
 obtain ⟨h, hn⟩ := h
 unfold stl
 congr 1
 apply List.ext_getElem?
 intro i
 rcases backF_get h _ (keepF_len h kept _ (Nat.le_refl _)) i _ (Nat.le_refl _) with e | ⟨e1, e2⟩
 · exact e
 rw [e2, keepF_far h kept i _ (Nat.le_refl _) e1, hn, ← keepF_all, keepF_far h _ i _ (Nat.le_refl _) e1]
set_option maxRecDepth 8000 in
theorem Nw_set {s s' : Dk} (h : Nw s) (h1 : s'.now = s.now) (h2 : s'.safe = s.safe) (h3 : s'.pend = s.pend) (h4 : s'.nb = s.nb) : Nw s' := by
 refine ⟨⟨by rw [h4]; exact h.1.nb0, by rw [h4]; exact h.1.nb1, by rw [h1, h4]; exact h.1.now, by rw [h2, h4]; exact h.1.safe, by rw [h3, h4]; exact h.1.pend⟩, by rw [h1, h2, h3]; exact h.2⟩
set_option maxRecDepth 8000 in
theorem pwx_Nw {s : Dk} (h : Nw s) : Nw (pwx s).1 :=
  Nw_set h (pwx_keeps s).2.2.1 (pwx_keeps s).2.2.2 (pwx_keeps s).1 (pwx_keeps s).2.1
set_option maxRecDepth 8000 in
theorem pcs_aps {L b : List Int} {n : Nat} (hb : b.length = 256) (hL : n * 256 + 256 ≤ L.length) : aps (pcs (n : Int) b) L = sp8 L (n * 256) b := by
 have l0 : (cut8 b 0 64).length = 64 := cut8_len (by omega)
 have l1 : (cut8 b 64 64).length = 64 := cut8_len (by omega)
 have l2 : (cut8 b 128 64).length = 64 := cut8_len (by omega)
 have l3 : (cut8 b 192 64).length = 64 := cut8_len (by omega)
 show sp8 (sp8 (sp8 (sp8 L (n * 256 + 0) (cut8 b 0 64)) (n * 256 + 64) (cut8 b 64 64)) (n * 256 + 128) (cut8 b 128 64)) (n * 256 + 192) (cut8 b 192 64) = _
 have f0 : n * 256 + 0 + (cut8 b 0 64).length ≤ L.length := by omega
 have m0 := sp8_len f0
 obtain ⟨L0, hL0⟩ : ∃ L0, L0 = sp8 L (n * 256 + 0) (cut8 b 0 64) := ⟨_, rfl⟩
 have g0 := fun i => sp8_get f0 i
 rw [← hL0] at m0 g0 ⊢
 have f1 : n * 256 + 64 + (cut8 b 64 64).length ≤ L0.length := by omega
 have m1 := sp8_len f1
 obtain ⟨L1, hL1⟩ : ∃ L1, L1 = sp8 L0 (n * 256 + 64) (cut8 b 64 64) := ⟨_, rfl⟩
 have g1 := fun i => sp8_get f1 i
 rw [← hL1] at m1 g1 ⊢
 have f2 : n * 256 + 128 + (cut8 b 128 64).length ≤ L1.length := by omega
 have m2 := sp8_len f2
 obtain ⟨L2, hL2⟩ : ∃ L2, L2 = sp8 L1 (n * 256 + 128) (cut8 b 128 64) := ⟨_, rfl⟩
 have g2 := fun i => sp8_get f2 i
 rw [← hL2] at m2 g2 ⊢
 have f3 : n * 256 + 192 + (cut8 b 192 64).length ≤ L2.length := by omega
 have f4 : n * 256 + b.length ≤ L.length := by omega
 apply List.ext_getElem?
 intro i
 rw [sp8_get f3, sp8_get f4, g2, g1, g0, l0, l1, l2, l3, hb]
 by_cases c : n * 256 ≤ i ∧ i < n * 256 + 256
 rotate_left
 · rw [if_neg c, if_neg (by omega), if_neg (by omega), if_neg (by omega), if_neg (by omega)]
 rw [if_pos c]
 split
 · rw [cut8_at (by omega)]; congr 1; omega
 split
 · rw [cut8_at (by omega)]; congr 1; omega
 split
 · rw [cut8_at (by omega)]; congr 1; omega
 split
 · rw [cut8_at (by omega)]; congr 1; omega
 omega
set_option maxRecDepth 8000 in
theorem wrx_Nw {s : Dk} (h : Nw s) (i : Int) (b : List Int) : Nw (wrx s i b).1 := by
 unfold wrx
 split
 · rename_i c
   have hp := pwx_Nw h
   obtain ⟨n, rfl, hn⟩ := hasB_nat c.1
   have k1 := (pwx_keeps s).2.1
   split
   · obtain ⟨t, ht⟩ : ∃ t, t = (pwx s).1 := ⟨_, rfl⟩
     rw [← ht] at hp k1 ⊢
     have ok := hp.1
     have hnow : n * 256 + 256 ≤ t.now.length := by rw [ok.now]; omega
     have L : ∀ o, o + 64 ≤ 256 → (cut8 b o 64).length = 64 := fun o ho => cut8_len (by rw [c.2]; omega)
     refine ⟨⟨ok.nb0, ok.nb1, ?_, ok.safe, ?_⟩, ?_⟩
     · show (sp8 t.now ((n : Int).toNat * 256) b).length = _
       rw [Int.toNat_natCast, sp8_len (by rw [c.2]; omega)]
       exact ok.now
     · intro x hx
       have hx : x ∈ t.pend ++ pcs (n : Int) b := hx
       rw [List.mem_append] at hx
       rcases hx with hx | hx
       · exact ok.pend x hx
       show 0 ≤ x.bl ∧ x.bl < (t.nb : Int) ∧ _
       have : x = ⟨n, 0, cut8 b 0 64⟩ ∨ x = ⟨n, 64, cut8 b 64 64⟩ ∨ x = ⟨n, 128, cut8 b 128 64⟩ ∨ x = ⟨n, 192, cut8 b 192 64⟩ := by simpa [pcs] using hx
       rcases this with e | e | e | e <;> subst e <;> dsimp only <;> exact ⟨by omega, by omega, by omega, by omega, L _ (by omega)⟩
     show sp8 t.now ((n : Int).toNat * 256) b = aps (t.pend ++ pcs (n : Int) b) t.safe
     have : aps (t.pend ++ pcs (n : Int) b) t.safe = aps (pcs (n : Int) b) (aps t.pend t.safe) := by unfold aps; rw [List.foldl_append]
     rw [this, ← hp.2, pcs_aps c.2 hnow, Int.toNat_natCast]
   exact hp
 exact h
set_option maxRecDepth 8000 in
theorem new_Nw (n : Nat) (h0 : 1 ≤ n) (h1 : n ≤ 4096) : Nw ⟨n, List.replicate (n * 256) 0, List.replicate (n * 256) 0, [], false, 0, false⟩ :=
  ⟨⟨h0, h1, List.length_replicate .., List.length_replicate .., fun x hx => by cases hx⟩, rfl⟩
def zc6 : S106 := ⟨0, 0, 0, 0, []⟩
def new8 (n : Nat) : Dk := ⟨n, List.replicate (n * 256) 0, List.replicate (n * 256) 0, [], false, 0, false⟩
theorem decZ_nought : decZ (List.replicate 64 0) = zc6 := by
 unfold decZ
 rw [if_neg]
 · rfl
 rintro ⟨_, _, h, _⟩
 exact absurd h (by decide)
theorem cut_nought {n o m : Nat} (h : o + m ≤ n) : cut8 (List.replicate n 0) o m = List.replicate m (0 : Int) := by
 simp [cut8]
 omega
theorem sec_nought {n o m : Nat} (h : (o + m) * 64 ≤ n) : (secL (List.replicate n 0) o m).map decZ = List.replicate m zc6 := by
 refine List.ext_getElem (by simp [secL]) (fun i h1 h2 => ?_)
 have hi : i < m := by simpa using h2
 simp only [secL, List.getElem_map, List.getElem_range, List.getElem_replicate]
 rw [cut_nought (by omega), decZ_nought]
theorem lmax_z (m : Nat) : lmax (List.replicate m zc6) = 0 := by
 unfold lmax
 induction m with
 | zero => rfl
 | succ m ih => rw [List.replicate_succ, List.foldl_cons]; exact ih
theorem rec1_z (m : Nat) (ep : Int) : rec1 (List.replicate m zc6) ep = none := by
 unfold rec1
 cases m with
 | zero => rfl
 | succ m => rw [if_neg (by simp), if_pos (show (rd_T106 (List.replicate (m + 1) zc6) 0).f3 = 0 from rfl)]
theorem prs_z (k m : Nat) (ep least : Int) : prs ep k (List.replicate m zc6) least = ([], 0) := by
 cases k with
 | zero => rfl
 | succ k => unfold prs; rw [rec1_z]
theorem zeros_bytes (n : Nat) : CrcK.Bytes (List.replicate n (0 : Int)) := by
 intro x hx
 rw [(List.mem_replicate.1 hx).2]
 omega
noncomputable def ab1 : S106 := ⟨5, 1, 0, 1, [97, 98]⟩
theorem ab_may : MayC ab1 := ⟨⟨by decide, by decide, by decide, by decide⟩, by intro x hx; simp [ab1] at hx; omega⟩
theorem dec_enc {c : S106} (h0 : 0 ≤ c.f0 ∧ c.f0 < 18446744073709551616) (h1 : 0 ≤ c.f1 ∧ c.f1 < 18446744073709551616) (hm : MayC c) : decZ (encC c) = c := by
 obtain ⟨g, g0, g1, g2, g3, g4⟩ := CellLaws.enc_good (l := c.f4) h0 h1 hm.may
 unfold decZ encC
 rw [if_pos g, g0, g1, g2, g3, g4]
theorem encC_len {c : S106} (hm : MayC c) : (encC c).length = 64 := CellLaws.enc_length hm.may.2.2.2
noncomputable def abD : List Int := encC ab1 ++ List.replicate 192 0
theorem abD_len : abD.length = 256 := by rw [abD, List.length_append, encC_len ab_may, List.length_replicate]
theorem ab_secs : (secL abD 0 4).map decZ = ab1 :: List.replicate 3 zc6 := by
 have hl := encC_len ab_may
 have h0 : cut8 abD 0 64 = encC ab1 := by simp [cut8, abD, hl]
 have hz : ∀ i, 1 ≤ i → i < 4 → cut8 abD (i * 64) 64 = List.replicate 64 0 := fun i h1 h2 => by
   unfold cut8 abD
   rw [List.drop_append, List.drop_of_length_le (by omega), List.nil_append, hl]
   exact cut_nought (by omega)
 have e : secL abD 0 4 = [cut8 abD 0 64, cut8 abD (1 * 64) 64, cut8 abD (2 * 64) 64, cut8 abD (3 * 64) 64] := rfl
 rw [e, h0, hz 1 (by omega) (by omega), hz 2 (by omega) (by omega), hz 3 (by omega) (by omega)]
 simp only [List.map_cons, List.map_nil, decZ_nought, dec_enc (c := ab1) (by decide) (by decide) ab_may]
 rfl
theorem ab_row : CellLaws.Row [ab1] := by
 intro j h
 have : j = 0 := by simp at h; omega
 subst this
 exact ⟨rfl, rfl, rfl, rfl, (show ([97, 98] : List Int).length ≠ 0 by decide), (show ([97, 98] : List Int).length ≤ 39 by decide), fun h => absurd h (show ¬ 0 + 1 < 1 by decide)⟩
theorem ab_rec : rec1 (ab1 :: List.replicate 3 zc6) 5 = some ([97, 98], 1, 1) := by
 unfold rec1
 rw [if_neg (by simp), if_neg (show ¬ (rd_T106 (ab1 :: List.replicate 3 zc6) 0).f3 = 0 from by decide), if_neg (show ¬ (rd_T106 (ab1 :: List.replicate 3 zc6) 0).f3 > _ from by decide), if_neg (show ¬ (rd_T106 (ab1 :: List.replicate 3 zc6) 0).f0 ≠ 5 from by decide)]
 rw [if_pos (show CellLaws.Row ((ab1 :: List.replicate 3 zc6).take (rd_T106 (ab1 :: List.replicate 3 zc6) 0).f3.toNat) from ab_row)]
 rfl
theorem ab_prs (k : Nat) : prs 5 (k + 1) (ab1 :: List.replicate 3 zc6) 0 = ([[97, 98]], 1) := by
 unfold prs
 rw [ab_rec]
 simp only
 rw [if_neg (by decide), show (ab1 :: List.replicate 3 zc6).drop 1 = List.replicate 3 zc6 from rfl, prs_z]
 rfl
theorem ab_lmax : lmax (ab1 :: List.replicate 3 zc6) = 1 := by rfl
def ab0 : Wl := ⟨0, 1, 5, 1, 0, [], false, fun _ => False⟩
noncomputable def abS : Dk := (wrx (new8 1) 0 abD).1
theorem ab_wrx : wrx (new8 1) 0 abD = (abS, 0) := by
 have hl := abD_len
 unfold abS wrx
 rw [if_pos ⟨by decide, hl⟩]
 rfl
theorem sp_nought {X : List Int} {n : Nat} (h : X.length ≤ n) : sp8 (List.replicate n 0) 0 X = X ++ List.replicate (n - X.length) 0 := by
 unfold sp8
 rw [List.take_zero, List.nil_append, Nat.zero_add, List.drop_replicate]
theorem layx_one {fi : Nat} {s s' : Dk} {a k : Nat} {X B : List Int} (ho : s.of = false) (ha : a % 4 = 0) (hB : sp8 (cut8 s.now ((fi + a / 4) * 256) 256) 0 X = B) (hw : wrx s ((fi + a / 4 : Nat) : Int) B = (s', 0)) : layx fi (k + 2) s a [X] = (s', 0) := by
 have e : ([X].take (4 - a % 4)).flatten = X := by rw [ha]; simp
 have e2 : [X].drop (4 - a % 4) = [] := by rw [ha]; simp
 have z : ∀ (k : Nat) (s : Dk) (a : Nat), layx fi (k + 1) s a [] = (s, 0) := fun k s a => by unfold layx; rw [if_pos List.length_nil]
 rw [layx]
 rw [if_neg (by simp), if_neg (by simp [ho]), e, e2, ha, Nat.zero_mul, hB, hw, if_neg (by simp)]
 exact z _ _ _
set_option maxRecDepth 20000 in
theorem ab_lay : layx 0 2 (new8 1) 0 [encC ab1] = (abS, 0) := by
 have hl := encC_len ab_may
 refine layx_one (B := abD) rfl rfl ?_ ab_wrx
 have e : cut8 (new8 1).now ((0 + 0 / 4) * 256) 256 = List.replicate 256 0 := by
   unfold new8
   exact cut_nought (by omega)
 rw [e, sp_nought (by omega), hl]
 unfold abD
 rfl
set_option maxRecDepth 20000 in
theorem ab_apx : apx ab0 (new8 1) [97, 98] = (⟨0, 1, 5, 1, 1, [[97, 98]], false, fun _ => False⟩, abS, 0) := by
 have hr : ¬ rmx ab0 < (([97, 98] : List Int).length : Int) := by decide
 unfold apx
 rw [if_neg (by decide), if_neg (by decide), if_neg (by decide), if_neg hr]
 rw [show layx ab0.fi (CellLaws.many ([97, 98] : List Int).length + 1) (new8 1) ab0.en ((CellLaws.cutn [97, 98] ab0.ep ab0.li (CellLaws.many ([97, 98] : List Int).length : Int) (CellLaws.many ([97, 98] : List Int).length)).map encC) = (abS, 0) from ab_lay]
 rfl
theorem ab_now : abS.now = abD ∧ abS.of = false ∧ abS.nb = 1 ∧ abS.fu = false := by
 have hl := abD_len
 have e : sp8 (List.replicate (1 * 256) 0) (Int.toNat 0 * 256) abD = abD := by
   have := sp_nought (X := abD) (n := 256) (by omega)
   rw [hl, Nat.sub_self, List.replicate_zero, List.append_nil] at this
   exact this
 unfold abS wrx
 rw [if_pos ⟨by decide, hl⟩]
 exact ⟨e, rfl, rfl, rfl⟩
theorem pwx_Rest (s : Dk) : (pwx s).1.now = s.now ∧ (pwx s).1.safe = s.safe ∧ (pwx s).1.pend = s.pend ∧ (pwx s).1.nb = s.nb ∧ (pwx s).1.fu = s.fu ∧ ((pwx s).2 = true → (pwx s).1.of = s.of) := by
 unfold pwx
 split
 · exact ⟨rfl, rfl, rfl, rfl, rfl, fun h => by cases h⟩
 exact ⟨rfl, rfl, rfl, rfl, rfl, fun _ => rfl⟩
theorem flx_now {s : Dk} (h : Nw s) : (flx s).1.now = s.now ∧ (flx s).1.nb = s.nb := by
 obtain ⟨e1, e2, e3, e4, e5, e6⟩ := pwx_Rest s
 unfold flx
 split
 · rw [stl_eq (pwx_Nw h)]
   refine ⟨?_, e4⟩
   show keepF _ (pwx s).1.pend (pwx s).1.pend.length (pwx s).1.safe = s.now
   rw [keepF_all, e2, e3]
   exact h.2.symm
 exact ⟨e1, e4⟩
theorem flx_ok {s : Dk} (h1 : s.of = false) (h2 : s.fu = false) : (flx s).2 = 0 ∧ (flx s).1.of = false := by
 have e : (pwx s).2 = true := by unfold pwx; rw [if_neg (by simp [h1, h2])]
 unfold flx
 rw [if_pos e]
 exact ⟨rfl, by show (pwx s).1.of = false; rw [(pwx_Rest s).2.2.2.2.2 e]; exact h1⟩
theorem ab_Nw : Nw abS := wrx_Nw (new_Nw 1 (by omega) (by omega)) _ _
set_option maxRecDepth 20000 in
theorem ab_flx : ∃ S, flx abS = (S, 0) ∧ S.now = abD ∧ S.of = false ∧ S.nb = 1 := by
 obtain ⟨h1, h2, h3, h4⟩ := ab_now
 obtain ⟨g1, g2⟩ := flx_now ab_Nw
 obtain ⟨g3, g4⟩ := flx_ok h2 h4
 rcases hf : flx abS with ⟨S, r⟩
 rw [hf] at g1 g2 g3 g4
 subst g3
 exact ⟨S, rfl, g1.trans h1, g4, g2.trans h3⟩
set_option maxRecDepth 20000 in
theorem abD_bytes : CrcK.Bytes abD := by
 intro x hx
 unfold abD at hx
 rcases List.mem_append.1 hx with h | h
 · exact CellLaws.enc_bytes (a0 := ab1.f0) (a1 := ab1.f1) (a2 := ab1.f2) (a3 := ab1.f3) ab_may.may.2.2.2 ab_may.by_ x h
 exact zeros_bytes _ x h
theorem A_New (w : World) : Calls Try.prog 14 #[.int .i64 1] w fun e w' => ∃ q, e = .returned (.tuple #[.pointer (some ⟨q, 0, none⟩), .int .i64 0]) ∧ JO w w' q (new8 1) (fun _ => False) := by
 refine Calls.mono (J_New w 1 (by omega) (by omega)) ?_
 rintro e w' ⟨p, rfl, h⟩
 exact ⟨p, rfl, J_JO h⟩
theorem A_Open {w0 w : World} {q : Nat} {s : Dk} {O : Nat → Prop} (h : JO w0 w q s O) (hby : CrcK.Bytes s.now) (ho : s.of = false) (hnb : s.nb = 1) (cs : List S106) (hcs : (secL s.now 0 4).map decZ = cs) (hl : lmax cs < 18446744073709551615) (l : Wl) (hlx : (⟨0, 1, 5, lmax cs + 1, (prs 5 (cs.length + 1) cs 0).2, (prs 5 (cs.length + 1) cs 0).1, false, fun _ => False⟩ : Wl) = l) :
    Calls Try.prog 35 #[.pointer (some ⟨q, 0, none⟩), .int .i64 0, .int .i64 1, .int .u64 5] w fun e w' => ∃ p, e = .returned (.tuple #[.pointer (some ⟨p, 0, none⟩), .int .i64 0]) ∧ LG w0 p q l s (fun k => O k ∨ (w.heap.size ≤ k ∧ k < w'.heap.size)) w' ∧ Below w.heap.size w w' := by
 refine L_Open0 h (fun _ => False) (fun _ hk => hk.elim) hby ho 0 1 5 (by omega) (by omega) (by omega) cs hcs.symm _ (fun e => by omega) (fun _ p w' l' e hG _ hb => ?_)
 subst e
 exact ⟨p, rfl, by rw [← hlx]; exact hG, hb⟩
theorem new8_cs : (secL (new8 1).now 0 4).map decZ = List.replicate 4 zc6 := by
 unfold new8
 exact sec_nought (by omega)
theorem LG_JO {w0 w : World} {p q : Nat} {l : Wl} {s : Dk} {O : Nat → Prop} (h : LG w0 p q l s O w) : JO w0 w q s O := by obtain ⟨_, _, _, _, h⟩ := h; exact h.d
theorem conv27 (W : World) : Sem.run Try.prog (convert 27 27 (.slice (some ⟨W.heap.size, 0, none⟩) 2 2)) (W.alloc (.cells #[.int .u8 97, .int .u8 98] 5)) = .ok (.slice (some ⟨W.heap.size, 0, none⟩) 2 2) (W.alloc (.cells #[.int .u8 97, .int .u8 98] 5 (2, 3))) :=
  Go.Lib.run_convert_bytes_const W 27 5 _ 2 2 Try.underlying27 Try.underlying5
set_option maxRecDepth 20000 in
theorem A_Append {w0 w : World} {p q : Nat} {O : Nat → Prop} (h : LG w0 p q ab0 (new8 1) O w) :
    Calls Try.prog 45 #[.pointer (some ⟨p, 0, none⟩), .slice (some ⟨w.heap.size, 0, none⟩) 2 2] (w.alloc (.cells #[.int .u8 97, .int .u8 98] 5 (2, 3))) fun e w' => e = .returned (.int .i64 0) ∧ ∃ O', (∀ k, O k → O' k) ∧ LG w0 p q ⟨0, 1, 5, 1, 1, [[97, 98]], false, fun _ => False⟩ abS O' w' := by
 obtain ⟨A, n, c, OV, hX⟩ := h
 have hlt := JO_O hX.d hX.op
 have hd := LX_deep hX (below_alloc (Below.refl _ _) (.cells #[.int .u8 97, .int .u8 98] 5 (2, 3)))
 have hb := blk_new w (.cells #[.int .u8 97, .int .u8 98] 5 (2, 3))
 refine (L_Append ⟨A, n, c, OV, hd⟩ (by decide) (by decide) (by decide) (by decide) (by decide) (some ⟨w.heap.size, 0, none⟩) 2 2 [97, 98] rfl (by decide) (fun W _ hk => ?_) (by intro x hx; simp at hx; omega) _ _ _ ab_apx).mono ?_
 · have e := (hk.2 w.heap.size ⟨.inr ⟨Nat.le_refl _, by simp⟩, by omega⟩).trans hb
   refine C_lit_int (k := .u8) [97, 98] (by decide) (fun j p hj => ?_)
   have h1 := cell_of_row W w.heap.size j _ 5 (2, 3) e
   rw [h1]
   match j, hj with
   | 0, hj => simpa using hj
   | 1, hj => simpa using hj
   | j + 2, hj => simp at hj
 rintro e w' ⟨rfl, ⟨O', ho, hG⟩, _⟩
 exact ⟨rfl, O', fun k hk => ho k (.inl hk), hG⟩
set_option maxRecDepth 20000 in
set_option maxHeartbeats 40000000 in
theorem ab_pend : abS.pend.length ≤ 100000 := by
 unfold abS wrx
 rw [if_pos ⟨by decide, abD_len⟩]
 exact (by decide : 4 ≤ 100000)
theorem A_Sync {w0 w : World} {p q : Nat} {O : Nat → Prop} {S : Dk} (h : LG w0 p q ⟨0, 1, 5, 1, 1, [[97, 98]], false, fun _ => False⟩ abS O w) (hf : flx abS = (S, 0)) :
    Calls Try.prog 46 #[.pointer (some ⟨p, 0, none⟩)] w fun e w' => e = .returned (.int .i64 0) ∧ LG w0 p q ⟨0, 1, 5, 1, 1, [[97, 98]], false, fun _ => False⟩ S O w' := by
 refine (L_Sync h ab_pend ⟨0, 1, 5, 1, 1, [[97, 98]], false, fun _ => False⟩ S 0 (by unfold syx; rw [if_neg (by decide), hf]; rfl)).mono ?_
 rintro e w' ⟨rfl, hG, _⟩
 exact ⟨rfl, hG⟩
theorem A_held {w W : World} {A8 : Option Addr} {c8 : Nat} {ad : Addr} {v : Value} (hC : (Kd.int .u8).C w A8 [97, 98].length [97, 98]) (hz : w.cell? ad = some v) (hb : Below w.heap.size w W) :
    Sem.run Try.prog (convert 27 9 (.slice A8 2 c8)) W = .ok (.string ⟨#[97, 98]⟩) W ∧ W.cell? ad = some v := by
  refine ⟨Kd.C_string (P := Try.prog) (A := A8) (c := c8) Try.underlying27 Try.underlying5 Try.underlying9 (Kd.C_below hC hb), ?_⟩
  have hlt : ad.block < w.heap.size := by
    rcases Nat.lt_or_ge ad.block w.heap.size with h' | h'
    · exact h'
    · simp [World.cell?, Array.getElem?_eq_none h'] at hz
  exact (hb.cell hlt).trans hz
set_option maxRecDepth 20000 in
set_option maxHeartbeats 40000000 in
theorem L_alive (w : World) : Calls Try.prog 37 #[] w fun e w' => e = .returned (.bool true) ∧ Below w.heap.size w w' := by
 go_enter Try.func37, Try.ntmps37
 go_upto_region 6 with (first
   | (go_at_call 14; refine (A_New _).mono ?_; rintro e w1 ⟨q, rfl, hj⟩; have J1 := Aside0.mk hj; clear hj)
   | (go_at_call 35; refine (A_Open J1.out (zeros_bytes _) rfl rfl (List.replicate 4 zc6) new8_cs (by rw [lmax_z]; decide) ab0 (by rw [lmax_z, prs_z]; rfl)).mono ?_; rintro e w2 ⟨p, rfl, hg, hb⟩; have G2 := Aside0.mk hg; have B2 := Aside0.mk hb; clear hg hb)
   | (go_at_call 40; refine (L_Room G2.out (by decide) (by decide) 156 (by decide)).mono ?_; rintro e w3 ⟨rfl, hb⟩; have B3 := Aside0.mk hb; have G3 := Aside0.mk (LG_step G2.out hb); clear hb))
 have cv := conv27
 obtain ⟨S, hS, s1, s2, s3⟩ := ab_flx
 have FL := Aside0.mk hS
 have S1 := Aside0.mk s1
 have S2 := Aside0.mk s2
 have S3 := Aside0.mk s3
 clear hS s1 s2 s3
 go_upto_region 11 with (first
   | (go_at_call 45; refine (A_Append G3.out).mono ?_; rintro e w4 ⟨rfl, O4, ho, hg⟩; have G4 := Aside0.mk hg; clear hg ho)
   | (go_at_call 46; refine (A_Sync G4.out FL.out).mono ?_; rintro e w5 ⟨rfl, hg⟩; have G5 := Aside0.mk hg; clear hg)
   | (go_at_call 35; refine (A_Open (LG_JO G5.out) (by rw [S1.out]; exact abD_bytes) S2.out S3.out (ab1 :: List.replicate 3 zc6) (by rw [S1.out]; exact ab_secs) (by rw [ab_lmax]; decide) ⟨0, 1, 5, 2, 1, [[97, 98]], false, fun _ => False⟩ (by rw [ab_lmax, ab_prs]; rfl)).mono ?_; rintro e w6 ⟨p2, rfl, hg, hb⟩; have G6 := Aside0.mk hg; clear hg hb))
 go_upto_region 12 with (first
   | (go_at_call 39; refine (L_Records G6.out (by decide) (by decide)).mono ?_; rintro e w7 ⟨A7, n7, c7, rfl, hn7, hR, hb⟩; have G7 := Aside0.mk (LG_step G6.out hb); have N7 := Aside0.mk hn7; have R7 := Aside0.mk hR; clear hR hb hn7))
 obtain ⟨hn7, hc7, hC7⟩ := Kd.R_reads' R7.out
 obtain ⟨_, _, hrow⟩ := hC7
 obtain ⟨ad, rfl, hat⟩ := hrow (by decide)
 obtain ⟨vs, _, ⟨A8, c8, rfl, _, hC8⟩, hcell⟩ := hat 0 [97, 98] rfl
 have hz := hcell 0 _ rfl
 have had : ad.add (0 * kL.sz + 0) = ad := by rw [Nat.zero_mul]; unfold Addr.add; split <;> simp_all
 rw [had] at hz
 have C8 := Aside0.mk hC8
 have Z8 := Aside0.mk (show w7.cell? ad = some (.slice A8 2 c8) from hz)
 have hn1 : n7 = 1 := hn7
 subst hn1
 clear hz had hC8 hcell hat hrow hn7 hc7 N7
 go_wp2_with (first
   | (go_at_call 40; refine (L_Room G7.out (by decide) (by decide) 117 (by decide)).mono ?_; rintro e w8 ⟨rfl, hb⟩; have hh := A_held (c8 := c8) C8.out Z8.out hb; have h1 := hh.1; have h2 := hh.2; have G8 := Aside0.mk (LG_step G7.out hb); clear hb hh)
   | (go_at_call 42; refine (L_Life G8.out).mono ?_; rintro e w9 ⟨rfl, rfl⟩)
   | (go_at_call 43; refine (L_Epoch G8.out).mono ?_; rintro e w10 ⟨rfl, rfl⟩))
 go_ret
 exact ⟨rfl, JO_below (LG_JO G8.out)⟩
end Go.Proofs.Ytepipgneefcoiaa.D
namespace Go.Proofs.Ytepipgneefcoiaa.D
open Go.RowKit Go.Proofs.YtepipgneefcoiaaW.PrintWords Go.Proofs.YtepipgneefcoiaaW.PrintLast Go.Proofs.YtepipgneefcoiaaW.PrintMore
def marginaliaref14_nought.f  : Option (ByteArray) := if 64 ≤ 281474976710656 then (some (strOfNums (List.replicate 64 0))) else (none)
set_option maxHeartbeats 8000000 in
set_option maxRecDepth 100000 in
theorem marginaliaref14_nought.calls  (r : ByteArray) (w : World) (h : marginaliaref14_nought.f  = some r) :
    Calls Try.prog 60 #[] w fun e w' => e = .returned (.string r) ∧ Below w.heap.size w w' := by
 have HB := Aside0.mk (Below.refl w.heap.size w)
 have H : (if 64 ≤ 281474976710656 then (some (strOfNums (List.replicate 64 0))) else (none)) = some r := h
 clear h
 obtain ⟨c1, H⟩ := ifN H
 have c1b0 := eq_true c1
 have c1b1 := decide_eq_true c1
 clear c1
 obtain ⟨y181, Ny181⟩ := yy ((List.replicate 64 0) : List Int)
 replace H : (some (strOfNums y181)) = some r := yx Ny181 H
 obtain rfl := Option.some.inj H
 go_enter Try.func60, Try.ntmps60
 go_wp2_with (first | ((with_reducible refine gate_dst (N := 1) rfl ?_); refine Kd.R_make (Kd.int .u8) _ 5 rfl (N := 1) rfl 27 _ _ rfl 64 rfl rfl Try.underlying27 (.int .u8 0) 1 info5 rfl (by decide) (by omega) 0 (ok := fun _ => True) (okp := fun _ => True) rfl (fun _ hk => hk) trivial (by omega) (by omega) (Below.refl _ _) (Nat.le_refl _) ?_; intro v182 w2 ho3 hb hg_ hnew_; clear hg_ hnew_; (first | rw [← Ny181.out] at ho3 | (simp only [Int.reduceToNat] at ho3; rw [← Ny181.out] at ho3)); have HO183 := Aside0.mk (Kd.R_lower ho3 (below_size (b_w HB))); replace HB := bs HB hb; clear hb ho3; have hcv4 := own_string (P := Try.prog) Try.underlying27 Try.underlying5 Try.underlying9 (Kd.own_of_R HO183.out); have hcd4 := fun (nq_ : Nat) => own_string (P := Try.prog) Try.underlying27 Try.underlying5 Try.underlying9 (Kd.own_of_R (Kd.R_drewN HO183.out nq_))))
 go_ret
 exact ⟨er, b_w HB⟩
end Go.Proofs.Ytepipgneefcoiaa.D
namespace Go.Proofs.Ytepipgneefcoiaa.D
open Go.RowKit Go.Proofs.YtepipgneefcoiaaW.PrintWords Go.Proofs.YtepipgneefcoiaaW.PrintLast Go.Proofs.YtepipgneefcoiaaW.PrintMore
def marginaliaref14_Now.l0 : Nat → List ByteArray → Int → List ByteArray → List (S111) → Int → Bool → Bool → Option (List ByteArray)
  | 0, _, _, _, _, _, _, _ => none
  | k + 1, x3, x4, x276000, x276001, x276002, x276003, x276004 => if x4 < (x276001.length : Int) then (if 0 ≤ x4 then (if 0 ≤ ((rd_T111 x276001 x4).f0) then (if ((rd_T111 x276001 x4).f0) < (x3.length : Int) then (marginaliaref14_Now.l0 k (x3.set (((rd_T111 x276001 x4).f0) : Int).toNat ((rd_T111 x276001 x4).f1)) (wrap64 (x4 + 1)) x276000 x276001 x276002 x276003 x276004) else (none)) else (none)) else (none)) else (some x3)
def marginaliaref14_Now.f (k : Nat) (l0_0 : List ByteArray) (l0_1 : List (S111)) (a0_2 : Int) (a0_3 : Bool) (a0_4 : Bool) : Option (List ByteArray) := (some (([] : List ByteArray) : List ByteArray)).bind fun y276 => (if y276.length + l0_0.length < 8796093022208 then (marginaliaref14_Now.l0 k (y276 ++ l0_0) 0 l0_0 l0_1 a0_2 a0_3 a0_4) else (none))
def marginaliaref14_Now.T5 : Bool × List (List Nat × List Nat) := (true, [([], []), ([], []), ([1], [1]), ([], []), ([2, 3], [2, 3]), ([4], [4]), ([5], [5]), ([], []), ([7], [7]), ([], []), ([8, 9], [8, 9]), ([10], [10]), ([11], [11]), ([0, 6, 0, 1, 2, 3, 4, 5, 6, 7, 8, 9, 10, 11, 12], [0, 6]), ([13, 12, 0, 1, 2, 3, 4, 5, 6, 7, 8, 9, 10, 11, 12], [12, 13])])
def marginaliaref14_Now.B5 : List Nat := [0, 0, 2, 0, 14, 30, 62, 0, 128, 0, 896, 1920, 3968, 8191, 16383]
theorem marginaliaref14_Now.tab5 : rtab .any (opsOf Try.f63 5) = marginaliaref14_Now.T5 := by kernel_rfl
theorem marginaliaref14_Now.bits5 : waitsOk marginaliaref14_Now.T5.2 marginaliaref14_Now.B5 = true := by kernel_rfl
set_option maxHeartbeats 8000000 in
set_option maxRecDepth 100000 in
theorem marginaliaref14_Now.calls (k : Nat) (A0_0 : Option Addr) (c0_0 : Nat) (l0_0 : List ByteArray) (A0_1 : Option Addr) (c0_1 : Nat) (l0_1 : List (S111)) (a0_2 : Int) (a0_3 : Bool) (a0_4 : Bool) (r : List ByteArray) (w : World) (hr0_0 : Kd.C Kd.string w A0_0 l0_0.length l0_0) (hc0_0 : l0_0.length ≤ c0_0) (hr0_1 : Kd.C k111 w A0_1 l0_1.length l0_1) (hc0_1 : l0_1.length ≤ c0_1) (h : marginaliaref14_Now.f k l0_0 l0_1 a0_2 a0_3 a0_4 = some r) :
    Calls Try.prog 63 #[.agg #[.slice A0_0 l0_0.length c0_0, .slice A0_1 l0_1.length c0_1, .int .i64 a0_2, .bool a0_3, .bool a0_4]] w fun e w' => ∃ v0_ : Value, e = .returned (v0_) ∧ Kd.R Kd.string 9 w' w.heap.size (fun _ => True) v0_ r ∧ Below w.heap.size w w' := by
 have hu51 := Try.underlying51
 have HR0_0 := Aside0.mk hr0_0
 have HC0_0 := Aside0.mk hc0_0
 clear hr0_0 hc0_0
 have HR0_1 := Aside0.mk hr0_1
 have HC0_1 := Aside0.mk hc0_1
 clear hr0_1 hc0_1
 have HB := Aside0.mk (Below.refl w.heap.size w)
 have H : ((some (([] : List ByteArray) : List ByteArray)).bind fun y276 => (if y276.length + l0_0.length < 8796093022208 then (marginaliaref14_Now.l0 k (y276 ++ l0_0) 0 l0_0 l0_1 a0_2 a0_3 a0_4) else (none))) = some r := h
 clear h
 obtain ⟨y276, Ny276⟩ := yy ((([] : List ByteArray)) : List ByteArray)
 replace H : (if y276.length + l0_0.length < 8796093022208 then (marginaliaref14_Now.l0 k (y276 ++ l0_0) 0 l0_0 l0_1 a0_2 a0_3 a0_4) else (none)) = some r := yx Ny276 H
 obtain ⟨c2, H⟩ := ifN H
 have LMc2 := Aside0.mk c2
 clear c2
 obtain ⟨y279, Ny279⟩ := yy ((y276 ++ l0_0) : List ByteArray)
 replace H : (marginaliaref14_Now.l0 k y279 0 l0_0 l0_1 a0_2 a0_3 a0_4) = some r := yx Ny279 H
 have H' := Aside0.mk H
 clear H
 go_enter Try.func63, Try.ntmps63
 go_wp2_with (first | ((with_reducible refine gate_dst (N := 1) rfl ?_); refine bx 1 #[.slice A0_0 l0_0.length c0_0, .slice A0_1 l0_1.length c0_1, .int .i64 a0_2, .bool a0_3, .bool a0_4] 51 ?_; intro gb275 hg w3 hbox hb; have BK275 := Aside0.mk (hbox); have GW275 := gs HB hg; have GE275 := gs HB hg; replace HB := bs HB hb; clear hb hbox hg) | ((with_reducible refine gate_dst (N := 5) rfl ?_); refine Kd.R_lit Kd.string _ 9 ?hg (N := 5) ?hd (xs := ([] : List ByteArray)) (inner := []) (ok := fun _ => True) (okp := fun _ => True) ?hr ?hp (fun _ hk => hk) trivial (Below.refl _ _) (Nat.le_refl _) (by simp) ?_; (case hd => rfl); (case hg => rfl); (case hr => first | (go_simp; done) | (go_simp; rfl)); (case hp => exact (Reps.none _ _)); intro v277 w4 ho5 hb hg_ hnew_; clear hg_ hnew_; (first | rw [← Ny276.out] at ho5 | (simp only [Int.reduceToNat] at ho5; rw [← Ny276.out] at ho5)); have HO278 := Aside0.mk (Kd.R_lower ho5 (below_size (b_w HB))); replace BK275 := bb BK275 hb; replace HB := bs HB hb; clear hb ho5; obtain ⟨_,_,_,_,_,_,_,_,_,_⟩ := cz5 BK275.out) | ((with_reducible refine gate_builtin (b := .append) (xs := #[.tmp 5, .tmp 7]) rfl ?_); at_builtin; refine Kd.R_append_rows Kd.string (w0 := w) w.heap.size rfl (.tmp 5) (.tmp 7) 48 9 (.string ⟨#[]⟩) 16 rfl Try.underlying48 info9 rfl (by decide) (by omega) v277 y276 l0_0 _ _ _ (fun _ => True) (fun _ => False) rfl rfl ?aO ?aR (fun _ _ h => h) (fun _ h => h.elim) ?aF ?aB ?aS ?aL ?_; (case aR => exact kc HR0_0 HB); (case aB => exact (b_w HB)); (case aF => exact (fun _ _ => trivial)); (case aO => exact (kR' HO278)); (case aS => exact (below_size (b_w HB))); (case aL => have := LMc2.out; omega); intro v280 w7 ho hb hg hat; rw [← Ny279.out] at ho; replace BK275 := Aside0.mk (blk_grown (g := gb275) (o := .cells #[.slice A0_0 l0_0.length c0_0, .slice A0_1 l0_1.length c0_1, .int .i64 a0_2, .bool a0_3, .bool a0_4] 51 (0, 0)) (bk BK275) hg (Kd.R_ne HO278.out BK275.out (by decide))); replace HB := Aside0.mk (hb); have HO281 := Aside0.mk (ho); clear HO278; clear ho hb hg hat))
 go_loopg [4] k (fun kq v4 w' => ∃ (x3_1 : List ByteArray) (x4_1 : Int), v4 = .int .i64 x4_1 ∧ Aside0 (marginaliaref14_Now.l0 kq x3_1 x4_1 l0_0 l0_1 a0_2 a0_3 a0_4 = some r) ∧ Aside0 (kq ≤ k) ∧ Aside0 (Kd.R Kd.string 9 w' w.heap.size (fun _ => True) v280 x3_1) ∧ Aside0 (w'.heap[gb275]? = some (.cells #[(.slice A0_0 l0_0.length c0_0), (.slice A0_1 l0_1.length c0_1), .int .i64 a0_2, .bool a0_3, .bool a0_4] 51 (0, 0))) ∧ Aside0 (Below w.heap.size w w'))
 case atStart => exact ⟨(y279), (0), sm, H', ⟨Nat.le_refl _⟩, ⟨kR' HO281⟩, ⟨bk BK275⟩, ⟨b_w HB⟩⟩
 clear H'
 try clear c2
 try clear p2
 try clear c6
 obtain ⟨x3_1, x4_1, rfl, HA, HK1, HO_3, BK275, HB⟩ := hrel
 cases gk with
 | zero => exact absurd HA.out (by simp [marginaliaref14_Now.l0])
 | succ k1 => ?_
 have H := HA.out
 clear HA
 simp only [marginaliaref14_Now.l0] at H
 by_cases c8 : x4_1 < (l0_1.length : Int)
 rotate_left
 · rw [if_neg c8] at H
   have c8b0 := decide_eq_false c8
   clear c8
   obtain rfl := Option.some.inj H
   obtain ⟨_,_,_,_,_,_,_,_,_,_⟩ := cz5 BK275.out
   go_wp2
   go_ret
   exact ⟨_, er, kR' HO_3, b_w HB⟩
 rw [if_pos c8] at H
 have c8b0 := decide_eq_true c8
 clear c8
 obtain ⟨c9, H⟩ := ifN H
 have c9b0 := decide_eq_true c9
 clear c9
 obtain ⟨c10, H⟩ := ifN H
 have c10b0 := decide_eq_true c10
 clear c10
 obtain ⟨c11, H⟩ := ifN H
 have c11b0 := decide_eq_true c11
 clear c11
 obtain ⟨y284, Ny284⟩ := yy ((x3_1.set (((rd_T111 l0_1 x4_1).f0) : Int).toNat ((rd_T111 l0_1 x4_1).f1)) : List ByteArray)
 replace H : (marginaliaref14_Now.l0 k1 y284 (wrap64 (x4_1 + 1)) l0_0 l0_1 a0_2 a0_3 a0_4) = some r := yx Ny284 H
 have H' := Aside0.mk H
 clear H
 obtain ⟨_,_,_,_,_,_,_,_,_,_⟩ := cz5 BK275.out
 try go_wp2
 replace HO_3 := Aside0.mk (Kd.R_drew HO_3.out)
 replace BK275 := Aside0.mk (blk_drew BK275.out)
 replace HB := Aside0.mk (below_drew1 HB.out)
 have p282 : 0 ≤ (x4_1 : Int) := od
 have q282 : x4_1 < (l0_1.length : Int) := od
 obtain ⟨ad282, e282, hx282_0, hx282_1⟩ := at_T111 HR0_1.out x4_1 p282 q282
 have hw282_1 := hx282_1
 have hw282_0 := hx282_0
 cases e282
 replace hx282_0 := xb HB hx282_0
 replace hx282_1 := xb HB hx282_1
 replace p282 := eq_true p282
 replace q282 := eq_true q282
 have p283 : 0 ≤ (x4_1 : Int) := od
 have q283 : x4_1 < (l0_1.length : Int) := od
 obtain ⟨ad283, e283, hx283_0, hx283_1⟩ := at_T111 HR0_1.out x4_1 p283 q283
 have hw283_1 := hx283_1
 have hw283_0 := hx283_0
 obtain rfl : ad282 = ad283 := (by injection e283)
 replace hx283_0 := xb HB hx283_0
 replace hx283_1 := xb HB hx283_1
 replace p283 := eq_true p283
 replace q283 := eq_true q283
 have p12 : 0 ≤ (((rd_T111 l0_1 x4_1).f0) : Int) := od
 have q12 : (((rd_T111 l0_1 x4_1).f0) : Int) < ((x3_1.length : Int) : Int) := od
 obtain ⟨go12, co12, eo12, gb12, gl12, cl12, HG12⟩ := Kd.R_form HO_3.out (by omega)
 (first | cases eo12 | (injection eo12 with ea_ en_ ec_; (first | subst ea_ | (injection ea_ with ea_; subst ea_)); subst ec_; clear en_))
 have GB12 := Aside0.mk gb12
 have GG12 := Aside0.mk HG12
 clear gb12 gl12 HG12
 obtain ⟨hx12_0, hf12_0⟩ := Kd.R_celln (⟨#[]⟩ : ByteArray) HO_3.out (((rd_T111 l0_1 x4_1).f0) : Int) p12 q12
 replace p12 := eq_true p12
 replace q12 := eq_true q12
 have HP15 := Kd.R_putn HO_3.out (((rd_T111 l0_1 x4_1).f0) : Int) ((rd_T111 l0_1 x4_1).f1)
 rw [← Ny284.out] at HP15
 have HQ15 := Aside0.mk HP15
 clear HP15
 refine start_ (n := 15) (S := fun w' => w'.cell? ⟨gb275, 0, none⟩ = some (.slice A0_0 l0_0.length c0_0) ∧ w'.cell? ⟨gb275, 1, none⟩ = some (.slice (some ad282) l0_1.length c0_1) ∧ w'.cell? ⟨gb275, 2, none⟩ = some (.int .i64 a0_2) ∧ w'.cell? ⟨gb275, 3, none⟩ = some (.bool a0_3) ∧ w'.cell? ⟨gb275, 4, none⟩ = some (.bool a0_4) ∧ w'.cell? (ad282.add ((x4_1).toNat * 2)) = some (.int .i64 ((rd_T111 l0_1 x4_1).f0)) ∧ w'.cell? ⟨(ad282.add ((x4_1).toNat * 2)).block, (ad282.add ((x4_1).toNat * 2)).off + 1, none⟩ = some (.string ((rd_T111 l0_1 x4_1).f1)) ∧ w'.cell? (ad282.add ((x4_1).toNat * 2)) = some (.int .i64 ((rd_T111 l0_1 x4_1).f0)) ∧ w'.cell? ⟨(ad282.add ((x4_1).toNat * 2)).block, (ad282.add ((x4_1).toNat * 2)).off + 1, none⟩ = some (.string ((rd_T111 l0_1 x4_1).f1))) (ds := [14]) #[false, false, false, false, false, false, false, false, false, false, false, false, false, false, false] (by kernel_rfl) rfl rfl ⟨(blk_cell BK275.out 0).trans rfl, (blk_cell BK275.out 1).trans rfl, (blk_cell BK275.out 2).trans rfl, (blk_cell BK275.out 3).trans rfl, (blk_cell BK275.out 4).trans rfl, (xb HB hw282_0), (xb HB hw282_1), (xb HB hw283_0), (xb HB hw283_1)⟩ (fun hHeld => ?_); refine with_tabW marginaliaref14_Now.tab5 marginaliaref14_Now.bits5 (fun HT_ HW_ => ?_)
 generalize wr.drew = w14 at HO_3 BK275 HB GG12 HQ15 hf12_0 hx12_0 hx282_0 hx282_1 hx283_0 hx283_1 hHeld ⊢
 refine pu 0 (some 16) (bm 15 1) ?_
 refine pu 1 (some 17) (bm 15 3) ?_
 refine pu 3 (some 19) (bm 15 11) ?_
 refine pu 7 (some 23) (bm 15 139) ?_
 refine pu 9 (some 25) (bm 15 651) ?_
 refine p_t 2 (some 18) (bm 15 655) ?_
 refine pu 4 (some 20) (bm 15 671) ?_
 refine pu 5 (some 21) (bm 15 703) ?_
 refine p_t 6 (some 22) (bm 15 767) ?_
 refine p_t 8 (some 24) (bm 15 1023) ?_
 refine pu 10 (some 26) (bm 15 2047) ?_
 refine pu 11 (some 27) (bm 15 4095) ?_
 refine p_t 12 (some 28) (bm 15 8191) ?_
 refine pu 13 (some 29) (bm 15 16383) ?_
 refine last_ (i := 14) (N := none) #[true, true, true, true, true, true, true, true, true, true, true, true, true, true, true] rfl rfl (one_of HT_.out (by kernel_rfl)) (by decide) (fun K hK => ?_)
 refine skip_ (w1 := ?_) (by rfl) rfl ?_ ?_
 rotate_left
 · go_simp
   rfl
 refine hK.out _ _ ?_
 clear hK K
 refine done_ (done_of HT_.out (by kernel_rfl)) ?_
 try go_wp2
 go_roundg k1
 case measure => have := HK1.out; omega
 case rel => exact ⟨(y284), (wrap64 (x4_1 + 1)), sm, H', ⟨by have := HK1.out; omega⟩, ⟨kR' HQ15⟩, ⟨by (with_reducible repeat (first | refine blk_drewN ?_ _ | refine blk_drew ?_ | refine blk_alloc ?_ _)); refine blk_far ?_ (by have h_ := Kd.R_ne HO_3.out BK275.out (by decide); intro e_; exact h_ (by rw [e_]; rfl)) _; (with_reducible repeat (first | refine blk_drewN ?_ _ | refine blk_drew ?_ | refine blk_alloc ?_ _)); exact BK275.out⟩, ⟨by repeat (first | (with_reducible first | exact HB.out | apply below_alloc | apply pw_below_drewN | apply below_drew1 | refine below_set ?_ GB12.out | refine below_set ?_ GE275.out) | exact HB.out)⟩⟩
end Go.Proofs.Ytepipgneefcoiaa.D
namespace Go.Proofs.Ytepipgneefcoiaa.D
open Go.RowKit Go.Proofs.YtepipgneefcoiaaW.PrintWords Go.Proofs.YtepipgneefcoiaaW.PrintLast Go.Proofs.YtepipgneefcoiaaW.PrintMore
def marginaliaref14_Is.f (l0_0 : List ByteArray) (l0_1 : List (S111)) (a0_2 : Int) (a0_3 : Bool) (a0_4 : Bool) (a1 : Int) : Option (Bool) := if a1 ≥ 0 then (some (decide (a1 < (wrap64 ((l0_0.length : Int) / 4))))) else (some false)
set_option maxHeartbeats 8000000 in
set_option maxRecDepth 100000 in
theorem marginaliaref14_Is.calls (A0_0 : Option Addr) (c0_0 : Nat) (l0_0 : List ByteArray) (A0_1 : Option Addr) (c0_1 : Nat) (l0_1 : List (S111)) (a0_2 : Int) (a0_3 : Bool) (a0_4 : Bool) (a1 : Int) (r : Bool) (w : World) (hr0_0 : Kd.C Kd.string w A0_0 l0_0.length l0_0) (hc0_0 : l0_0.length ≤ c0_0) (hr0_1 : Kd.C k111 w A0_1 l0_1.length l0_1) (hc0_1 : l0_1.length ≤ c0_1) (h : marginaliaref14_Is.f l0_0 l0_1 a0_2 a0_3 a0_4 a1 = some r) :
    Calls Try.prog 62 #[.agg #[.slice A0_0 l0_0.length c0_0, .slice A0_1 l0_1.length c0_1, .int .i64 a0_2, .bool a0_3, .bool a0_4], .int .i64 a1] w fun e w' => e = .returned (.bool r) ∧ Below w.heap.size w w' := by
 have hu51 := Try.underlying51
 have HR0_0 := Aside0.mk hr0_0
 have HC0_0 := Aside0.mk hc0_0
 clear hr0_0 hc0_0
 have HR0_1 := Aside0.mk hr0_1
 have HC0_1 := Aside0.mk hc0_1
 clear hr0_1 hc0_1
 have HB := Aside0.mk (Below.refl w.heap.size w)
 have H : (if a1 ≥ 0 then (some (decide (a1 < (wrap64 ((l0_0.length : Int) / 4))))) else (some false)) = some r := h
 clear h
 by_cases c3 : a1 ≥ 0
 rotate_left
 · rw [if_neg c3] at H
   have c3b0 := decide_eq_false c3
   clear c3
   obtain rfl := Option.some.inj H
   go_enter Try.func62, Try.ntmps62
   go_wp2_with (first | ((with_reducible refine gate_dst (N := 2) rfl ?_); (try (refine gate_guard (by rfl) ?_; dsimp only)); refine bx 2 #[.slice A0_0 l0_0.length c0_0, .slice A0_1 l0_1.length c0_1, .int .i64 a0_2, .bool a0_3, .bool a0_4] 51 ?_; intro gb246 hg w6 hbox hb; have BK246 := Aside0.mk (hbox); have GW246 := gs HB hg; have GE246 := gs HB hg; replace HB := bs HB hb; clear hb hbox hg))
   go_ret
   exact ⟨er, b_w HB⟩
 rw [if_pos c3] at H
 have c3b0 := decide_eq_true c3
 clear c3
 obtain rfl := Option.some.inj H
 go_enter Try.func62, Try.ntmps62
 go_wp2_with (first | ((with_reducible refine gate_dst (N := 2) rfl ?_); (try (refine gate_guard (by rfl) ?_; dsimp only)); refine bx 2 #[.slice A0_0 l0_0.length c0_0, .slice A0_1 l0_1.length c0_1, .int .i64 a0_2, .bool a0_3, .bool a0_4] 51 ?_; intro gb246 hg w4 hbox hb; have BK246 := Aside0.mk (hbox); have GW246 := gs HB hg; have GE246 := gs HB hg; replace HB := bs HB hb; clear hb hbox hg; obtain ⟨_,_,_,_,_,_,_,_,_,_⟩ := cz5 BK246.out))
 go_ret
 exact ⟨er, b_w HB⟩
end Go.Proofs.Ytepipgneefcoiaa.D
namespace Go.Proofs.Ytepipgneefcoiaa.D
open Go.RowKit Go.Proofs.YtepipgneefcoiaaW.PrintWords Go.Proofs.YtepipgneefcoiaaW.PrintLast Go.Proofs.YtepipgneefcoiaaW.PrintMore
def marginaliaref14_spend.j0 : Nat → Bool → List ByteArray → List (S111) → Int → Bool → Bool → Option (List ByteArray × (List (S111)) × Int × Bool × Bool × Bool)
  | 0, _, _, _, _, _, _ => none
  | k + 1, x14, x248000, x248001, x248002, x248003, x248004 => if x14 = true then (some (x248000, x248001, x248002, false, true, false)) else (if x248003 = true then (some (x248000, x248001, wrap64 (x248002 - 1), x248003, x248004, true)) else (some (x248000, x248001, x248002, x248003, x248004, true)))
def marginaliaref14_spend.f (k : Nat) (l0_0 : List ByteArray) (l0_1 : List (S111)) (a0_2 : Int) (a0_3 : Bool) (a0_4 : Bool) : Option (List ByteArray × (List (S111)) × Int × Bool × Bool × Bool) := if a0_4 = true then (marginaliaref14_spend.j0 k true l0_0 l0_1 a0_2 a0_3 a0_4) else (if a0_3 = true then (marginaliaref14_spend.j0 k (a0_2 == 0) l0_0 l0_1 a0_2 a0_3 a0_4) else (marginaliaref14_spend.j0 k false l0_0 l0_1 a0_2 a0_3 a0_4))
set_option maxHeartbeats 8000000 in
set_option maxRecDepth 100000 in
theorem marginaliaref14_spend.calls (k : Nat) (P0_0_ : Nat → Prop) (u9000_ : Value) (l0_0 : List ByteArray) (P0_1_ : Nat → Prop) (u9001_ : Value) (l0_1 : List (S111)) (a0_2 : Int) (a0_3 : Bool) (a0_4 : Bool) (r1 : List ByteArray) (r2 : List (S111)) (r3 : Int) (r4 : Bool) (r5 : Bool) (r6 : Bool) (w0 w : World) (hB : Below w0.heap.size w0 w) (ho0_0 : Kd.R Kd.string 9 w w0.heap.size P0_0_ u9000_ l0_0) (ho0_1 : Kd.R k111 111 w w0.heap.size P0_1_ u9001_ l0_1) (h : marginaliaref14_spend.f k l0_0 l0_1 a0_2 a0_3 a0_4 = some (r1, r2, r3, r4, r5, r6)) :
    Calls Try.prog 65 #[.agg #[u9000_, u9001_, .int .i64 a0_2, .bool a0_3, .bool a0_4]] w fun e w' => ∃ v0_ v1_ : Value, e = .returned (.tuple #[.agg #[v0_, v1_, .int .i64 r3, .bool r4, .bool r5], .bool r6]) ∧ Kd.R Kd.string 9 w' w0.heap.size (fun k_ => ((P0_0_ k_ ∨ P0_1_ k_) ∨ w.heap.size ≤ k_)) v0_ r1 ∧ Kd.R k111 111 w' w0.heap.size (fun k_ => ((P0_0_ k_ ∨ P0_1_ k_) ∨ w.heap.size ≤ k_)) v1_ r2 ∧ Below w0.heap.size w0 w' ∧ Kept w w' (fun k_ => P0_0_ k_ ∨ P0_1_ k_) := by
 have hu51 := Try.underlying51
 have HO0_0 := Aside0.mk (show Kd.R Kd.string 9 w w0.heap.size (fun k_ => ((P0_0_ k_ ∨ P0_1_ k_) ∨ w.heap.size ≤ k_)) u9000_ l0_0 from Kd.R_mono ho0_0 (fun k_ hk => (.inl (.inl hk))))
 have HO0_1 := Aside0.mk (show Kd.R k111 111 w w0.heap.size (fun k_ => ((P0_0_ k_ ∨ P0_1_ k_) ∨ w.heap.size ≤ k_)) u9001_ l0_1 from Kd.R_mono ho0_1 (fun k_ hk => (.inl (.inr hk))))
 have HK := Aside0.mk (Kept.refl w (fun k_ => P0_0_ k_ ∨ P0_1_ k_))
 have HW0 := Aside0.mk hB.size
 have HB := Aside0.mk hB
 clear hB
 have H : (if a0_4 = true then (marginaliaref14_spend.j0 k true l0_0 l0_1 a0_2 a0_3 a0_4) else (if a0_3 = true then (marginaliaref14_spend.j0 k (a0_2 == 0) l0_0 l0_1 a0_2 a0_3 a0_4) else (marginaliaref14_spend.j0 k false l0_0 l0_1 a0_2 a0_3 a0_4))) = some (r1, r2, r3, r4, r5, r6) := h
 clear h
 have HC2 := Aside0.mk H
 clear H
 obtain ⟨Ao3, co3, eo3⟩ := Kd.R_slice HO0_0.out
 subst eo3
 obtain ⟨Ao4, co4, eo4⟩ := Kd.R_slice HO0_1.out
 subst eo4
 go_enter Try.func65, Try.ntmps65
 go_upto_region 1 with (first | ((with_reducible refine gate_dst (N := 1) rfl ?_); refine bx 1 #[.slice Ao3 l0_0.length co3, .slice Ao4 l0_1.length co4, .int .i64 a0_2, .bool a0_3, .bool a0_4] 51 ?_; intro gb247 hg w5 hbox hb; replace HO0_0 := Aside0.mk (Kd.R_below (kR' HO0_0) hb); replace HO0_1 := Aside0.mk (Kd.R_below (kR' HO0_1) hb); have BK247 := Aside0.mk (hbox); have GW247 := Aside0.mk ((by rw [hg]; exact (by first | exact HK.out.1 | exact (show Kept w _ (fun k_ => P0_0_ k_ ∨ P0_1_ k_) from kp HK).1) : w.heap.size ≤ gb247)); replace HK := Aside0.mk (Kept.below (S := (fun k_ => P0_0_ k_ ∨ P0_1_ k_)) (kp HK) hb); have GE247 := Aside0.mk ((by rw [hg]; exact (below_size (b_w HB)) : w0.heap.size ≤ gb247)); replace HB := bs HB hb; clear hb hbox hg) | ((with_reducible refine gate_dst (N := 2) rfl ?_); refine bx 2 #[.slice none 0 0, .slice none 0 0, .int .i64 0, .bool false, .bool false] 51 ?_; intro gb248 hg w6 hbox hb; replace HO0_0 := Aside0.mk (Kd.R_below (kR' HO0_0) hb); replace HO0_1 := Aside0.mk (Kd.R_below (kR' HO0_1) hb); have BK248 := Aside0.mk (hbox); have GW248 := Aside0.mk ((by rw [hg]; exact (by first | exact HK.out.1 | exact (show Kept w _ (fun k_ => P0_0_ k_ ∨ P0_1_ k_) from kp HK).1) : w.heap.size ≤ gb248)); replace HK := Aside0.mk (Kept.below (S := (fun k_ => P0_0_ k_ ∨ P0_1_ k_)) (kp HK) hb); have GE248 := Aside0.mk ((by rw [hg]; exact (below_size (b_w HB)) : w0.heap.size ≤ gb248)); replace HB := bs HB hb; have NB247_248 := nl BK247 hg; have NB248_247 := ng BK247 hg; replace BK247 := bb BK247 hb; clear hb hbox hg))
 (try simp only [Act.put, List.setIfInBounds_toArray, List.set_cons_zero, List.set_cons_succ])
 go_cut [14] (fun v14 wc => ∃ (kq : Nat) (x14_1 : Bool), v14 = .bool x14_1 ∧ Aside0 (marginaliaref14_spend.j0 kq x14_1 l0_0 l0_1 a0_2 a0_3 a0_4 = some (r1, r2, r3, r4, r5, r6)) ∧ Aside0 (kq ≤ k) ∧ Aside0 (Kd.R Kd.string 9 wc w0.heap.size (fun k_ => ((P0_0_ k_ ∨ P0_1_ k_) ∨ w.heap.size ≤ k_)) (.slice Ao3 l0_0.length co3) l0_0) ∧ Aside0 (Kd.R k111 111 wc w0.heap.size (fun k_ => ((P0_0_ k_ ∨ P0_1_ k_) ∨ w.heap.size ≤ k_)) (.slice Ao4 l0_1.length co4) l0_1) ∧ Aside0 (wc.heap[gb247]? = some (.cells #[(.slice Ao3 l0_0.length co3), (.slice Ao4 l0_1.length co4), .int .i64 a0_2, .bool a0_3, .bool a0_4] 51 (0, 0))) ∧ Aside0 (wc.heap[gb248]? = some (.cells #[(.slice none 0 0), (.slice none 0 0), .int .i64 0, .bool false, .bool false] 51 (0, 0))) ∧ Aside0 (Kept w wc (fun k_ => P0_0_ k_ ∨ P0_1_ k_)) ∧ Aside0 (Below w0.heap.size w0 wc))
 case first =>
  have H := HC2.out
  clear HC2
  by_cases c7 : a0_4 = true
  · subst c7
    replace H := it H
    have H' := Aside0.mk H
    clear H
    have hnb8 := NB247_248.out
    have hnc8 := NB248_247.out
    obtain ⟨_,_,_,_,_,_,_,_,_,_⟩ := cz5 BK247.out
    go_wp2
    go_meet
    case rel => exact ⟨_, (true), sm, H', ⟨om⟩, ⟨kR' HO0_0⟩, ⟨kR' HO0_1⟩, ⟨bk BK247⟩, ⟨bk BK248⟩, ⟨kp HK⟩, ⟨b_w HB⟩⟩
  replace c7 := Bool.eq_false_iff.mpr c7
  subst c7
  replace H := fi H
  by_cases c10 : a0_3 = true
  · subst c10
    replace H := it H
    have H' := Aside0.mk H
    clear H
    have hnb11 := NB247_248.out
    have hnc11 := NB248_247.out
    obtain ⟨_,_,_,_,_,_,_,_,_,_⟩ := cz5 BK247.out
    go_wp2
    go_meet
    case rel => exact ⟨_, ((a0_2 == 0)), sm, H', ⟨om⟩, ⟨kR' HO0_0⟩, ⟨kR' HO0_1⟩, ⟨bk BK247⟩, ⟨bk BK248⟩, ⟨kp HK⟩, ⟨b_w HB⟩⟩
  replace c10 := Bool.eq_false_iff.mpr c10
  subst c10
  replace H := fi H
  have H' := Aside0.mk H
  clear H
  have hnb13 := NB247_248.out
  have hnc13 := NB248_247.out
  obtain ⟨_,_,_,_,_,_,_,_,_,_⟩ := cz5 BK247.out
  go_wp2
  go_meet
  case rel => exact ⟨_, (false), sm, H', ⟨om⟩, ⟨kR' HO0_0⟩, ⟨kR' HO0_1⟩, ⟨bk BK247⟩, ⟨bk BK248⟩, ⟨kp HK⟩, ⟨b_w HB⟩⟩
 clear HC2
 try clear c1
 try clear p2
 try clear c6
 try clear c7
 try clear c8
 try clear c10
 try clear c11
 try clear c13
 obtain ⟨kq, x14_1, rfl, HA, HJ1, HO_248000, HO_248001, BK247, BK248, HK, HB⟩ := hcut
 cases kq with
 | zero => exact absurd HA.out (by simp [marginaliaref14_spend.j0])
 | succ kj1 => ?_
 have H := HA.out
 clear HA
 simp only [marginaliaref14_spend.j0] at H
 by_cases c15 : x14_1 = true
 · subst c15
   replace H := it H
   simp only [Option.some.injEq, Prod.mk.injEq] at H
   obtain ⟨rfl, rfl, rfl, rfl, rfl, rfl⟩ := H
   have hnb16 := NB247_248.out
   have hnc16 := NB248_247.out
   obtain ⟨_,_,_,_,_,_,_,_,_,_⟩ := cz5 BK247.out
   obtain ⟨_,_,_,_,_,_,_,_,_,_⟩ := cz5 BK248.out
   go_wp2
   refine bodyPost_ret (results_ct rfl _ _ gb248 51 #[.slice Ao3 l0_0.length co3, .slice Ao4 l0_1.length co4, .int .i64 a0_2, .bool false, .bool true] (0, 0) _ rfl (bp BK248) Try.underlying51 rfl (by kernel_rfl)) rfl ?_
   exact ⟨_, _, er, rR (Kd.R_mono (fR5 (fR1 (fR1 (tR2 HO_248000 BK247 BK248) (fun _ hk => hk.1.2)) (fun _ hk => hk.1.2)) (fun _ hk => hk.2)) (fun _ hk => hk.1.1)), rR (Kd.R_mono (fR5 (fR1 (fR1 (tR2 HO_248001 BK247 BK248) (fun _ hk => hk.1.2)) (fun _ hk => hk.1.2)) (fun _ hk => hk.2)) (fun _ hk => hk.1.1)), b_w HB, kp HK⟩
 replace c15 := Bool.eq_false_iff.mpr c15
 subst c15
 replace H := fi H
 by_cases c19 : a0_3 = true
 rotate_left
 · replace c19 := Bool.eq_false_iff.mpr c19
   subst c19
   replace H := fi H
   simp only [Option.some.injEq, Prod.mk.injEq] at H
   obtain ⟨rfl, rfl, rfl, rfl, rfl, rfl⟩ := H
   have hnb23 := NB247_248.out
   have hnc23 := NB248_247.out
   obtain ⟨_,_,_,_,_,_,_,_,_,_⟩ := cz5 BK247.out
   obtain ⟨_,_,_,_,_,_,_,_,_,_⟩ := cz5 BK248.out
   go_wp2
   refine bodyPost_ret (results_ct rfl _ _ gb248 51 #[.slice Ao3 l0_0.length co3, .slice Ao4 l0_1.length co4, .int .i64 a0_2, .bool false, .bool a0_4] (0, 0) _ rfl (bp BK248) Try.underlying51 rfl (by kernel_rfl)) rfl ?_
   exact ⟨_, _, er, rR (Kd.R_mono (fR5 (tR HO_248000 BK248) (fun _ hk => hk.2)) (fun _ hk => hk.1)), rR (Kd.R_mono (fR5 (tR HO_248001 BK248) (fun _ hk => hk.2)) (fun _ hk => hk.1)), b_w HB, kp HK⟩
 subst c19
 replace H := it H
 simp only [Option.some.injEq, Prod.mk.injEq] at H
 obtain ⟨rfl, rfl, rfl, rfl, rfl, rfl⟩ := H
 have hnb20 := NB247_248.out
 have hnc20 := NB248_247.out
 obtain ⟨_,_,_,_,_,_,_,_,_,_⟩ := cz5 BK247.out
 obtain ⟨_,_,_,_,_,_,_,_,_,_⟩ := cz5 BK248.out
 go_wp2
 refine bodyPost_ret (results_ct rfl _ _ gb248 51 #[.slice Ao3 l0_0.length co3, .slice Ao4 l0_1.length co4, .int .i64 (wrap64 (a0_2 - 1)), .bool true, .bool a0_4] (0, 0) _ rfl (bp BK248) Try.underlying51 rfl (by kernel_rfl)) rfl ?_
 exact ⟨_, _, er, rR (Kd.R_mono (fR5 (fR1 (tR2 HO_248000 BK247 BK248) (fun _ hk => hk.1.2)) (fun _ hk => hk.2)) (fun _ hk => hk.1.1)), rR (Kd.R_mono (fR5 (fR1 (tR2 HO_248001 BK247 BK248) (fun _ hk => hk.1.2)) (fun _ hk => hk.2)) (fun _ hk => hk.1.1)), b_w HB, kp HK⟩
end Go.Proofs.Ytepipgneefcoiaa.D
namespace Go.Proofs.Ytepipgneefcoiaa.D
open Go.RowKit Go.Proofs.YtepipgneefcoiaaW.PrintWords Go.Proofs.YtepipgneefcoiaaW.PrintLast Go.Proofs.YtepipgneefcoiaaW.PrintMore
mutual
def marginaliaref14_Write.j0 : Nat → Int → List Int → Bool → List ByteArray → List (S111) → Int → Bool → Bool → Option (List ByteArray × (List (S111)) × Int × Bool × Bool × Int)
  | 0, _, _, _, _, _, _, _, _ => none
  | k + 1, x1, x2, x19, x250000, x250001, x250002, x250003, x250004 => if x19 = true then (some (x250000, x250001, x250002, x250003, x250004, 1)) else ((marginaliaref14_spend.f k x250000 x250001 x250002 x250003 x250004).bind fun bt252 => (if bt252.2.2.2.2.2 = true then ((some (([] : List (S111)) : List (S111))).bind fun y262 => (if y262.length + bt252.2.1.length < 5864062014805 then (marginaliaref14_Write.l0 k x1 x2 (y262 ++ bt252.2.1) 0 bt252.1 bt252.2.1 bt252.2.2.1 bt252.2.2.2.1 bt252.2.2.2.2.1) else (none))) else (some (bt252.1, bt252.2.1, bt252.2.2.1, bt252.2.2.2.1, bt252.2.2.2.2.1, 9))))
def marginaliaref14_Write.l0 : Nat → Int → List Int → List (S111) → Int → List ByteArray → List (S111) → Int → Bool → Bool → Option (List ByteArray × (List (S111)) × Int × Bool × Bool × Int)
  | 0, _, _, _, _, _, _, _, _, _ => none
  | k + 1, x1, x2, x9, x10, x250000, x250001, x250002, x250003, x250004 => if x10 < 4 then (if 0 ≤ (wrap64 (x10 * 64)) then (if (wrap64 (x10 * 64)) ≤ (wrap64 ((wrap64 (x10 + 1)) * 64)) then (if (wrap64 ((wrap64 (x10 + 1)) * 64)) ≤ (x2.length : Int) then (if x9.length < 5864062014805 then (marginaliaref14_Write.l0 k x1 x2 (x9 ++ [(⟨wrap64 ((wrap64 (x1 * 4)) + x10), strOfNums ((x2.take ((wrap64 ((wrap64 (x10 + 1)) * 64)) : Int).toNat).drop ((wrap64 (x10 * 64)) : Int).toNat)⟩ : S111)]) (wrap64 (x10 + 1)) x250000 x250001 x250002 x250003 x250004) else (none)) else (none)) else (none)) else (none)) else (some (x250000, x9, x250002, x250003, x250004, 0))
end
def marginaliaref14_Write.f (k : Nat) (l0_0 : List ByteArray) (l0_1 : List (S111)) (a0_2 : Int) (a0_3 : Bool) (a0_4 : Bool) (a1 : Int) (l2 : List Int) : Option (List ByteArray × (List (S111)) × Int × Bool × Bool × Int) := (marginaliaref14_Is.f l0_0 l0_1 a0_2 a0_3 a0_4 a1).bind fun t251 => (if t251 = true then (marginaliaref14_Write.j0 k a1 l2 ((l2.length : Int) != 256) l0_0 l0_1 a0_2 a0_3 a0_4) else (marginaliaref14_Write.j0 k a1 l2 true l0_0 l0_1 a0_2 a0_3 a0_4))
set_option maxHeartbeats 8000000 in
set_option maxRecDepth 100000 in
theorem marginaliaref14_Write.calls (k : Nat) (P0_0_ : Nat → Prop) (u9000_ : Value) (l0_0 : List ByteArray) (P0_1_ : Nat → Prop) (u9001_ : Value) (l0_1 : List (S111)) (a0_2 : Int) (a0_3 : Bool) (a0_4 : Bool) (a1 : Int) (A2 : Option Addr) (c2 : Nat) (l2 : List Int) (r1 : List ByteArray) (r2 : List (S111)) (r3 : Int) (r4 : Bool) (r5 : Bool) (r6 : Int) (w0 w : World) (hB : Below w0.heap.size w0 w) (ho0_0 : Kd.R Kd.string 9 w w0.heap.size P0_0_ u9000_ l0_0) (ho0_1 : Kd.R k111 111 w w0.heap.size P0_1_ u9001_ l0_1) (hr2 : ∀ W_, Kept w W_ (fun k_ => P0_0_ k_ ∨ P0_1_ k_) → Kd.C (Kd.int .u8) W_ A2 l2.length l2) (hc2 : l2.length ≤ c2) (h : marginaliaref14_Write.f k l0_0 l0_1 a0_2 a0_3 a0_4 a1 l2 = some (r1, r2, r3, r4, r5, r6)) :
    Calls Try.prog 34 #[.agg #[u9000_, u9001_, .int .i64 a0_2, .bool a0_3, .bool a0_4], .int .i64 a1, .slice A2 l2.length c2] w fun e w' => ∃ v0_ v1_ : Value, e = .returned (.tuple #[.agg #[v0_, v1_, .int .i64 r3, .bool r4, .bool r5], .int .i64 r6]) ∧ Kd.R Kd.string 9 w' w0.heap.size (fun k_ => ((P0_0_ k_ ∨ P0_1_ k_) ∨ w.heap.size ≤ k_)) v0_ r1 ∧ Kd.R k111 111 w' w0.heap.size (fun k_ => ((P0_0_ k_ ∨ P0_1_ k_) ∨ w.heap.size ≤ k_)) v1_ r2 ∧ Below w0.heap.size w0 w' ∧ Kept w w' (fun k_ => P0_0_ k_ ∨ P0_1_ k_) := by
 have hu51 := Try.underlying51
 have hu111 := Try.underlying111
 have HO0_0 := Aside0.mk (show Kd.R Kd.string 9 w w0.heap.size (fun k_ => ((P0_0_ k_ ∨ P0_1_ k_) ∨ w.heap.size ≤ k_)) u9000_ l0_0 from Kd.R_mono ho0_0 (fun k_ hk => (.inl (.inl hk))))
 have HO0_1 := Aside0.mk (show Kd.R k111 111 w w0.heap.size (fun k_ => ((P0_0_ k_ ∨ P0_1_ k_) ∨ w.heap.size ≤ k_)) u9001_ l0_1 from Kd.R_mono ho0_1 (fun k_ hk => (.inl (.inr hk))))
 have HR2 := Aside0.mk hr2
 have HC2 := Aside0.mk hc2
 clear hr2 hc2
 have HK := Aside0.mk (Kept.refl w (fun k_ => P0_0_ k_ ∨ P0_1_ k_))
 have HW0 := Aside0.mk hB.size
 have HB := Aside0.mk hB
 clear hB
 have H : ((marginaliaref14_Is.f l0_0 l0_1 a0_2 a0_3 a0_4 a1).bind fun t251 => (if t251 = true then (marginaliaref14_Write.j0 k a1 l2 ((l2.length : Int) != 256) l0_0 l0_1 a0_2 a0_3 a0_4) else (marginaliaref14_Write.j0 k a1 l2 true l0_0 l0_1 a0_2 a0_3 a0_4))) = some (r1, r2, r3, r4, r5, r6) := h
 clear h
 have HC4 := Aside0.mk H
 clear H
 obtain ⟨Ao5, co5, eo5⟩ := Kd.R_slice HO0_0.out
 subst eo5
 obtain ⟨Ao6, co6, eo6⟩ := Kd.R_slice HO0_1.out
 subst eo6
 go_enter Try.func34, Try.ntmps34
 go_upto_region 1 with (first | ((with_reducible refine gate_dst (N := 3) rfl ?_); (try (refine gate_guard (by rfl) ?_; dsimp only)); refine bx 3 #[.slice Ao5 l0_0.length co5, .slice Ao6 l0_1.length co6, .int .i64 a0_2, .bool a0_3, .bool a0_4] 51 ?_; intro gb249 hg w7 hbox hb; replace HO0_0 := Aside0.mk (Kd.R_below (kR' HO0_0) hb); replace HO0_1 := Aside0.mk (Kd.R_below (kR' HO0_1) hb); have BK249 := Aside0.mk (hbox); have GW249 := Aside0.mk ((by rw [hg]; exact (by first | exact HK.out.1 | exact (show Kept w _ (fun k_ => P0_0_ k_ ∨ P0_1_ k_) from kp HK).1) : w.heap.size ≤ gb249)); replace HK := Aside0.mk (Kept.below (S := (fun k_ => P0_0_ k_ ∨ P0_1_ k_)) (kp HK) hb); have GE249 := Aside0.mk ((by rw [hg]; exact (below_size (b_w HB)) : w0.heap.size ≤ gb249)); replace HB := bs HB hb; clear hb hbox hg) | ((with_reducible refine gate_dst (N := 6) rfl ?_); (try (refine gate_guard (by rfl) ?_; dsimp only)); refine bx 6 #[.slice none 0 0, .slice none 0 0, .int .i64 0, .bool false, .bool false] 51 ?_; intro gb250 hg w8 hbox hb; replace HO0_0 := Aside0.mk (Kd.R_below (kR' HO0_0) hb); replace HO0_1 := Aside0.mk (Kd.R_below (kR' HO0_1) hb); have BK250 := Aside0.mk (hbox); have GW250 := Aside0.mk ((by rw [hg]; exact (by first | exact HK.out.1 | exact (show Kept w _ (fun k_ => P0_0_ k_ ∨ P0_1_ k_) from kp HK).1) : w.heap.size ≤ gb250)); replace HK := Aside0.mk (Kept.below (S := (fun k_ => P0_0_ k_ ∨ P0_1_ k_)) (kp HK) hb); have GE250 := Aside0.mk ((by rw [hg]; exact (below_size (b_w HB)) : w0.heap.size ≤ gb250)); replace HB := bs HB hb; have NB249_250 := nl BK249 hg; have NB250_249 := ng BK249 hg; replace BK249 := bb BK249 hb; clear hb hbox hg))
 (try simp only [Act.put, List.setIfInBounds_toArray, List.set_cons_zero, List.set_cons_succ])
 go_cut [19] (fun v19 wc => ∃ (kq : Nat) (x19_3 : Bool), v19 = .bool x19_3 ∧ Aside0 (marginaliaref14_Write.j0 kq a1 l2 x19_3 l0_0 l0_1 a0_2 a0_3 a0_4 = some (r1, r2, r3, r4, r5, r6)) ∧ Aside0 (kq ≤ k) ∧ Aside0 (Kd.R Kd.string 9 wc w0.heap.size (fun k_ => ((P0_0_ k_ ∨ P0_1_ k_) ∨ w.heap.size ≤ k_)) (.slice Ao5 l0_0.length co5) l0_0) ∧ Aside0 (Kd.R k111 111 wc w0.heap.size (fun k_ => ((P0_0_ k_ ∨ P0_1_ k_) ∨ w.heap.size ≤ k_)) (.slice Ao6 l0_1.length co6) l0_1) ∧ Aside0 (wc.heap[gb249]? = some (.cells #[(.slice Ao5 l0_0.length co5), (.slice Ao6 l0_1.length co6), .int .i64 a0_2, .bool a0_3, .bool a0_4] 51 (0, 0))) ∧ Aside0 (wc.heap[gb250]? = some (.cells #[(.slice none 0 0), (.slice none 0 0), .int .i64 0, .bool false, .bool false] 51 (0, 0))) ∧ Aside0 (Kept w wc (fun k_ => P0_0_ k_ ∨ P0_1_ k_)) ∧ Aside0 (Below w0.heap.size w0 wc))
 case first =>
  have H := HC4.out
  clear HC4
  obtain ⟨t251, A9, H⟩ := bnd H
  by_cases c10 : t251 = true
  · subst c10
    replace H := it H
    have H' := Aside0.mk H
    clear H
    have hnb11 := NB249_250.out
    have hnc11 := NB250_249.out
    obtain ⟨_,_,_,_,_,_,_,_,_,_⟩ := cz5 BK249.out
    go_wp2_with (first | ((with_reducible refine gate_callee (f := 62) rfl ?_); refine gl 13 Try.func62 #[.agg #[.slice Ao5 l0_0.length co5, .slice Ao6 l0_1.length co6, .int .i64 a0_2, .bool a0_3, .bool a0_4], .int .i64 a1] ?_; (with_reducible refine (marginaliaref14_Is.calls _ _ l0_0 _ _ l0_1 a0_2 a0_3 a0_4 a1 true _ ?side1 ?side2 ?side3 ?side4 A9.out).mono ?_); (case side1 => repeat (first | exact (Kd.R_reads' HO0_0.out).2.2 | (with_reducible refine Kd.C_alloc ?_ _) | (with_reducible refine Kd.C_drewN ?_ _) | (with_reducible refine Kd.C_drew ?_))); (case side2 => exact (Kd.R_reads' HO0_0.out).2.1); (case side3 => repeat (first | exact (Kd.R_reads' HO0_1.out).2.2 | (with_reducible refine Kd.C_alloc ?_ _) | (with_reducible refine Kd.C_drewN ?_ _) | (with_reducible refine Kd.C_drew ?_))); (case side4 => exact (Kd.R_reads' HO0_1.out).2.1); rintro e w13 ⟨rfl, hb⟩; refine ⟨_, rfl, ?_⟩; replace HO0_0 := Aside0.mk (Kd.R_below (kR' HO0_0) hb); replace HO0_1 := Aside0.mk (Kd.R_below (kR' HO0_1) hb); replace BK249 := bb BK249 hb; replace BK250 := bb BK250 hb; replace HK := Aside0.mk (Kept.below (S := (fun k_ => P0_0_ k_ ∨ P0_1_ k_)) (kp HK) hb); replace HB := bs HB hb; clear hb))
    go_meet
    case rel => exact ⟨_, (((l2.length : Int) != 256)), sm, H', ⟨om⟩, ⟨kR' HO0_0⟩, ⟨kR' HO0_1⟩, ⟨bk BK249⟩, ⟨bk BK250⟩, ⟨kp HK⟩, ⟨b_w HB⟩⟩
  replace c10 := Bool.eq_false_iff.mpr c10
  subst c10
  replace H := fi H
  have H' := Aside0.mk H
  clear H
  have hnb14 := NB249_250.out
  have hnc14 := NB250_249.out
  obtain ⟨_,_,_,_,_,_,_,_,_,_⟩ := cz5 BK249.out
  go_wp2_with (first | ((with_reducible refine gate_callee (f := 62) rfl ?_); refine gl 13 Try.func62 #[.agg #[.slice Ao5 l0_0.length co5, .slice Ao6 l0_1.length co6, .int .i64 a0_2, .bool a0_3, .bool a0_4], .int .i64 a1] ?_; (with_reducible refine (marginaliaref14_Is.calls _ _ l0_0 _ _ l0_1 a0_2 a0_3 a0_4 a1 false _ ?side1 ?side2 ?side3 ?side4 A9.out).mono ?_); (case side1 => repeat (first | exact (Kd.R_reads' HO0_0.out).2.2 | (with_reducible refine Kd.C_alloc ?_ _) | (with_reducible refine Kd.C_drewN ?_ _) | (with_reducible refine Kd.C_drew ?_))); (case side2 => exact (Kd.R_reads' HO0_0.out).2.1); (case side3 => repeat (first | exact (Kd.R_reads' HO0_1.out).2.2 | (with_reducible refine Kd.C_alloc ?_ _) | (with_reducible refine Kd.C_drewN ?_ _) | (with_reducible refine Kd.C_drew ?_))); (case side4 => exact (Kd.R_reads' HO0_1.out).2.1); rintro e w16 ⟨rfl, hb⟩; refine ⟨_, rfl, ?_⟩; replace HO0_0 := Aside0.mk (Kd.R_below (kR' HO0_0) hb); replace HO0_1 := Aside0.mk (Kd.R_below (kR' HO0_1) hb); replace BK249 := bb BK249 hb; replace BK250 := bb BK250 hb; replace HK := Aside0.mk (Kept.below (S := (fun k_ => P0_0_ k_ ∨ P0_1_ k_)) (kp HK) hb); replace HB := bs HB hb; clear hb))
  go_meet
  case rel => exact ⟨_, (true), sm, H', ⟨om⟩, ⟨kR' HO0_0⟩, ⟨kR' HO0_1⟩, ⟨bk BK249⟩, ⟨bk BK250⟩, ⟨kp HK⟩, ⟨b_w HB⟩⟩
 clear HC4
 try clear c1
 try clear c2
 try clear p2
 try clear c3
 try clear c6
 try clear c10
 try clear c11
 try clear c14
 obtain ⟨kq, x19_3, rfl, HA, HJ3, HO_250000, HO_250001, BK249, BK250, HK, HB⟩ := hcut
 cases kq with
 | zero => exact absurd HA.out (by simp [marginaliaref14_Write.j0])
 | succ kj3 => ?_
 have H := HA.out
 clear HA
 simp only [marginaliaref14_Write.j0] at H
 by_cases c17 : x19_3 = true
 · subst c17
   replace H := it H
   simp only [Option.some.injEq, Prod.mk.injEq] at H
   obtain ⟨rfl, rfl, rfl, rfl, rfl, rfl⟩ := H
   have hnb18 := NB249_250.out
   have hnc18 := NB250_249.out
   obtain ⟨_,_,_,_,_,_,_,_,_,_⟩ := cz5 BK249.out
   obtain ⟨_,_,_,_,_,_,_,_,_,_⟩ := cz5 BK250.out
   go_wp2
   refine bodyPost_ret (results_ct rfl _ _ gb250 51 #[.slice Ao5 l0_0.length co5, .slice Ao6 l0_1.length co6, .int .i64 a0_2, .bool a0_3, .bool a0_4] (0, 0) _ rfl (bp BK250) Try.underlying51 rfl (by kernel_rfl)) rfl ?_
   exact ⟨_, _, er, rR (Kd.R_mono (fR5 (tR HO_250000 BK250) (fun _ hk => hk.2)) (fun _ hk => hk.1)), rR (Kd.R_mono (fR5 (tR HO_250001 BK250) (fun _ hk => hk.2)) (fun _ hk => hk.1)), b_w HB, kp HK⟩
 replace c17 := Bool.eq_false_iff.mpr c17
 subst c17
 replace H := fi H
 replace H := Option.bind_eq_some_iff.mp H
 obtain ⟨⟨t252, t255, t258, t259, t260, t261⟩, A210, H⟩ := H
 replace H : (if t261 = true then ((some (([] : List (S111)) : List (S111))).bind fun y262 => (if y262.length + t255.length < 5864062014805 then (marginaliaref14_Write.l0 kj3 a1 l2 (y262 ++ t255) 0 t252 t255 t258 t259 t260) else (none))) else (some (t252, t255, t258, t259, t260, 9))) = some (r1, r2, r3, r4, r5, r6) := H
 have A21 := Aside0.mk A210
 clear A210
 by_cases c22 : t261 = true
 rotate_left
 · replace c22 := Bool.eq_false_iff.mpr c22
   subst c22
   replace H := fi H
   simp only [Option.some.injEq, Prod.mk.injEq] at H
   obtain ⟨rfl, rfl, rfl, rfl, rfl, rfl⟩ := H
   have hnb47 := NB249_250.out
   have hnc47 := NB250_249.out
   obtain ⟨_,_,_,_,_,_,_,_,_,_⟩ := cz5 BK249.out
   go_wp2_with (first | ((with_reducible refine gate_callee (f := 65) rfl ?_); refine gl 23 Try.func65 #[.agg #[.slice Ao5 l0_0.length co5, .slice Ao6 l0_1.length co6, .int .i64 a0_2, .bool a0_3, .bool a0_4]] ?_; (with_reducible refine (marginaliaref14_spend.calls kj3 (fun k_ => some k_ = (.slice Ao5 l0_0.length co5 : Value).ownBlock) (.slice Ao5 l0_0.length co5) l0_0 (fun k_ => some k_ = (.slice Ao6 l0_1.length co6 : Value).ownBlock) (.slice Ao6 l0_1.length co6) l0_1 a0_2 a0_3 a0_4 t252 t255 t258 t259 t260 false w0 _ ?side1 ?side2 ?side3 A21.out).mono ?_); (case side1 => exact b_w HB); (case side2 => exact Kd.R_tight rfl HO_250000.out); (case side3 => exact Kd.R_tight rfl HO_250001.out); rintro e w49 ⟨v253, v256, rfl, ho0, ho1, hb, hkp⟩; refine ⟨_, rfl, ?_⟩; replace BK249 := Aside0.mk (blk_kept (bk BK249) hkp (fun hs_ => Or.elim hs_ (fun e_ => (fun e_ => (Kd.R_ne HO_250000.out BK249.out (by decide)) e_) e_) (fun e_ => (fun e_ => (Kd.R_ne HO_250001.out BK249.out (by decide)) e_) e_))); replace BK250 := Aside0.mk (blk_kept (bk BK250) hkp (fun hs_ => Or.elim hs_ (fun e_ => (fun e_ => (Kd.R_ne HO_250000.out BK250.out (by decide)) e_) e_) (fun e_ => (fun e_ => (Kd.R_ne HO_250001.out BK250.out (by decide)) e_) e_))); have HO254 := Aside0.mk (Kd.R_mono (ok' := fun k_ => ((P0_0_ k_ ∨ P0_1_ k_) ∨ w.heap.size ≤ k_)) ho0 (fun k_ hk_ => Or.elim hk_ (fun hs_ => Or.elim hs_ (fun hs_ => (HO_250000.out.1 k_ (hs_).symm)) (fun hs_ => (HO_250001.out.1 k_ (hs_).symm))) (fun hn_ => (.inr (Nat.le_trans (by first | exact HK.out.1 | exact (show Kept w _ (fun k_ => P0_0_ k_ ∨ P0_1_ k_) from kp HK).1) hn_))))); have HO257 := Aside0.mk (Kd.R_mono (ok' := fun k_ => ((P0_0_ k_ ∨ P0_1_ k_) ∨ w.heap.size ≤ k_)) ho1 (fun k_ hk_ => Or.elim hk_ (fun hs_ => Or.elim hs_ (fun hs_ => (HO_250000.out.1 k_ (hs_).symm)) (fun hs_ => (HO_250001.out.1 k_ (hs_).symm))) (fun hn_ => (.inr (Nat.le_trans (by first | exact HK.out.1 | exact (show Kept w _ (fun k_ => P0_0_ k_ ∨ P0_1_ k_) from kp HK).1) hn_))))); replace HK := Aside0.mk (Kept.then_ (S := (fun k_ => P0_0_ k_ ∨ P0_1_ k_)) (kp HK) hkp (fun k_ hs_ => Or.elim hs_ (fun e_ => (fun e_ => (HO_250000.out.1 k_ e_.symm)) e_) (fun e_ => (fun e_ => (HO_250001.out.1 k_ e_.symm)) e_))); replace HB := Aside0.mk (hb); clear HO_250000 HO_250001; clear hb hkp ho0; (try clear ho1); obtain ⟨Ao50, co50, eo50⟩ := Kd.R_slice HO254.out; subst eo50; obtain ⟨_,_,_,_,_,_,_,_,_,_⟩ := cz5 BK249.out; obtain ⟨Ao52, co52, eo52⟩ := Kd.R_slice HO257.out; subst eo52; obtain ⟨_,_,_,_,_,_,_,_,_,_⟩ := cz5 BK250.out))
   refine bodyPost_ret (results_ct rfl _ _ gb250 51 #[.slice Ao50 t252.length co50, .slice Ao52 t255.length co52, .int .i64 t258, .bool t259, .bool t260] (0, 0) _ rfl (bp BK250) Try.underlying51 rfl (by kernel_rfl)) rfl ?_
   exact ⟨_, _, er, rR (Kd.R_mono (fR5 (fR5 (tR2 HO254 BK249 BK250) (fun _ hk => hk.1.2)) (fun _ hk => hk.2)) (fun _ hk => hk.1.1)), rR (Kd.R_mono (fR5 (fR5 (tR2 HO257 BK249 BK250) (fun _ hk => hk.1.2)) (fun _ hk => hk.2)) (fun _ hk => hk.1.1)), b_w HB, kp HK⟩
 subst c22
 replace H := it H
 obtain ⟨y262, Ny262⟩ := yy ((([] : List (S111))) : List (S111))
 replace H : (if y262.length + t255.length < 5864062014805 then (marginaliaref14_Write.l0 kj3 a1 l2 (y262 ++ t255) 0 t252 t255 t258 t259 t260) else (none)) = some (r1, r2, r3, r4, r5, r6) := yx Ny262 H
 obtain ⟨c23, H⟩ := ifN H
 have LMc23 := Aside0.mk c23
 clear c23
 obtain ⟨y265, Ny265⟩ := yy ((y262 ++ t255) : List (S111))
 replace H : (marginaliaref14_Write.l0 kj3 a1 l2 y265 0 t252 t255 t258 t259 t260) = some (r1, r2, r3, r4, r5, r6) := yx Ny265 H
 have H' := Aside0.mk H
 clear H
 have hnb24 := NB249_250.out
 have hnc24 := NB250_249.out
 obtain ⟨_,_,_,_,_,_,_,_,_,_⟩ := cz5 BK249.out
 go_wp2_with (first | ((with_reducible refine gate_callee (f := 65) rfl ?_); refine gl 23 Try.func65 #[.agg #[.slice Ao5 l0_0.length co5, .slice Ao6 l0_1.length co6, .int .i64 a0_2, .bool a0_3, .bool a0_4]] ?_; (with_reducible refine (marginaliaref14_spend.calls kj3 (fun k_ => some k_ = (.slice Ao5 l0_0.length co5 : Value).ownBlock) (.slice Ao5 l0_0.length co5) l0_0 (fun k_ => some k_ = (.slice Ao6 l0_1.length co6 : Value).ownBlock) (.slice Ao6 l0_1.length co6) l0_1 a0_2 a0_3 a0_4 t252 t255 t258 t259 t260 true w0 _ ?side1 ?side2 ?side3 A21.out).mono ?_); (case side1 => exact b_w HB); (case side2 => exact Kd.R_tight rfl HO_250000.out); (case side3 => exact Kd.R_tight rfl HO_250001.out); rintro e w26 ⟨v253, v256, rfl, ho0, ho1, hb, hkp⟩; refine ⟨_, rfl, ?_⟩; replace BK249 := Aside0.mk (blk_kept (bk BK249) hkp (fun hs_ => Or.elim hs_ (fun e_ => (fun e_ => (Kd.R_ne HO_250000.out BK249.out (by decide)) e_) e_) (fun e_ => (fun e_ => (Kd.R_ne HO_250001.out BK249.out (by decide)) e_) e_))); replace BK250 := Aside0.mk (blk_kept (bk BK250) hkp (fun hs_ => Or.elim hs_ (fun e_ => (fun e_ => (Kd.R_ne HO_250000.out BK250.out (by decide)) e_) e_) (fun e_ => (fun e_ => (Kd.R_ne HO_250001.out BK250.out (by decide)) e_) e_))); have HO254 := Aside0.mk (Kd.R_mono (ok' := fun k_ => ((P0_0_ k_ ∨ P0_1_ k_) ∨ w.heap.size ≤ k_)) ho0 (fun k_ hk_ => Or.elim hk_ (fun hs_ => Or.elim hs_ (fun hs_ => (HO_250000.out.1 k_ (hs_).symm)) (fun hs_ => (HO_250001.out.1 k_ (hs_).symm))) (fun hn_ => (.inr (Nat.le_trans (by first | exact HK.out.1 | exact (show Kept w _ (fun k_ => P0_0_ k_ ∨ P0_1_ k_) from kp HK).1) hn_))))); have HO257 := Aside0.mk (Kd.R_mono (ok' := fun k_ => ((P0_0_ k_ ∨ P0_1_ k_) ∨ w.heap.size ≤ k_)) ho1 (fun k_ hk_ => Or.elim hk_ (fun hs_ => Or.elim hs_ (fun hs_ => (HO_250000.out.1 k_ (hs_).symm)) (fun hs_ => (HO_250001.out.1 k_ (hs_).symm))) (fun hn_ => (.inr (Nat.le_trans (by first | exact HK.out.1 | exact (show Kept w _ (fun k_ => P0_0_ k_ ∨ P0_1_ k_) from kp HK).1) hn_))))); replace HK := Aside0.mk (Kept.then_ (S := (fun k_ => P0_0_ k_ ∨ P0_1_ k_)) (kp HK) hkp (fun k_ hs_ => Or.elim hs_ (fun e_ => (fun e_ => (HO_250000.out.1 k_ e_.symm)) e_) (fun e_ => (fun e_ => (HO_250001.out.1 k_ e_.symm)) e_))); replace HB := Aside0.mk (hb); clear HO_250000 HO_250001; clear hb hkp ho0; (try clear ho1); obtain ⟨Ao27, co27, eo27⟩ := Kd.R_slice HO254.out; subst eo27; obtain ⟨_,_,_,_,_,_,_,_,_,_⟩ := cz5 BK249.out; obtain ⟨Ao29, co29, eo29⟩ := Kd.R_slice HO257.out; subst eo29) | ((with_reducible refine gate_dst (N := 29) rfl ?_); (try (refine gate_guard (by rfl) ?_; dsimp only)); refine Kd.R_lit k111 _ 111 ?hg (N := 29) ?hd (xs := ([] : List (S111))) (inner := []) (ok := fun _ => True) (okp := fun _ => True) ?hr ?hp (fun _ hk => hk) trivial (Below.refl _ _) (Nat.le_refl _) (by simp) ?_; (case hd => rfl); (case hg => rfl); (case hr => first | (go_simp; done) | (go_simp; rfl)); (case hp => exact (Reps.none _ _)); intro v263 w30 ho31 hb hg_ hnew_; clear hg_ hnew_; (first | rw [← Ny262.out] at ho31 | (simp only [Int.reduceToNat] at ho31; rw [← Ny262.out] at ho31)); replace HO254 := Aside0.mk (Kd.R_below (by (with_reducible repeat (first | apply Kd.R_alloc | apply Kd.R_drewN | apply Kd.R_drew)); exact (Kd.R_mono (Kd.R_far (p := ⟨gb249, 4, none⟩) (Kd.R_far (p := ⟨gb249, 3, none⟩) (Kd.R_far (p := ⟨gb249, 2, none⟩) (Kd.R_far (p := ⟨gb249, 1, none⟩) (Kd.R_far (p := ⟨gb249, 0, none⟩) (Kd.R_types HO254.out BK249.out (by decide)) (fun _ hk => hk.2) (.slice Ao27 t252.length co27)) (fun _ hk => hk.2) (.slice Ao29 t255.length co29)) (fun _ hk => hk.2) (.int .i64 t258)) (fun _ hk => hk.2) (.bool t259)) (fun _ hk => hk.2) (.bool t260)) (fun _ h_ => h_.1))) hb); have HO264 := Aside0.mk (Kd.R_lower (Kd.R_new' (Kd.R_newM (M := fun k_ => ((P0_0_ k_ ∨ P0_1_ k_) ∨ w.heap.size ≤ k_)) ho31 (show Kept w _ (fun k_ => P0_0_ k_ ∨ P0_1_ k_) from kp HK).1 (fun k_ h_ => .inr h_)) (Kd.R_lt (by (with_reducible repeat (first | apply Kd.R_alloc | apply Kd.R_drewN | apply Kd.R_drew)); exact (Kd.R_mono (Kd.R_far (p := ⟨gb249, 4, none⟩) (Kd.R_far (p := ⟨gb249, 3, none⟩) (Kd.R_far (p := ⟨gb249, 2, none⟩) (Kd.R_far (p := ⟨gb249, 1, none⟩) (Kd.R_far (p := ⟨gb249, 0, none⟩) (Kd.R_types HO257.out BK249.out (by decide)) (fun _ hk => hk.2) (.slice Ao27 t252.length co27)) (fun _ hk => hk.2) (.slice Ao29 t255.length co29)) (fun _ hk => hk.2) (.int .i64 t258)) (fun _ hk => hk.2) (.bool t259)) (fun _ hk => hk.2) (.bool t260)) (fun _ h_ => h_.1))))) (below_size (b_w HB))); replace HO257 := Aside0.mk (Kd.R_elder' (by (with_reducible repeat (first | apply Kd.R_alloc | apply Kd.R_drewN | apply Kd.R_drew)); exact (Kd.R_mono (Kd.R_far (p := ⟨gb249, 4, none⟩) (Kd.R_far (p := ⟨gb249, 3, none⟩) (Kd.R_far (p := ⟨gb249, 2, none⟩) (Kd.R_far (p := ⟨gb249, 1, none⟩) (Kd.R_far (p := ⟨gb249, 0, none⟩) (Kd.R_types HO257.out BK249.out (by decide)) (fun _ hk => hk.2) (.slice Ao27 t252.length co27)) (fun _ hk => hk.2) (.slice Ao29 t255.length co29)) (fun _ hk => hk.2) (.int .i64 t258)) (fun _ hk => hk.2) (.bool t259)) (fun _ hk => hk.2) (.bool t260)) (fun _ h_ => h_.1))) (Kd.R_base ho31) hb); replace BK249 := Aside0.mk (blk_below (g := gb249) (o := .cells #[.slice Ao27 t252.length co27, .slice Ao29 t255.length co29, .int .i64 t258, .bool t259, .bool t260] 51 (0, 0)) (bp BK249) hb); replace BK250 := Aside0.mk (blk_below (g := gb250) (o := .cells #[.slice none 0 0, .slice none 0 0, .int .i64 0, .bool false, .bool false] 51 (0, 0)) (bp BK250) hb); replace HK := Aside0.mk (Kept.below (S := (fun k_ => P0_0_ k_ ∨ P0_1_ k_)) (kp HK) hb); replace HB := bs HB hb; clear hb ho31; obtain ⟨_,_,_,_,_,_,_,_,_,_⟩ := cz5 BK249.out) | ((with_reducible refine gate_builtin (b := .append) (xs := #[.tmp 29, .tmp 31]) rfl ?_); (try (refine gate_guard (by rfl) ?_; dsimp only)); at_builtin; refine Kd.R_append_rows k111 (w0 := w0) w0.heap.size rfl (.tmp 29) (.tmp 31) 49 111 (.agg #[(.int .i64 0), (.string ⟨#[]⟩)]) 24 rfl Try.underlying49 info111 rfl (by decide) (by omega) v263 y262 t255 _ _ _ (fun k_ => ((P0_0_ k_ ∨ P0_1_ k_) ∨ w.heap.size ≤ k_) ∧ some k_ ≠ (.slice Ao29 t255.length co29 : Value).ownBlock) (fun _ => False) rfl rfl ?aO ?aR (fun _ _ h => h) (fun _ h => h.elim) ?aF ?aB ?aS ?aL ?_; (case aR => repeat (first | exact (Kd.R_reads' HO257.out).2.2 | (with_reducible refine Kd.C_alloc ?_ _) | (with_reducible refine Kd.C_drewN ?_ _) | (with_reducible refine Kd.C_drew ?_))); (case aB => exact (b_w HB)); (case aF => exact (fun k_ hk => ⟨(.inr (Nat.le_trans (by first | exact HK.out.1 | exact (show Kept w _ (fun k_ => P0_0_ k_ ∨ P0_1_ k_) from kp HK).1) hk)), Kd.fresh' (Kd.R_lt (kR' HO257)) k_ hk⟩)); (case aO => exact (by (with_reducible repeat (first | apply Kd.R_alloc | apply Kd.R_drewN | apply Kd.R_drew)); exact Kd.R_mono HO264.out (fun _ hk => ⟨hk.1.1, hk.2⟩))); (case aS => exact (below_size (b_w HB))); (case aL => have := LMc23.out; omega); intro v266 w33 ho hb hg hat; rw [← Ny265.out] at ho; replace BK249 := Aside0.mk (blk_grown (g := gb249) (o := .cells #[.slice Ao27 t252.length co27, .slice Ao29 t255.length co29, .int .i64 t258, .bool t259, .bool t260] 51 (0, 0)) (bk BK249) hg (Kd.R_ne HO264.out BK249.out (by decide))); replace BK250 := Aside0.mk (blk_grown (g := gb250) (o := .cells #[.slice none 0 0, .slice none 0 0, .int .i64 0, .bool false, .bool false] 51 (0, 0)) (bk BK250) hg (Kd.R_ne HO264.out BK250.out (by decide))); replace HO254 := Aside0.mk (Kd.R_over' (kR' HO254) (Kd.R_typed (kR' HO264)) (by decide) hg); replace HO257 := Aside0.mk (Kd.R_after (ok := (fun k_ => ((P0_0_ k_ ∨ P0_1_ k_) ∨ w.heap.size ≤ k_))) (kR' HO257) hg hat); replace HB := Aside0.mk (hb); replace HK := Aside0.mk (Kept.of_grown (S := (fun k_ => P0_0_ k_ ∨ P0_1_ k_)) hg (kp HK) (fun k_ e_ => (HO264.out.1 k_ e_).1.1)); have HO267 := Aside0.mk (ho); clear HO264; clear ho hb hg hat))
 go_loopg [9, 10] kj3 (fun kq v9 v10 w' => ∃ (x9_2 : List (S111)) (x10_2 : Int), v10 = .int .i64 x10_2 ∧ Aside0 (marginaliaref14_Write.l0 kq a1 l2 x9_2 x10_2 t252 t255 t258 t259 t260 = some (r1, r2, r3, r4, r5, r6)) ∧ Aside0 (kq ≤ kj3) ∧ Aside0 (Kd.R k111 111 w' w0.heap.size (fun k_ => ((P0_0_ k_ ∨ P0_1_ k_) ∨ w.heap.size ≤ k_) ∧ some k_ ≠ ((.slice Ao29 t255.length co29) : Value).ownBlock) v9 x9_2) ∧ Aside0 (Kd.R Kd.string 9 w' w0.heap.size (fun k_ => ((P0_0_ k_ ∨ P0_1_ k_) ∨ w.heap.size ≤ k_)) (.slice Ao27 t252.length co27) t252) ∧ Aside0 (Kd.R k111 111 w' w0.heap.size (fun k_ => ((P0_0_ k_ ∨ P0_1_ k_) ∨ w.heap.size ≤ k_) ∧ some k_ ≠ (v9 : Value).ownBlock) (.slice Ao29 t255.length co29) t255) ∧ Aside0 (w'.heap[gb249]? = some (.cells #[(.slice Ao27 t252.length co27), (.slice Ao29 t255.length co29), .int .i64 t258, .bool t259, .bool t260] 51 (0, 0))) ∧ Aside0 (w'.heap[gb250]? = some (.cells #[(.slice none 0 0), (.slice none 0 0), .int .i64 0, .bool false, .bool false] 51 (0, 0))) ∧ Aside0 (Kept w w' (fun k_ => P0_0_ k_ ∨ P0_1_ k_)) ∧ Aside0 (Below w0.heap.size w0 w'))
 case atStart => exact ⟨(y265), (0), sm, H', ⟨Nat.le_refl _⟩, ⟨kR' HO267⟩, ⟨kR' HO254⟩, ⟨kR' HO257⟩, ⟨bk BK249⟩, ⟨bk BK250⟩, ⟨kp HK⟩, ⟨b_w HB⟩⟩
 clear H'
 try clear c1
 try clear c2
 try clear p2
 try clear c3
 try clear c6
 try clear c10
 try clear c11
 try clear c14
 try clear c17
 try clear c18
 try clear c22
 try clear c23
 try clear c24
 try clear p2
 obtain ⟨x9_2, x10_2, rfl, HA, HK2, HO_9, HO_250000, HO_250001, BK249, BK250, HK, HB⟩ := hrel
 cases gk with
 | zero => exact absurd HA.out (by simp [marginaliaref14_Write.l0])
 | succ k2 => ?_
 have H := HA.out
 clear HA
 simp only [marginaliaref14_Write.l0] at H
 by_cases c34 : x10_2 < 4
 rotate_left
 · rw [if_neg c34] at H
   have c34b0 := decide_eq_false c34
   clear c34
   simp only [Option.some.injEq, Prod.mk.injEq] at H
   obtain ⟨rfl, rfl, rfl, rfl, rfl, rfl⟩ := H
   obtain ⟨Ao43, co43, eo43⟩ := Kd.R_slice HO_9.out
   subst eo43
   have hnb44 := NB249_250.out
   have hnc44 := NB250_249.out
   obtain ⟨_,_,_,_,_,_,_,_,_,_⟩ := cz5 BK249.out
   obtain ⟨_,_,_,_,_,_,_,_,_,_⟩ := cz5 BK250.out
   go_wp2
   refine bodyPost_ret (results_ct rfl _ _ gb250 51 #[.slice Ao27 t252.length co27, .slice Ao43 x9_2.length co43, .int .i64 t258, .bool t259, .bool t260] (0, 0) _ rfl (bp BK250) Try.underlying51 rfl (by kernel_rfl)) rfl ?_
   exact ⟨_, _, er, rR (Kd.R_mono (fR5 (fR1 (tR2 HO_250000 BK249 BK250) (fun _ hk => hk.1.2)) (fun _ hk => hk.2)) (fun _ hk => hk.1.1)), rR (Kd.R_mono (fR5 (fR1 (tR2 HO_9 BK249 BK250) (fun _ hk => hk.1.2)) (fun _ hk => hk.2)) (fun _ hk => hk.1.1.1)), b_w HB, kp HK⟩
 rw [if_pos c34] at H
 have c34b0 := decide_eq_true c34
 clear c34
 obtain ⟨ji35, hji35⟩ : ∃ j_ : Int, (wrap64 (x10_2 * 64)) = j_ := ⟨_, rfl⟩
 replace H : (if 0 ≤ (ji35) then (if (ji35) ≤ (wrap64 ((wrap64 (x10_2 + 1)) * 64)) then (if (wrap64 ((wrap64 (x10_2 + 1)) * 64)) ≤ (l2.length : Int) then (if x9_2.length < 5864062014805 then (marginaliaref14_Write.l0 k2 a1 l2 (x9_2 ++ [(⟨wrap64 ((wrap64 (a1 * 4)) + x10_2), strOfNums ((l2.take ((wrap64 ((wrap64 (x10_2 + 1)) * 64)) : Int).toNat).drop ((ji35) : Int).toNat)⟩ : S111)]) (wrap64 (x10_2 + 1)) t252 t255 t258 t259 t260) else (none)) else (none)) else (none)) else (none)) = some (r1, r2, r3, r4, r5, r6) := by first | (rw [hji35] at H; exact H) | (simp only [hji35] at H ⊢; exact H)
 have hji35w : (IntKind.i64.wrap (x10_2 * 64)) = ji35 := (i64_w _).trans hji35
 obtain ⟨c36, H⟩ := ifN H
 have c36b0 := eq_true c36
 have c36b1 := decide_eq_true c36
 clear c36
 obtain ⟨c37, H⟩ := ifN H
 have c37b0 := eq_true c37
 have c37b1 := decide_eq_true c37
 obtain ⟨c38, H⟩ := ifN H
 have c38b0 := eq_true c38
 have c38b1 := decide_eq_true c38
 obtain ⟨y268, Ny268⟩ := yy (((l2.take ((wrap64 ((wrap64 (x10_2 + 1)) * 64)) : Int).toNat).drop ((ji35) : Int).toNat) : List Int)
 replace H : (if x9_2.length < 5864062014805 then (marginaliaref14_Write.l0 k2 a1 l2 (x9_2 ++ [(⟨wrap64 ((wrap64 (a1 * 4)) + x10_2), strOfNums y268⟩ : S111)]) (wrap64 (x10_2 + 1)) t252 t255 t258 t259 t260) else (none)) = some (r1, r2, r3, r4, r5, r6) := yx Ny268 H
 obtain ⟨c39, H⟩ := ifN H
 have LMc39 := Aside0.mk c39
 clear c39
 obtain ⟨y272, Ny272⟩ := yy ((x9_2 ++ [(⟨wrap64 ((wrap64 (a1 * 4)) + x10_2), strOfNums y268⟩ : S111)]) : List (S111))
 replace H : (marginaliaref14_Write.l0 k2 a1 l2 y272 (wrap64 (x10_2 + 1)) t252 t255 t258 t259 t260) = some (r1, r2, r3, r4, r5, r6) := yx Ny272 H
 have H' := Aside0.mk H
 clear H
 have q40 : ((wrap64 ((wrap64 (x10_2 + 1)) * 64)) : Int) ≤ ((l2.length : Int) : Int) := od
 obtain ⟨i040, hi040, _, hsz40, _⟩ := info_parts info5
 have hroom40 : l2.length ≤ c2 := HC2.out
 have hC40 : Kd.C (Kd.int .u8) _ A2 l2.length l2 := (Kd.C_kept_now HR2.out HK.out)
 have ql40 : ((ji35) : Int) ≤ ((wrap64 ((wrap64 (x10_2 + 1)) * 64)) : Int) := od
 have q040 : (0 : Int) ≤ ((ji35) : Int) := od
 have hcut40 := cut_mid (P := Try.prog) 27 5 .i64 .i64 Try.underlying27 hi040 1 hsz40 A2 l2.length c2 (ji35) (wrap64 ((wrap64 (x10_2 + 1)) * 64)) q040 ql40 q40 hroom40
 have hr40 := Kd.C_mid (lo := ((ji35) : Int).toNat) (hi := ((wrap64 ((wrap64 (x10_2 + 1)) * 64)) : Int).toNat) (c := c2) hC40 (by omega) (by omega) hroom40
 obtain ⟨A40, hA40⟩ : ∃ A1, A1 = (if c2 = ((ji35) : Int).toNat then A2 else (A2 : Option Addr).map (·.add (((ji35) : Int).toNat * 1))) := ⟨_, rfl⟩
 obtain ⟨c40, hc40⟩ : ∃ c1, c1 = c2 - ((ji35) : Int).toNat := ⟨_, rfl⟩
 have hy40 : y268.length = ((wrap64 ((wrap64 (x10_2 + 1)) * 64)) : Int).toNat - ((ji35) : Int).toNat := (by rw [Ny268.out, List.length_drop, List.length_take] <;> omega)
 rw [show ((l2).take ((wrap64 ((wrap64 (x10_2 + 1)) * 64)) : Int).toNat).drop ((ji35) : Int).toNat = y268 from Ny268.out.symm] at hr40
 replace hr40 : Kd.C (Kd.int .u8) _ A40 y268.length y268 := (by rw [hA40]; exact hr40)
 rw [← hy40, ← hA40, ← hc40] at hcut40
 have HR271 := Aside0.mk hr40
 have HC271 := Aside0.mk (show y268.length ≤ c40 from by rw [hy40, hc40]; exact Nat.sub_le_sub_right (Nat.le_trans (by omega) hroom40) _)
 clear hr40 hC40 hroom40 hi040 hsz40 hc40
 have KY40 := Aside0.mk hy40
 have KA40 := Aside0.mk hA40
 clear hy40 hA40
 have KL40 := Aside0.mk (show ((wrap64 ((wrap64 (x10_2 + 1)) * 64)) : Int).toNat ≤ l2.length from by omega)
 have KM40 := Aside0.mk (show ((ji35) : Int).toNat ≤ ((wrap64 ((wrap64 (x10_2 + 1)) * 64)) : Int).toNat from by omega)
 replace q40 := eq_true q40
 have hcv41 := Kd.C_string (P := Try.prog) (A := A40) (c := c40) Try.underlying27 Try.underlying5 Try.underlying9 (by repeat (first | (with_reducible exact HR271.out) | (with_reducible refine Kd.C_alloc ?_ _) | (with_reducible refine Kd.C_drewN ?_ _) | (with_reducible refine Kd.C_drew ?_) | exact HR271.out))
 have hcd41 := fun (nq_ : Nat) => Kd.C_string (P := Try.prog) (A := A40) (c := c40) Try.underlying27 Try.underlying5 Try.underlying9 (Kd.C_drewN (by repeat (first | (with_reducible exact HR271.out) | (with_reducible refine Kd.C_alloc ?_ _) | (with_reducible refine Kd.C_drewN ?_ _) | (with_reducible refine Kd.C_drew ?_) | exact HR271.out)) nq_)
 go_wp2_with (first | ((with_reducible refine gate_builtin (b := .append) (xs := #[.tmp 37, .tmp 51]) rfl ?_); (try (refine gate_guard (by rfl) ?_; dsimp only)); at_builtin; refine Kd.R_append k111 (w0 := w0) w0.heap.size rfl (.tmp 37) (.tmp 51) 49 111 (.agg #[(.int .i64 0), (.string ⟨#[]⟩)]) 24 rfl Try.underlying49 info111 rfl (by decide) (by omega) u9 x9_2 (⟨wrap64 ((wrap64 (a1 * 4)) + x10_2), strOfNums y268⟩ : S111) [.int .i64 (wrap64 ((wrap64 (a1 * 4)) + x10_2)), .string (strOfNums y268)] (fun k_ => ((P0_0_ k_ ∨ P0_1_ k_) ∨ w.heap.size ≤ k_) ∧ some k_ ≠ (.slice Ao29 t255.length co29 : Value).ownBlock) (fun _ => False) rfl rfl ?aP (fun _ hk => hk.elim) ?aF ?aO ?aB ?aS ?aL ?_; (case aP => exact k111_mkM _ _ _ (⟨wrap64 ((wrap64 (a1 * 4)) + x10_2), strOfNums y268⟩ : S111)); (case aB => exact (b_w HB)); (case aF => exact (fun k_ hk => ⟨(.inr (Nat.le_trans (by first | exact HK.out.1 | exact (show Kept w _ (fun k_ => P0_0_ k_ ∨ P0_1_ k_) from kp HK).1) hk)), Kd.fresh' (Kd.R_lt (kR' HO_250001)) k_ hk⟩)); (case aO => exact (kR' HO_9)); (case aS => exact (below_size (b_w HB))); (case aL => have := LMc39.out; omega); intro v273 w42 ho hb hg hat; rw [← Ny272.out] at ho; replace HO_250000 := Aside0.mk (Kd.R_over' (kR' HO_250000) (Kd.R_typed (kR' HO_9)) (by decide) hg); replace HO_250001 := Aside0.mk (Kd.R_after (ok := (fun k_ => ((P0_0_ k_ ∨ P0_1_ k_) ∨ w.heap.size ≤ k_))) (kR' HO_250001) hg hat); replace BK249 := Aside0.mk (blk_grown (g := gb249) (o := .cells #[.slice Ao27 t252.length co27, .slice Ao29 t255.length co29, .int .i64 t258, .bool t259, .bool t260] 51 (0, 0)) (bk BK249) hg (Kd.R_ne HO_9.out BK249.out (by decide))); replace BK250 := Aside0.mk (blk_grown (g := gb250) (o := .cells #[.slice none 0 0, .slice none 0 0, .int .i64 0, .bool false, .bool false] 51 (0, 0)) (bk BK250) hg (Kd.R_ne HO_9.out BK250.out (by decide))); replace HB := Aside0.mk (hb); replace HR271 := Aside0.mk ((show Kd.C (Kd.int .u8) w42 A40 y268.length y268 from by rw [Ny268.out, KA40.out]; exact Kd.C_mid (lo := ((ji35) : Int).toNat) (hi := ((wrap64 ((wrap64 (x10_2 + 1)) * 64)) : Int).toNat) (c := c2) (Kd.C_kept_now HR2.out (show Kept w w42 (fun k_ => P0_0_ k_ ∨ P0_1_ k_) from (Kept.of_grown (S := (fun k_ => P0_0_ k_ ∨ P0_1_ k_)) hg (kp HK) (fun k_ e_ => (HO_9.out.1 k_ e_).1)))) KM40.out KL40.out HC2.out)); replace HK := Aside0.mk (Kept.of_grown (S := (fun k_ => P0_0_ k_ ∨ P0_1_ k_)) hg (kp HK) (fun k_ e_ => (HO_9.out.1 k_ e_).1)); have HO274 := Aside0.mk (ho); clear HO_9; clear ho hb hg hat))
 go_roundg k2
 case measure => have := HJ3.out; have := HK2.out; omega
 case rel => exact ⟨(y272), (wrap64 (x10_2 + 1)), sm, H', ⟨by have := HJ3.out; have := HK2.out; omega⟩, ⟨kR' HO274⟩, ⟨kR' HO_250000⟩, ⟨kR' HO_250001⟩, ⟨bk BK249⟩, ⟨bk BK250⟩, ⟨kp HK⟩, ⟨b_w HB⟩⟩
end Go.Proofs.Ytepipgneefcoiaa.D
namespace Go.Proofs.Ytepipgneefcoiaa.D
open Go.RowKit Go.Proofs.YtepipgneefcoiaaW.PrintWords Go.Proofs.YtepipgneefcoiaaW.PrintLast Go.Proofs.YtepipgneefcoiaaW.PrintMore
def marginaliaref14_Crash.T6 : Bool × List (List Nat × List Nat) := (true, [([], []), ([], []), ([1], [1]), ([], []), ([2, 3], [2, 3]), ([4], [4]), ([5], [5]), ([], []), ([7], [7]), ([], []), ([8, 9], [8, 9]), ([10], [10]), ([11], [11]), ([0, 6, 0, 1, 2, 3, 4, 5, 6, 7, 8, 9, 10, 11, 12], [0, 6]), ([13, 12, 0, 1, 2, 3, 4, 5, 6, 7, 8, 9, 10, 11, 12], [12, 13])])
def marginaliaref14_Crash.B6 : List Nat := [0, 0, 2, 0, 14, 30, 62, 0, 128, 0, 896, 1920, 3968, 8191, 16383]
theorem marginaliaref14_Crash.tab6 : rtab .any (opsOf Try.f52 6) = marginaliaref14_Crash.T6 := by kernel_rfl
theorem marginaliaref14_Crash.bits6 : waitsOk marginaliaref14_Crash.T6.2 marginaliaref14_Crash.B6 = true := by kernel_rfl
end Go.Proofs.Ytepipgneefcoiaa.D
namespace Go.Proofs.Ytepipgneefcoiaa.D
open Go.RowKit Go.Proofs.YtepipgneefcoiaaW.PrintWords Go.Proofs.YtepipgneefcoiaaW.PrintLast Go.Proofs.YtepipgneefcoiaaW.PrintMore
mutual
def marginaliaref14_New.j0 : Nat → Int → Bool → Option (List ByteArray × (List (S111)) × Int × Bool × Bool × Int)
  | 0, _, _ => none
  | k + 1, x0, x12 => if x12 = true then (some (([] : List ByteArray), ([] : List (S111)), 0, false, false, 1)) else ((marginaliaref14_nought.f).bind fun t186 => (marginaliaref14_New.l0 k x0 t186 0 ([] : List ByteArray) 0 false false))
def marginaliaref14_New.l0 : Nat → Int → ByteArray → Int → List ByteArray → Int → Bool → Bool → Option (List ByteArray × (List (S111)) × Int × Bool × Bool × Int)
  | 0, _, _, _, _, _, _, _ => none
  | k + 1, x0, x5, x6, x186000, x186002, x186003, x186004 => if x6 < (wrap64 (x0 * 4)) then (if x186000.length < 8796093022208 then (marginaliaref14_New.l0 k x0 x5 (wrap64 (x6 + 1)) (x186000 ++ [x5]) x186002 x186003 x186004) else (none)) else (some (x186000, ([] : List (S111)), x186002, x186003, x186004, 0))
end
def marginaliaref14_New.f (k : Nat) (a0 : Int) : Option (List ByteArray × (List (S111)) × Int × Bool × Bool × Int) := if a0 < 1 then (marginaliaref14_New.j0 k a0 true) else (marginaliaref14_New.j0 k a0 (decide (a0 > 4096)))
set_option maxHeartbeats 8000000 in
set_option maxRecDepth 100000 in
theorem marginaliaref14_New.calls (k : Nat) (a0 : Int) (r1 : List ByteArray) (r2 : List (S111)) (r3 : Int) (r4 : Bool) (r5 : Bool) (r6 : Int) (w : World) (h : marginaliaref14_New.f k a0 = some (r1, r2, r3, r4, r5, r6)) :
    Calls Try.prog 28 #[.int .i64 a0] w fun e w' => ∃ v0_ v1_ : Value, e = .returned (.tuple #[.agg #[v0_, v1_, .int .i64 r3, .bool r4, .bool r5], .int .i64 r6]) ∧ Kd.R Kd.string 9 w' w.heap.size (fun _ => True) v0_ r1 ∧ Kd.R k111 111 w' w.heap.size (fun _ => True) v1_ r2 ∧ Below w.heap.size w w' := by
 have hu51 := Try.underlying51
 have HB := Aside0.mk (Below.refl w.heap.size w)
 have H : (if a0 < 1 then (marginaliaref14_New.j0 k a0 true) else (marginaliaref14_New.j0 k a0 (decide (a0 > 4096)))) = some (r1, r2, r3, r4, r5, r6) := h
 clear h
 have HC2 := Aside0.mk H
 clear H
 go_enter Try.func28, Try.ntmps28
 go_upto_region 1 with (first | ((with_reducible refine gate_dst (N := 2) rfl ?_); refine bx 2 #[.slice none 0 0, .slice none 0 0, .int .i64 0, .bool false, .bool false] 51 ?_; intro gb184 hg w3 hbox hb; have BK184 := Aside0.mk (hbox); have GW184 := gs HB hg; have GE184 := gs HB hg; replace HB := bs HB hb; clear hb hbox hg))
 (try simp only [Act.put, List.setIfInBounds_toArray, List.set_cons_zero, List.set_cons_succ])
 go_cut [12] (fun v12 wc => ∃ (kq : Nat) (x12_1 : Bool), v12 = .bool x12_1 ∧ Aside0 (marginaliaref14_New.j0 kq a0 x12_1 = some (r1, r2, r3, r4, r5, r6)) ∧ Aside0 (kq ≤ k) ∧ Aside0 (wc.heap[gb184]? = some (.cells #[(.slice none 0 0), (.slice none 0 0), .int .i64 0, .bool false, .bool false] 51 (0, 0))) ∧ Aside0 (Below w.heap.size w wc))
 case first =>
  have H := HC2.out
  clear HC2
  by_cases c4 : a0 < 1
  · rw [if_pos c4] at H
    have c4b0 := decide_eq_true c4
    clear c4
    (first | rw [c4b0] | (simp only [i64_w, i32_w]; rw [c4b0]) | skip)
    have H' := Aside0.mk H
    clear H
    go_wp2
    go_meet
    case rel => exact ⟨_, (true), sm, H', ⟨om⟩, ⟨bk BK184⟩, ⟨b_w HB⟩⟩
  rw [if_neg c4] at H
  have c4b0 := decide_eq_false c4
  clear c4
  (first | rw [c4b0] | (simp only [i64_w, i32_w]; rw [c4b0]) | skip)
  have H' := Aside0.mk H
  clear H
  go_wp2
  go_meet
  case rel => exact ⟨_, (decide (a0 > 4096)), sm, H', ⟨om⟩, ⟨bk BK184⟩, ⟨b_w HB⟩⟩
 clear HC2
 try clear c2
 try clear p2
 try clear c4
 try clear c4b0
 obtain ⟨kq, x12_1, rfl, HA, HJ1, BK184, HB⟩ := hcut
 cases kq with
 | zero => exact absurd HA.out (by simp [marginaliaref14_New.j0])
 | succ kj1 => ?_
 have H := HA.out
 clear HA
 simp only [marginaliaref14_New.j0] at H
 by_cases c5 : x12_1 = true
 · subst c5
   replace H := it H
   simp only [Option.some.injEq, Prod.mk.injEq] at H
   obtain ⟨rfl, rfl, rfl, rfl, rfl, rfl⟩ := H
   obtain ⟨_,_,_,_,_,_,_,_,_,_⟩ := cz5 BK184.out
   go_wp2
   refine bodyPost_ret (results_ct rfl _ _ gb184 51 #[.slice none 0 0, .slice none 0 0, .int .i64 0, .bool false, .bool false] (0, 0) _ rfl (bp BK184) Try.underlying51 rfl (by kernel_rfl)) rfl ?_
   exact ⟨_, _, er, rn, rn, b_w HB⟩
 replace c5 := Bool.eq_false_iff.mpr c5
 subst c5
 replace H := fi H
 obtain ⟨t186, A7, H⟩ := bnd H
 have H' := Aside0.mk H
 clear H
 go_wp2_with (first | ((with_reducible refine gate_dst (N := 4) rfl ?_); refine bx 4 #[.slice none 0 0, .slice none 0 0, .int .i64 0, .bool false, .bool false] 51 ?_; intro gb185 hg w8 hbox hb; have BK185 := Aside0.mk (hbox); have GW185 := gs HB hg; have GE185 := gs HB hg; replace HB := bs HB hb; have NB184_185 := nl BK184 hg; have NB185_184 := ng BK184 hg; replace BK184 := bb BK184 hb; clear hb hbox hg; have hnb9 := NB185_184.out; have hnc9 := NB184_185.out; obtain ⟨_,_,_,_,_,_,_,_,_,_⟩ := cz5 BK185.out) | ((with_reducible refine gate_callee (f := 60) rfl ?_); refine gl 15 Try.func60 #[] ?_; (with_reducible refine (marginaliaref14_nought.calls  t186 _ A7.out).mono ?_); rintro e w11 ⟨rfl, hb⟩; refine ⟨_, rfl, ?_⟩; replace BK184 := Aside0.mk (blk_below (g := gb184) (o := .cells #[.slice none 0 0, .slice none 0 0, .int .i64 0, .bool false, .bool false] 51 (0, 0)) (bp BK184) hb); replace BK185 := Aside0.mk (blk_below (g := gb185) (o := .cells #[.slice none 0 0, .slice none 0 0, .int .i64 0, .bool false, .bool false] 51 (0, 0)) (bp BK185) hb); replace HB := bs HB hb; clear hb))
 go_loopg [6] kj1 (fun kq v6 w' => ∃ (x6_2 : Int) (x186000_2 : List ByteArray) (u186000 : Value), v6 = .int .i64 x6_2 ∧ Aside0 (marginaliaref14_New.l0 kq a0 t186 x6_2 x186000_2 0 false false = some (r1, r2, r3, r4, r5, r6)) ∧ Aside0 (kq ≤ kj1) ∧ Aside0 (Kd.R Kd.string 9 w' w.heap.size (fun _ => True) u186000 x186000_2) ∧ Aside0 (w'.heap[gb184]? = some (.cells #[(.slice none 0 0), (.slice none 0 0), .int .i64 0, .bool false, .bool false] 51 (0, 0))) ∧ Aside0 (w'.heap[gb185]? = some (.cells #[u186000, (.slice none 0 0), .int .i64 0, .bool false, .bool false] 51 (0, 0))) ∧ Aside0 (Below w.heap.size w w'))
 case atStart => exact ⟨(0), (([] : List ByteArray)), (.slice none 0 0), sm, H', ⟨Nat.le_refl _⟩, ⟨rn⟩, ⟨bk BK184⟩, ⟨bk BK185⟩, ⟨b_w HB⟩⟩
 clear H'
 try clear c2
 try clear p2
 try clear c4
 try clear c4b0
 try clear c5
 try clear c6
 try clear c9
 try clear p2
 obtain ⟨x6_2, x186000_2, u186000, rfl, HA, HK2, HO_186000, BK184, BK185, HB⟩ := hrel
 cases gk with
 | zero => exact absurd HA.out (by simp [marginaliaref14_New.l0])
 | succ k2 => ?_
 have H := HA.out
 clear HA
 simp only [marginaliaref14_New.l0] at H
 by_cases c12 : x6_2 < (wrap64 (a0 * 4))
 rotate_left
 · rw [if_neg c12] at H
   have c12b0 := decide_eq_false c12
   clear c12
   simp only [Option.some.injEq, Prod.mk.injEq] at H
   obtain ⟨rfl, rfl, rfl, rfl, rfl, rfl⟩ := H
   have hnb19 := NB185_184.out
   have hnc19 := NB184_185.out
   obtain ⟨_,_,_,_,_,_,_,_,_,_⟩ := cz5 BK185.out
   obtain ⟨Ao21, co21, eo21⟩ := Kd.R_slice HO_186000.out
   subst eo21
   obtain ⟨_,_,_,_,_,_,_,_,_,_⟩ := cz5 BK184.out
   go_wp2
   refine bodyPost_ret (results_ct rfl _ _ gb184 51 #[.slice Ao21 x186000_2.length co21, .slice none 0 0, .int .i64 0, .bool false, .bool false] (0, 0) _ rfl (bp BK184) Try.underlying51 rfl (by kernel_rfl)) rfl ?_
   exact ⟨_, _, er, rR (Kd.R_mono (fR5 (tR HO_186000 BK184) (fun _ hk => hk.2)) (fun _ hk => trivial)), rn, b_w HB⟩
 rw [if_pos c12] at H
 have c12b0 := decide_eq_true c12
 clear c12
 obtain ⟨c13, H⟩ := ifN H
 have LMc13 := Aside0.mk c13
 clear c13
 obtain ⟨y187, Ny187⟩ := yy ((x186000_2 ++ [t186]) : List ByteArray)
 replace H : (marginaliaref14_New.l0 k2 a0 t186 (wrap64 (x6_2 + 1)) y187 0 false false) = some (r1, r2, r3, r4, r5, r6) := yx Ny187 H
 have H' := Aside0.mk H
 clear H
 have hnb14 := NB185_184.out
 have hnc14 := NB184_185.out
 obtain ⟨_,_,_,_,_,_,_,_,_,_⟩ := cz5 BK185.out
 go_wp2_with (first | ((with_reducible refine gate_builtin (b := .append) (xs := #[.tmp 23, .tmp 25]) rfl ?_); at_builtin; refine Kd.R_append Kd.string (w0 := w) w.heap.size rfl (.tmp 23) (.tmp 25) 48 9 (.string ⟨#[]⟩) 16 rfl Try.underlying48 info9 rfl (by decide) (by omega) u186000 x186000_2 t186 [.string t186] (fun _ => True) (fun _ => False) rfl rfl ?aP (fun _ hk => hk.elim) ?aF ?aO ?aB ?aS ?aL ?_; (case aP => exact rfl); (case aB => exact (b_w HB)); (case aF => exact (fun _ _ => trivial)); (case aO => exact (kR' HO_186000)); (case aS => exact (below_size (b_w HB))); (case aL => have := LMc13.out; omega); intro v188 w16 ho hb hg hat; rw [← Ny187.out] at ho; replace BK184 := Aside0.mk (blk_grown (g := gb184) (o := .cells #[.slice none 0 0, .slice none 0 0, .int .i64 0, .bool false, .bool false] 51 (0, 0)) (bk BK184) hg (Kd.R_ne HO_186000.out BK184.out (by decide))); replace BK185 := Aside0.mk (blk_grown (g := gb185) (o := .cells #[u186000, .slice none 0 0, .int .i64 0, .bool false, .bool false] 51 (0, 0)) (bk BK185) hg (Kd.R_ne HO_186000.out BK185.out (by decide))); replace HB := Aside0.mk (hb); have HO189 := Aside0.mk (ho); clear HO_186000; clear ho hb hg hat; obtain ⟨Ao17, co17, eo17⟩ := Kd.R_slice HO189.out; subst eo17; obtain ⟨_,_,_,_,_,_,_,_,_,_⟩ := cz5 BK185.out))
 go_roundg k2
 case measure => have := HJ1.out; have := HK2.out; omega
 case rel => exact ⟨(wrap64 (x6_2 + 1)), (y187), (.slice Ao17 y187.length co17), sm, H', ⟨by have := HJ1.out; have := HK2.out; omega⟩, ⟨rR (Kd.R_mono (fR1 (tR HO189 BK185) (fun _ hk => hk.2)) (fun _ hk => trivial))⟩, ⟨bp BK184⟩, ⟨bp BK185⟩, ⟨b_w HB⟩⟩
end Go.Proofs.Ytepipgneefcoiaa.D
namespace Go.Proofs.Ytepipgneefcoiaa.D
open Go.RowKit Go.Proofs.YtepipgneefcoiaaW.PrintWords Go.Proofs.YtepipgneefcoiaaW.PrintLast Go.Proofs.YtepipgneefcoiaaW.PrintMore
def secN (L : List Int) (i : Nat) : ByteArray := strOfNums (cut8 L (i * 64) 64)
def secs (L : List Int) (m : Nat) : List ByteArray := (List.range m).map (secN L)
theorem secs_len (L : List Int) (m : Nat) : (secs L m).length = m := by simp [secs]
theorem secs_at {L : List Int} {m i : Nat} (h : i < m) : (secs L m)[i]? = some (secN L i) := by simp [secs, h]
def pcr (x : Pc) : S111 := ⟨x.bl * 4 + x.at_ / 64, strOfNums x.b⟩
theorem cut_sp8 {L X : List Int} {o i : Nat} (hX : X.length = 64) (hf : o * 64 + 64 ≤ L.length) (hi : i * 64 + 64 ≤ L.length) : cut8 (sp8 L (o * 64) X) (i * 64) 64 = if i = o then X else cut8 L (i * 64) 64 := by
 have hf' : o * 64 + X.length ≤ L.length := by omega
 apply List.ext_getElem?
 intro k
 by_cases c : k < 64
 · rw [cut8_at c, sp8_get hf']
   by_cases e : i = o
   rotate_left
   · rw [if_neg (by omega), if_neg e, cut8_at c]
   subst e
   rw [if_pos (by omega), if_pos rfl]
   congr 1; omega
 have hl : (sp8 L (o * 64) X).length = L.length := sp8_len hf'
 rw [List.getElem?_eq_none (by rw [cut8_len (by omega)]; omega)]
 by_cases e : i = o
 · rw [if_pos e, List.getElem?_eq_none (by omega)]
 rw [if_neg e, List.getElem?_eq_none (by rw [cut8_len (by omega)]; omega)]
theorem secs_set {L X : List Int} {m o : Nat} (hX : X.length = 64) (hL : L.length = m * 64) (ho : o < m) : secs (sp8 L (o * 64) X) m = (secs L m).set o (strOfNums X) := by
 apply List.ext_getElem?
 intro i
 by_cases c : i < m
 rotate_left
 · rw [List.getElem?_eq_none (by rw [secs_len]; omega), List.getElem?_eq_none (by rw [List.length_set, secs_len]; omega)]
 rw [secs_at c, List.getElem?_set]
 unfold secN
 rw [cut_sp8 hX (by omega) (by omega)]
 by_cases e : i = o
 rotate_left
 · rw [if_neg e, if_neg (fun h => e h.symm), secs_at c]; rfl
 subst e
 rw [if_pos rfl, if_pos rfl, if_pos (by rw [secs_len]; omega)]
theorem nought_ev : marginaliaref14_nought.f = some (strOfNums (List.replicate 64 0)) := by
 unfold marginaliaref14_nought.f
 rw [if_pos (by decide)]
structure Rl (s : Dk) (F : List ByteArray) (P : List S111) (le : Int) (fu of : Bool) : Prop where
  nw : Nw s
  F : F = secs s.safe (s.nb * 4)
  P : P = s.pend.map pcr
  al : ∀ x ∈ s.pend, x.at_ % 64 = 0
  of : of = s.of
  fu : s.of = false → fu = s.fu ∧ (s.fu = true → le = s.le)
theorem Rl_at {s : Dk} (h : Nw s) (al : ∀ x ∈ s.pend, x.at_ % 64 = 0) {j : Nat} (hj : j < s.pend.length) : rd_T111 (s.pend.map pcr) (j : Int) = pcr (rdP s.pend j) ∧ ∃ o : Nat, (pcr (rdP s.pend j)).f0 = (o : Int) ∧ o < s.nb * 4 ∧ (rdP s.pend j).bl.toNat * 256 + (rdP s.pend j).at_.toNat = o * 64 ∧ (rdP s.pend j).b.length = 64 := by
 obtain ⟨h1, h2, h3, h4, h5⟩ := h.1.pend _ (rdP_mem hj)
 have h6 := al _ (rdP_mem hj)
 refine ⟨?_, ((rdP s.pend j).bl * 4 + (rdP s.pend j).at_ / 64).toNat, ?_, ?_, ?_, h5⟩
 · unfold rd_T111
   rw [Int.toNat_natCast, List.getD_eq_getElem?_getD, List.getElem?_map, rdP_eq hj]; rfl
 · show (rdP s.pend j).bl * 4 + (rdP s.pend j).at_ / 64 = _
   omega
 · omega
 omega
theorem keep_secs {s : Dk} (h : Nw s) (al : ∀ x ∈ s.pend, x.at_ % 64 = 0) (kept : Nat → Bool) (j : Nat) (hj : j < s.pend.length) (o : Nat) (ho : o < s.nb * 4) (e : (rdP s.pend j).bl.toNat * 256 + (rdP s.pend j).at_.toNat = o * 64) (h5 : (rdP s.pend j).b.length = 64) : secs (keepF kept s.pend (j + 1) s.safe) (s.nb * 4) = if kept j = true then (secs (keepF kept s.pend j s.safe) (s.nb * 4)).set o (pcr (rdP s.pend j)).f1 else secs (keepF kept s.pend j s.safe) (s.nb * 4) := by
 have hl := keepF_len h.1 kept j (by omega)
 have hs := h.1.safe
 conv => lhs; unfold keepF
 split
 · rw [e, secs_set h5 (by omega) ho]; rfl
 rfl
theorem Now_loop {s : Dk} (h : Nw s) (al : ∀ x ∈ s.pend, x.at_ % 64 = 0) (hl : s.pend.length ≤ 100000) (Z : List ByteArray) (le : Int) (fu of : Bool) : ∀ (m j k : Nat), j + m = s.pend.length → m < k → marginaliaref14_Now.l0 k (secs (keepF (fun _ => true) s.pend j s.safe) (s.nb * 4)) (j : Int) Z (s.pend.map pcr) le fu of = some (secs s.now (s.nb * 4))
  | 0, j, k, hj, hk => by
    obtain ⟨k, rfl⟩ : ∃ q, k = q + 1 := ⟨k - 1, by omega⟩
    rw [marginaliaref14_Now.l0, if_neg (by rw [List.length_map]; omega), show j = s.pend.length by omega, keepF_all, ← h.2]
  | m + 1, j, k, hj, hk => by
    obtain ⟨k, rfl⟩ : ∃ q, k = q + 1 := ⟨k - 1, by omega⟩
    obtain ⟨e1, o, e2, e3, e4, e5⟩ := Rl_at h al (show j < s.pend.length by omega)
    rw [marginaliaref14_Now.l0, if_pos (by rw [List.length_map]; omega), if_pos (by omega), e1, e2, if_pos (by omega), if_pos (by rw [secs_len]; omega), w64' (by omega) (by omega), Int.toNat_natCast]
    have := keep_secs h al (fun _ => true) j (by omega) o e3 e4 e5
    rw [if_pos rfl] at this
    rw [← this, show ((j : Int) + 1) = ((j + 1 : Nat) : Int) by omega]
    exact Now_loop h al hl Z le fu of m (j + 1) k (by omega) (by omega)
theorem Now_ev {s : Dk} {F : List ByteArray} {P : List S111} {le : Int} {fu of : Bool} (h : Rl s F P le fu of) (hl : s.pend.length ≤ 100000) (k : Nat) (hk : s.pend.length < k) : marginaliaref14_Now.f k F P le fu of = some (secs s.now (s.nb * 4)) := by
 obtain ⟨h1, rfl, rfl, h4, _, _⟩ := h
 unfold marginaliaref14_Now.f
 have := h1.1.nb1
 rw [Option.bind_some, if_pos (by rw [secs_len]; simp; omega), List.nil_append]
 exact Now_loop h1 h4 hl _ le fu of s.pend.length 0 k (by omega) hk
theorem Is_ev {s : Dk} {F : List ByteArray} {P : List S111} {le : Int} {fu of : Bool} (h : Rl s F P le fu of) (n : Int) : marginaliaref14_Is.f F P le fu of n = some (hasB s n) := by
 have h1 := h.nw.1.nb1
 unfold marginaliaref14_Is.f hasB
 rw [h.F, secs_len, w64' (by omega) (by omega), show ((s.nb * 4 : Nat) : Int) / 4 = (s.nb : Int) by omega]
 by_cases c : n ≥ 0
 · rw [if_pos c, decide_eq_true (show 0 ≤ n from c), Bool.true_and]
 rw [if_neg c, decide_eq_false (show ¬ 0 ≤ n from c), Bool.false_and]
theorem spend_ev {s : Dk} {F : List ByteArray} {P : List S111} {le : Int} {fu of : Bool} (h : Rl s F P le fu of) (k : Nat) (hk : 0 < k) : ∃ le' fu' of', marginaliaref14_spend.f k F P le fu of = some (F, P, le', fu', of', (pwx s).2) ∧ Rl (pwx s).1 F P le' fu' of' := by
 obtain ⟨k, rfl⟩ : ∃ q, k = q + 1 := ⟨k - 1, by omega⟩
 have hN := pwx_Nw h.nw
 have hk := pwx_keeps s
 have ho := h.of
 unfold marginaliaref14_spend.f
 have mk : ∀ le' fu' of', of' = (pwx s).1.of → ((pwx s).1.of = false → fu' = (pwx s).1.fu ∧ ((pwx s).1.fu = true → le' = (pwx s).1.le)) → Rl (pwx s).1 F P le' fu' of' := fun le' fu' of' h1 h2 =>
  ⟨hN, by rw [hk.2.2.2, hk.2.1]; exact h.F, by rw [hk.1]; exact h.P, by rw [hk.1]; exact h.al, h1, h2⟩
 cases e : s.of with
 | true =>
  rw [e] at ho
  subst ho
  rw [if_pos rfl, marginaliaref14_spend.j0, if_pos rfl]
  have e1 : pwx s = ({s with of := true}, false) := by unfold pwx; rw [e]; rfl
  refine ⟨le, false, true, by rw [e1], mk _ _ _ (by rw [e1]) (fun e2 => ?_)⟩
  rw [e1] at e2
  cases e2
 | false => ?_
 rw [e] at ho
 subst ho
 rw [if_neg (by decide)]
 obtain ⟨f1, f2⟩ := h.fu e
 cases e3 : s.fu with
 | true =>
  rw [e3] at f1
  subst f1
  have f2 := f2 e3
  subst f2
  rw [if_pos rfl]
  cases e4 : (s.le == 0) with
  | true =>
   rw [marginaliaref14_spend.j0, if_pos rfl]
   have e1 : pwx s = ({s with of := true}, false) := by unfold pwx; rw [e, e3, e4]; rfl
   refine ⟨s.le, false, true, by rw [e1], mk _ _ _ (by rw [e1]) (fun e2 => ?_)⟩
   rw [e1] at e2
   cases e2
  | false => ?_
  rw [marginaliaref14_spend.j0, if_neg (by decide), if_pos rfl]
  have e1 : pwx s = ({s with le := wrap64 (s.le - 1)}, true) := by unfold pwx; rw [e, e3, e4]; rfl
  exact ⟨wrap64 (s.le - 1), true, false, by rw [e1], mk _ _ _ (by rw [e1]; exact e.symm) (fun _ => by rw [e1]; exact ⟨e3.symm, fun _ => rfl⟩)⟩
 | false => ?_
 rw [e3] at f1
 subst f1
 rw [if_neg (by decide), marginaliaref14_spend.j0, if_neg (by decide), if_neg (by decide)]
 have e1 : pwx s = ({s with le := wrap64 (s.le - 1)}, true) := by unfold pwx; rw [e, e3]; rfl
 exact ⟨le, false, false, by rw [e1], mk _ _ _ (by rw [e1]; exact e.symm) (fun _ => by rw [e1]; exact ⟨e3.symm, fun e5 => by rw [e3] at e5; cases e5⟩)⟩
theorem cut_td (b : List Int) (o : Nat) : (b.take (o + 64)).drop o = cut8 b o 64 := by
 unfold cut8
 rw [List.drop_take, Nat.add_sub_cancel_left]
theorem Write_step (N : Nat) (hN : N < 4096) (b : List Int) (c2 : b.length = 256) (F : List ByteArray) (P : List S111) (le' : Int) (fu' of' : Bool) (i k : Nat) (X : List S111) (hi : i < 4) (hX : X.length ≤ 200000) : marginaliaref14_Write.l0 (k + 1) (N : Int) b X (i : Int) F P le' fu' of' = marginaliaref14_Write.l0 k (N : Int) b (X ++ [(⟨(N : Int) * 4 + (i : Int), strOfNums (cut8 b (i * 64) 64)⟩ : S111)]) ((i + 1 : Nat) : Int) F P le' fu' of' := by
 have e4 : wrap64 ((N : Int) * 4) = (N : Int) * 4 := w64' (by omega) (by omega)
 have e5 : wrap64 ((i : Int) * 64) = ((i * 64 : Nat) : Int) := by rw [w64' (by omega) (by omega)]; omega
 have e6 : wrap64 ((i : Int) + 1) = ((i + 1 : Nat) : Int) := by rw [w64' (by omega) (by omega)]; omega
 have e7 : wrap64 (((i + 1 : Nat) : Int) * 64) = ((i * 64 + 64 : Nat) : Int) := by rw [w64' (by omega) (by omega)]; omega
 have e8 : wrap64 ((N : Int) * 4 + (i : Int)) = (N : Int) * 4 + (i : Int) := w64' (by omega) (by omega)
 have g1 : (i : Int) < 4 := by omega
 have g2 : (0 : Int) ≤ ((i * 64 : Nat) : Int) := by omega
 have g3 : ((i * 64 : Nat) : Int) ≤ ((i * 64 + 64 : Nat) : Int) := by omega
 have g4 : ((i * 64 + 64 : Nat) : Int) ≤ (b.length : Int) := by omega
 have g5 : X.length < 5864062014805 := by omega
 rw [marginaliaref14_Write.l0, if_pos g1, e5, e6, e7, e4, e8, if_pos g2, if_pos g3, if_pos g4, if_pos g5, Int.toNat_natCast, Int.toNat_natCast, cut_td]
theorem Write_ev {s : Dk} {F : List ByteArray} {P : List S111} {le : Int} {fu of : Bool} (h : Rl s F P le fu of) (hl : s.pend.length ≤ 100000) (k : Nat) (hk : 10 < k) (n : Int) (b : List Int) : ∃ F' P' le' fu' of', marginaliaref14_Write.f k F P le fu of n b = some (F', P', le', fu', of', (wrx s n b).2) ∧ Rl (wrx s n b).1 F' P' le' fu' of' := by
 obtain ⟨k, rfl⟩ : ∃ q, k = q + 1 := ⟨k - 1, by omega⟩
 have hb := h.nw.1.nb1
 unfold marginaliaref14_Write.f
 rw [Is_ev h n, Option.bind_some]
 have bad : ¬ (hasB s n = true ∧ b.length = 256) → wrx s n b = (s, 1) := fun e => by unfold wrx; rw [if_neg e]
 by_cases c : hasB s n = true
 rotate_left
 · rw [if_neg c, marginaliaref14_Write.j0, if_pos rfl, bad (fun e => c e.1)]
   exact ⟨_, _, _, _, _, rfl, h⟩
 rw [if_pos c]
 by_cases c2 : b.length = 256
 rotate_left
 · have e1 : ((b.length : Int) != 256) = true := by
     rw [bne_iff_ne]; omega
   rw [e1, marginaliaref14_Write.j0, if_pos rfl, bad (fun e => c2 e.2)]
   exact ⟨_, _, _, _, _, rfl, h⟩
 have e1 : ((b.length : Int) != 256) = false := by rw [c2]; rfl
 rw [e1, marginaliaref14_Write.j0, if_neg (by decide)]
 obtain ⟨le', fu', of', e2, R2⟩ := spend_ev h k (by omega)
 rw [e2, Option.bind_some]
 have hw : wrx s n b = if (pwx s).2 = true then ({(pwx s).1 with now := sp8 (pwx s).1.now (n.toNat * 256) b, pend := (pwx s).1.pend ++ pcs n b}, 0) else ((pwx s).1, 9) := by unfold wrx; rw [if_pos ⟨c, c2⟩]
 dsimp only
 by_cases c3 : (pwx s).2 = true
 rotate_left
 · rw [if_neg c3] at hw ⊢
   exact ⟨_, _, _, _, _, by rw [hw], by rw [hw]; exact R2⟩
 rw [if_pos c3] at hw ⊢
 obtain ⟨N, rfl, hN⟩ := hasB_nat c
 rw [Option.bind_some, if_pos (by rw [h.P]; simp; omega), List.nil_append]
 have step := fun (i k : Nat) (X : List S111) (hi : i < 4) (hX : X.length ≤ 200000) => Write_step N (by omega) b c2 F P le' fu' of' i k X hi hX
 obtain ⟨k, rfl⟩ : ∃ q, k = q + 1 + 1 + 1 + 1 + 1 := ⟨k - 5, by omega⟩
 have hP : P.length ≤ 100000 := by rw [h.P, List.length_map]; exact hl
 have s0 := step 0 (k + 1 + 1 + 1 + 1) P (by decide) (by omega)
 have s1 := step 1 (k + 1 + 1 + 1) _ (by decide) (show (P ++ [(⟨(N : Int) * 4 + ((0 : Nat) : Int), strOfNums (cut8 b (0 * 64) 64)⟩ : S111)]).length ≤ 200000 by simp; omega)
 have s2 := step 2 (k + 1 + 1) _ (by decide) (show (P ++ [(⟨(N : Int) * 4 + ((0 : Nat) : Int), strOfNums (cut8 b (0 * 64) 64)⟩ : S111)] ++ [(⟨(N : Int) * 4 + ((1 : Nat) : Int), strOfNums (cut8 b (1 * 64) 64)⟩ : S111)]).length ≤ 200000 by simp; omega)
 have s3 := step 3 (k + 1) _ (by decide) (show (P ++ [(⟨(N : Int) * 4 + ((0 : Nat) : Int), strOfNums (cut8 b (0 * 64) 64)⟩ : S111)] ++ [(⟨(N : Int) * 4 + ((1 : Nat) : Int), strOfNums (cut8 b (1 * 64) 64)⟩ : S111)] ++ [(⟨(N : Int) * 4 + ((2 : Nat) : Int), strOfNums (cut8 b (2 * 64) 64)⟩ : S111)]).length ≤ 200000 by simp; omega)
 rw [show (0 : Int) = ((0 : Nat) : Int) from rfl, s0, s1, s2, s3, marginaliaref14_Write.l0, if_neg (by omega)]
 refine ⟨_, _, _, _, _, by rw [hw], ?_⟩
 rw [hw]
 have hN := wrx_Nw h.nw (N : Int) b
 rw [hw] at hN
 have kk := pwx_keeps s
 refine ⟨hN, ?_, ?_, ?_, R2.of, R2.fu⟩
 · exact R2.F
 · show _ = ((pwx s).1.pend ++ pcs (N : Int) b).map pcr
   rw [List.map_append, ← R2.P, List.append_assoc, List.append_assoc, List.append_assoc]
   congr 1
 intro x hx
 have hx : x ∈ (pwx s).1.pend ++ pcs (N : Int) b := hx
 rw [List.mem_append] at hx
 rcases hx with hx | hx
 · exact R2.al x hx
 have : x = ⟨N, 0, cut8 b 0 64⟩ ∨ x = ⟨N, 64, cut8 b 64 64⟩ ∨ x = ⟨N, 128, cut8 b 128 64⟩ ∨ x = ⟨N, 192, cut8 b 192 64⟩ := by simpa [pcs] using hx
 rcases this with e | e | e | e <;> subst e <;> rfl
theorem New_ev (n : Nat) (h0 : 1 ≤ n) (h1 : n ≤ 4096) (k : Nat) (hk : n * 4 + 1 < k) : ∃ F, marginaliaref14_New.f k (n : Int) = some (F, [], 0, false, false, 0) ∧ Rl ⟨n, List.replicate (n * 256) 0, List.replicate (n * 256) 0, [], false, 0, false⟩ F [] 0 false false := by
 obtain ⟨k, rfl⟩ : ∃ q, k = q + 1 := ⟨k - 1, by omega⟩
 have hz : ∀ i, i < n * 4 → secN (List.replicate (n * 256) 0) i = strOfNums (List.replicate 64 0) := by
   intro i hi
   unfold secN cut8
   rw [List.drop_replicate, List.take_replicate, Nat.min_eq_left (by omega)]
 have key : ∀ (m i k : Nat), i + m = n * 4 → m < k → marginaliaref14_New.l0 k (n : Int) (strOfNums (List.replicate 64 0)) (i : Int) (secs (List.replicate (n * 256) 0) i) 0 false false = some (secs (List.replicate (n * 256) 0) (n * 4), [], 0, false, false, 0) := by
   intro m
   induction m with
   | zero =>
     intro i k hi hk
     obtain ⟨k, rfl⟩ : ∃ q, k = q + 1 := ⟨k - 1, by omega⟩
     rw [marginaliaref14_New.l0, w64' (by omega) (by omega), if_neg (by omega), show i = n * 4 by omega]
   | succ m ih =>
     intro i k hi hk
     obtain ⟨k, rfl⟩ : ∃ q, k = q + 1 := ⟨k - 1, by omega⟩
     have e : secs (List.replicate (n * 256) 0) i ++ [strOfNums (List.replicate 64 0)] = secs (List.replicate (n * 256) 0) (i + 1) := by
       unfold secs
       rw [List.range_succ, List.map_append, List.map_cons, List.map_nil, hz i (by omega)]
     rw [marginaliaref14_New.l0, w64' (by omega) (by omega), if_pos (by omega), if_pos (by rw [secs_len]; omega), w64' (by omega) (by omega), e]
     exact ih (i + 1) k (by omega) (by omega)
 refine ⟨_, ?_, ⟨new_Nw n h0 h1, rfl, rfl, (fun x hx => by cases hx), rfl, fun _ => ⟨rfl, fun e => by cases e⟩⟩⟩
 unfold marginaliaref14_New.f
 rw [if_neg (by omega), decide_eq_false (by omega), marginaliaref14_New.j0, if_neg (by decide), nought_ev, Option.bind_some]
 exact key (n * 4) 0 k (by omega) (by omega)
end Go.Proofs.Ytepipgneefcoiaa.D
namespace Go.Proofs.Ytepipgneefcoiaa.D
open Go.RowKit Go.Proofs.YtepipgneefcoiaaW.PrintWords Go.Proofs.YtepipgneefcoiaaW.PrintLast Go.Proofs.YtepipgneefcoiaaW.PrintMore
def marginalialaw17_pick.f (a0 : Int) (a1 : Int) : Option (Int) := if a1 = 0 then (none) else (some (Int.tmod (wrap64 ((Int.tmod a0 a1) + a1)) a1))
set_option maxHeartbeats 8000000 in
set_option maxRecDepth 100000 in
theorem marginalialaw17_pick.calls (a0 : Int) (a1 : Int) (r : Int) (w : World) (h : marginalialaw17_pick.f a0 a1 = some r) :
    Calls Try.prog 32 #[.int .i64 a0, .int .i64 a1] w fun e w' => e = .returned (.int .i64 r) ∧ Drawn0 w w' := by
 have H : (if a1 = 0 then (none) else (some (Int.tmod (wrap64 ((Int.tmod a0 a1) + a1)) a1))) = some r := h
 clear h
 obtain ⟨c3, H⟩ := nm H
 have c3b0 := beq_eq_false_iff_ne.mpr c3
 have c3b1 := bne_iff_ne.mpr c3
 obtain rfl := Option.some.inj H
 go_enter Try.func32, Try.ntmps32
 go_wp2
 go_ret
 exact ⟨by first | rfl | (simp; done) | (simp [*]; done), by repeat (first | exact Drawn0.refl _ | apply Drawn0.step)⟩
end Go.Proofs.Ytepipgneefcoiaa.D
