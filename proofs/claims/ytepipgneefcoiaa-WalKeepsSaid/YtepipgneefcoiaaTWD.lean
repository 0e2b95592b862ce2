/- The functions of the program that these laws reach, each as a plain Lean function, and the proof that the machine's call comes to it; no condition beyond those that each theorem names. Made by wip/xprint.py. -/
import Derived.Test.YtepipgneefcoiaaTWC
import Derived.Test.YtepipgneefcoiaaDf73
import Derived.Test.YtepipgneefcoiaaMCuts
import Derived.Test.YtepipgneefcoiaaDx0
namespace Go.Proofs.Ytepipgneefcoiaa.D
open Go.RowKit Go.Proofs.YtepipgneefcoiaaW.PrintWords Go.Proofs.YtepipgneefcoiaaW.PrintLast Go.Proofs.YtepipgneefcoiaaW.PrintMore
attribute [local go_sem] max2_int min2_int max_two min_two max_three min_three max_four min_four
set_option linter.unusedVariables false
set_option linter.unusedSimpArgs false
theorem V_cells {α : Type} {d : Kd α} {t base : Nat} {w : World} {ok : Nat → Prop} {A : Option Addr} {n c : Nat} {xs : List α} (h : Kd.V d t w base ok (.slice A n c) xs) :
    ∃ cs : List Value, cs.length = xs.length * d.sz ∧ Reps (fun x c => Kd.FK d w ok x c) d.sz xs cs ∧ (0 < xs.length → ∃ ad, A = some ad ∧ ∀ j v, cs[j]? = some v → w.cell? (ad.add j) = some v) ∧ ∀ v ∈ cs, v.oneCell' = true := by
  have hr := Kd.F_rows (Kd.V_at h).2.2
  have hl := (Kd.V_reads' h).1
  rcases Nat.eq_zero_or_pos xs.length with h0 | hp
  · have hx : xs = [] := List.eq_nil_of_length_eq_zero h0
    subst hx
    exact ⟨[], by simp, Reps.none _ _, fun hp => absurd hp (by simp), fun v hv => by cases hv⟩
  · obtain ⟨ad, rfl, _⟩ := hr.2.2 (by omega)
    obtain ⟨inner, hrep, hc⟩ := ReadsRow.inner_ hr
    refine ⟨inner, hrep.1, hrep, fun _ => ⟨ad, rfl, hc⟩, fun v hv => ?_⟩
    obtain ⟨i, hi, rfl⟩ := List.getElem_of_mem hv
    have hil : i < xs.length * d.sz := by rw [← hrep.1]; exact hi
    have hsz : 0 < d.sz := by rcases Nat.eq_zero_or_pos d.sz with h | h; (rw [h] at hil; omega); exact h
    have hq : i / d.sz < xs.length := (Nat.div_lt_iff_lt_mul hsz).2 hil
    have hk := hrep.2 (i / d.sz) _ (List.getElem?_eq_getElem hq)
    refine d.K_one (Kd.FK_now hk) _ ?_
    have hm : i % d.sz < d.sz := Nat.mod_lt _ hsz
    have e : i = i / d.sz * d.sz + i % d.sz := by rw [Nat.mul_comm]; exact (Nat.div_add_mod i d.sz).symm
    refine List.mem_iff_getElem?.2 ⟨i % d.sz, ?_⟩
    rw [List.getElem?_take, if_pos hm, List.getElem?_drop, ← e, List.getElem?_eq_getElem hi]
theorem reps_app {α : Type} {R : α → List Value → Prop} {sz : Nat} {xs ys : List α} {a b : List Value} (h : Reps R sz xs a) (k : Reps R sz ys b) : Reps R sz (xs ++ ys) (a ++ b) := by
  refine ⟨by rw [List.length_append, h.1, k.1, List.length_append, Nat.add_mul], fun j p hj => ?_⟩
  by_cases c : j < xs.length
  · rw [List.getElem?_append_left c] at hj
    have hle : j * sz + sz ≤ a.length := by
      rw [h.1]
      have := Nat.mul_le_mul_right sz (show j + 1 ≤ xs.length by omega)
      rwa [Nat.add_mul, Nat.one_mul] at this
    rw [List.drop_append_of_le_length (by omega), List.take_append_of_le_length (by rw [List.length_drop]; omega)]
    exact h.2 j p hj
  · rw [List.getElem?_append_right (by omega)] at hj
    have e : j * sz = a.length + (j - xs.length) * sz := by
      rw [h.1, ← Nat.add_mul]; congr 1; omega
    rw [e, ← List.drop_drop, List.drop_left' rfl]
    exact k.2 _ p hj
/-- A row that was made just now, whatever its block; each element's own rows are elder. -/
theorem N_of_own {α : Type} {d : Kd α} {e base : Nat} {v : Value} {W w1 : World} {okp ok : Nat → Prop} {xs : List α} {cs : List Value} (ho : w1.ownsRow W.heap.size e d.sz v xs.length cs) (hrep : Reps (fun x c => Kd.FK d W okp x c) d.sz xs cs)
    (hg : W.grownBy w1 none) (hbase : base ≤ W.heap.size) (hok : ∀ k, okp k → ok k) (hfresh : ∀ k, W.heap.size ≤ k → ok k) : Kd.N d e w1 base ok v xs := by
  refine ⟨fun k hk => hfresh k (own_base ho k hk), Kd.chunks d.sz xs.length cs, Kd.chunks_length _ _ _, ⟨fun k hk => hk.symm, cs, ?_, ?_⟩, fun j x c hx hc => ?_⟩
  · rw [Kd.chunks_length]
    exact own_weaken ho hbase
  · exact Kd.reps_raw hrep (fun y c hk => ⟨d.K_len (Kd.FK_now hk), d.K_one (Kd.FK_now hk)⟩)
  · rw [Kd.chunks_get hc]
    refine Kd.FK_mono (Kd.FK_step (Kd.FK_bound (hrep.2 j x hx)) (fun k hk hlt => hg.block k hlt (by simp))) (fun k hk => ⟨hok k hk.1, fun he => ?_⟩)
    have := own_base ho k he.symm
    have := hk.2
    omega
theorem append_full_step {P : Program} {ops : Array Oper} {o : Oper} {a : Act} {Q : Exit → Act → World → Prop} {Kc : Act → World → Prop} {α : Type} (d : Kd α) {w0 W : World} (base : Nat) (hw : Region.wanted o (yielded ops a.tmps) = true) (s x : Operand) (t e : TypeId) (z : Value) (bytes : Nat)
    (ho : o.op = .call { callee := .builtin .append, args := #[s, x], argTypes := #[t, t] })
    (ht : P.underlying t = some (.slice e)) (hinfo : (P.info? e).map (fun i => (i.zero, i.size, i.bytes)) = some (some z, d.sz, bytes)) (hz : z.cells.size = d.sz) (hs0 : 0 < d.sz)
    (xs ys : List α) (A : Option Addr) (n : Nat) (B : Option Addr) (m c : Nat) (ok okp : Nat → Prop) (hs : a.eval s = .slice A n n) (hx : a.eval x = .slice B m c) (hm : 0 < m)
    (HX : Kd.V d e W base okp (.slice A n n) xs) (HY : Kd.V d e W base okp (.slice B m c) ys) (hokp : ∀ k, okp k → ok k) (hfresh : ∀ k, W.heap.size ≤ k → ok k)
    (HB : Below base w0 W) (hbase : base ≤ W.heap.size) (hl : (n + m) * bytes ≤ 140737488355328) (hl2 : n + m ≤ 1000000000000000)
    (h : ∀ v1 w1, Kd.N d e w1 base ok v1 (xs ++ ys) → Below base w0 w1 → Below W.heap.size W w1 → Kc (a.put o.dst v1) w1) :
    if Region.wanted o (yielded ops a.tmps) = true then Oper.wp P o a W Kc Q else Kc (a.put o.dst undef) W := by
  rw [if_pos hw]
  obtain ⟨i, hi, hzz⟩ := Option.map_eq_some_iff.1 hinfo
  simp only [Prod.mk.injEq] at hzz
  obtain ⟨hz1, hsz, hby⟩ := hzz
  have nx := (Kd.V_reads' HX).1
  have ny := (Kd.V_reads' HY).1
  obtain ⟨cx, lx, rx, ax, ox⟩ := V_cells HX
  obtain ⟨cy, ly, ry, ay, oy⟩ := V_cells HY
  obtain ⟨ad, rfl, hay⟩ := ay (by omega)
  have hrun : ∃ v' w', (Builtin.append_ #[t, t] o.type #[.slice A n n, .slice (some ad) m c]).run P W = .ok v' w' ∧ w'.ownsRow W.heap.size e d.sz v' (n + m) (cx ++ cy) ∧ W.grownBy w' none := by
    rcases Nat.eq_zero_or_pos n with h0 | hp
    · cases A with
      | some b =>
        have hcx : cx = [] := List.eq_nil_of_length_eq_zero (by rw [lx, ← nx, h0, Nat.zero_mul])
        exact run_append_arg_grows (P := P) W t o.type e i z d.sz bytes ht hi hz1 hsz hby hz hs0 b n n cx (by rw [lx, ← nx]) (fun j u hj => by rw [hcx] at hj; cases hj) ad m c cy (by rw [ly, ← ny]) hay (by omega) (by unfold maxLen; omega) hl
      | none =>
        have hcx : cx = [] := List.eq_nil_of_length_eq_zero (by rw [lx, ← nx, h0, Nat.zero_mul])
        subst h0
        subst hcx
        obtain ⟨v', w', hrun, r1, r2, _⟩ := run_append_own (P := P) W W.heap.size t o.type e i z d.sz bytes ht hi hz1 hsz hby hz hs0 (.slice none 0 0) 0 [] (World.ownsRow_nil W _ e d.sz) ad m c cy (by rw [ly, ← ny]) hay oy (by unfold maxLen; omega) hl (Nat.le_refl _)
        exact ⟨v', w', hrun, r1, r2⟩
    · obtain ⟨b, rfl, hax⟩ := ax (by omega)
      exact run_append_arg_grows (P := P) W t o.type e i z d.sz bytes ht hi hz1 hsz hby hz hs0 b n n cx (by rw [lx, ← nx]) hax ad m c cy (by rw [ly, ← ny]) hay (by omega) (by unfold maxLen; omega) hl
  obtain ⟨v', w', hrun, hown, hgr⟩ := hrun
  unfold Oper.wp
  simp [execOp, ho, resolve, invoke, builtin, hs, hx, hrun, Result.andThen]
  refine h v' w' (N_of_own (xs := xs ++ ys) (cs := cx ++ cy) (okp := okp) (by rw [List.length_append, ← nx, ← ny]; exact hown) (reps_app rx ry) hgr hbase hokp hfresh) (pw_below_grown HB none hbase hgr (fun k hk => by cases hk)) (pw_below_grown (Below.refl _ _) none (Nat.le_refl _) hgr (fun k hk => by cases hk))
theorem cut_max (P : Program) (t e : TypeId) (kh km : IntKind) {i : TypeInfo} (ht : P.underlying t = some (.slice e)) (hi : P.info? e = some i) (A : Option Addr) (n c q : Nat) (hm : q ≤ n) (hc : n ≤ c) :
    ∀ W : World, (Instr.slice t (.slice A n c) none (some (.int kh (q : Int))) (some (.int km (q : Int)))).run P W = .ok (.slice A q q) W := by
  intro W
  have hel : P.elem t = e := by simp [Program.elem, ht]
  have hu : P.underlying t = some (.slice (P.elem t)) := by rw [hel]; exact ht
  have ha : (A.map fun x => x.add 0) = A := by cases A <;> simp [Addr.add]
  have h1 : (q : Int) ≤ (c : Int) := by omega
  rw [run_slice_any W t A n c hu, hel]
  simp [Instr.sliceBounds, run_sliceBound, h1, sizeOf, typeInfo, hi, sliced, Result.andThen, ha]
/- A record is appended. -/
noncomputable def apx (l : Wl) (s : Dk) (b : List Int) : Wl × Dk × Int :=
  if b.length = 0 then (l, s, 1) else if 6000 < b.length then (l, s, 4) else if l.br = true then (l, s, 9) else if rmx l < (b.length : Int) then (l, s, 3) else
  if (layx l.fi (CellLaws.many b.length + 1) s l.en ((CellLaws.cutn b l.ep l.li (CellLaws.many b.length : Int) (CellLaws.many b.length)).map encC)).2 ≠ 0
  then ({l with br := true}, (layx l.fi (CellLaws.many b.length + 1) s l.en ((CellLaws.cutn b l.ep l.li (CellLaws.many b.length : Int) (CellLaws.many b.length)).map encC)))
  else ({l with en := l.en + CellLaws.many b.length, rs := l.rs ++ [b]}, (layx l.fi (CellLaws.many b.length + 1) s l.en ((CellLaws.cutn b l.ep l.li (CellLaws.many b.length : Int) (CellLaws.many b.length)).map encC)).1, 0)
theorem cut_at {w : World} {A : Option Addr} {m c : Nat} {b : List Int} {ep li : Int} (hm : m = b.length) (hc : m ≤ c) (hC : Kd.C (Kd.int .u8) w A b.length b) (hl : b.length ≤ 100000) :
    Calls Try.prog 73 #[.slice A m c, .int .u64 ep, .int .u64 li] w fun e w' => ∃ (A' : Option Addr) (n' c' : Nat), e = .returned (.slice A' n' c') ∧ n' = CellLaws.many b.length ∧ Kd.V k106 106 w' 0 (fun k => w.heap.size ≤ k ∧ k < w'.heap.size) (.slice A' n' c') (CellLaws.cutn b ep li (CellLaws.many b.length : Int) (CellLaws.many b.length)) ∧ Below w.heap.size w w' := by
  subst hm
  obtain ⟨k, hk⟩ := (CellLaws.cut_ev (l := b) ep li hl).rounds
  refine (cell_Cut.calls k A c b ep li _ w hC hc hk).mono ?_
  rintro e w' ⟨v, rfl, hS, hb⟩
  obtain ⟨A', c', rfl⟩ := Kd.S_slice hS
  have hl2 : (CellLaws.cutn b ep li (CellLaws.many b.length : Int) (CellLaws.many b.length)).length = CellLaws.many b.length := CellLaws.cutn_length _ _ _ _ _
  have hV := Kd.V_mono (ok' := fun k => w.heap.size ≤ k ∧ k < w'.heap.size) (Kd.R_V (base' := 0) (Kd.R_bound (Kd.S_R hS))) (fun k hk => ⟨hk.2.1, hk.2.2.1⟩)
  rw [hl2] at hV ⊢
  exact ⟨A', _, c', rfl, rfl, hV, hb⟩
theorem cut_may {b : List Int} (hb : CrcK.Bytes b) (hl : b.length ≤ 6000) (ep li : Int) : ∀ x ∈ CellLaws.cutn b ep li (CellLaws.many b.length : Int) (CellLaws.many b.length), MayC x := by
  intro x hx
  unfold CellLaws.cutn at hx
  obtain ⟨i, hi, rfl⟩ := List.mem_map.1 hx
  rw [List.mem_range] at hi
  have hm : CellLaws.many b.length ≤ 200 := by unfold CellLaws.many; omega
  refine ⟨⟨by show (0 : Int) ≤ (i : Int); omega, by show (i : Int) < ((CellLaws.many b.length : Nat) : Int); omega, by show ((CellLaws.many b.length : Nat) : Int) ≤ 65535; omega, ?_⟩, CellLaws.part_bytes hb i⟩
  show (CellLaws.part b i).length ≤ 39
  rw [CellLaws.part_length]; omega
theorem one_V {w : World} {base base' m : Nat} {A : Option Addr} {c : Nat} {b : List Int} (hm : m = b.length) (hR : Kd.R (Kd.int .u8) 5 w base (fun _ => True) (.slice A m c) b) (hbb : base' ≤ base) (hbw : base' ≤ w.heap.size) : Kd.V kL 27 (w.alloc (.cells #[.slice A m c] 27)) base' (fun k => base' ≤ k) (.slice (some ⟨w.heap.size, 0, none⟩) 1 1) [b] := by
  subst hm
  refine Kd.V_mk (xs := [b]) (Nat.le_refl _) (fun W' hW => ?_)
  have hb := blk_new w (.cells #[.slice A b.length c] 27)
  have hb' := (hW _ hbw (blk_lt hb)).trans hb
  have h1 := below_alloc (Below.refl w.heap.size w) (.cells #[.slice A b.length c] 27)
  have hR' := Kd.R_reads' (Kd.R_move (Kd.R_bound hR) (w1 := W') (fun k hk => (hW k (Nat.le_trans hbb hk.2.1) (Nat.lt_of_lt_of_le hk.2.2.1 h1.size)).trans (h1.block k hk.2.2.1)))
  refine ⟨rfl, by show 1 ≤ 9223372036854775807; omega, fun _ => ⟨⟨w.heap.size, 0, none⟩, rfl, fun j p hj => ?_⟩⟩
  cases j with
  | zero =>
    have e : b = p := by simpa using hj
    subst e
    refine ⟨[.slice A b.length c], rfl, ⟨A, c, rfl, hR'.2.1, hR'.2.2⟩, fun i u hu => ?_⟩
    cases i with
    | zero =>
      have e : u = .slice A b.length c := by simpa using hu.symm
      subst e
      have := (blk_cell hb' 0).trans (rfl : #[Value.slice A b.length c][0]? = some (.slice A b.length c))
      simpa [Addr.add] using this
    | succ i => simp at hu
  | succ j => simp at hj
theorem room_many {l : Wl} {b : List Int} (h : ¬ rmx l < (b.length : Int)) (h6 : b.length ≤ 6000) (he : l.en ≤ l.si * 4) : l.en + CellLaws.many b.length ≤ l.si * 4 ∧ CellLaws.many b.length ≤ 200 := by
  unfold rmx mn at h
  unfold CellLaws.many
  split at h
  · omega
  · split at h <;> omega
theorem V_full {w : World} {base : Nat} {ok : Nat → Prop} {A : Option Addr} {n c : Nat} {rs : List (List Int)} (h : Kd.V kL 27 w base ok (.slice A n c) rs) (hn : n = rs.length) : Kd.V kL 27 w base ok (.slice A n n) rs := by
  subst hn
  obtain ⟨_, _, hF⟩ := Kd.V_at h
  exact Kd.V_mk (Nat.le_refl _) hF
section
variable {w0 w : World} {p q n c : Nat} {l : Wl} {s : Dk} {A : Option Addr} {O OV : Nat → Prop}
set_option maxRecDepth 20000 in
set_option maxHeartbeats 40000000 in
theorem L_Append (h : LG w0 p q l s O w) (hs : l.si ≤ 4096) (he : l.en ≤ l.si * 4) (hfs : l.fi + l.si ≤ s.nb) (hrs : l.rs.length ≤ 16384) (hpd : s.pend.length + 800 ≤ 90000) (Ab : Option Addr) (cb mb : Nat) (b : List Int) (hm : mb = b.length) (hmb : mb ≤ cb) (hC : ∀ W, Below w0.heap.size w0 W → kO (fun k => O k ∧ k ≠ p) w W → Kd.C (Kd.int .u8) W Ab b.length b) (hby : CrcK.Bytes b) (l' : Wl) (s' : Dk) (e' : Int) (hx : apx l s b = (l', s', e')) :
    Calls Try.prog 45 #[.pointer (some ⟨p, 0, none⟩), .slice Ab mb cb] w fun e w' => e = .returned (.int .i64 e') ∧ (∃ O', (∀ k, O k → O' k) ∧ LG w0 p q l' s' O' w') ∧ kO (fun k => O k ∧ k ≠ p) w w' := by
  have MB := Aside0.mk hm
  have MBC := Aside0.mk hmb
  have C0 := Aside0.mk hC
  have HS := Aside0.mk hs
  have HE := Aside0.mk he
  have HFS := Aside0.mk hfs
  have HRS := Aside0.mk hrs
  have HPD := Aside0.mk hpd
  have HBY := Aside0.mk hby
  have HG := Aside0.mk h
  have stay : ∀ w', Below w.heap.size w w' → (∃ O' : Nat → Prop, (∀ k, O k → O' k) ∧ LG w0 p q l s O' w') ∧ kO (fun k => O k ∧ k ≠ p) w w' := fun w' hb => by
    obtain ⟨A, n, c, OV, h⟩ := HG.out
    exact ⟨⟨O, fun _ hk => hk, ⟨A, n, c, OV, LX_step h hb⟩⟩, kO_mono (kO_below h.d hb) (fun k hk => hk.1)⟩
  have STAY := Aside0.mk stay
  obtain ⟨A, n, c, OV, hX⟩ := h
  have X0 := Aside0.mk hX
  unfold apx at hx
  clear stay hm hmb hC hs he hfs hrs hpd hby
  by_cases c1 : b.length = 0
  · rw [if_pos c1] at hx
    have HX := Aside0.mk hx
    have c1b : ((mb : Int) == 0) = true := by rw [MB.out]; simp [c1]
    clear hx c1 hX
    go_enter Try.func45, Try.ntmps45
    go_wp2
    go_ret
    have hx := HX.out
    injection hx with e1 e2
    injection e2 with e2 e3
    subst e1 e2 e3
    exact ⟨rfl, STAY.out _ (Below.refl _ _)⟩
  rw [if_neg c1] at hx
  have c1b : ((mb : Int) == 0) = false := beq_eq_false_iff_ne.mpr (by rw [MB.out]; omega)
  by_cases c2 : 6000 < b.length
  · rw [if_pos c2] at hx
    have HX := Aside0.mk hx
    have c2b : decide ((mb : Int) > 6000) = true := decide_eq_true (by rw [MB.out]; omega)
    have c2c : decide (6000 < mb) = true := decide_eq_true (by rw [MB.out]; omega)
    clear hx c1 c2 hX
    go_enter Try.func45, Try.ntmps45
    go_wp2
    go_ret
    have hx := HX.out
    injection hx with e1 e2
    injection e2 with e2 e3
    subst e1 e2 e3
    exact ⟨rfl, STAY.out _ (Below.refl _ _)⟩
  rw [if_neg c2] at hx
  have BLN := Aside0.mk (show b.length ≤ 100000 by omega)
  have BLN2 := Aside0.mk (show b.length ≤ 100000 by omega)
  have B6000 := Aside0.mk (show b.length ≤ 6000 by omega)
  have c2b : decide ((mb : Int) > 6000) = false := decide_eq_false (by rw [MB.out]; omega)
  have c2c : decide (6000 < mb) = false := decide_eq_false (by rw [MB.out]; omega)
  have y7 : w.cell? ⟨p, 7, none⟩ = some (.bool l.br) := (blk_cell hX.box 7).trans rfl
  obtain ⟨br, hbr⟩ : ∃ br, br = l.br := ⟨_, rfl⟩
  rw [← hbr] at hx y7
  cases br with
  | true =>
    rw [if_pos rfl] at hx
    have HX := Aside0.mk hx
    clear hx c1 c2 hX hbr
    go_enter Try.func45, Try.ntmps45
    go_wp2
    go_ret
    have hx := HX.out
    injection hx with e1 e2
    injection e2 with e2 e3
    subst e1 e2 e3
    exact ⟨rfl, STAY.out _ (Below.refl _ _)⟩
  | false =>
  rw [if_neg (by decide)] at hx
  obtain ⟨rm, hrm⟩ : ∃ rm, rm = rmx l := ⟨_, rfl⟩
  rw [← hrm] at hx
  have RM := Aside0.mk hrm.symm
  have mbl : mb ≤ 6000 := by rw [MB.out]; exact B6000.out
  by_cases c3 : rm < (b.length : Int)
  · rw [if_pos c3] at hx
    have HX := Aside0.mk hx
    have c3b : decide ((mb : Int) > rm) = true := decide_eq_true (by rw [MB.out]; exact c3)
    have c3c : decide (rm < (mb : Int)) = true := decide_eq_true (by rw [MB.out]; exact c3)
    clear hx c1 c2 c3 hX hbr hrm
    go_enter Try.func45, Try.ntmps45
    go_wp2_with (go_at_call 40; refine (L_Room HG.out HS.out HE.out rm RM.out).mono ?_; rintro e w1 ⟨rfl, hb⟩; have B1 := Aside0.mk hb; clear hb)
    go_ret
    have hx := HX.out
    injection hx with e1 e2
    injection e2 with e2 e3
    subst e1 e2 e3
    exact ⟨rfl, STAY.out _ B1.out⟩
  rw [if_neg c3] at hx
  have c3b : decide ((mb : Int) > rm) = false := decide_eq_false (by rw [MB.out]; exact c3)
  have c3c : decide (rm < (mb : Int)) = false := decide_eq_false (by rw [MB.out]; exact c3)
  have HX := Aside0.mk hx
  have HBR := Aside0.mk hbr
  have c3' := Aside0.mk c3
  clear hx c1 c2 c3 hX hbr hrm
  go_enter Try.func45, Try.ntmps45
  go_upto_region 9 with (go_at_call 40; refine (L_Room HG.out HS.out HE.out rm RM.out).mono ?_; rintro e w1 ⟨rfl, hb⟩; have B1 := Aside0.mk hb; clear hb)
  have X1 := Aside0.mk (LX_step X0.out B1.out)
  have K1 := Aside0.mk (kO_below X0.out.d B1.out)
  refine start_ (n := 11) (S := fun w' => w'.cell? ⟨p, 3, none⟩ = some (.int .u64 l.ep) ∧ w'.cell? ⟨p, 4, none⟩ = some (.int .u64 l.li)) (ds := []) #[false, false, false, false, false, false, false, false, false, false, false] (by kernel_rfl) rfl rfl ⟨((LX_cells (LX_step X1.out (below_drew (Below.refl _ _)))).2.2.2.1), ((LX_cells (LX_step X1.out (below_drew (Below.refl _ _)))).2.2.2.2.1)⟩ (fun hHeld => ?_)
  refine pure_ (i := 0) (N := some 30) (v := ?_) (a' := ?_) #[true, false, false, false, false, false, false, false, false, false, false] rfl rfl (by kernel_rfl) (fun _ _ _ h => h) (Or.inl ⟨by rfl, ?_⟩) ?_ ?_
  rotate_left
  · intro w'
    go_simp
    with_reducible rfl
  rotate_left
  · simp only [Act.put, List.setIfInBounds_toArray, List.set_cons_zero, List.set_cons_succ, i64_w, i32_w]
    rfl
  refine pure_ (i := 1) (N := some 31) (v := ?_) (a' := ?_) #[true, true, false, false, false, false, false, false, false, false, false] rfl rfl (by kernel_rfl) (fun _ _ _ h => h) (Or.inl ⟨by rfl, ?_⟩) ?_ ?_
  rotate_left
  · intro w'
    go_simp
    with_reducible rfl
  rotate_left
  · simp only [Act.put, List.setIfInBounds_toArray, List.set_cons_zero, List.set_cons_succ, i64_w, i32_w]
    rfl
  refine pure_ (i := 2) (N := some 32) (v := ?_) (a' := ?_) #[true, true, true, false, false, false, false, false, false, false, false] rfl rfl (by kernel_rfl) (fun _ _ _ h => h) (Or.inl ⟨by rfl, ?_⟩) ?_ ?_
  rotate_left
  · intro w'
    go_simp
    with_reducible rfl
  rotate_left
  · simp only [Act.put, List.setIfInBounds_toArray, List.set_cons_zero, List.set_cons_succ, i64_w, i32_w]
    rfl
  refine pure_ (i := 3) (N := some 33) (v := ?_) (a' := ?_) #[true, true, true, true, false, false, false, false, false, false, false] rfl rfl (by kernel_rfl) (fun _ _ _ h => h) (Or.inl ⟨by rfl, ?_⟩) ?_ ?_
  rotate_left
  · intro w'
    go_simp
    with_reducible rfl
  rotate_left
  · simp only [Act.put, List.setIfInBounds_toArray, List.set_cons_zero, List.set_cons_succ, i64_w, i32_w]
    rfl
  refine pure_ (i := 5) (N := some 35) (v := ?_) (a' := ?_) #[true, true, true, true, false, true, false, false, false, false, false] rfl rfl (by kernel_rfl) (fun _ _ _ h => h) (Or.inl ⟨by rfl, ?_⟩) ?_ ?_
  rotate_left
  · intro w'
    go_simp
    with_reducible rfl
  rotate_left
  · simp only [Act.put, List.setIfInBounds_toArray, List.set_cons_zero, List.set_cons_succ, i64_w, i32_w]
    rfl
  refine pure_ (i := 6) (N := some 36) (v := ?_) (a' := ?_) #[true, true, true, true, false, true, true, false, false, false, false] rfl rfl (by kernel_rfl) (fun _ _ _ h => h) (Or.inl ⟨by rfl, ?_⟩) ?_ ?_
  rotate_left
  · intro w'
    go_simp
    with_reducible rfl
  rotate_left
  · simp only [Act.put, List.setIfInBounds_toArray, List.set_cons_zero, List.set_cons_succ, i64_w, i32_w]
    rfl
  refine pure_ (i := 7) (N := some 37) (v := ?_) (a' := ?_) #[true, true, true, true, false, true, true, true, false, false, false] rfl rfl (by kernel_rfl) (fun _ _ _ h => h) (Or.inl ⟨by rfl, ?_⟩) ?_ ?_
  rotate_left
  · intro w'
    go_simp
    with_reducible rfl
  rotate_left
  · simp only [Act.put, List.setIfInBounds_toArray, List.set_cons_zero, List.set_cons_succ, i64_w, i32_w]
    rfl
  refine take_ (i := 4) (N := some 34) (v := ?_) (a' := ?_) #[true, true, true, true, true, true, true, true, false, false, false] rfl rfl (by kernel_rfl) (fun _ _ _ h => h) (Or.inl ⟨by rfl, ?_⟩) hHeld ?_ ?_
  rotate_left
  · rintro w' ⟨s0, s1⟩
    go_simp
    with_reducible rfl
  rotate_left
  · simp only [Act.put, List.setIfInBounds_toArray, List.set_cons_zero, List.set_cons_succ, i64_w, i32_w]
    rfl
  refine take_ (i := 8) (N := some 38) (v := ?_) (a' := ?_) #[true, true, true, true, true, true, true, true, true, false, false] rfl rfl (by kernel_rfl) (fun _ _ _ h => h) (Or.inl ⟨by rfl, ?_⟩) hHeld ?_ ?_
  rotate_left
  · rintro w' ⟨s0, s1⟩
    go_simp
    with_reducible rfl
  rotate_left
  · simp only [Act.put, List.setIfInBounds_toArray, List.set_cons_zero, List.set_cons_succ, i64_w, i32_w]
    rfl
  refine one_ (i := 9) (N := some 39) #[true, true, true, true, true, true, true, true, true, true, false] rfl rfl (by kernel_rfl) (by decide) (fun K hK => ?_)
  refine goes_ Try.func73 (by kernel_rfl) rfl #[.slice Ab mb cb, .int .u64 l.ep, .int .u64 l.li] (by rfl) rfl rfl (by simp only [List.map_toArray, List.map_cons, List.map_nil]; rfl) ?_
  with_reducible refine (cut_at MB.out MBC.out (C0.out _ (LX_below (LX_step X1.out (below_drew (Below.refl _ _)))) (kO_mono (kO_trans K1.out (kO_below X1.out.d (below_drew (Below.refl _ _)))) (fun _ hk => hk.1))) BLN.out).mono ?_
  rintro e w3 ⟨A3, n3, c3, rfl, hn, hV, hb⟩
  refine ⟨_, rfl, ?_⟩
  have N3 := Aside0.mk hn
  have V3 := Aside0.mk hV
  have X3 := Aside0.mk (LX_deep (LX_step X1.out (below_drew (Below.refl _ _))) hb)
  have HB3 := Aside0.mk hb
  clear hn hV hb
  refine hK.out _ _ ⟨((LX_cells (X3.out)).2.2.2.1), ((LX_cells (X3.out)).2.2.2.2.1)⟩ (fun hHeld => ?_)
  clear hK K
  refine norm_ (a' := ?_) ?_ ?_
  rotate_left
  · show Act.put _ (some 39) _ = _
    simp only [Act.put, List.setIfInBounds_toArray, List.set_cons_zero, List.set_cons_succ, i64_w, i32_w]
    rfl
  refine pure_ (i := 10) (N := some 5) (v := ?_) (a' := ?_) #[true, true, true, true, true, true, true, true, true, true, true] rfl rfl (by kernel_rfl) (fun _ _ _ h => h) (Or.inl ⟨by rfl, ?_⟩) ?_ ?_
  rotate_left
  · intro w'
    go_simp
    with_reducible rfl
  rotate_left
  · simp only [Act.put, List.setIfInBounds_toArray, List.set_cons_zero, List.set_cons_succ, i64_w, i32_w]
    rfl
  refine done_ (by kernel_rfl) ?_
  have MC := Aside0.mk (cut_may HBY.out B6000.out l.ep l.li)
  have PL := Aside0.mk (JO_O X1.out.d X1.out.op)
  have K3 := Aside0.mk (kO_trans K1.out (kO_below X1.out.d (below_step (below_drew (Below.refl _ w1)) HB3.out)))
  obtain ⟨cs, hcs⟩ : ∃ cs, cs = CellLaws.cutn b l.ep l.li (CellLaws.many b.length : Int) (CellLaws.many b.length) := ⟨_, rfl⟩
  have CL := Aside0.mk (show cs.length = CellLaws.many b.length by rw [hcs]; exact CellLaws.cutn_length _ _ _ _ _)
  obtain ⟨mn', hmn⟩ : ∃ mn', mn' = CellLaws.many b.length := ⟨_, rfl⟩
  have MNY := Aside0.mk (show l.en + mn' ≤ l.si * 4 ∧ mn' ≤ 200 by rw [hmn]; exact room_many (show ¬ rmx l < (b.length : Int) by rw [RM.out]; have := c3'.out; omega) B6000.out HE.out)
  have hx := HX.out
  rw [← hcs, ← hmn] at hx
  obtain ⟨⟨s2, e2⟩, hly⟩ : ∃ r, r = layx l.fi (mn' + 1) s l.en (cs.map encC) := ⟨_, rfl⟩
  rw [← hly] at hx
  have HXX := Aside0.mk hx
  rw [← hcs] at V3 MC
  rw [← hmn] at N3 CL
  have LY := Aside0.mk (show layx l.fi (cs.length + 1) s l.en (cs.map encC) = (s2, e2) by rw [CL.out]; exact hly.symm)
  clear hx hcs hmn hly HX c3'
  go_upto_region 11 with (go_at_call 74; refine (L_lay ⟨_, _, _, _, X3.out⟩ V3.out (fun k hk => ⟨.inr hk, fun e => by have h1 := PL.out; have h2 := hk.1; rw [e] at h2; exact absurd h2 (by simpa using h1)⟩) (by rw [N3.out, CL.out]) MC.out (by rw [CL.out]; have h1 := MNY.out.1; have h2 := HFS.out; omega) (by rw [CL.out]; have h1 := MNY.out.2; have h2 := HPD.out; omega) s2 e2 LY.out).mono ?_; rintro e w4 ⟨rfl, hj, hk⟩; have G4 := Aside0.mk hj; have K4 := Aside0.mk hk; clear hj hk)
  have OO := Aside0.mk (show ∀ k, O k → O k ∨ (w1.drew.heap.size ≤ k ∧ k < w3.heap.size) from fun k hk => .inl hk)
  have KF := Aside0.mk (kO_trans K3.out (kO_mono K4.out OO.out))
  obtain ⟨O', hG4, hOO⟩ : ∃ O' : Nat → Prop, LG w0 p q l s2 O' w4 ∧ ∀ k, O k → O' k := ⟨_, G4.out, OO.out⟩
  have OO := Aside0.mk hOO
  obtain ⟨A, n, c, OV, hX4⟩ := hG4
  have X4 := Aside0.mk hX4
  clear hX4 hOO G4 K4 V3 X3 MC
  by_cases ce : e2 = 0
  · have FIN := Aside0.mk (show ({l with en := l.en + mn', rs := l.rs ++ [b]} : Wl) = l' ∧ s2 = s' ∧ e' = 0 from by
      have hx := HXX.out
      rw [if_neg (by simp [ce])] at hx
      injection hx with e1 e2
      injection e2 with e2 e3
      exact ⟨by rw [← HBR.out]; exact e1, e2, e3.symm⟩)
    subst ce
    clear HXX
    have y5 : w4.cell? ⟨p, 5, none⟩ = some (.int .i64 (l.en : Int)) := (blk_cell X4.out.box 5).trans rfl
    have f5 := blk_frozen X4.out.box 5
    have en1 : l.en ≤ 16384 := by have h1 := HS.out; have h2 := HE.out; omega
    have mn1 : mn' ≤ 200 := MNY.out.2
    have N3M := Aside0.mk (show n3 = mn' from N3.out)
    have w5 : wrap64 ((l.en : Int) + (n3 : Int)) = (l.en : Int) + (mn' : Int) := by rw [N3M.out]; unfold wrap64; omega
    obtain ⟨W5, hW5⟩ : ∃ W5, W5 = w4.setCell ⟨p, 5, none⟩ (.int .i64 ((l.en : Int) + (mn' : Int))) := ⟨_, rfl⟩
    have X6 := Aside0.mk (show LX w0 p q {l with en := l.en + mn'} s2 A n c O' OV W5.drew from by rw [hW5, ← Int.natCast_add]; exact LX_step (LX_set X4.out 5 _ rfl rfl) (below_drew (Below.refl _ _)))
    have far5 := Aside0.mk (show ∀ k, k ≠ p → W5.drew.heap[k]? = w4.heap[k]? from fun k hk => by rw [hW5]; exact Below.heap_setCell w4 ⟨p, 5, none⟩ _ k hk)
    have SZ5 := Aside0.mk (show w4.heap.size ≤ W5.drew.heap.size by rw [hW5]; simp)
    have HW5 := Aside0.mk hW5
    clear hW5
    have nc : n ≤ c := (Kd.V_at X4.out.v).2.1
    go_upto_region 15 with (fail)
    rw [← HW5.out]
    clear y5 f5
    refine start_ (n := 23) (S := fun w' => w'.cell? ⟨p, 6, none⟩ = some (.slice A n c)) (ds := [22]) #[false, false, false, false, false, false, false, false, false, false, false, false, false, false, false, false, false, false, false, false, false, false, false] (by kernel_rfl) rfl rfl (((blk_cell X6.out.box 6).trans rfl)) (fun hHeld => ?_)
    have FAR5 := far5.out; have SZQ5 := SZ5.out; have KQ6 := kO_trans (kO_mono KF.out (fun k (hk : O k ∧ k ≠ p) => hk.1)) (show kO (fun k => O k ∧ k ≠ p) w4 W5.drew from ⟨SZ5.out, fun k hk => far5.out k hk.2⟩); clear far5 SZ5; generalize W5.drew = w6 at hHeld X6 FAR5 SZQ5 KQ6 ⊢; have far5 := Aside0.mk FAR5; have SZ5 := Aside0.mk SZQ5; have K6 := Aside0.mk KQ6; clear FAR5 SZQ5 KQ6
    refine pure_ (i := 0) (N := some 58) (v := ?_) (a' := ?_) #[true, false, false, false, false, false, false, false, false, false, false, false, false, false, false, false, false, false, false, false, false, false, false] rfl rfl (by kernel_rfl) (fun _ _ _ h => h) (Or.inl ⟨by rfl, ?_⟩) ?_ ?_
    rotate_left
    · intro w'
      go_simp
      with_reducible rfl
    rotate_left
    · simp only [Act.put, List.setIfInBounds_toArray, List.set_cons_zero, List.set_cons_succ, i64_w, i32_w]
      rfl
    refine pure_ (i := 1) (N := some 59) (v := ?_) (a' := ?_) #[true, true, false, false, false, false, false, false, false, false, false, false, false, false, false, false, false, false, false, false, false, false, false] rfl rfl (by kernel_rfl) (fun _ _ _ h => h) (Or.inl ⟨by rfl, ?_⟩) ?_ ?_
    rotate_left
    · intro w'
      go_simp
      with_reducible rfl
    rotate_left
    · simp only [Act.put, List.setIfInBounds_toArray, List.set_cons_zero, List.set_cons_succ, i64_w, i32_w]
      rfl
    refine pure_ (i := 2) (N := some 60) (v := ?_) (a' := ?_) #[true, true, true, false, false, false, false, false, false, false, false, false, false, false, false, false, false, false, false, false, false, false, false] rfl rfl (by kernel_rfl) (fun _ _ _ h => h) (Or.inl ⟨by rfl, ?_⟩) ?_ ?_
    rotate_left
    · intro w'
      go_simp
      with_reducible rfl
    rotate_left
    · simp only [Act.put, List.setIfInBounds_toArray, List.set_cons_zero, List.set_cons_succ, i64_w, i32_w]
      rfl
    refine pure_ (i := 3) (N := some 61) (v := ?_) (a' := ?_) #[true, true, true, true, false, false, false, false, false, false, false, false, false, false, false, false, false, false, false, false, false, false, false] rfl rfl (by kernel_rfl) (fun _ _ _ h => h) (Or.inl ⟨by rfl, ?_⟩) ?_ ?_
    rotate_left
    · intro w'
      go_simp
      with_reducible rfl
    rotate_left
    · simp only [Act.put, List.setIfInBounds_toArray, List.set_cons_zero, List.set_cons_succ, i64_w, i32_w]
      rfl
    refine pure_ (i := 5) (N := some 63) (v := ?_) (a' := ?_) #[true, true, true, true, false, true, false, false, false, false, false, false, false, false, false, false, false, false, false, false, false, false, false] rfl rfl (by kernel_rfl) (fun _ _ _ h => h) (Or.inl ⟨by rfl, ?_⟩) ?_ ?_
    rotate_left
    · intro w'
      go_simp
      with_reducible rfl
    rotate_left
    · simp only [Act.put, List.setIfInBounds_toArray, List.set_cons_zero, List.set_cons_succ, i64_w, i32_w]
      rfl
    refine pure_ (i := 6) (N := some 64) (v := ?_) (a' := ?_) #[true, true, true, true, false, true, true, false, false, false, false, false, false, false, false, false, false, false, false, false, false, false, false] rfl rfl (by kernel_rfl) (fun _ _ _ h => h) (Or.inl ⟨by rfl, ?_⟩) ?_ ?_
    rotate_left
    · intro w'
      go_simp
      with_reducible rfl
    rotate_left
    · simp only [Act.put, List.setIfInBounds_toArray, List.set_cons_zero, List.set_cons_succ, i64_w, i32_w]
      rfl
    refine pure_ (i := 7) (N := some 65) (v := ?_) (a' := ?_) #[true, true, true, true, false, true, true, true, false, false, false, false, false, false, false, false, false, false, false, false, false, false, false] rfl rfl (by kernel_rfl) (fun _ _ _ h => h) (Or.inl ⟨by rfl, ?_⟩) ?_ ?_
    rotate_left
    · intro w'
      go_simp
      with_reducible rfl
    rotate_left
    · simp only [Act.put, List.setIfInBounds_toArray, List.set_cons_zero, List.set_cons_succ, i64_w, i32_w]
      rfl
    refine pure_ (i := 10) (N := some 68) (v := ?_) (a' := ?_) #[true, true, true, true, false, true, true, true, false, false, true, false, false, false, false, false, false, false, false, false, false, false, false] rfl rfl (by kernel_rfl) (fun _ _ _ h => h) (Or.inl ⟨by rfl, ?_⟩) ?_ ?_
    rotate_left
    · intro w'
      go_simp
      with_reducible rfl
    rotate_left
    · simp only [Act.put, List.setIfInBounds_toArray, List.set_cons_zero, List.set_cons_succ, i64_w, i32_w]
      rfl
    refine pure_ (i := 11) (N := some 69) (v := ?_) (a' := ?_) #[true, true, true, true, false, true, true, true, false, false, true, true, false, false, false, false, false, false, false, false, false, false, false] rfl rfl (by kernel_rfl) (fun _ _ _ h => h) (Or.inl ⟨by rfl, ?_⟩) ?_ ?_
    rotate_left
    · intro w'
      go_simp
      with_reducible rfl
    rotate_left
    · simp only [Act.put, List.setIfInBounds_toArray, List.set_cons_zero, List.set_cons_succ, i64_w, i32_w]
      rfl
    refine pure_ (i := 12) (N := some 70) (v := ?_) (a' := ?_) #[true, true, true, true, false, true, true, true, false, false, true, true, true, false, false, false, false, false, false, false, false, false, false] rfl rfl (by kernel_rfl) (fun _ _ _ h => h) (Or.inl ⟨by rfl, ?_⟩) ?_ ?_
    rotate_left
    · intro w'
      go_simp
      with_reducible rfl
    rotate_left
    · simp only [Act.put, List.setIfInBounds_toArray, List.set_cons_zero, List.set_cons_succ, i64_w, i32_w]
      rfl
    refine pure_ (i := 16) (N := some 74) (v := ?_) (a' := ?_) #[true, true, true, true, false, true, true, true, false, false, true, true, true, false, false, false, true, false, false, false, false, false, false] rfl rfl (by kernel_rfl) (fun _ _ _ h => h) (Or.inl ⟨by rfl, ?_⟩) ?_ ?_
    rotate_left
    · intro w'
      go_simp
      with_reducible rfl
    rotate_left
    · simp only [Act.put, List.setIfInBounds_toArray, List.set_cons_zero, List.set_cons_succ, i64_w, i32_w]
      rfl
    refine take_ (i := 4) (N := some 62) (v := ?_) (a' := ?_) #[true, true, true, true, true, true, true, true, false, false, true, true, true, false, false, false, true, false, false, false, false, false, false] rfl rfl (by kernel_rfl) (fun _ _ _ h => h) (Or.inl ⟨by rfl, ?_⟩) hHeld ?_ ?_
    rotate_left
    · intro w' s0
      go_simp
      with_reducible rfl
    rotate_left
    · simp only [Act.put, List.setIfInBounds_toArray, List.set_cons_zero, List.set_cons_succ, i64_w, i32_w]
      rfl
    refine take_ (i := 8) (N := some 66) (v := ?_) (a' := ?_) #[true, true, true, true, true, true, true, true, true, false, true, true, true, false, false, false, true, false, false, false, false, false, false] rfl rfl (by kernel_rfl) (fun _ _ _ h => h) (Or.inl ⟨by rfl, ?_⟩) hHeld ?_ ?_
    rotate_left
    · intro w' s0
      go_simp
      with_reducible rfl
    rotate_left
    · simp only [Act.put, List.setIfInBounds_toArray, List.set_cons_zero, List.set_cons_succ, i64_w, i32_w]
      rfl
    refine pure_ (i := 9) (N := some 67) (v := ?_) (a' := ?_) #[true, true, true, true, true, true, true, true, true, true, true, true, true, false, false, false, true, false, false, false, false, false, false] rfl rfl (by kernel_rfl) (fun _ _ _ h => h) (Or.inl ⟨by rfl, ?_⟩) ?_ ?_
    rotate_left
    · intro w'
      go_simp
      with_reducible rfl
    rotate_left
    · simp only [Act.put, List.setIfInBounds_toArray, List.set_cons_zero, List.set_cons_succ, i64_w, i32_w]
      rfl
    refine take_ (i := 13) (N := some 71) (v := ?_) (a' := ?_) #[true, true, true, true, true, true, true, true, true, true, true, true, true, true, false, false, true, false, false, false, false, false, false] rfl rfl (by kernel_rfl) (fun _ _ _ h => h) (Or.inl ⟨by rfl, ?_⟩) hHeld ?_ ?_
    rotate_left
    · intro w' s0
      go_simp
      with_reducible rfl
    rotate_left
    · simp only [Act.put, List.setIfInBounds_toArray, List.set_cons_zero, List.set_cons_succ, i64_w, i32_w]
      rfl
    refine pure_ (i := 14) (N := some 72) (v := ?_) (a' := ?_) #[true, true, true, true, true, true, true, true, true, true, true, true, true, true, true, false, true, false, false, false, false, false, false] rfl rfl (by kernel_rfl) (fun _ _ _ h => h) (Or.inl ⟨by rfl, ?_⟩) ?_ ?_
    rotate_left
    · intro w'
      go_simp
      with_reducible rfl
    rotate_left
    · simp only [Act.put, List.setIfInBounds_toArray, List.set_cons_zero, List.set_cons_succ, i64_w, i32_w]
      rfl
    refine pure_ (i := 15) (N := some 73) (v := ?_) (a' := ?_) #[true, true, true, true, true, true, true, true, true, true, true, true, true, true, true, true, true, false, false, false, false, false, false] rfl rfl (by kernel_rfl) (fun _ _ _ h => h) (Or.inl ⟨by rfl, ?_⟩) ?_ ?_
    rotate_left
    · intro w'
      go_simp
      with_reducible rfl
    rotate_left
    · simp only [Act.put, List.setIfInBounds_toArray, List.set_cons_zero, List.set_cons_succ, i64_w, i32_w]
      rfl
    refine one_ (i := 17) (N := some 75) #[true, true, true, true, true, true, true, true, true, true, true, true, true, true, true, true, true, true, false, false, false, false, false] rfl rfl (by kernel_rfl) (by decide) (fun K hK => ?_)
    refine goes_ Try.func72 (by kernel_rfl) rfl #[.slice Ab mb cb] (by rfl) rfl rfl (by simp only [List.map_toArray, List.map_cons, List.map_nil]; rfl) ?_
    with_reducible refine (clone_at MB.out MBC.out BLN2.out (C0.out _ (LX_below X6.out) K6.out)).mono ?_
    rintro e w7 ⟨A7, c7, rfl, hR, hb⟩
    refine ⟨_, rfl, ?_⟩
    have R7 := Aside0.mk hR
    have X7 := Aside0.mk (LX_step X6.out hb)
    have B7 := Aside0.mk hb
    clear hR hb
    refine hK.out _ _ (((blk_cell X7.out.box 6).trans rfl)) (fun hHeld => ?_)
    clear hK K
    refine norm_ (a' := ?_) ?_ ?_
    rotate_left
    · show Act.put _ (some 75) _ = _
      simp only [Act.put, List.setIfInBounds_toArray, List.set_cons_zero, List.set_cons_succ, i64_w, i32_w]
      rfl
    refine one_ (i := 18) (N := some 76) #[true, true, true, true, true, true, true, true, true, true, true, true, true, true, true, true, true, true, true, false, false, false, false] rfl rfl (by kernel_rfl) (by decide) (fun K hK => ?_)
    refine value_ (w1 := w7.alloc (.cells #[.slice A7 mb c7] 27)) (v := .slice (some ⟨w7.heap.size, 0, none⟩) 1 1) (by rfl) rfl ?_ ?_
    · first | (go_simp; done) | (go_simp; rfl)
    have X8 := Aside0.mk (LX_step X7.out (below_alloc (Below.refl _ _) (.cells #[.slice A7 mb c7] 27)))
    have B8 := Aside0.mk (below_step B7.out (below_alloc (Below.refl _ _) (.cells #[.slice A7 mb c7] 27)))
    have Y8 := Aside0.mk (one_V (base' := w6.heap.size) MB.out R7.out (Nat.le_refl _) B7.out.size)
    refine hK.out _ _ (((blk_cell X8.out.box 6).trans rfl)) (fun hHeld => ?_)
    clear hK K
    refine norm_ (a' := ?_) ?_ ?_
    rotate_left
    · show Act.put _ (some 76) _ = _
      simp only [Act.put, List.setIfInBounds_toArray, List.set_cons_zero, List.set_cons_succ, i64_w, i32_w]
      rfl
    refine one_ (i := 19) (N := some 77) #[true, true, true, true, true, true, true, true, true, true, true, true, true, true, true, true, true, true, true, true, false, false, false] rfl rfl (by kernel_rfl) (by decide) (fun K hK => ?_)
    refine append_full_step (W := w7.alloc (.cells #[.slice A7 mb c7] 27)) kL (w0 := w6) w6.heap.size (by have hq := nc; first | exact if_pos hq | (rw [if_pos hq]; rfl) | (simp only [if_pos hq]; rfl) | (go_simp; simp [hq])) (.tmp 73) (.tmp 76) 46 27 (.slice none 0 0) 24 rfl Try.underlying46 info27w rfl (by decide) l.rs [b] A n (some ⟨w7.heap.size, 0, none⟩) 1 1 (fun k => OV k ∨ w6.heap.size ≤ k) (fun k => OV k ∨ w6.heap.size ≤ k) rfl rfl (by decide) (Kd.V_mono (show Kd.V kL 27 _ w6.heap.size OV (.slice A n n) l.rs from V_full X8.out.v X8.out.hn) (fun _ hk => .inl hk)) (Kd.V_mono Y8.out (fun _ hk => .inr hk)) (fun _ hk => hk) (fun k hk => .inr (Nat.le_trans B8.out.size hk)) B8.out B8.out.size (by have h1 := HRS.out; have h2 := (show n = l.rs.length from X8.out.hn); omega) (by have h1 := HRS.out; have h2 := (show n = l.rs.length from X8.out.hn); omega) ?_
    intro v9 w9 hN hb hB
    have N9 := Aside0.mk hN
    have B9 := Aside0.mk hb
    have HB9 := Aside0.mk hB
    have X9 := Aside0.mk (LX_step X8.out hB)
    obtain ⟨A9, c9, e9⟩ := Kd.N_slice hN
    obtain ⟨m9, hm9⟩ : ∃ m9, m9 = (l.rs ++ [b]).length := ⟨_, rfl⟩
    rw [← hm9] at e9
    have M9 := Aside0.mk hm9
    subst e9
    have f6 := blk_frozen X9.out.box 6
    have y6 : w9.cell? ⟨p, 6, none⟩ = some (.slice A n c) := (blk_cell X9.out.box 6).trans rfl
    clear hN hb hB hm9
    refine hK.out _ _ (((blk_cell X9.out.box 6).trans rfl)) (fun hHeld => ?_)
    clear hK K
    refine norm_ (a' := ?_) ?_ ?_
    rotate_left
    · show Act.put _ (some 77) _ = _
      simp only [Act.put, List.setIfInBounds_toArray, List.set_cons_zero, List.set_cons_succ, i64_w, i32_w]
      rfl
    refine pure_ (i := 20) (N := some 78) (v := ?_) (a' := ?_) #[true, true, true, true, true, true, true, true, true, true, true, true, true, true, true, true, true, true, true, true, true, false, false] rfl rfl (by kernel_rfl) (fun _ _ _ h => h) (Or.inl ⟨by rfl, ?_⟩) ?_ ?_
    rotate_left
    · intro w'
      go_simp
      with_reducible rfl
    rotate_left
    · simp only [Act.put, List.setIfInBounds_toArray, List.set_cons_zero, List.set_cons_succ, i64_w, i32_w]
      rfl
    refine pure_ (i := 21) (N := some 79) (v := ?_) (a' := ?_) #[true, true, true, true, true, true, true, true, true, true, true, true, true, true, true, true, true, true, true, true, true, true, false] rfl rfl (by kernel_rfl) (fun _ _ _ h => h) (Or.inl ⟨by rfl, ?_⟩) ?_ ?_
    rotate_left
    · intro w'
      go_simp
      with_reducible rfl
    rotate_left
    · simp only [Act.put, List.setIfInBounds_toArray, List.set_cons_zero, List.set_cons_succ, i64_w, i32_w]
      rfl
    refine last_ (i := 22) (N := none) #[true, true, true, true, true, true, true, true, true, true, true, true, true, true, true, true, true, true, true, true, true, true, true] rfl rfl (by kernel_rfl) (by decide) (fun K hK => ?_)
    refine skip_ (w1 := ?_) (by rfl) rfl ?_ ?_
    rotate_left
    · go_simp
      rfl
    refine hK.out _ _ ?_
    clear hK K
    refine done_ (by kernel_rfl) ?_
    go_wp2
    go_ret
    have LP6 := Aside0.mk (show p < w6.heap.size from JO_O X6.out.d X6.out.op)
    have RS9 := Aside0.mk (Kd.V_bound (Kd.N_V (base' := 0) N9.out))
    have hd := JO_write (j := 6) (JO_deep X6.out.d B9.out) (.inl X6.out.op) X6.out.lp (.slice A9 m9 c9)
    have hbox := blk_put X9.out.box 6 (u := .slice A9 m9 c9) (cs' := lgc q {l with en := l.en + mn', rs := l.rs ++ [b]} (.slice A9 m9 c9)) rfl
    have hne : ∀ k, (OV k ∨ w6.heap.size ≤ k) ∧ k < w9.heap.size → k ≠ p := fun k hk => by
      rcases hk.1 with h1 | h1
      · exact (X9.out.ov k h1).2.1
      · have := LP6.out; omega
    have hV := Kd.V_step (w1 := w9.setCell ⟨p, 6, none⟩ (.slice A9 m9 c9)) RS9.out (fun k hk _ => Below.heap_setCell w9 ⟨p, 6, none⟩ _ k (hne k hk))
    have hfin : LG w0 p q {l with en := l.en + mn', rs := l.rs ++ [b]} s2 (fun k => O' k ∨ (w6.heap.size ≤ k ∧ k < w9.heap.size)) (w9.setCell ⟨p, 6, none⟩ (.slice A9 m9 c9)) :=
      ⟨A9, m9, c9, _, hd, hbox, .inl X9.out.op, X9.out.lp, fun k hk => ⟨hk.1.elim (fun h1 => .inl (X9.out.ov k h1).1) (fun h1 => .inr ⟨h1, hk.2⟩), hne k hk, fun hx => hk.1.elim (fun h1 => (X9.out.ov k h1).2.2 hx) (fun h1 => Nat.lt_irrefl k (Nat.lt_of_lt_of_le (JO_O X6.out.d (X6.out.xo k hx)) h1))⟩, hV, M9.out, fun k hk => .inl (X9.out.xo k hk)⟩
    rw [FIN.out.1, FIN.out.2.1] at hfin
    refine ⟨by rw [FIN.out.2.2]; rfl, ⟨_, fun k hk => .inl (OO.out k hk), hfin⟩, ?_, fun k hk => ?_⟩
    · have h1 := KF.out.1
      have h2 := SZ5.out
      have h3 := B9.out.size
      simp
      omega
    · have h1 := JO_O X4.out.d (OO.out k hk.1)
      exact (Below.heap_setCell w9 ⟨p, 6, none⟩ _ k hk.2).trans ((B9.out.block k (Nat.lt_of_lt_of_le h1 SZ5.out)).trans ((far5.out k hk.2).trans (KF.out.2 k hk.1)))
  · have FIN := Aside0.mk (show ({l with br := true} : Wl) = l' ∧ s2 = s' ∧ e2 = e' from by
      have hx := HXX.out
      rw [if_pos ce] at hx
      injection hx with e1 e3
      injection e3 with e3 e4
      exact ⟨e1, e3, e4⟩)
    have ceb : (e2 != 0) = true := by simp [ce]
    have f7 := blk_frozen X4.out.box 7
    have y7' : w4.cell? ⟨p, 7, none⟩ = some (.bool l.br) := (blk_cell X4.out.box 7).trans rfl
    clear ce HXX
    go_wp2
    go_ret
    refine ⟨by rw [FIN.out.2.2]; rfl, ⟨O', OO.out, ⟨A, n, c, OV, by rw [← FIN.out.1, ← FIN.out.2.1]; exact LX_set X4.out 7 _ rfl rfl⟩⟩, kO_trans (kO_mono KF.out (fun k hk => hk.1)) ⟨Nat.le_of_eq (by simp), fun k hk => Below.heap_setCell w4 ⟨p, 7, none⟩ _ k hk.2⟩⟩
end
end Go.Proofs.Ytepipgneefcoiaa.D
