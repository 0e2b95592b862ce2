/- The functions of the program that these laws reach, each as a plain Lean function, and the proof that the machine's call comes to it; no condition beyond those that each theorem names. Made by wip/xprint.py. -/
import Derived.Test.YtmdmoohkdkooaaaMx0
import Derived.Test.YtmdmoohkdkooaaaMe1
import Derived.Test.YtmdmoohkdkooaaaMh
namespace Go.Proofs.Ytmdmoohkdkooaaa.M
open Go.RowKit Go.Proofs.YtmdmoohkdkooaaaW.PrintWords Go.Proofs.YtmdmoohkdkooaaaW.PrintLast Go.Proofs.YtmdmoohkdkooaaaW.PrintMore
attribute [local go_sem] max2_int min2_int max_two min_two max_three min_three max_four min_four   -- for this text's walks alone
set_option linter.unusedVariables false
set_option linter.unusedSimpArgs false
attribute [local go_sem high] eqA70

/-! ### marks_joined: function 59: by hand -/
/-- Cells, some of them other ones. -/
def splr (L : List Value) (p : Nat) (xs : List Value) : List Value := L.take p ++ xs ++ L.drop (p + xs.length)
theorem splr_length {L : List Value} {p : Nat} {xs : List Value} (h : p + xs.length ≤ L.length) : (splr L p xs).length = L.length := by
  simp [splr]; omega
theorem splr_two {L X Y : List Value} (h : L.length = X.length + Y.length) : splr (splr L 0 X) X.length Y = X ++ Y := by
  have e : splr L 0 X = X ++ L.drop X.length := by simp [splr]
  rw [e]
  unfold splr
  rw [List.take_left' rfl, List.drop_of_length_le (by simp; omega), List.append_nil]
theorem run_copy_rows (P : Program) (w : World) (dT sT ty elem : TypeId) (g o dLen dCap : Nat) (a : Addr) (sLen sCap sz : Nat) (cur : Array Value) (t : TypeId) (cs : List Value)
    (hu : P.underlying dT = some (.slice elem)) (hs : (P.info? elem).map (·.size) = some sz)
    (hg : w.heap[g]? = some (.cells cur t (0, 0))) (hn : cs.length = Nat.min sLen dLen * sz)
    (hsrc : ∀ j v, cs[j]? = some v → w.cell? (a.add j) = some v) (hfit : o + cs.length ≤ cur.size) (h1 : ∀ v ∈ cs, v.oneCell' = true) :
    (Builtin.copy_ #[dT, sT] ty #[.slice (some ⟨g, o, none⟩) dLen dCap, .slice (some a) sLen sCap]).run P w =
      .ok (goInt (Nat.min sLen dLen : Nat)) (w.setRow g (cur.toList.take o ++ cs ++ cur.toList.drop (o + cs.length)).toArray) := by
  have hl := run_loadCells_list (P := P) w a cs hsrc
  have hst := run_storeCells_at P g o t cs 0 cur w hg (by simpa using hfit) h1
  cases hq : P.info? elem with
  | none => simp [hq] at hs
  | some i =>
    have hi : i.size = sz := by simpa [hq] using hs
    simp [Builtin.copy_, run_underlying hu, Builtin.lenOf, Builtin.firstCells, sizeOf, typeInfo, hq, hi, ← hn, hl, hst]
theorem run_copy_noneR (P : Program) (w : World) (dT sT ty elem : TypeId) (d a : Option Addr) (dLen dCap sLen sCap sz : Nat) (hu : P.underlying dT = some (.slice elem)) (hs : (P.info? elem).map (·.size) = some sz) (hn : Nat.min sLen dLen = 0) :
    (Builtin.copy_ #[dT, sT] ty #[.slice d dLen dCap, .slice a sLen sCap]).run P w = .ok (goInt 0) w := by
  cases hq : P.info? elem with
  | none => simp [hq] at hs
  | some i =>
    have hl : ∀ (x : Addr), (loadCells x 0).run P w = .ok #[] w := fun x => by simpa using run_loadCells_list (P := P) w x [] (by simp)
    cases d <;> cases a <;> simp [Builtin.copy_, run_underlying hu, Builtin.lenOf, Builtin.firstCells, sizeOf, typeInfo, hq, hn, storeCells, hl]
theorem grownBy_setRowR {w : World} {g : Nat} {cur : Array Value} : w.grownBy (w.setRow g cur) (some g) := by
  refine ⟨rfl, rfl, rfl, by simp [World.setRow], fun i hi hne => ?_⟩
  have : i ≠ g := fun e => hne (by rw [e])
  simp only [World.setRow]
  rw [Array.getElem?_modify, if_neg (Ne.symm this)]
theorem wpList_copy_rows {P : Program} {w w0 : World} {ops : Array Oper} {rest : List Oper} {o : Oper} {a : Act} {Q : Exit → Act → World → Prop} (hgd : o.guard = none) (d s : Operand) (dT sT : TypeId)
    (ho : o.op = .call { callee := .builtin .copy, args := #[d, s], argTypes := #[dT, sT] }) (elem : TypeId) (sz : Nat) (hu : P.underlying dT = some (.slice elem)) (hsz : (P.info? elem).map (·.size) = some sz)
    (dp sp : Option Addr) (dLen dCap sLen sCap : Nat) (hd : a.eval d = .slice dp dLen dCap) (hs : a.eval s = .slice sp sLen sCap)
    (g off : Nat) (cur : List Value) (t : TypeId) (hg : w.heap[g]? = some (.cells cur.toArray t (0, 0))) (cs : List Value) (n : Nat) (hm : Nat.min sLen dLen = n) (hn : cs.length = n * sz)
    (hpos : 0 < n → dp = some ⟨g, off, none⟩ ∧ ∃ ad, sp = some ad ∧ ∀ j v, cs[j]? = some v → w.cell? (ad.add j) = some v)
    (hfit : off + cs.length ≤ cur.length) (h1 : ∀ v ∈ cs, v.oneCell' = true) (hB : Below w0.heap.size w0 w) (hgb : w0.heap.size ≤ g)
    (h : ∀ w', Aside0 (w'.heap[g]? = some (.cells (splr cur off cs).toArray t (0, 0))) → Aside0 (Below w0.heap.size w0 w') → wpList P ops Q rest (a.put o.dst (goInt (n : Nat))) w') :
    wpList P ops Q (o :: rest) a w := by
  subst hm
  refine wpList_plain hgd fun K hK => ?_
  by_cases h0 : Nat.min sLen dLen = 0
  · have hcs : cs = [] := List.eq_nil_of_length_eq_zero (by rw [hn, h0, Nat.zero_mul])
    subst hcs
    have hrun := run_copy_noneR P w dT sT o.type elem dp sp dLen dCap sLen sCap sz hu hsz h0
    unfold Oper.wp
    simp [execOp, ho, resolve, invoke, builtin, hd, hs, hrun, Result.andThen]
    rw [h0] at h
    exact hK _ _ (h w ⟨by simpa [splr] using hg⟩ ⟨hB⟩)
  · obtain ⟨rfl, ad, rfl, hsrc⟩ := hpos (by omega)
    have hrun := run_copy_rows P w dT sT o.type elem g off dLen dCap ad sLen sCap sz cur.toArray t cs hu hsz hg hn hsrc (by simpa using hfit) h1
    unfold Oper.wp
    simp [execOp, ho, resolve, invoke, builtin, hd, hs, hrun, Result.andThen]
    refine hK _ _ (h _ ⟨by simpa [splr] using setRow_heap w g _ _ t _ hg⟩ ⟨pw_below_grown hB (some g) hB.size grownBy_setRowR (fun k hk => by injection hk with hk; omega)⟩)
theorem wpList_make_rows {P : Program} {w : World} {ops : Array Oper} {rest : List Oper} {o : Oper} {a : Act} {Q : Exit → Act → World → Prop} (hgd : o.guard = none) (x y : Operand) (t : TypeId) (ho : o.op = .makeSlice t x y) (e : TypeId)
    (ht : P.underlying t = some (.slice e)) (z : Value) (sz bytes : Nat) (hinfo : (P.info? e).map (fun i => (i.zero, i.size, i.bytes)) = some (some z, sz, bytes)) (n : Nat) (m m' : Int) (hx : a.eval x = .int .i64 m) (hy : a.eval y = .int .i64 m') (hm : m = (n : Int)) (hm' : m' = (n : Int))
    (hl : n * bytes ≤ 281474976710656) (h63 : n ≤ 9223372036854775807)
    (h : ∀ (W : World) (L : List Value), Aside0 (L.length = n * sz) → Aside0 (W.heap[w.heap.size]? = some (.cells L.toArray e (0, 0))) → Aside0 (Below w.heap.size w W) → wpList P ops Q rest (a.put o.dst (.slice (some ⟨w.heap.size, 0, none⟩) n n)) W) :
    wpList P ops Q (o :: rest) a w := by
  subst hm hm'
  refine wpList_plain hgd fun K hK => ?_
  obtain ⟨i, hi, hzz⟩ := Option.map_eq_some_iff.1 hinfo
  simp only [Prod.mk.injEq] at hzz
  obtain ⟨hz, hs, hb⟩ := hzz
  have hbn : (i.bytes : Int) * (n : Int) ≤ 281474976710656 := by
    have h2 : ((n * bytes : Nat) : Int) ≤ 281474976710656 := by omega
    rw [hb, Int.mul_comm]
    rwa [Int.natCast_mul] at h2
  have hr := run_make (P := P) w t e i z ht hi hz .i64 .i64 n n (by omega) (Int.le_refl _) hbn (by omega)
  simp only [Int.toNat_natCast] at hr
  unfold Oper.wp
  simp [execOp, ho, hx, hy, hr, Result.andThen]
  refine hK _ _ (h _ (madeCells z.cells (n * i.size)).toList ⟨by simp [size_madeCells, hs]⟩ ⟨by simpa using blk_new w (.cells (madeCells z.cells (n * i.size)) e)⟩ ⟨(Below.refl _ _).alloc (Nat.le_refl _) _⟩)
/-- The cells that a row is read from, and what each of them is. -/
theorem V_cells {α : Type} {d : Kd α} {t base : Nat} {w : World} {ok : Nat → Prop} {A : Option Addr} {n c : Nat} {xs : List α} (h : Kd.V d t w base ok (.slice A n c) xs) :
    ∃ cs : List Value, cs.length = xs.length * d.sz ∧ Reps (fun x c => Kd.FK d w ok x c) d.sz xs cs ∧ (0 < xs.length → ∃ ad, A = some ad ∧ ∀ j v, cs[j]? = some v → w.cell? (ad.add j) = some v) ∧ ∀ v ∈ cs, v.oneCell' = true := by
  have hr := Kd.F_rows (Kd.V_at h).2.2
  have hl := (Kd.V_reads' h).1
  rcases Nat.eq_zero_or_pos xs.length with h0 | hp
  · have hx : xs = [] := List.eq_nil_of_length_eq_zero h0
    subst hx
    exact ⟨[], by simp, Reps.none _ _, fun hp => absurd hp (by simp), fun v hv => by cases hv⟩
  · obtain ⟨ad, rfl, _⟩ := hr.2.2 (by omega)
    obtain ⟨inner, hrep, hc⟩ := ReadsRow.inner_ hr
    refine ⟨inner, hrep.1, hrep, fun _ => ⟨ad, rfl, hc⟩, fun v hv => ?_⟩
    obtain ⟨i, hi, rfl⟩ := List.getElem_of_mem hv
    have hil : i < xs.length * d.sz := by rw [← hrep.1]; exact hi
    have hsz : 0 < d.sz := by rcases Nat.eq_zero_or_pos d.sz with h | h; (rw [h] at hil; omega); exact h
    have hq : i / d.sz < xs.length := (Nat.div_lt_iff_lt_mul hsz).2 hil
    have hk := hrep.2 (i / d.sz) _ (List.getElem?_eq_getElem hq)
    refine d.K_one (Kd.FK_now hk) _ ?_
    have hm : i % d.sz < d.sz := Nat.mod_lt _ hsz
    have e : i = i / d.sz * d.sz + i % d.sz := by rw [Nat.mul_comm]; exact (Nat.div_add_mod i d.sz).symm
    refine List.mem_iff_getElem?.2 ⟨i % d.sz, ?_⟩
    rw [List.getElem?_take, if_pos hm, List.getElem?_drop, ← e, List.getElem?_eq_getElem hi]
theorem reps_app {α : Type} {R : α → List Value → Prop} {sz : Nat} {xs ys : List α} {a b : List Value} (h : Reps R sz xs a) (k : Reps R sz ys b) : Reps R sz (xs ++ ys) (a ++ b) := by
  refine ⟨by rw [List.length_append, h.1, k.1, List.length_append, Nat.add_mul], fun j p hj => ?_⟩
  by_cases c : j < xs.length
  · rw [List.getElem?_append_left c] at hj
    have hle : j * sz + sz ≤ a.length := by
      rw [h.1]
      have := Nat.mul_le_mul_right sz (show j + 1 ≤ xs.length by omega)
      rwa [Nat.add_mul, Nat.one_mul] at this
    rw [List.drop_append_of_le_length (by omega), List.take_append_of_le_length (by rw [List.length_drop]; omega)]
    exact h.2 j p hj
  · rw [List.getElem?_append_right (by omega)] at hj
    have e : j * sz = a.length + (j - xs.length) * sz := by
      rw [h.1, ← Nat.add_mul]; congr 1; omega
    rw [e, ← List.drop_drop, List.drop_left' rfl]
    exact k.2 _ p hj
/-- A new block's cells, each of which is an element whose own rows are elder. -/
theorem N_block {α : Type} {d : Kd α} {e base g : Nat} {w W : World} {okp ok : Nat → Prop} {xs : List α} {cs : List Value} (hg : W.heap[g]? = some (.cells cs.toArray e (0, 0))) (hrep : Reps (fun x c => Kd.FK d w okp x c) d.sz xs cs)
    (hB : Below w.heap.size w W) (hwg : w.heap.size ≤ g) (hbg : base ≤ g) (hok : ∀ k, okp k → ok k) (hfresh : ok g) (hm : xs.length ≤ 9223372036854775807) : Kd.N d e W base ok (.slice (some ⟨g, 0, none⟩) xs.length xs.length) xs := by
  have hob : (Value.slice (some ⟨g, 0, none⟩) xs.length xs.length).ownBlock = some g := rfl
  refine ⟨fun k hk => by rw [hob] at hk; injection hk with hk; rw [← hk]; exact hfresh, Kd.chunks d.sz xs.length cs, Kd.chunks_length _ _ _, ⟨fun k hk => hk.symm, cs, ?_, ?_⟩, fun j x c hx hc => ?_⟩
  · rw [Kd.chunks_length]
    exact ⟨hrep.1, .inr ⟨g, xs.length, cs.toArray, rfl, hbg, hg, Nat.le_refl _, hm, (by simpa using hrep.1 : cs.toArray.size = xs.length * d.sz), List.take_of_length_le (show cs.length ≤ xs.length * d.sz by rw [hrep.1]; exact Nat.le_refl _)⟩⟩
  · exact Kd.reps_raw hrep (fun y c hk => ⟨d.K_len (Kd.FK_now hk), d.K_one (Kd.FK_now hk)⟩)
  · rw [Kd.chunks_get hc]
    refine Kd.FK_mono (Kd.FK_step (Kd.FK_bound (hrep.2 j x hx)) (fun k hk hlt => hB.block k hlt)) (fun k hk => ⟨hok k hk.1, fun he => ?_⟩)
    rw [hob] at he
    injection he with he
    have := hk.2
    omega
theorem cell_below {w W : World} (hB : Below w.heap.size w W) {p : Addr} {v : Value} (h : w.cell? p = some v) : W.cell? p = some v := by
  have hp : p.block < w.heap.size := Classical.byContradiction fun c => by
    have : w.heap[p.block]? = none := Array.getElem?_eq_none (by omega)
    unfold World.cell? at h
    rw [this] at h
    cases h
  rw [hB.cell hp]
  exact h
def marks_joined.f (l0 l1 : List S27) : Option (List S27) := if (l0.length + l1.length) * 48 ≤ 281474976710656 then some (l0 ++ l1) else none
set_option maxHeartbeats 4000000 in
theorem marks_joined.calls (P0_ : Nat → Prop) (A0 : Option Addr) (c0 : Nat) (l0 : List S27) (P1_ : Nat → Prop) (A1 : Option Addr) (c1 : Nat) (l1 : List S27) (r : List S27) (w : World) (hs0 : Kd.V k27 27 w w.heap.size (fun k_ => P0_ k_) (.slice A0 l0.length c0) l0) (hs1 : Kd.V k27 27 w w.heap.size (fun k_ => P1_ k_) (.slice A1 l1.length c1) l1) (h : marks_joined.f l0 l1 = some r) :
    Calls Try.prog 59 #[.slice A0 l0.length c0, .slice A1 l1.length c1] w fun e w' => ∃ v0_ : Value, e = .returned (v0_) ∧ Kd.N k27 27 w' w.heap.size (fun k_ => ((P0_ k_ ∨ P1_ k_) ∨ w.heap.size ≤ k_)) v0_ r ∧ Below w.heap.size w w' := by
  unfold marks_joined.f at h
  have hsz : (l0.length + l1.length) * 48 ≤ 281474976710656 := Classical.byContradiction fun c => by rw [if_neg c] at h; cases h
  rw [if_pos hsz] at h
  obtain rfl := Option.some.inj h
  clear h
  obtain ⟨cs0, n0, rep0, at0, one0⟩ := V_cells hs0
  obtain ⟨cs1, n1, rep1, at1, one1⟩ := V_cells hs1
  have z0 : cs0.length = l0.length * 3 := n0
  have z1 : cs1.length = l1.length * 3 := n1
  have HS0 := Aside0.mk hs0
  have HS1 := Aside0.mk hs1
  have R0 := Aside0.mk rep0
  have R1 := Aside0.mk rep1
  have X0 := Aside0.mk at0
  have X1 := Aside0.mk at1
  have Y0 := Aside0.mk one0
  have Y1 := Aside0.mk one1
  have Z0 := Aside0.mk z0
  have Z1 := Aside0.mk z1
  have HZ := Aside0.mk hsz
  clear hs0 hs1 rep0 rep1 at0 at1 one0 one1 z0 z1 n0 n1 hsz
  have hi := info27
  have hi' : (Try.prog.info? 27).map (·.size) = some 3 := by
    have := congrArg (Option.map (fun x : Option Value × Nat × Nat => x.2.1)) hi
    simpa [Option.map_map] using this
  have HI := Aside0.mk hi
  have HI' := Aside0.mk hi'
  clear hi hi'
  obtain ⟨n, hn⟩ : ∃ n, n = l0.length + l1.length := ⟨_, rfl⟩
  have HN := Aside0.mk hn
  clear hn
  go_enter Try.func59, Try.ntmps59
  go_wp2_with (refine wpList_make_rows rfl _ _ _ rfl 27 Try.underlying25 _ _ _ HI.out n _ _ rfl rfl ?mm ?mm' ?ml ?m63 ?_)
  case mm => have := HN.out; have := HZ.out; first | omega | (simp [wrap64]; omega)
  case mm' => have := HN.out; have := HZ.out; first | omega | (simp [wrap64]; omega)
  case ml => rw [HN.out]; exact HZ.out
  case m63 => have := HN.out; have := HZ.out; omega
  intro W L HL HG HB
  go_wp2_with (refine wpList_copy_rows (w0 := w) rfl _ _ _ _ rfl 27 3 Try.underlying25 HI'.out _ _ _ _ _ _ rfl rfl w.heap.size 0 L 27 HG.out cs0 l0.length ?cm Z0.out ?cp ?cf Y0.out HB.out (Nat.le_refl _) ?_)
  case cm => have := HN.out; show min _ _ = _; omega
  case cp =>
    intro hp
    obtain ⟨ad, e, hc⟩ := X0.out hp
    first
    | exact ⟨rfl, ad, e, fun j v hj => cell_below HB.out (hc j v hj)⟩
    | exact ⟨ad, e, fun j v hj => cell_below HB.out (hc j v hj)⟩
  case cf => have := HN.out; have := HL.out; have := Z0.out; rw [this]; omega
  intro W1 HG1 HB1
  have hle : l0.length ≤ n := by have := HN.out; omega
  go_wp2_with (refine wpList_copy_rows (w0 := w) rfl _ _ _ _ rfl 27 3 Try.underlying25 HI'.out _ _ _ _ _ _ rfl rfl w.heap.size cs0.length _ 27 HG1.out cs1 l1.length ?cm Z1.out ?cp ?cf Y1.out HB1.out (Nat.le_refl _) ?_)
  case cm => have := HN.out; show min _ _ = _; omega
  case cf =>
    have h1 := HN.out
    have h2 := HL.out
    have h3 := Z0.out
    have h4 := Z1.out
    rw [splr_length (by omega)]
    omega
  case cp.inl => exact fun hp => by have := HN.out; omega
  case cp.inr => exact fun hp => by
                   obtain ⟨ad, e, hc⟩ := X1.out hp
                   exact ⟨Z0.out.symm, ad, e, fun j v hj => cell_below HB1.out (hc j v hj)⟩
  all_goals
    intro W2 HG2 HB2
    have HL0 := HL.out
    have HZ0 := Z0.out
    have HZ1 := Z1.out
    have HN0 := HN.out
    have HF : W2.heap[w.heap.size]? = some (.cells (cs0 ++ cs1).toArray 27 (0, 0)) := by
      have hq := HG2.out
      rwa [splr_two (by omega)] at hq
    have HR : Kd.N k27 27 W2 w.heap.size (fun k_ => ((P0_ k_ ∨ P1_ k_) ∨ w.heap.size ≤ k_)) (.slice (some ⟨w.heap.size, 0, none⟩) (l0 ++ l1).length (l0 ++ l1).length) (l0 ++ l1) := by
      refine N_block (okp := fun k_ => P0_ k_ ∨ P1_ k_) HF (reps_app ⟨R0.out.1, fun j p hj => ?_⟩ ⟨R1.out.1, fun j p hj => ?_⟩) HB2.out (Nat.le_refl _) (Nat.le_refl _) (fun k_ hk => .inl hk) (.inr (Nat.le_refl _)) (by rw [List.length_append]; have := HZ.out; omega)
      · exact Kd.FK_mono (R0.out.2 j p hj) (fun k_ hk => .inl hk)
      · exact Kd.FK_mono (R1.out.2 j p hj) (fun k_ hk => .inr hk)
    have HR0 := Aside0.mk HR
    have HNN : n = (l0 ++ l1).length := by rw [List.length_append]; exact HN0
    clear HR HF HL0 HZ0 HZ1
    have HNN0 := Aside0.mk HNN
    clear HNN HN0
    go_wp2
    go_ret
    refine ⟨_, rfl, ?_, HB2.out⟩
    have h1 := HNN0.out
    have h2 := HR0.out
    rw [← h1] at h2
    first
    | exact h2
    | (rw [show n = l0.length by assumption] at h2; exact h2)

end Go.Proofs.Ytmdmoohkdkooaaa.M
