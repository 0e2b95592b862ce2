/- The functions of the program that these laws reach, each as a plain Lean function, and the proof that the machine's call comes to it; no condition beyond those that each theorem names. Made by wip/xprint.py. -/
import Derived.Test.YtmdmoohkdkooaaaMx0
import Derived.Test.YtmdmoohkdkooaaaMf59
import Derived.Test.YtmdmoohkdkooaaaMh
namespace Go.Proofs.Ytmdmoohkdkooaaa.M
open Go.RowKit Go.Proofs.YtmdmoohkdkooaaaW.PrintWords Go.Proofs.YtmdmoohkdkooaaaW.PrintLast Go.Proofs.YtmdmoohkdkooaaaW.PrintMore
attribute [local go_sem] max2_int min2_int max_two min_two max_three min_three max_four min_four   -- for this text's walks alone
set_option linter.unusedVariables false
set_option linter.unusedSimpArgs false

/-! ### marks_Insert: function 29: by hand -/
/-- A row that was made just now, whatever its block; each element's own rows are elder. -/
theorem N_of_own {α : Type} {d : Kd α} {e base : Nat} {v : Value} {W w1 : World} {okp ok : Nat → Prop} {xs : List α} {cs : List Value} (ho : w1.ownsRow W.heap.size e d.sz v xs.length cs) (hrep : Reps (fun x c => Kd.FK d W okp x c) d.sz xs cs)
    (hg : W.grownBy w1 none) (hbase : base ≤ W.heap.size) (hok : ∀ k, okp k → ok k) (hfresh : ∀ k, W.heap.size ≤ k → ok k) : Kd.N d e w1 base ok v xs := by
  refine ⟨fun k hk => hfresh k (own_base ho k hk), Kd.chunks d.sz xs.length cs, Kd.chunks_length _ _ _, ⟨fun k hk => hk.symm, cs, ?_, ?_⟩, fun j x c hx hc => ?_⟩
  · rw [Kd.chunks_length]
    exact own_weaken ho hbase
  · exact Kd.reps_raw hrep (fun y c hk => ⟨d.K_len (Kd.FK_now hk), d.K_one (Kd.FK_now hk)⟩)
  · rw [Kd.chunks_get hc]
    refine Kd.FK_mono (Kd.FK_step (Kd.FK_bound (hrep.2 j x hx)) (fun k hk hlt => hg.block k hlt (by simp))) (fun k hk => ⟨hok k hk.1, fun he => ?_⟩)
    have := own_base ho k he.symm
    have := hk.2
    omega
theorem append_full_step {P : Program} {ops : Array Oper} {o : Oper} {a : Act} {Q : Exit → Act → World → Prop} {Kc : Act → World → Prop} {α : Type} (d : Kd α) {w0 W : World} (base : Nat) (hw : Region.wanted o (yielded ops a.tmps) = true) (s x : Operand) (t e : TypeId) (z : Value) (bytes : Nat)
    (ho : o.op = .call { callee := .builtin .append, args := #[s, x], argTypes := #[t, t] })
    (ht : P.underlying t = some (.slice e)) (hinfo : (P.info? e).map (fun i => (i.zero, i.size, i.bytes)) = some (some z, d.sz, bytes)) (hz : z.cells.size = d.sz) (hs0 : 0 < d.sz)
    (xs ys : List α) (A : Option Addr) (n : Nat) (B : Option Addr) (m c : Nat) (ok okp : Nat → Prop) (hs : a.eval s = .slice A n n) (hx : a.eval x = .slice B m c) (hm : 0 < m)
    (HX : Kd.V d e W base okp (.slice A n n) xs) (HY : Kd.V d e W base okp (.slice B m c) ys) (hokp : ∀ k, okp k → ok k) (hfresh : ∀ k, W.heap.size ≤ k → ok k)
    (HB : Below base w0 W) (hbase : base ≤ W.heap.size) (hl : (n + m) * bytes ≤ 140737488355328) (hl2 : n + m ≤ 1000000000000000)
    (h : ∀ v1 w1, Kd.N d e w1 base ok v1 (xs ++ ys) → Below base w0 w1 → Below W.heap.size W w1 → Kc (a.put o.dst v1) w1) :
    if Region.wanted o (yielded ops a.tmps) = true then Oper.wp P o a W Kc Q else Kc (a.put o.dst undef) W := by
  rw [if_pos hw]
  obtain ⟨i, hi, hzz⟩ := Option.map_eq_some_iff.1 hinfo
  simp only [Prod.mk.injEq] at hzz
  obtain ⟨hz1, hsz, hby⟩ := hzz
  have nx := (Kd.V_reads' HX).1
  have ny := (Kd.V_reads' HY).1
  obtain ⟨cx, lx, rx, ax, ox⟩ := V_cells HX
  obtain ⟨cy, ly, ry, ay, oy⟩ := V_cells HY
  obtain ⟨ad, rfl, hay⟩ := ay (by omega)
  have hrun : ∃ v' w', (Builtin.append_ #[t, t] o.type #[.slice A n n, .slice (some ad) m c]).run P W = .ok v' w' ∧ w'.ownsRow W.heap.size e d.sz v' (n + m) (cx ++ cy) ∧ W.grownBy w' none := by
    rcases Nat.eq_zero_or_pos n with h0 | hp
    · cases A with
      | some b =>
        have hcx : cx = [] := List.eq_nil_of_length_eq_zero (by rw [lx, ← nx, h0, Nat.zero_mul])
        exact run_append_arg_grows (P := P) W t o.type e i z d.sz bytes ht hi hz1 hsz hby hz hs0 b n n cx (by rw [lx, ← nx]) (fun j u hj => by rw [hcx] at hj; cases hj) ad m c cy (by rw [ly, ← ny]) hay (by omega) (by unfold maxLen; omega) hl
      | none =>
        have hcx : cx = [] := List.eq_nil_of_length_eq_zero (by rw [lx, ← nx, h0, Nat.zero_mul])
        subst h0
        subst hcx
        obtain ⟨v', w', hrun, r1, r2, _⟩ := run_append_own (P := P) W W.heap.size t o.type e i z d.sz bytes ht hi hz1 hsz hby hz hs0 (.slice none 0 0) 0 [] (World.ownsRow_nil W _ e d.sz) ad m c cy (by rw [ly, ← ny]) hay oy (by unfold maxLen; omega) hl (Nat.le_refl _)
        exact ⟨v', w', hrun, r1, r2⟩
    · obtain ⟨b, rfl, hax⟩ := ax (by omega)
      exact run_append_arg_grows (P := P) W t o.type e i z d.sz bytes ht hi hz1 hsz hby hz hs0 b n n cx (by rw [lx, ← nx]) hax ad m c cy (by rw [ly, ← ny]) hay (by omega) (by unfold maxLen; omega) hl
  obtain ⟨v', w', hrun, hown, hgr⟩ := hrun
  unfold Oper.wp
  simp [execOp, ho, resolve, invoke, builtin, hs, hx, hrun, Result.andThen]
  refine h v' w' (N_of_own (xs := xs ++ ys) (cs := cx ++ cy) (okp := okp) (by rw [List.length_append, ← nx, ← ny]; exact hown) (reps_app rx ry) hgr hbase hokp hfresh) (pw_below_grown HB none hbase hgr (fun k hk => by cases hk)) (pw_below_grown (Below.refl _ _) none (Nat.le_refl _) hgr (fun k hk => by cases hk))
theorem cut_max (P : Program) (t e : TypeId) (kh km : IntKind) {i : TypeInfo} (ht : P.underlying t = some (.slice e)) (hi : P.info? e = some i) (A : Option Addr) (n c q : Nat) (hm : q ≤ n) (hc : n ≤ c) :
    ∀ W : World, (Instr.slice t (.slice A n c) none (some (.int kh (q : Int))) (some (.int km (q : Int)))).run P W = .ok (.slice A q q) W := by
  intro W
  have hel : P.elem t = e := by simp [Program.elem, ht]
  have hu : P.underlying t = some (.slice (P.elem t)) := by rw [hel]; exact ht
  have ha : (A.map fun x => x.add 0) = A := by cases A <;> simp [Addr.add]
  have h1 : (q : Int) ≤ (c : Int) := by omega
  rw [run_slice_any W t A n c hu, hel]
  simp [Instr.sliceBounds, run_sliceBound, h1, sizeOf, typeInfo, hi, sliced, Result.andThen, ha]
def marks_Insert.f (l0 : List S27) (a1 : Int) (a2_0 : Int) (a2_1 : ByteArray) (l2_2 : List S70) : Option (List S27) :=
  if (l0.length + 1) * 48 ≤ 140737488355328 then some (l0.take (mn (mx a1 0) l0.length).toNat ++ (⟨a2_0, a2_1, l2_2⟩ : S27) :: l0.drop (mn (mx a1 0) l0.length).toNat) else none
set_option maxHeartbeats 4000000 in
theorem marks_Insert.calls (P0_ : Nat → Prop) (A0 : Option Addr) (c0 : Nat) (l0 : List S27) (a1 : Int) (a2_0 : Int) (a2_1 : ByteArray) (P2_2_ : Nat → Prop) (A2_2 : Option Addr) (c2_2 : Nat) (l2_2 : List S70) (r : List S27) (w : World) (hs0 : Kd.V k27 27 w w.heap.size (fun k_ => P0_ k_) (.slice A0 l0.length c0) l0) (hs2_2 : Kd.V k70 70 w w.heap.size (fun k_ => P2_2_ k_) (.slice A2_2 l2_2.length c2_2) l2_2) (h : marks_Insert.f l0 a1 a2_0 a2_1 l2_2 = some r) :
    Calls Try.prog 29 #[.slice A0 l0.length c0, .int .i64 a1, .agg #[.int .i64 a2_0, .string a2_1, .slice A2_2 l2_2.length c2_2]] w fun e w' => ∃ v0_ : Value, e = .returned (v0_) ∧ Kd.N k27 27 w' w.heap.size (fun k_ => ((P0_ k_ ∨ P2_2_ k_) ∨ w.heap.size ≤ k_)) v0_ r ∧ Below w.heap.size w w' := by
  unfold marks_Insert.f at h
  have hsz : (l0.length + 1) * 48 ≤ 140737488355328 := Classical.byContradiction fun c => by rw [if_neg c] at h; cases h
  rw [if_pos hsz] at h
  obtain rfl := Option.some.inj h
  clear h
  obtain ⟨q, hq⟩ : ∃ q : Nat, q = (mn (mx a1 0) l0.length).toNat := ⟨_, rfl⟩
  have hqi : mn (mx a1 0) l0.length = (q : Int) := by rw [hq]; unfold mn mx; split <;> split <;> omega
  have hql : q ≤ l0.length := by have : mn (mx a1 0) l0.length ≤ l0.length := by unfold mn; split <;> omega
                                 omega
  rw [← hq]
  have hq3 : (a1 < 0 → (0 : Int) = (q : Int)) ∧ (0 ≤ a1 → a1 ≤ (l0.length : Int) → a1 = (q : Int)) ∧ ((l0.length : Int) < a1 → (l0.length : Int) = (q : Int)) := by
    unfold mn mx at hqi
    split at hqi <;> split at hqi <;> omega
  have hcap : l0.length ≤ c0 := (Kd.V_reads' hs0).2.1
  have hb1 := (Below.refl w.heap.size w).alloc (Nat.le_refl _) (.cells #[.int .i64 a2_0, .string a2_1, .slice A2_2 l2_2.length c2_2] 27)
  have HV0 := Aside0.mk (Kd.V_drew (Kd.V_alloc (Kd.V_mono (ok' := fun k_ => (P0_ k_ ∨ P2_2_ k_) ∨ w.heap.size ≤ k_) hs0 (fun k_ hk => .inl (.inl hk))) (.cells #[.int .i64 a2_0, .string a2_1, .slice A2_2 l2_2.length c2_2] 27)))
  have HV2 := Aside0.mk (Kd.V_drew (Kd.V_alloc (Kd.V_mono (ok' := fun k_ => (P0_ k_ ∨ P2_2_ k_) ∨ w.heap.size ≤ k_) hs2_2 (fun k_ hk => .inl (.inr hk))) (.cells #[.int .i64 a2_0, .string a2_1, .slice A2_2 l2_2.length c2_2] 27)))
  have BK := Aside0.mk (blk_drew (blk_new w (.cells #[.int .i64 a2_0, .string a2_1, .slice A2_2 l2_2.length c2_2] 27)))
  have HB := Aside0.mk (below_drew1 hb1)
  have HZ := Aside0.mk hsz
  have HQ3 := Aside0.mk hq3
  obtain ⟨i0, hi0, _, hsz0, _⟩ := info_parts info27
  have hcutM := cut_max Try.prog 25 27 .i64 .i64 Try.underlying25 hi0 A0 l0.length c0 q hql hcap
  have hcutF := cut_from (P := Try.prog) 25 27 .i64 Try.underlying25 hi0 3 hsz0 A0 l0.length c0 (q : Int) (by omega) (by omega)
  rw [Int.toNat_natCast] at hcutF
  obtain ⟨A14, hA14⟩ : ∃ A1, A1 = (if c0 = q then A0 else (A0 : Option Addr).map (·.add (q * 3))) := ⟨_, rfl⟩
  rw [← hA14] at hcutF
  have KA14 := Aside0.mk hA14
  have KQL := Aside0.mk hql
  have KCAP := Aside0.mk hcap
  clear hs0 hs2_2 hq hqi hq3 hsz hcap hb1 hi0 hsz0 hA14 hql
  go_enter Try.func29, Try.ntmps29
  go_wp2
  case' inr.inl => rw [HQ3.out.1 h]
  case' inr.inr => rename ite _ _ _ ≤ _ => hh; rw [if_neg (by omega)] at hh; rw [HQ3.out.2.1 h hh]; clear hh
  case' inl.inr => rename _ < ite _ _ _ => hh; rw [if_neg (by omega)] at hh; rw [HQ3.out.2.2 hh]; clear hh
  all_goals
    refine start_ (n := 12) (S := fun w' => w'.cell? ⟨w.heap.size, 0, none⟩ = some (.int .i64 a2_0) ∧ w'.cell? ⟨w.heap.size, 1, none⟩ = some (.string a2_1) ∧ w'.cell? ⟨w.heap.size, 2, none⟩ = some (.slice A2_2 l2_2.length c2_2)) (ds := []) #[false, false, false, false, false, false, false, false, false, false, false, false] (by kernel_rfl) rfl rfl ⟨(blk_cell BK.out 0).trans rfl, (blk_cell BK.out 1).trans rfl, (blk_cell BK.out 2).trans rfl⟩ (fun hHeld => ?_)
    generalize (w.alloc (Obj.cells #[Value.int IntKind.i64 a2_0, Value.string a2_1, Value.slice A2_2 l2_2.length c2_2] 27)).drew = W at HV0 HV2 BK HB hHeld ⊢
    refine pure_ (i := 0) (N := some 12) (v := ?_) (a' := ?_) #[true, false, false, false, false, false, false, false, false, false, false, false] rfl rfl (by kernel_rfl) (fun _ _ _ h => h) (Or.inl ⟨by rfl, ?_⟩) ?_ ?_
    rotate_left
    · intro w'
      go_simp
      with_reducible rfl
    rotate_left
    · simp only [Act.put, List.setIfInBounds_toArray, List.set_cons_zero, List.set_cons_succ, i64_w, i32_w]
      rfl
    refine pure_ (i := 1) (N := some 13) (v := ?_) (a' := ?_) #[true, true, false, false, false, false, false, false, false, false, false, false] rfl rfl (by kernel_rfl) (fun _ _ _ h => h) (Or.inl ⟨by rfl, ?_⟩) ?_ ?_
    rotate_left
    · intro w'
      go_simp
      with_reducible rfl
    rotate_left
    · simp only [Act.put, List.setIfInBounds_toArray, List.set_cons_zero, List.set_cons_succ, i64_w, i32_w]
      rfl
    refine pure_ (i := 2) (N := some 14) (v := ?_) (a' := ?_) #[true, true, true, false, false, false, false, false, false, false, false, false] rfl rfl (by kernel_rfl) (fun _ _ _ h => h) (Or.inl ⟨by rfl, ?_⟩) ?_ ?_
    rotate_left
    · intro w'
      go_simp
      with_reducible rfl
    rotate_left
    · simp only [Act.put, List.setIfInBounds_toArray, List.set_cons_zero, List.set_cons_succ, i64_w, i32_w]
      rfl
    refine pure_ (i := 3) (N := some 15) (v := ?_) (a' := ?_) #[true, true, true, true, false, false, false, false, false, false, false, false] rfl rfl (by kernel_rfl) (fun _ _ _ h => h) (Or.inl ⟨by rfl, ?_⟩) ?_ ?_
    rotate_left
    · intro w'
      go_simp
      with_reducible rfl
    rotate_left
    · simp only [Act.put, List.setIfInBounds_toArray, List.set_cons_zero, List.set_cons_succ, i64_w, i32_w]
      rfl
    refine pure_ (i := 7) (N := some 19) (v := ?_) (a' := ?_) #[true, true, true, true, false, false, false, true, false, false, false, false] rfl rfl (by kernel_rfl) (fun _ _ _ h => h) (Or.inl ⟨by rfl, ?_⟩) ?_ ?_
    rotate_left
    · intro w'
      go_simp
      with_reducible rfl
    rotate_left
    · simp only [Act.put, List.setIfInBounds_toArray, List.set_cons_zero, List.set_cons_succ, i64_w, i32_w]
      rfl
    refine pure_ (i := 8) (N := some 20) (v := ?_) (a' := ?_) #[true, true, true, true, false, false, false, true, true, false, false, false] rfl rfl (by kernel_rfl) (fun _ _ _ h => h) (Or.inl ⟨by rfl, ?_⟩) ?_ ?_
    rotate_left
    · intro w'
      go_simp
      with_reducible rfl
    rotate_left
    · simp only [Act.put, List.setIfInBounds_toArray, List.set_cons_zero, List.set_cons_succ, i64_w, i32_w]
      rfl
    refine pure_ (i := 9) (N := some 21) (v := ?_) (a' := ?_) #[true, true, true, true, false, false, false, true, true, true, false, false] rfl rfl (by kernel_rfl) (fun _ _ _ h => h) (Or.inl ⟨by rfl, ?_⟩) ?_ ?_
    rotate_left
    · intro w'
      go_simp
      with_reducible rfl
    rotate_left
    · simp only [Act.put, List.setIfInBounds_toArray, List.set_cons_zero, List.set_cons_succ, i64_w, i32_w]
      rfl
    refine take_ (i := 4) (N := some 16) (v := ?_) (a' := ?_) #[true, true, true, true, true, false, false, true, true, true, false, false] rfl rfl (by kernel_rfl) (fun _ _ _ h => h) (Or.inl ⟨by rfl, ?_⟩) hHeld ?_ ?_
    rotate_left
    · rintro w' ⟨s0, s1, s2⟩
      go_simp
      with_reducible rfl
    rotate_left
    · simp only [Act.put, List.setIfInBounds_toArray, List.set_cons_zero, List.set_cons_succ, i64_w, i32_w]
      rfl
    refine one_ (i := 5) (N := some 17) #[true, true, true, true, true, true, false, true, true, true, false, false] rfl rfl (by kernel_rfl) (by decide) (fun K hK => ?_)
    refine Kd.N_lit_step k27 (w0 := w) w.heap.size 27 ?hg (N' := 17) ?hd (xs := ([(⟨a2_0, a2_1, l2_2⟩ : S27)] : List (S27))) (inner := [.int .i64 a2_0, .string a2_1, .slice A2_2 l2_2.length c2_2]) (ok := (fun k_ => (P0_ k_ ∨ P2_2_ k_) ∨ w.heap.size ≤ k_)) (okp := (fun k_ => (P0_ k_ ∨ P2_2_ k_) ∨ w.heap.size ≤ k_)) ?hr ?hp (fun _ hk => hk) (.inr HB.out.size) HB.out HB.out.size (by simp) ?_
    (case hd => rfl)
    (case hg => rfl)
    (case hr => first | (go_simp; done) | (go_simp; rfl))
    (case hp => exact (Reps.c3 (show Kd.FK k27 _ _ (⟨a2_0, a2_1, l2_2⟩ : S27) [.int .i64 a2_0, .string a2_1, .slice A2_2 l2_2.length c2_2] from (k27_mkF _ _ (⟨a2_0, a2_1, l2_2⟩ : S27) (Kd.V_reads' HV2.out).2.1 (Kd.V_F HV2.out))) (Reps.none _ _)))
    intro v1 W1 hN1 hb1 hg1 hat1
    have hbW : Below W.heap.size W W1 := pw_below_grown (Below.refl _ _) none (Nat.le_refl _) hg1 (fun k hk => by cases hk)
    have HV0a := Aside0.mk (Kd.V_below HV0.out hbW)
    have BKa := Aside0.mk (blk_below BK.out hbW)
    have HBa := Aside0.mk hb1
    have HN1 := Aside0.mk hN1
    clear HV0 HV2 BK HB hHeld hN1 hb1 hg1 hat1 hbW
    refine hK.out _ _ ⟨(blk_cell BKa.out 0).trans rfl, (blk_cell BKa.out 1).trans rfl, (blk_cell BKa.out 2).trans rfl⟩ (fun hHeld => ?_)
    clear hK K
    refine norm_ (a' := ?_) ?_ ?_
    rotate_left
    · show Act.put _ (some 17) _ = _
      simp only [Act.put, List.setIfInBounds_toArray, List.set_cons_zero, List.set_cons_succ, i64_w, i32_w]
      rfl
    obtain ⟨B1, c1, eB⟩ := Kd.N_slice HN1.out
    subst eB
    have hF0 := Kd.F_take (m := q) (Kd.V_at (base := w.heap.size) HV0a.out).2.2 KQL.out
    have hlen : (l0.take q).length = q := by rw [List.length_take]; have := KQL.out; omega
    have hVt : Kd.V k27 27 W1 w.heap.size (fun k_ => (P0_ k_ ∨ P2_2_ k_) ∨ w.heap.size ≤ k_) (.slice A0 q q) (l0.take q) := by
      have := Kd.V_mk (e := 27) (base := w.heap.size) (c := q) (by omega) hF0
      rwa [hlen] at this
    have hVm : Kd.V k27 27 W1 w.heap.size (fun k_ => (P0_ k_ ∨ P2_2_ k_) ∨ w.heap.size ≤ k_) (.slice B1 [(⟨a2_0, a2_1, l2_2⟩ : S27)].length c1) [(⟨a2_0, a2_1, l2_2⟩ : S27)] := Kd.V_mk (Kd.N_reads' HN1.out).2.1 (Kd.N_F HN1.out)
    have HVT := Aside0.mk hVt
    have HVM := Aside0.mk hVm
    clear hF0 hlen hVt hVm
    refine one_ (i := 6) (N := some 18) #[true, true, true, true, true, true, true, true, true, true, false, false] rfl rfl (by kernel_rfl) (by decide) (fun K hK => ?_)
    refine append_full_step k27 (w0 := w) w.heap.size (by rfl) (.tmp 15) (.tmp 17) 25 27 (.agg #[(.int .i64 0), (.string ⟨#[]⟩), (.slice none 0 0)]) 48 rfl Try.underlying25 info27 rfl (by decide) (l0.take q) [(⟨a2_0, a2_1, l2_2⟩ : S27)] A0 q B1 1 c1 (fun k_ => (P0_ k_ ∨ P2_2_ k_) ∨ w.heap.size ≤ k_) (fun k_ => (P0_ k_ ∨ P2_2_ k_) ∨ w.heap.size ≤ k_) rfl rfl (by decide) HVT.out HVM.out (fun _ hk => hk) (fun k hk => .inr (Nat.le_trans HBa.out.size hk)) HBa.out HBa.out.size ?a1 ?a2 ?_
    (case a1 => have := HZ.out; have := KQL.out; omega)
    (case a2 => have := HZ.out; have := KQL.out; omega)
    intro v2 W2 hN2 hb2 hbW2
    have HV0b := Aside0.mk (Kd.V_below HV0a.out hbW2)
    have BKb := Aside0.mk (blk_below BKa.out hbW2)
    have HBb := Aside0.mk hb2
    have HN2 := Aside0.mk hN2
    clear HV0a BKa HBa HN1 HVT HVM hHeld hN2 hb2 hbW2
    refine hK.out _ _ ⟨(blk_cell BKb.out 0).trans rfl, (blk_cell BKb.out 1).trans rfl, (blk_cell BKb.out 2).trans rfl⟩ (fun hHeld => ?_)
    clear hK K
    refine norm_ (a' := ?_) ?_ ?_
    rotate_left
    · show Act.put _ (some 18) _ = _
      simp only [Act.put, List.setIfInBounds_toArray, List.set_cons_zero, List.set_cons_succ, i64_w, i32_w]
      rfl
    obtain ⟨B2, c2, eB⟩ := Kd.N_slice HN2.out
    subst eB
    have hF1 := Kd.F_cut (m := q) (c := c0) (Kd.V_at (base := w.heap.size) HV0b.out).2.2 KQL.out KCAP.out
    have hdl : (l0.drop q).length = l0.length - q := List.length_drop
    have hVd : Kd.V k27 27 W2 w.heap.size (fun k_ => (P0_ k_ ∨ P2_2_ k_) ∨ w.heap.size ≤ k_) (.slice A14 (l0.drop q).length (c0 - q)) (l0.drop q) := Kd.V_mk (by rw [hdl]; have := KCAP.out; omega) (by rw [KA14.out]; exact hF1)
    have hVn : Kd.V k27 27 W2 w.heap.size (fun k_ => (P0_ k_ ∨ P2_2_ k_) ∨ w.heap.size ≤ k_) (.slice B2 (l0.take q ++ [(⟨a2_0, a2_1, l2_2⟩ : S27)]).length c2) (l0.take q ++ [(⟨a2_0, a2_1, l2_2⟩ : S27)]) := Kd.V_mk (Kd.N_reads' HN2.out).2.1 (Kd.N_F HN2.out)
    have HVD := Aside0.mk hVd
    have HVN := Aside0.mk hVn
    have HDL := Aside0.mk hdl
    have hj : marks_joined.f (l0.take q ++ [(⟨a2_0, a2_1, l2_2⟩ : S27)]) (l0.drop q) = some (l0.take q ++ (⟨a2_0, a2_1, l2_2⟩ : S27) :: l0.drop q) := by
      rw [marks_joined.f, if_pos (by have := HZ.out; have := KQL.out; rw [List.length_append, List.length_take, List.length_drop, List.length_singleton]; omega), List.append_assoc]
      rfl
    have HJ := Aside0.mk hj
    clear hF1 hdl hVd hVn hj
    refine one_ (i := 10) (N := some 22) #[true, true, true, true, true, true, true, true, true, true, true, false] rfl rfl (by kernel_rfl) (by decide) (fun K hK => ?_)
    refine goes_ Try.func59 (by kernel_rfl) rfl #[.slice B2 (l0.take q ++ [(⟨a2_0, a2_1, l2_2⟩ : S27)]).length c2, .slice A14 (l0.drop q).length (c0 - q)] (by rfl) rfl rfl (by (try simp only [List.map_toArray, List.map_cons, List.map_nil]); first | done | rfl | (simp only [List.length_drop]; rfl) | (rw [HDL.out]; rfl)) ?_
    refine (marks_joined.calls (fun k_ => (P0_ k_ ∨ P2_2_ k_) ∨ w.heap.size ≤ k_) _ _ _ (fun k_ => (P0_ k_ ∨ P2_2_ k_) ∨ w.heap.size ≤ k_) _ _ _ _ _ HVN.out HVD.out HJ.out).mono ?_
    rintro e W3 ⟨v3, rfl, hN3, hb3⟩
    refine ⟨_, rfl, ?_⟩
    have BKc := Aside0.mk (blk_below BKb.out hb3)
    have HBc := Aside0.mk (below_step HBb.out hb3)
    have HN3 := Aside0.mk (Kd.N_lower (Kd.N_mono (ok' := fun k_ => (P0_ k_ ∨ P2_2_ k_) ∨ w.heap.size ≤ k_) hN3 (fun k_ hk => hk.elim (fun h => h.elim id id) (fun h => .inr (Nat.le_trans HBb.out.size h)))) HBb.out.size)
    clear HV0b BKb HBb HN2 HVD HVN hHeld hN3 hb3 HJ
    refine hK.out _ _ ⟨(blk_cell BKc.out 0).trans rfl, (blk_cell BKc.out 1).trans rfl, (blk_cell BKc.out 2).trans rfl⟩ (fun hHeld => ?_)
    clear hK K
    refine norm_ (a' := ?_) ?_ ?_
    rotate_left
    · show Act.put _ (some 22) _ = _
      simp only [Act.put, List.setIfInBounds_toArray, List.set_cons_zero, List.set_cons_succ, i64_w, i32_w]
      rfl
    refine pure_ (i := 11) (N := some 6) (v := ?_) (a' := ?_) #[true, true, true, true, true, true, true, true, true, true, true, true] rfl rfl (by kernel_rfl) (fun _ _ _ h => h) (Or.inl ⟨by rfl, ?_⟩) ?_ ?_
    rotate_left
    · intro w'
      go_simp
      with_reducible rfl
    rotate_left
    · simp only [Act.put, List.setIfInBounds_toArray, List.set_cons_zero, List.set_cons_succ, i64_w, i32_w]
      rfl
    refine done_ (by kernel_rfl) ?_
    try go_wp2
    go_ret
    exact ⟨_, rfl, HN3.out, HBc.out⟩

end Go.Proofs.Ytmdmoohkdkooaaa.M
