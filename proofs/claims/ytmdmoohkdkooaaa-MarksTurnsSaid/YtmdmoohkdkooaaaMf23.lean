/- The functions of the program that these laws reach, each as a plain Lean function, and the proof that the machine's call comes to it; no condition beyond those that each theorem names. Made by wip/xprint.py. -/
import Derived.Test.YtmdmoohkdkooaaaMx0
import Derived.Test.YtmdmoohkdkooaaaMh
namespace Go.Proofs.Ytmdmoohkdkooaaa.M
open Go.RowKit Go.Proofs.YtmdmoohkdkooaaaW.PrintWords Go.Proofs.YtmdmoohkdkooaaaW.PrintLast Go.Proofs.YtmdmoohkdkooaaaW.PrintMore
attribute [local go_sem] max2_int min2_int max_two min_two max_three min_three max_four min_four   -- for this text's walks alone
set_option linter.unusedVariables false
set_option linter.unusedSimpArgs false

/-! ### marks_Find: function 23: by hand -/
def marks_Find.idx (id : Int) (l : List S27) : Int := if l.any (fun x => x.f0 == id) = true then (l.findIdx (fun x => x.f0 == id) : Int) else -1
theorem marks_Find.idx_at {id : Int} {l : List S27} {k : Nat} (hk : k < l.length) (h0 : ∀ j, j < k → (rd_T27 l (j : Int)).f0 ≠ id) (h1 : (rd_T27 l (k : Int)).f0 = id) : marks_Find.idx id l = k := by
  have e : ∀ j, (hj : j < l.length) → rd_T27 l (j : Int) = l[j] := fun j hj => by unfold rd_T27; rw [Int.toNat_natCast, List.getD_eq_getElem?_getD, List.getElem?_eq_getElem hj]; rfl
  have ha : l.any (fun x => x.f0 == id) = true := by
    rw [List.any_eq_true]
    exact ⟨l[k], List.getElem_mem _, by rw [← e k hk]; simpa using h1⟩
  unfold marks_Find.idx
  rw [if_pos ha]
  congr 1
  rw [List.findIdx_eq hk]
  refine ⟨by rw [← e k hk]; simpa using h1, fun j hj => ?_⟩
  have := h0 j hj
  rw [e j (by omega)] at this
  simpa using this
theorem marks_Find.idx_none {id : Int} {l : List S27} (h0 : ∀ j, j < l.length → (rd_T27 l (j : Int)).f0 ≠ id) : marks_Find.idx id l = -1 := by
  have e : ∀ j, (hj : j < l.length) → rd_T27 l (j : Int) = l[j] := fun j hj => by unfold rd_T27; rw [Int.toNat_natCast, List.getD_eq_getElem?_getD, List.getElem?_eq_getElem hj]; rfl
  have ha : l.any (fun x => x.f0 == id) = false := by
    rw [List.any_eq_false]
    intro x hx
    obtain ⟨j, hj, rfl⟩ := List.mem_iff_getElem.1 hx
    have := h0 j hj
    rw [e j hj] at this
    simpa using this
  unfold marks_Find.idx
  rw [ha]
  rfl
theorem marks_Find.clos (g : Nat) (id a0 : Int) (a1 : ByteArray) (v2 : Value) (w : World) (hg : w.heap[g]? = some (.cells #[.int .i64 id] 3 (0, 0))) (hv : v2.oneCell' = true) :
    Calls Try.prog 57 #[.agg #[.int .i64 a0, .string a1, v2], .pointer (some ⟨g, 0, none⟩)] w fun e w' => e = .returned (.bool (a0 == id)) ∧ Below w.heap.size w w' := by
  have hc : w.cell? ⟨g, 0, none⟩ = some (.int .i64 id) := (blk_cell hg 0).trans rfl
  have hlt := blk_lt hg
  have hc2 : ∀ o, (w.alloc o).cell? ⟨g, 0, none⟩ = some (.int .i64 id) := fun o => (blk_cell (blk_alloc hg o) 0).trans rfl
  go_enter Try.func57, Try.ntmps57
  go_wp2
  go_ret
  exact ⟨rfl, (Below.refl _ _).alloc (Nat.le_refl _) _⟩
set_option maxHeartbeats 2000000 in
theorem marks_Find.index (g : Nat) (id : Int) (A0 : Option Addr) (c0 : Nat) (l0 : List S27) (w : World) (hr0 : Kd.C k27 w A0 l0.length l0) (hg : w.heap[g]? = some (.cells #[.int .i64 id] 3 (0, 0))) :
    Calls Try.prog 56 #[.slice A0 l0.length c0, .func (.func 57) #[] #[.pointer (some ⟨g, 0, none⟩)]] w fun e w' => e = .returned (.int .i64 (marks_Find.idx id l0)) ∧ Below w.heap.size w w' := by
  have HR0 := Aside0.mk hr0
  have hm := Kd.C_max hr0
  have HG := Aside0.mk hg
  clear hr0 hg
  go_enter Try.func56, Try.ntmps56
  go_wp2
  go_loopw [8] (fun v8 wr => ∃ k : Nat, k ≤ l0.length ∧ v8 = .int .i64 k ∧ Aside0 (∀ j, j < k → (rd_T27 l0 (j : Int)).f0 ≠ id) ∧ Aside0 (Below w.heap.size w wr)) (fun v8 _ => l0.length - (intOf v8).toNat)
  case atStart => exact ⟨0, Nat.zero_le _, rfl, ⟨fun j hj => absurd hj (Nat.not_lt_zero _)⟩, ⟨Below.refl _ _⟩⟩
  case round =>
    obtain ⟨k, hk, rfl, H0, HB⟩ := hrel
    by_cases hlt : k < l0.length
    · obtain ⟨ad, A2, c2, ea, hx0, hx1, hx2, _, _⟩ := at_T27 (Kd.C_below HR0.out HB.out) (k : Int) (by omega) (by omega)
      cases ea
      simp only [Int.toNat_natCast] at hx0 hx1 hx2
      have hlt' : decide (k < l0.length) = true := decide_eq_true hlt
      have hgr : wr.heap[g]? = some (.cells #[.int .i64 id] 3 (0, 0)) := (HB.out.block g (blk_lt HG.out)).trans HG.out
      have HGR := Aside0.mk hgr
      clear hgr
      by_cases hz : (rd_T27 l0 (k : Int)).f0 = id
      · have hzb : ((rd_T27 l0 (k : Int)).f0 == id) = true := by simp [hz]
        have H1 := Aside0.mk (marks_Find.idx_at hlt H0.out hz)
        clear hz
        go_wp2_with (go_at_call 57; refine (marks_Find.clos g id _ _ _ _ HGR.out rfl).mono ?_; rintro e w' ⟨rfl, hb⟩; have HB1 := Aside0.mk (below_step HB.out hb); clear hb)
        go_ret
        exact ⟨by rw [H1.out]; rfl, HB1.out⟩
      · have hzb : ((rd_T27 l0 (k : Int)).f0 == id) = false := by simp [hz]
        have H1 : Aside0 (∀ j, j < k + 1 → (rd_T27 l0 (j : Int)).f0 ≠ id) := ⟨fun j hj => by
          by_cases e : j = k
          · subst e; exact hz
          · exact H0.out j (by omega)⟩
        clear hz
        go_wp2_with (go_at_call 57; refine (marks_Find.clos g id _ _ _ _ HGR.out rfl).mono ?_; rintro e w' ⟨rfl, hb⟩; have HB1 := Aside0.mk (below_step HB.out hb); clear hb)
        go_roundw
        case rel => exact ⟨k + 1, by omega, by go_num, H1, HB1⟩
        case measure => simp [intOf]; omega
    · have hlt' : decide (k < l0.length) = false := decide_eq_false hlt
      have H1 := Aside0.mk (marks_Find.idx_none (l := l0) (fun j hj => H0.out j (by omega)))
      go_wp2
      go_ret
      exact ⟨by rw [H1.out]; rfl, HB.out⟩
def marks_Find.f (l0 : List S27) (a1 : Int) : Option Int := some (marks_Find.idx a1 l0)
set_option maxHeartbeats 1000000 in
theorem marks_Find.calls (A0 : Option Addr) (c0 : Nat) (l0 : List S27) (a1 : Int) (r : Int) (w : World) (hr0 : Kd.C k27 w A0 l0.length l0) (hc0 : l0.length ≤ c0) (h : marks_Find.f l0 a1 = some r) :
    Calls Try.prog 23 #[.slice A0 l0.length c0, .int .i64 a1] w fun e w' => e = .returned (.int .i64 r) ∧ Below w.heap.size w w' := by
  obtain rfl := Option.some.inj h
  clear h
  have HR0 := Aside0.mk (Kd.C_alloc hr0 (.cells #[.int .i64 a1] 3))
  have HG := Aside0.mk (blk_new w (.cells #[.int .i64 a1] 3))
  clear hr0
  go_enter Try.func23, Try.ntmps23
  go_wp2_with (go_at_call 56; refine (marks_Find.index w.heap.size a1 _ _ l0 _ HR0.out HG.out).mono ?_; rintro e w' ⟨rfl, hb⟩; have HB1 := Aside0.mk (below_step ((Below.refl _ _).alloc (Nat.le_refl _) _) hb); clear hb)
  go_ret
  exact ⟨rfl, HB1.out⟩

end Go.Proofs.Ytmdmoohkdkooaaa.M
