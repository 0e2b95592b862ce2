/- The functions of the program that these laws reach, each as a plain Lean function, and the proof that the machine's call comes to it; no condition beyond those that each theorem names. Made by wip/xprint.py. -/
import Derived.Test.YtmdmoohkdkooaaaMx0
import Derived.Test.YtmdmoohkdkooaaaMe1
import Derived.Test.YtmdmoohkdkooaaaMh
namespace Go.Proofs.Ytmdmoohkdkooaaa.M
open Go.RowKit Go.Proofs.YtmdmoohkdkooaaaW.PrintWords Go.Proofs.YtmdmoohkdkooaaaW.PrintLast Go.Proofs.YtmdmoohkdkooaaaW.PrintMore
attribute [local go_sem] max2_int min2_int max_two min_two max_three min_three max_four min_four   -- for this text's walks alone
set_option linter.unusedVariables false
set_option linter.unusedSimpArgs false
attribute [local go_sem high] eqA70

/-! ### marginalialaw07_copied: function 17: by hand -/
def marginalialaw07_copied.f (l0 : List S27) : Option (List S27) := if (l0.length + 2) * 48 ≤ 140737488355328 then some l0 else none
theorem N_own_nil {α : Type} {d : Kd α} {e base g n : Nat} {w : World} {ok : Nat → Prop} (h : w.ownsRow base e d.sz (.slice (some ⟨g, 0, none⟩) 0 n) 0 []) (hg : ok g) : Kd.N d e w base ok (.slice (some ⟨g, 0, none⟩) 0 n) [] :=
  ⟨fun k hk => by have : g = k := by simpa [Value.ownBlock] using hk
                  rw [← this]; exact hg, [], rfl, ⟨fun k hk => hk.symm, [], h, Reps.none _ _⟩, fun j x c hx => by simp at hx⟩
set_option maxHeartbeats 4000000 in
theorem marginalialaw07_copied.calls (P0_ : Nat → Prop) (A0 : Option Addr) (c0 : Nat) (l0 : List S27) (r : List S27) (w : World) (hs0 : Kd.V k27 27 w w.heap.size (fun k_ => P0_ k_) (.slice A0 l0.length c0) l0) (h : marginalialaw07_copied.f l0 = some r) :
    Calls Try.prog 17 #[.slice A0 l0.length c0] w fun e w' => ∃ v0_ : Value, e = .returned (v0_) ∧ Kd.N k27 27 w' w.heap.size (fun k_ => (P0_ k_ ∨ w.heap.size ≤ k_)) v0_ r ∧ Below w.heap.size w w' := by
  unfold marginalialaw07_copied.f at h
  have hsz : (l0.length + 2) * 48 ≤ 140737488355328 := Classical.byContradiction fun c => by rw [if_neg c] at h; cases h
  rw [if_pos hsz] at h
  obtain rfl := Option.some.inj h
  clear h
  have HS0 := Aside0.mk hs0
  have HZ := Aside0.mk hsz
  clear hs0 hsz
  obtain ⟨i, hi, hzz⟩ := Option.map_eq_some_iff.1 info27
  simp only [Prod.mk.injEq] at hzz
  obtain ⟨hz, hs, hb⟩ := hzz
  have HI := Aside0.mk hi
  have HZZ := Aside0.mk hz
  have HSS := Aside0.mk hs
  have HBB := Aside0.mk hb
  clear hi hz hs hb
  go_enter Try.func17, Try.ntmps17
  go_wp2_with (refine wpList_make_own _ rfl _ _ _ rfl w.heap.size 27 i _ 3 Try.underlying25 HI.out HZZ.out HSS.out _ _ _ (l0.length + 2) rfl rfl ?mm ?mb ?m63 (Nat.le_refl _) ?_)
  case mm => have := HZ.out; first | omega | (simp [wrap64]; omega)
  case mb => have := HZ.out; rw [HBB.out]; omega
  case m63 => have := HZ.out; simp [maxLen]; omega
  intro W ho hgr
  have HO := Aside0.mk (N_own_nil (d := k27) (ok := fun k_ => (P0_ k_ ∧ k_ < w.heap.size) ∨ w.heap.size ≤ k_) ho (.inr (Nat.le_refl _)))
  have HB := Aside0.mk (pw_below_grown (Below.refl w.heap.size w) none (Nat.le_refl _) hgr (fun k hk => by cases hk))
  have HF := Aside0.mk (Kd.F_below (Kd.F_bound (Kd.V_at HS0.out).2.2) HB.out)
  clear ho hgr
  go_wp2_with (refine Kd.N_append_rows k27 (w0 := w) w.heap.size rfl _ _ 25 27 _ _ rfl Try.underlying25 info27 rfl (by decide) (by omega) _ [] l0 _ _ _ (fun k_ => (P0_ k_ ∧ k_ < w.heap.size) ∨ w.heap.size ≤ k_) (fun k_ => P0_ k_ ∧ k_ < w.heap.size) rfl rfl HO.out HF.out ?a1 ?a2 HB.out HB.out.size ?a3 ?_)
  case a1 => exact fun k hk => ⟨.inl hk, fun he => by have hq := (show some k = some w.heap.size from he); injection hq with hq; omega⟩
  case a2 => exact fun k hk => .inr (Nat.le_trans HB.out.size hk)
  case a3 => have := HZ.out; simp; omega
  intro v1 w1 hN hB2 hg2 hat
  have HN := Aside0.mk hN
  have HB2 := Aside0.mk hB2
  clear hN hB2 hg2 hat
  go_wp2
  go_ret
  exact ⟨_, rfl, Kd.N_mono HN.out (fun k hk => hk.elim (fun h => .inl h.1) .inr), HB2.out⟩

end Go.Proofs.Ytmdmoohkdkooaaa.M
