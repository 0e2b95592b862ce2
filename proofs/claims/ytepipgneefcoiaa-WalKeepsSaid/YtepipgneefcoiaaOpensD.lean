/- The functions of the program that these laws reach, each as a plain Lean function, and the proof that the machine's call comes to it; no condition beyond those that each theorem names. Made by wip/xprint.py. -/
import Derived.Test.YtepipgneefcoiaaDx0
import Derived.Deep.Fields
namespace Go.Proofs.Ytepipgneefcoiaa.D
open Go.RowKit Go.Proofs.YtepipgneefcoiaaW.PrintWords Go.Proofs.YtepipgneefcoiaaW.PrintLast Go.Proofs.YtepipgneefcoiaaW.PrintMore
set_option linter.unusedVariables false
/-! ### arguments with depth: what can be read as data is read as a value of its kind -/
section
variable {H : Type} {enc : TypeId × Value → H} {P : Program} {w : World} {α β : Type}
/-- Whatever of this type can be read is a value of this kind, and its leaves are in range. -/
def Opens (enc : TypeId × Value → H) (P : Program) (w : World) (t : TypeId) (d : Kd α) (wf : α → Prop) : Prop :=
  ∀ (fuel : Nat) (cs : List Value) (x : DataW H × List MemPlace), DataW.trod enc P w 0 (fun _ => true) true fuel t cs = some x → ∃ a, d.K w a cs ∧ wf a
theorem opens_int {t : TypeId} {k : IntKind} (h : P.underlying t = some (.int k)) : Opens enc P w t (Kd.int k) (fun n => (Lit.int k n).wf = true) := fun fuel cs x hx => by
  obtain ⟨n, rfl, _, hw⟩ := DataW.trod_int h hx
  exact ⟨n, rfl, hw⟩
theorem opens_bool {t : TypeId} (h : P.underlying t = some .bool) : Opens enc P w t Kd.bool (fun _ => True) := fun fuel cs x hx => by
  obtain ⟨n, rfl, _⟩ := DataW.trod_bool h hx
  exact ⟨n, rfl, trivial⟩
theorem opens_string {t : TypeId} (h : P.underlying t = some .string) : Opens enc P w t Kd.string (fun s => s.size ≤ maxLen) := fun fuel cs x hx => by
  obtain ⟨n, rfl, _, hw⟩ := DataW.trod_string h hx
  exact ⟨n, rfl, hw⟩
def WfL (wf : α → Prop) (xs : List α) : Prop := xs.length ≤ maxLen ∧ ∀ x ∈ xs, wf x
theorem opens_slice {t e : TypeId} {d : Kd α} {wf : α → Prop} (ht : P.underlying t = some (.slice e)) (hz : P.cellsOf e = d.sz) (he : Opens enc P w e d wf) : Opens enc P w t (Kd.slice e d) (WfL wf) := fun fuel cs x hx => by
  rcases DataW.trod_slice ht hx with ⟨rfl, _⟩ | ⟨a, len, cap, elems, rest, n, _, rfl, _, _, hl, hm, hlen, hel, _, _⟩
  · exact ⟨[], ⟨none, 0, rfl, Nat.le_refl _, rfl, by simp, fun h => absurd h (Nat.lt_irrefl 0)⟩, by unfold maxLen; simp, fun x hx => by cases hx⟩
  · have hone : ∀ i, i < len → ∃ v : α, wf v ∧ ∃ c, c.length = d.sz ∧ d.K w v c ∧ ∀ j u, c[j]? = some u → w.cell? (a.add (i * d.sz + j)) = some u := fun i hi => by
      have h1 := hel i hi
      rw [List.getElem?_eq_getElem (by omega), Option.bind_eq_some_iff] at h1
      obtain ⟨c, hc, hy⟩ := h1
      obtain ⟨v, hK, hwf⟩ := he _ _ _ hy
      obtain ⟨_, hcl, hat⟩ := World.cells?_some hc
      refine ⟨v, hwf, c, by rw [hcl, hz], hK, fun j u hj => ?_⟩
      have hjl : j < c.length := (List.getElem?_eq_some_iff.1 hj).1
      have h2 := hat j (by omega)
      rw [hz, Go.Deep.add_add] at h2
      rw [h2]
      exact hj
    obtain ⟨xs, hxl, hxs⟩ : ∃ xs : List α, xs.length = len ∧ ∀ i (hi : i < len), ∃ v, xs[i]? = some v ∧ wf v ∧ ∃ c, c.length = d.sz ∧ d.K w v c ∧ ∀ j u, c[j]? = some u → w.cell? (a.add (i * d.sz + j)) = some u := by
      refine ⟨(List.finRange len).map fun i => Classical.choose (hone i.1 i.2), by simp, fun i hi => ⟨Classical.choose (hone i hi), ?_, Classical.choose_spec (hone i hi)⟩⟩
      simp [hi]
    refine ⟨xs, ⟨some a, cap, by rw [hxl], by omega, rfl, ?_, fun _ => ⟨a, rfl, fun j p hj => ?_⟩⟩, by omega, fun v hv => ?_⟩
    · unfold maxLen at hm; omega
    · have hjl : j < len := by have := (List.getElem?_eq_some_iff.1 hj).1; omega
      obtain ⟨v, hv, _, hc⟩ := hxs j hjl
      rw [hj] at hv
      injection hv with hv
      subst hv
      exact hc
    · obtain ⟨i, hi⟩ := List.getElem?_of_mem hv
      have hil : i < len := by have := (List.getElem?_eq_some_iff.1 hi).1; omega
      obtain ⟨v', hv', hw, _⟩ := hxs i hil
      rw [hi] at hv'
      injection hv' with hv'
      subst hv'
      exact hw
/-- A struct's fields from a place on. -/
def OpensF (enc : TypeId × Value → H) (P : Program) (w : World) (fs : List Field) (off : Nat) (d : Kd α) (wf : α → Prop) : Prop :=
  ∀ (n : Nat) (cs : List Value), (∀ f ∈ fs, ∃ y, DataW.trod enc P w 0 (fun _ => true) true n f.type ((cs.drop f.offset).take (P.cellsOf f.type)) = some y) → cs.length = off + d.sz → ∃ a, d.K w a (cs.drop off) ∧ wf a
theorem opensF_one {f : Field} {off : Nat} {d : Kd α} {wf : α → Prop} (ho : f.offset = off) (hz : P.cellsOf f.type = d.sz) (h : Opens enc P w f.type d wf) : OpensF enc P w [f] off d wf := fun n cs hf hl => by
  obtain ⟨y, hy⟩ := hf f (List.mem_singleton.2 rfl)
  obtain ⟨a, hK, hw⟩ := h _ _ _ hy
  refine ⟨a, ?_, hw⟩
  rw [ho, hz, List.take_of_length_le (by rw [List.length_drop]; omega)] at hK
  exact hK
theorem opensF_cons {f : Field} {fs : List Field} {off : Nat} {d : Kd α} {d' : Kd β} {wf : α → Prop} {wf' : β → Prop} (ho : f.offset = off) (hz : P.cellsOf f.type = d.sz) (h : Opens enc P w f.type d wf) (hr : OpensF enc P w fs (off + d.sz) d' wf') :
    OpensF enc P w (f :: fs) off (Kd.pair d d') (fun a => wf a.1 ∧ wf' a.2) := fun n cs hf hl => by
  obtain ⟨y, hy⟩ := hf f (List.mem_cons_self ..)
  obtain ⟨a, hK, hw⟩ := h _ _ _ hy
  obtain ⟨b, hK', hw'⟩ := hr n cs (fun g hg => hf g (List.mem_cons_of_mem _ hg)) (by rw [hl]; show off + (d.sz + d'.sz) = _; omega)
  rw [ho, hz] at hK
  refine ⟨(a, b), ⟨_, _, ?_, hK, hK'⟩, hw, hw'⟩
  rw [← List.drop_drop, List.take_append_drop]
theorem opens_struct {t : TypeId} {fs : Array Field} {d : Kd α} {f : β → α} {g : α → β} {wf : α → Prop} (ht : P.underlying t = some (.struct fs)) (hz : P.cellsOf t = d.sz) (hg : ∀ a, f (g a) = a) (h : OpensF enc P w fs.toList 0 d wf) :
    Opens enc P w t (Kd.iso d f) (fun b => wf (f b)) := fun fuel cs x hx => by
  obtain ⟨ys, n, _, _, hl, hyl, hf⟩ := DataW.trod_struct ht hx
  obtain ⟨a, hK, hw⟩ := h n cs (fun q hq => by
    obtain ⟨i, hi⟩ := List.getElem?_of_mem hq
    have hia : fs[i]? = some q := by simpa using hi
    have hil : i < fs.size := (Array.getElem?_eq_some_iff.1 hia).1
    exact ⟨ys[i]'(by omega), by rw [hf i q hia, List.getElem?_eq_getElem (by omega)]⟩) (by rw [hl, hz]; omega)
  refine ⟨g a, ?_, ?_⟩
  · show d.K w (f (g a)) cs
    rw [hg]
    exact hK
  · show wf (f (g a))
    rw [hg]
    exact hw
end

end Go.Proofs.Ytepipgneefcoiaa.D
