/- What the law WalReads rests on, part 1: words on memory, the functions that it reaches as plain Lean functions with the proofs that the machine's calls come to them, and the mathematics; no condition beyond those that each theorem names. -/
import Derived.Test.YtepipgneefcoiaaZWalReads0
set_option linter.unusedVariables false
set_option linter.unusedSimpArgs false
namespace Go.Proofs.YtepipgneefcoiaaW.PrintWords
open Go.RowKit
namespace Kd
theorem reps_one {α : Type} {R : α → List Value → Prop} {size : Nat} {ps : List α} {cs : List Value} (h : Reps R size ps cs) (hs0 : 0 < size) (hR : ∀ p c, R p c → ∀ u ∈ c, u.oneCell' = true) : ∀ u ∈ cs, u.oneCell' = true := by
  intro u hu
  obtain ⟨q, hq, rfl⟩ := List.mem_iff_getElem.1 hu
  have hql : q / size < ps.length := by
    rw [Nat.div_lt_iff_lt_mul hs0, ← h.1]
    exact hq
  refine hR _ _ (h.2 (q / size) _ (List.getElem?_eq_getElem hql)) _ ?_
  rw [List.mem_iff_getElem?]
  refine ⟨q % size, ?_⟩
  rw [List.getElem?_take, if_pos (Nat.mod_lt _ hs0), List.getElem?_drop, Nat.mul_comm, Nat.div_add_mod, List.getElem?_eq_getElem hq]
def arr {α : Type} (n : Nat) (d : Kd α) (hs : 0 < d.sz) : Kd (List α) where
  sz := n * d.sz
  E := d.E
  K := fun w xs cs => xs.length = n ∧ Reps (d.K w) d.sz xs cs
  M := fun w base ok xs cs => xs.length = n ∧ Reps (d.M w base ok) d.sz xs cs
  K_len := fun h => by rw [← h.1]; exact h.2.1
  K_one := fun h => reps_one h.2 hs (fun _ _ hk => d.K_one hk)
  K_below := fun hb h => ⟨h.1, h.2.imp_ (fun _ _ hk => d.K_below hb hk)⟩
  K_of_M := fun h => ⟨h.1, h.2.imp_ (fun _ _ hk => d.K_of_M hk)⟩
  M_mono := fun hok h => ⟨h.1, h.2.imp_ (fun _ _ hk => d.M_mono hok hk)⟩
  M_bound := fun h => ⟨h.1, h.2.imp_ (fun _ _ hk => d.M_bound hk)⟩
  M_move := fun hm h => ⟨h.1, h.2.imp_ (fun _ _ hk => d.M_move hm hk)⟩
  M_lower := fun hb h => ⟨h.1, h.2.imp_ (fun _ _ hk => d.M_lower hb hk)⟩
section
variable {α : Type} {n : Nat} {enc : α → Value} {h1 : ∀ x, (enc x).oneCell' = true} {hs : 0 < (scalar enc h1).sz} {w : World} {base : Nat} {ok : Nat → Prop} {xs : List α} {cs : List Value}
theorem reps_encs (h : Reps (fun (x : α) (cs : List Value) => cs = [enc x]) 1 xs cs) : cs = encs enc xs := by
  apply List.ext_getElem?
  intro j
  have hl := h.1
  rw [Nat.mul_one] at hl
  rcases Nat.lt_or_ge j xs.length with hj | hj
  · have h2 := h.2 j _ (List.getElem?_eq_getElem hj)
    have hj' : j < cs.length := by omega
    rw [Nat.mul_one, List.drop_eq_getElem_cons hj'] at h2
    have h5 := congrArg List.head? h2
    rw [List.take_succ_cons] at h5
    have h4 : cs[j] = enc xs[j] := Option.some.inj h5
    rw [List.getElem?_eq_getElem hj', h4]
    simp [encs, List.getElem?_eq_getElem hj]
  · rw [List.getElem?_eq_none (by omega), List.getElem?_eq_none (by rw [encs_length]; omega)]
theorem arr_cells (h : (arr n (scalar enc h1) hs).K w xs cs) : xs.length = n ∧ cs = encs enc xs := ⟨h.1, reps_encs h.2⟩
theorem arr_of_cells (h : xs.length = n) : (arr n (scalar enc h1) hs).M w base ok xs (encs enc xs) := ⟨h, reps_scalar xs⟩
end
end Kd
end Go.Proofs.YtepipgneefcoiaaW.PrintWords
namespace Go.Proofs.YtepipgneefcoiaaW.PrintWords
open Go.RowKit
namespace Kd
structure Heap {α : Type} (d : Kd α) : Prop where
  K : ∀ {w w1 : World} {x : α} {cs : List Value}, (∀ k, k < w.heap.size → w1.heap[k]? = w.heap[k]?) → d.K w x cs → d.K w1 x cs
theorem cell_heap {w w1 : World} (hb : ∀ k, k < w.heap.size → w1.heap[k]? = w.heap[k]?) {a : Addr} {v : Value} (h : w.cell? a = some v) : w1.cell? a = some v := by
  have := hb a.block (World.block_lt_of_cell? w a h)
  simpa [World.cell?, this] using h
theorem Heap.C {α : Type} {d : Kd α} (hd : Heap d) {w w1 : World} {A : Option Addr} {n : Nat} {xs : List α} (hb : ∀ k, k < w.heap.size → w1.heap[k]? = w.heap[k]?) (h : d.C w A n xs) : d.C w1 A n xs :=
  ⟨h.1, h.2.1, fun hn => by
    obtain ⟨ad, e, hc⟩ := h.2.2 hn
    refine ⟨ad, e, fun j p hj => ?_⟩
    obtain ⟨c, hs, hr, hcell⟩ := hc j p hj
    exact ⟨c, hs, hd.K hb hr, fun i u hu => cell_heap hb (hcell i u hu)⟩⟩
end Kd
end Go.Proofs.YtepipgneefcoiaaW.PrintWords
namespace Go.Proofs.YtepipgneefcoiaaW.PrintWords
open Go.RowKit
def Kept (w W : World) (S : Nat → Prop) : Prop := w.heap.size ≤ W.heap.size ∧ ∀ i, i < w.heap.size → ¬ S i → W.heap[i]? = w.heap[i]?
section
variable {w W W2 : World} {S S2 S' : Nat → Prop}
theorem Kept.refl (w : World) (S : Nat → Prop) : Kept w w S := ⟨Nat.le_refl _, fun _ _ _ => rfl⟩
theorem Kept.of_below (h : Below w.heap.size w W) (S : Nat → Prop) : Kept w W S := ⟨h.size, fun i hi _ => h.block i hi⟩
theorem Kept.then_ (h : Kept w W S) (k : Kept W W2 S2) (hs : ∀ k, S2 k → S k ∨ w.heap.size ≤ k) : Kept w W2 S :=
  ⟨Nat.le_trans h.1 k.1, fun i hi hn => (k.2 i (Nat.lt_of_lt_of_le hi h.1) (fun h2 => (hs i h2).elim hn (fun h3 => by omega))).trans (h.2 i hi hn)⟩
theorem Kept.of_grown {row : Option Nat} (hg : W.grownBy W2 row) (h : Kept w W S) (hr : ∀ k, row = some k → S k ∨ w.heap.size ≤ k) : Kept w W2 S :=
  h.then_ (S2 := fun k => row = some k) ⟨hg.size, fun i hi hn => hg.block i hi (fun he => hn he.symm)⟩ hr
theorem Kept.below (h : Kept w W S) (hb : Below W.heap.size W W2) : Kept w W2 S := h.then_ (Kept.of_below hb (fun _ => False)) (fun _ hk => hk.elim)
theorem Kept.alloc (h : Kept w W S) (o : Obj) : Kept w (W.alloc o) S := h.below (below_alloc (Below.refl _ _) o)
theorem Kept.drew (h : Kept w W S) : Kept w W.drew S := h
theorem Kept.drewN (h : Kept w W S) (m : Nat) : Kept w (W.drewN m) S := h
theorem Kept.setCell (h : Kept w W S) {p : Addr} (hp : S p.block ∨ w.heap.size ≤ p.block) (u : Value) : Kept w (W.setCell p u) S :=
  h.then_ (S2 := fun k => k = p.block) ⟨by simp [World.setCell], fun i _ hn => Below.heap_setCell W p u i hn⟩ (fun k hk => by rw [hk]; exact hp)
theorem blk_kept {g : Nat} {o : Obj} (hb : W.heap[g]? = some o) (hk : Kept W W2 S) (hne : ¬ S g) : W2.heap[g]? = some o := (hk.2 g (blk_lt hb) hne).trans hb
end
namespace Kd
section
variable {α : Type} {d : Kd α} {e base n c : Nat} {ok oki S S2 : Nat → Prop} {w w0 W W1 W2 : World} {v : Value} {A : Option Addr} {xs : List α} {i : Int} {cs : List Value}
theorem C_kept_now (h : ∀ W', Kept w W' S → d.C W' A n xs) (hk : Kept w W S) : d.C W A n xs := h W hk
end
end Kd
end Go.Proofs.YtepipgneefcoiaaW.PrintWords
namespace Go.Proofs.YtepipgneefcoiaaW.PrintWords
open Go.RowKit
def Foot (P : World → Prop) (W : World) (ok : Nat → Prop) : Prop := ∀ W' : World, (∀ k, ok k → k < W.heap.size → W'.heap[k]? = W.heap[k]?) → P W'
theorem heap_lt {W W1 : World} {k : Nat} (h : W1.heap[k]? = W.heap[k]?) (hlt : k < W.heap.size) : k < W1.heap.size := by
  rw [Array.getElem?_eq_getElem hlt] at h
  exact (Array.getElem?_eq_some_iff.1 h).1
namespace Foot
variable {P Q : World → Prop} {W W1 : World} {ok ok' : Nat → Prop}
theorem now (h : Foot P W ok) : P W := h W (fun _ _ _ => rfl)
theorem mono (h : Foot P W ok) (hok : ∀ k, ok k → ok' k) : Foot P W ok' := fun W' hW => h W' (fun k hk hlt => hW k (hok k hk) hlt)
theorem bound (h : Foot P W ok) : Foot P W (fun k => ok k ∧ k < W.heap.size) := fun W' hW => h W' (fun k hk hlt => hW k ⟨hk, hlt⟩ hlt)
theorem step (h : Foot P W ok) (hm : ∀ k, ok k → k < W.heap.size → W1.heap[k]? = W.heap[k]?) : Foot P W1 ok := fun W' hW => h W' (fun k hk hlt => (hW k hk (heap_lt (hm k hk hlt) hlt)).trans (hm k hk hlt))
theorem imp (h : Foot P W ok) (hi : ∀ W', P W' → Q W') : Foot Q W ok := fun W' hW => hi W' (h W' hW)
theorem old (h : Foot P W ok) (hb : Below W.heap.size W W1) : Foot P W1 (fun k => ok k ∧ k < W.heap.size) := (h.bound).step (fun k _ hlt => hb.block k hlt)
end Foot
namespace Kd
def F {α : Type} (d : Kd α) (W : World) (ok : Nat → Prop) (A : Option Addr) (n : Nat) (xs : List α) : Prop := Foot (fun W => d.C W A n xs) W ok
def FK {α : Type} (d : Kd α) (W : World) (ok : Nat → Prop) (x : α) (c : List Value) : Prop := Foot (fun W => d.K W x c) W ok
section
variable {α β : Type} {d : Kd α} {e base n n' cc g N : Nat} {ok ok' okp S : Nat → Prop} {w w0 w1 W W1 : World} {A A' : Option Addr} {u v v1 : Value} {xs : List α} {xs' : List β} {d' : Kd β} {x : α} {c : List Value}
theorem F_now (h : F d W ok A n xs) : d.C W A n xs := Foot.now h
theorem F_mono (h : F d W ok A n xs) (hok : ∀ k, ok k → ok' k) : F d W ok' A n xs := Foot.mono h hok
theorem F_bound (h : F d W ok A n xs) : F d W (fun k => ok k ∧ k < W.heap.size) A n xs := Foot.bound h
theorem F_step (h : F d W ok A n xs) (hm : ∀ k, ok k → k < W.heap.size → W1.heap[k]? = W.heap[k]?) : F d W1 ok A n xs := Foot.step h hm
theorem F_imp (h : F d W ok A n xs) (hi : ∀ W', d.C W' A n xs → d'.C W' A' n' xs') : F d' W ok A' n' xs' := Foot.imp h hi
theorem F_below (h : F d W ok A n xs) (hb : Below W.heap.size W W1) : F d W1 ok A n xs := F_step h (fun k _ hlt => hb.block k hlt)
theorem F_alloc (h : F d W ok A n xs) (o : Obj) : F d (W.alloc o) ok A n xs := F_below h (below_alloc (Below.refl _ _) o)
theorem F_drew (h : F d W ok A n xs) : F d W.drew ok A n xs := F_below h (below_drew (Below.refl _ _))
theorem F_drewN (h : F d W ok A n xs) (m : Nat) : F d (W.drewN m) ok A n xs := F_below h (pw_below_drewN (Below.refl _ _) m)
theorem F_far (h : F d W ok A n xs) {p : Addr} (hok : ∀ k, ok k → k ≠ p.block) (u : Value) : F d (W.setCell p u) ok A n xs := F_step h (fun k hk _ => Below.heap_setCell W p u k (hok k hk))
theorem F_nil (d : Kd α) (W : World) (ok : Nat → Prop) : F d W ok none ([] : List α).length [] := fun W' _ => C_nil d W'
theorem F_elder' (h : F d W ok A n xs) (hbase : ∀ k, v.ownBlock = some k → W.heap.size ≤ k) (hb : Below W.heap.size W W1) : F d W1 (fun k => ok k ∧ some k ≠ v.ownBlock) A n xs :=
  F_mono (Foot.old h hb) (fun k hk => ⟨hk.1, fun he => by have := hbase k he.symm; have := hk.2; omega⟩)
theorem F_elderB (h : F d W ok A n xs) (a : Nat) (ha : W.heap.size ≤ a) : F d W (fun k => ok k ∧ k ≠ a) A n xs := F_mono (F_bound h) (fun k hk => ⟨hk.1, by have := hk.2; omega⟩)
theorem F_after (h : F d W (fun k => ok k ∧ some k ≠ v.ownBlock) A n xs) (hg : W.grownBy W1 v.ownBlock) (hat : v1.ownBlock = v.ownBlock ∨ ∃ b, v1.ownBlock = some b ∧ W.heap.size ≤ b) : F d W1 (fun k => ok k ∧ some k ≠ v1.ownBlock) A n xs := by
  refine F_mono (Foot.step (F_bound h) (fun k hk hlt => hg.block k hlt hk.1.2)) (fun k hk => ⟨hk.1.1, ?_⟩)
  rcases hat with hat | ⟨b, hb, hle⟩
  · rw [hat]; exact hk.1.2
  · rw [hb]
    intro he
    injection he with he
    have := hk.2
    omega
theorem R_F (h : d.R e W base ok (.slice A n cc) xs) : F d W ok A n xs := fun W' hW => by
  have h2 := R_reads' (R_step h hW)
  rw [h2.1]
  exact h2.2.2
theorem FK_now (h : FK d W ok x c) : d.K W x c := Foot.now h
theorem FK_mono (h : FK d W ok x c) (hok : ∀ k, ok k → ok' k) : FK d W ok' x c := Foot.mono h hok
theorem FK_bound (h : FK d W ok x c) : FK d W (fun k => ok k ∧ k < W.heap.size) x c := Foot.bound h
theorem FK_step (h : FK d W ok x c) (hm : ∀ k, ok k → k < W.heap.size → W1.heap[k]? = W.heap[k]?) : FK d W1 ok x c := Foot.step h hm
theorem FK_below (h : FK d W ok x c) (hb : Below W.heap.size W W1) : FK d W1 ok x c := FK_step h (fun k _ hlt => hb.block k hlt)
theorem FK_of_M (h : d.M W base ok x c) : FK d W ok x c := fun _ hW => d.K_of_M (M_step h hW)
theorem emptied (W : World) (g : Nat) : ∃ W' : World, (∀ k, k ≠ g → W'.heap[k]? = W.heap[k]?) ∧ ∀ a : Addr, a.block = g → W'.cell? a = none := by
  refine ⟨{ W with heap := W.heap.setIfInBounds g (.cells #[] 0) }, fun k hk => by simp [Ne.symm hk], fun a ha => ?_⟩
  subst ha
  by_cases hlt : a.block < W.heap.size
  · simp [World.cell?, hlt]
  · simp [World.cell?, hlt]
end
end Kd
end Go.Proofs.YtepipgneefcoiaaW.PrintWords
namespace Go.Proofs.YtepipgneefcoiaaW.PrintWords
open Go.RowKit
namespace Kd
def chunks (sz : Nat) (n : Nat) (inner : List Value) : List (List Value) := (List.range n).map fun j => (inner.drop (j * sz)).take sz
theorem chunks_length (sz n : Nat) (inner : List Value) : (chunks sz n inner).length = n := by simp [chunks]
theorem chunks_at {sz n : Nat} {inner : List Value} {j : Nat} (hj : j < n) : (chunks sz n inner)[j]? = some ((inner.drop (j * sz)).take sz) := by simp [chunks, hj]
theorem chunks_get {sz n : Nat} {inner : List Value} {j : Nat} {c : List Value} (h : (chunks sz n inner)[j]? = some c) : c = (inner.drop (j * sz)).take sz := by
  have hj : j < n := by have := (List.getElem?_eq_some_iff.1 h).1; rwa [chunks_length] at this
  rw [chunks_at hj] at h
  injection h with h
  exact h.symm
theorem reps_raw {α : Type} {Rr : α → List Value → Prop} {sz : Nat} {xs : List α} {inner : List Value} (h : Reps Rr sz xs inner) (hR : ∀ x c, Rr x c → c.length = sz ∧ ∀ u ∈ c, u.oneCell' = true) : Reps (fun x cs => cs = x ∧ cs.length = sz ∧ ∀ u ∈ cs, u.oneCell' = true) sz (chunks sz xs.length inner) inner := by
  refine ⟨by rw [chunks_length]; exact h.1, fun j p hj => ?_⟩
  have hjl : j < xs.length := by have := (List.getElem?_eq_some_iff.1 hj).1; rwa [chunks_length] at this
  have hp := chunks_get hj
  exact ⟨hp.symm, hR _ _ (h.2 j _ (List.getElem?_eq_getElem hjl))⟩
section
variable {α : Type} {d : Kd α} {e base n cc g : Nat} {ok ok' okp S : Nat → Prop} {w w1 W W1 : World} {A : Option Addr} {u v v1 : Value} {xs : List α} {x : α} {c : List Value}
theorem F_get (h : F d W ok A n xs) (z : α) (i : Int) (h0 : 0 ≤ i) (h1 : i < n) :
    ∃ ad c, A = some ad ∧ c.length = d.sz ∧ FK d W ok (xs.getD i.toNat z) c ∧ (∀ j u, c[j]? = some u → W.cell? (ad.add (i.toNat * d.sz + j)) = some u) ∧ (0 < d.sz → ok ad.block) := by
  obtain ⟨ad, c, rfl, hcl, hK, hcc⟩ := C_get (F_now h) z i h0 h1
  have hin : 0 < d.sz → ok ad.block := by
    intro hs
    by_cases hk : ok ad.block
    · exact hk
    · obtain ⟨W', h2, h3⟩ := emptied W ad.block
      obtain ⟨ad', c', he, hcl', _, hcc'⟩ := C_get (h W' (fun k hk' _ => h2 k (fun e => hk (e ▸ hk')))) z i h0 h1
      injection he with he
      subst he
      have h4 := hcc' 0 _ (List.getElem?_eq_getElem (by omega))
      rw [h3 _ (add_block _ _)] at h4
      cases h4
  refine ⟨ad, c, rfl, hcl, fun W' hW => ?_, hcc, hin⟩
  obtain ⟨ad', c', he, hcl', hK', hcc'⟩ := C_get (h W' hW) z i h0 h1
  injection he with he
  subst he
  have hc : c = c' := by
    apply List.ext_getElem?
    intro j
    by_cases hj : j < d.sz
    · have hb : W'.heap[ad.block]? = W.heap[ad.block]? := by
        have h5 := hcc j _ (List.getElem?_eq_getElem (by omega))
        have h6 := World.block_lt_of_cell? W _ h5
        rw [add_block] at h6
        exact hW _ (hin (by omega)) h6
      have h5 := hcc j _ (List.getElem?_eq_getElem (by omega))
      have h6 := hcc' j _ (List.getElem?_eq_getElem (by omega))
      have h7 : W'.cell? (ad.add (i.toNat * d.sz + j)) = W.cell? (ad.add (i.toNat * d.sz + j)) := by simp [World.cell?, add_block, hb]
      rw [h7, h5] at h6
      rw [List.getElem?_eq_getElem (by omega), List.getElem?_eq_getElem (by omega)]
      exact h6
    · rw [List.getElem?_eq_none (by omega), List.getElem?_eq_none (by omega)]
  rw [hc]
  exact hK'
theorem F_rows (h : F d W ok A n xs) : ReadsRow (fun x c => FK d W ok x c) d.sz W A n xs := by
  obtain ⟨hl, hm, hn⟩ := F_now h
  refine ⟨hl, hm, fun hp => ?_⟩
  obtain ⟨ad, rfl, _⟩ := hn hp
  refine ⟨ad, rfl, fun j p hj => ?_⟩
  obtain ⟨hjl, hjp⟩ := List.getElem?_eq_some_iff.1 hj
  obtain ⟨ad', c, he, hcl, hK, hcc, _⟩ := F_get h p (j : Int) (by omega) (by omega)
  injection he with he
  subst he
  simp only [Int.toNat_natCast] at hK hcc
  rw [List.getD_eq_getElem?_getD, hj] at hK
  exact ⟨c, hcl, hK, hcc⟩
def N {α : Type} (d : Kd α) (e : Nat) (w : World) (base : Nat) (ok : Nat → Prop) (v : Value) (xs : List α) : Prop :=
  (∀ k, v.ownBlock = some k → ok k) ∧ ∃ rows : List (List Value), rows.length = xs.length ∧ (raw d.sz).R e w base (fun k => some k = v.ownBlock) v rows ∧ ∀ (j : Nat) (x : α) (c : List Value), xs[j]? = some x → rows[j]? = some c → FK d w (fun k => ok k ∧ some k ≠ v.ownBlock) x c
theorem raw_tight {sz : Nat} {rows : List (List Value)} (h : (raw sz).R e w base ok v rows) : (raw sz).R e w base (fun k => some k = v.ownBlock) v rows := R_tight rfl h
theorem raw_any {sz : Nat} {rows : List (List Value)} (h : (raw sz).R e w base ok v rows) : (raw sz).R e w base (fun _ => True) v rows := R_mono h (fun _ _ => trivial)
theorem R_N (h : d.R e w base ok v xs) : N d e w base ok v xs := by
  obtain ⟨h0, inner, ho, hr⟩ := h
  refine ⟨h0, chunks d.sz xs.length inner, chunks_length _ _ _, ⟨fun k hk => hk.symm, inner, by rw [chunks_length]; exact ho, reps_raw hr (fun x c hp => ⟨d.K_len (d.K_of_M hp), d.K_one (d.K_of_M hp)⟩)⟩, fun j x c hx hc => ?_⟩
  rw [chunks_get hc]
  exact FK_of_M (hr.2 j x hx)
theorem N_nil (d : Kd α) (e : Nat) (w : World) (base : Nat) (ok : Nat → Prop) : N d e w base ok (.slice none 0 0) [] := R_N (R_nil _ _ _ _ _)
theorem N_typed (h : N d e w base ok v xs) : ∀ k, v.ownBlock = some k → ∃ cells, w.heap[k]? = some (.cells cells e (0, 0)) := by
  obtain ⟨_, rows, _, hR, _⟩ := h
  exact R_typed hR
theorem N_step (h : N d e w base ok v xs) (hm : ∀ k, ok k → k < w.heap.size → w1.heap[k]? = w.heap[k]?) : N d e w1 base ok v xs := by
  obtain ⟨h0, rows, hl, hR, hf⟩ := h
  exact ⟨h0, rows, hl, R_step hR (fun k hk hlt => hm k (h0 k hk.symm) hlt), fun j x c hx hc => FK_step (hf j x c hx hc) (fun k hk hlt => hm k hk.1 hlt)⟩
theorem N_below (h : N d e w base ok v xs) (hb : Below w.heap.size w w1) : N d e w1 base ok v xs := N_step h (fun k _ hk => hb.block k hk)
theorem N_slice (h : N d e w base ok v xs) : ∃ A c, v = .slice A xs.length c := by
  obtain ⟨_, rows, hl, hR, _⟩ := h
  obtain ⟨A, c, he⟩ := R_slice hR
  exact ⟨A, c, by rw [he, hl]⟩
theorem N_reads' {n c : Nat} (h : N d e w base ok (.slice A n c) xs) : n = xs.length ∧ n ≤ c ∧ d.C w A xs.length xs := by
  obtain ⟨_, rows, hl, hR, hf⟩ := h
  obtain ⟨hn, hc, hC⟩ := R_reads' hR
  refine ⟨by omega, hc, ?_⟩
  rw [hl] at hC
  refine ⟨rfl, hC.2.1, fun hp => ?_⟩
  obtain ⟨ad, he, hcell⟩ := hC.2.2 hp
  refine ⟨ad, he, fun j p hj => ?_⟩
  have hjl : j < rows.length := by have := (List.getElem?_eq_some_iff.1 hj).1; omega
  obtain ⟨c', hcl, hK, hcc⟩ := hcell j _ (List.getElem?_eq_getElem hjl)
  have hk := FK_now (hf j p _ hj (List.getElem?_eq_getElem hjl))
  refine ⟨c', hcl, ?_, hcc⟩
  rw [show c' = rows[j] from hK.1]
  exact hk
theorem N_F {n : Nat} (h : N d e w base ok (.slice A n cc) xs) : F d w ok A n xs := fun W' hW => by
  have h2 := N_reads' (N_step h hW)
  rw [h2.1]
  exact h2.2.2
end
end Kd
end Go.Proofs.YtepipgneefcoiaaW.PrintWords
namespace Go.Proofs.YtepipgneefcoiaaW.PrintWords
open Go.RowKit
section
variable {w w' u : World} {m B g : Nat} {o : Obj} {row : Option Nat} {S : Nat → Prop} {a : Addr} {v : Value}
theorem below_at (hq : w.drewN m = w') (h : Below B u w) : Below B u w' := by subst hq; exact pw_below_drewN h m
theorem blk_at (hq : w.drewN m = w') (h : w.heap[g]? = some o) : w'.heap[g]? = some o := by subst hq; exact h
end
namespace Kd
section
variable {α : Type} {d : Kd α} {e base n m : Nat} {ok : Nat → Prop} {w w' : World} {v : Value} {A : Option Addr} {xs : List α}
theorem R_at (hq : w.drewN m = w') (h : d.R e w base ok v xs) : d.R e w' base ok v xs := by subst hq; exact R_drewN h m
theorem S_at (hq : w.drewN m = w') (h : Kd.S d e w base ok v xs) : Kd.S d e w' base ok v xs := by subst hq; exact S_drewN h m
end
end Kd
end Go.Proofs.YtepipgneefcoiaaW.PrintWords
namespace Go.Proofs.YtepipgneefcoiaaW.PrintWords
theorem Reps.front {α : Type} {R : α → List Value → Prop} {size : Nat} {ps : List α} {cs c all : List Value} {p : α} (hp : R p c) (hc : c.length = size) (h : Reps R size ps cs) (ha : c ++ cs = all) : Reps R size (p :: ps) all := by
  subst ha
  refine ⟨by rw [List.length_append, hc, h.1, List.length_cons, Nat.succ_mul, Nat.add_comm], fun j q hq => ?_⟩
  cases j with
  | zero =>
    simp only [List.getElem?_cons_zero, Option.some.injEq] at hq
    subst hq
    rw [Nat.zero_mul, List.drop_zero, List.take_append_of_le_length (by omega), List.take_of_length_le (by omega)]
    exact hp
  | succ j =>
    simp only [List.getElem?_cons_succ] at hq
    have h1 := h.2 j q hq
    rw [Nat.succ_mul, List.drop_append, List.drop_of_length_le (by rw [hc]; exact Nat.le_add_left _ _), List.nil_append, hc, Nat.add_sub_cancel]
    exact h1
theorem Reps.c2 {α : Type} {R : α → List Value → Prop} {ps : List α} {cs : List Value} {p : α} {va vb : Value} (hp : R p [va, vb]) (h : Reps R 2 ps cs) : Reps R 2 (p :: ps) (va :: vb :: cs) := Reps.front hp rfl h rfl
theorem Reps.c3 {α : Type} {R : α → List Value → Prop} {ps : List α} {cs : List Value} {p : α} {va vb vc : Value} (hp : R p [va, vb, vc]) (h : Reps R 3 ps cs) : Reps R 3 (p :: ps) (va :: vb :: vc :: cs) := Reps.front hp rfl h rfl
theorem Reps.c4 {α : Type} {R : α → List Value → Prop} {ps : List α} {cs : List Value} {p : α} {va vb vc vd : Value} (hp : R p [va, vb, vc, vd]) (h : Reps R 4 ps cs) : Reps R 4 (p :: ps) (va :: vb :: vc :: vd :: cs) := Reps.front hp rfl h rfl
theorem Reps.c5 {α : Type} {R : α → List Value → Prop} {ps : List α} {cs : List Value} {p : α} {va vb vc vd ve : Value} (hp : R p [va, vb, vc, vd, ve]) (h : Reps R 5 ps cs) : Reps R 5 (p :: ps) (va :: vb :: vc :: vd :: ve :: cs) := Reps.front hp rfl h rfl
theorem Reps.c6 {α : Type} {R : α → List Value → Prop} {ps : List α} {cs : List Value} {p : α} {va vb vc vd ve vf : Value} (hp : R p [va, vb, vc, vd, ve, vf]) (h : Reps R 6 ps cs) : Reps R 6 (p :: ps) (va :: vb :: vc :: vd :: ve :: vf :: cs) := Reps.front hp rfl h rfl
theorem Reps.c7 {α : Type} {R : α → List Value → Prop} {ps : List α} {cs : List Value} {p : α} {va vb vc vd ve vf vg : Value} (hp : R p [va, vb, vc, vd, ve, vf, vg]) (h : Reps R 7 ps cs) : Reps R 7 (p :: ps) (va :: vb :: vc :: vd :: ve :: vf :: vg :: cs) := Reps.front hp rfl h rfl
theorem Reps.c8 {α : Type} {R : α → List Value → Prop} {ps : List α} {cs : List Value} {p : α} {va vb vc vd ve vf vg vh : Value} (hp : R p [va, vb, vc, vd, ve, vf, vg, vh]) (h : Reps R 8 ps cs) : Reps R 8 (p :: ps) (va :: vb :: vc :: vd :: ve :: vf :: vg :: vh :: cs) := Reps.front hp rfl h rfl
theorem Reps.c9 {α : Type} {R : α → List Value → Prop} {ps : List α} {cs : List Value} {p : α} {va vb vc vd ve vf vg vh vi : Value} (hp : R p [va, vb, vc, vd, ve, vf, vg, vh, vi]) (h : Reps R 9 ps cs) : Reps R 9 (p :: ps) (va :: vb :: vc :: vd :: ve :: vf :: vg :: vh :: vi :: cs) := Reps.front hp rfl h rfl
theorem Reps.c10 {α : Type} {R : α → List Value → Prop} {ps : List α} {cs : List Value} {p : α} {va vb vc vd ve vf vg vh vi vj : Value} (hp : R p [va, vb, vc, vd, ve, vf, vg, vh, vi, vj]) (h : Reps R 10 ps cs) : Reps R 10 (p :: ps) (va :: vb :: vc :: vd :: ve :: vf :: vg :: vh :: vi :: vj :: cs) := Reps.front hp rfl h rfl
end Go.Proofs.YtepipgneefcoiaaW.PrintWords
namespace Go.Proofs.YtepipgneefcoiaaW.PrintWords
open Go.RowKit
section
variable {P : Program} {ops : Array Oper} {rest : List Oper} {o : Oper} {a : Act} {Q : Exit → Act → World → Prop} {W : World}
theorem gate_guard (hw : Region.wanted o (yielded ops a.tmps) = true) (h : wpList P ops Q ({ o with guard := none } :: rest) a W) : wpList P ops Q (o :: rest) a W := by
  have h1 : Region.wanted { o with guard := none } (yielded ops a.tmps) = true := rfl
  unfold wpList at h ⊢
  rw [if_pos h1] at h
  rw [if_pos hw]
  exact h
end
end Go.Proofs.YtepipgneefcoiaaW.PrintWords
namespace Go.Proofs.YtepipgneefcoiaaW.PrintWords
open Go.RowKit
namespace Kd
section
variable {α : Type} {d : Kd α} {e base n cap g : Nat} {ok ok' okp : Nat → Prop} {w w1 W : World} {v v1 : Value} {xs ys : List α}
theorem N_appended {rows news : List (List Value)} (h0 : ∀ k, v.ownBlock = some k → ok k) (hl : rows.length = xs.length) (hf : ∀ (j : Nat) (x : α) (c : List Value), xs[j]? = some x → rows[j]? = some c → FK d W (fun k => ok k ∧ some k ≠ v.ownBlock) x c)
    (hl2 : news.length = ys.length) (hf2 : ∀ (j : Nat) (x : α) (c : List Value), ys[j]? = some x → news[j]? = some c → FK d W okp x c) (hokp : ∀ k, okp k → ok k ∧ some k ≠ v.ownBlock) (hfresh : ∀ k, W.heap.size ≤ k → ok k)
    (hR : (raw d.sz).R e w1 base (fun _ => True) v1 (rows ++ news)) (hg : W.grownBy w1 v.ownBlock) (hat : v1.ownBlock = v.ownBlock ∨ ∃ b, v1.ownBlock = some b ∧ W.heap.size ≤ b) : N d e w1 base ok v1 (xs ++ ys) := by
  have hne : ∀ k, some k ≠ v.ownBlock → k < W.heap.size → some k ≠ v1.ownBlock := by
    intro k hk hlt
    rcases hat with hat | ⟨b, hb, hle⟩
    · rw [hat]; exact hk
    · rw [hb]
      intro he
      injection he with he
      omega
  have step : ∀ {x : α} {c : List Value} {o : Nat → Prop}, FK d W o x c → (∀ k, o k → ok k ∧ some k ≠ v.ownBlock) → FK d w1 (fun k => ok k ∧ some k ≠ v1.ownBlock) x c := by
    intro x c o hq ho
    exact FK_mono (FK_step (FK_bound hq) (fun k hk hlt => hg.block k hlt (ho k hk.1).2)) (fun k hk => ⟨(ho k hk.1).1, hne k (ho k hk.1).2 hk.2⟩)
  refine ⟨fun k hk => ?_, rows ++ news, by rw [List.length_append, List.length_append, hl, hl2], raw_tight hR, fun j x c hx hc => ?_⟩
  · rcases hat with hat | ⟨b, hb, hle⟩
    · exact h0 k (hat ▸ hk)
    · rw [hb] at hk
      injection hk with hk
      exact hfresh k (by omega)
  · rcases Nat.lt_or_ge j xs.length with hlt | hge
    · rw [List.getElem?_append_left hlt] at hx
      rw [List.getElem?_append_left (by omega)] at hc
      exact step (hf j x c hx hc) (fun _ hk => hk)
    · rw [List.getElem?_append_right hge] at hx
      rw [List.getElem?_append_right (by omega), hl] at hc
      exact step (hf2 _ x c hx hc) hokp
theorem FK_raw {x : α} {c : List Value} (h : FK d W ok x c) : c = c ∧ c.length = d.sz ∧ ∀ u ∈ c, u.oneCell' = true := ⟨rfl, d.K_len (FK_now h), d.K_one (FK_now h)⟩
end
section
variable {P : Program} {ops : Array Oper} {rest : List Oper} {o : Oper} {a : Act} {Q : Exit → Act → World → Prop} {Kc : Act → World → Prop} {α : Type}
theorem N_append (d : Kd α) {w0 W : World} (base : Nat) (hgd : o.guard = none) (s x : Operand) (t e : TypeId) (z : Value) (bytes : Nat)
    (ho : o.op = .call { callee := .builtin .append, args := #[s, x], argTypes := #[t, t] })
    (ht : P.underlying t = some (.slice e)) (hinfo : (P.info? e).map (fun i => (i.zero, i.size, i.bytes)) = some (some z, d.sz, bytes)) (hz : z.cells.size = d.sz) (hs0 : 0 < d.sz) (hb0 : 0 < bytes)
    (v : Value) (xs : List α) (p : α) (cs : List Value) (ok okp : Nat → Prop) (hs : a.eval s = v) (hx : a.eval x = .slice (some ⟨W.heap.size, 0, none⟩) 1 1) (hp : FK d W okp p cs) (hokp : ∀ k, okp k → ok k ∧ some k ≠ v.ownBlock) (hfresh : ∀ k, W.heap.size ≤ k → ok k)
    (HO : N d e W base ok v xs) (HB : Below base w0 W) (hbase : base ≤ W.heap.size) (hl : (xs.length + 1) * bytes ≤ 140737488355328)
    (h : ∀ v1 w1, N d e w1 base ok v1 (xs ++ [p]) → Below base w0 w1 → W.grownBy w1 v.ownBlock → (v1.ownBlock = v.ownBlock ∨ ∃ b, v1.ownBlock = some b ∧ W.heap.size ≤ b) → wpList P ops Q rest (a.put o.dst v1) w1) :
    wpList P ops Q (o :: rest) a (W.alloc (.cells cs.toArray e)) := by
  obtain ⟨h0, rows, hlr, hR, hf⟩ := HO
  refine R_append (raw d.sz) base hgd s x t e z bytes ho ht hinfo hz hs0 hb0 v rows cs cs (fun _ => True) (fun _ => False) hs hx (FK_raw hp) (fun _ hk => hk.elim) (fun _ _ => trivial) (raw_any hR) HB hbase (by rw [hlr]; exact hl) ?_
  intro v1 w1 hr hb hg hat
  exact h v1 w1 (N_appended h0 hlr hf (ys := [p]) (news := [cs]) rfl (fun j y c hy hc => by
    rcases j with _ | j
    · simp only [List.getElem?_cons_zero, Option.some.injEq] at hy hc
      rw [← hy, ← hc]; exact hp
    · simp at hy) hokp hfresh hr hg hat) hb hg hat
end
end Kd
end Go.Proofs.YtepipgneefcoiaaW.PrintWords
namespace Go.Proofs.YtepipgneefcoiaaW.PrintMore
open Go.RowKit Go.Proofs.YtepipgneefcoiaaW.PrintWords
namespace Kd
open Go.Proofs.YtepipgneefcoiaaW.PrintWords.Kd
end Kd
namespace Kd
open Go.Proofs.YtepipgneefcoiaaW.PrintWords.Kd
end Kd
end Go.Proofs.YtepipgneefcoiaaW.PrintMore
namespace Go.Proofs.YtepipgneefcoiaaW.PrintWords
open Go.RowKit
section
variable {P : Program} {ops : Array Oper} {rest : List Oper} {o : Oper} {a : Act} {Q : Exit → Act → World → Prop} {W : World}
theorem gate_callee {f : FuncId} {as1 : Array Operand} {ts : Array TypeId} (_ho : o.op = .call { callee := .value (.func f), args := as1, argTypes := ts }) (h : wpList P ops Q (o :: rest) a W) : wpList P ops Q (o :: rest) a W := h
theorem gate_builtin {b : Builtin} {xs : Array Operand} {ts : Array TypeId} (_ho : o.op = .call { callee := .builtin b, args := xs, argTypes := ts }) (h : wpList P ops Q (o :: rest) a W) : wpList P ops Q (o :: rest) a W := h
end
theorem calls_of_args {P : Program} {f : FuncId} {args args' : Array Value} {w : World} {Q : Ending → World → Prop} (h : args = args') (hc : Calls P f args' w Q) : Calls P f args w Q := h ▸ hc
def mx (a b : Int) : Int := if a < b then b else a
def mn (a b : Int) : Int := if b < a then b else a
def shr (k : IntKind) (x y : Int) : Int := x / 2 ^ min y.toNat k.bits
theorem shr_small {k : IntKind} {x y j : Int} (h : shr k x y = j) (hy : y ≤ k.bits) : x / 2 ^ y.toNat = j := by rw [← h]; unfold shr; rw [Nat.min_eq_left (by omega)]
theorem drewN_self (w : World) (n : Nat) : w.drewN n = w.drewN n := rfl
namespace Kd
end Kd
end Go.Proofs.YtepipgneefcoiaaW.PrintWords
namespace Go.Proofs.YtepipgneefcoiaaW.PrintWords
open Go.RowKit
namespace Kd
def V {α : Type} (d : Kd α) (_e : Nat) (W : World) (_base : Nat) (ok : Nat → Prop) (v : Value) (xs : List α) : Prop := ∃ A c, v = .slice A xs.length c ∧ xs.length ≤ c ∧ F d W ok A xs.length xs
section
variable {α β : Type} {d : Kd α} {e base base' n m c g N' lo hi : Nat} {ok ok' S : Nat → Prop} {w W w1 : World} {A : Option Addr} {ad : Addr} {u v v1 : Value} {xs : List α}
theorem V_map (h : V d e W base ok v xs) (hF : ∀ A, F d W ok A xs.length xs → F d w1 ok' A xs.length xs) : V d e w1 base' ok' v xs := by
  obtain ⟨A, c, hv, hl, hf⟩ := h
  exact ⟨A, c, hv, hl, hF A hf⟩
theorem V_mk (hl : xs.length ≤ c) (hf : F d W ok A xs.length xs) : V d e W base ok (.slice A xs.length c) xs := ⟨A, c, rfl, hl, hf⟩
theorem V_slice (h : V d e W base ok v xs) : ∃ A c, v = .slice A xs.length c := by
  obtain ⟨A, c, hv, _⟩ := h
  exact ⟨A, c, hv⟩
theorem V_at (h : V d e W base ok (.slice A n c) xs) : n = xs.length ∧ n ≤ c ∧ F d W ok A xs.length xs := by
  obtain ⟨A', c', hv, hl, hf⟩ := h
  injection hv with ha hn hc
  subst ha; subst hc
  exact ⟨hn, by rw [hn]; exact hl, hf⟩
theorem V_reads' (h : V d e W base ok (.slice A n c) xs) : n = xs.length ∧ n ≤ c ∧ d.C W A xs.length xs := ⟨(V_at h).1, (V_at h).2.1, F_now (V_at h).2.2⟩
theorem V_nil (d : Kd α) (e : Nat) (W : World) (base : Nat) (ok : Nat → Prop) : V d e W base ok (.slice none 0 0) [] := ⟨none, 0, rfl, Nat.le_refl _, F_nil d W ok⟩
theorem R_V (h : d.R e W base ok v xs) : V d e W base' ok v xs := by
  obtain ⟨A, c, rfl⟩ := R_slice h
  exact ⟨A, c, rfl, (R_reads' h).2.1, R_F h⟩
theorem N_V (h : N d e W base ok v xs) : V d e W base' ok v xs := by
  obtain ⟨A, c, rfl⟩ := N_slice h
  exact ⟨A, c, rfl, (N_reads' h).2.1, N_F h⟩
theorem V_mono (h : V d e W base ok v xs) (hok : ∀ k, ok k → ok' k) : V d e W base ok' v xs := V_map h (fun _ hf => F_mono hf hok)
theorem V_bound (h : V d e W base ok v xs) : V d e W base (fun k => ok k ∧ k < W.heap.size) v xs := V_map h (fun _ hf => F_bound hf)
theorem V_lower (h : V d e W base ok v xs) (_ : base' ≤ base) : V d e W base' ok v xs := h
theorem V_step (h : V d e W base ok v xs) (hm : ∀ k, ok k → k < W.heap.size → w1.heap[k]? = W.heap[k]?) : V d e w1 base ok v xs := V_map h (fun _ hf => F_step hf hm)
theorem V_below (h : V d e W base ok v xs) (hb : Below W.heap.size W w1) : V d e w1 base ok v xs := V_map h (fun _ hf => F_below hf hb)
theorem V_alloc (h : V d e W base ok v xs) (o : Obj) : V d e (W.alloc o) base ok v xs := V_map h (fun _ hf => F_alloc hf o)
theorem V_drew (h : V d e W base ok v xs) : V d e W.drew base ok v xs := V_map h (fun _ hf => F_drew hf)
theorem V_drewN (h : V d e W base ok v xs) (m : Nat) : V d e (W.drewN m) base ok v xs := V_map h (fun _ hf => F_drewN hf m)
theorem V_far (h : V d e W base ok v xs) {p : Addr} (hok : ∀ k, ok k → k ≠ p.block) (u : Value) : V d e (W.setCell p u) base ok v xs := V_map h (fun _ hf => F_far hf hok u)
theorem V_after (h : V d e W base (fun k => ok k ∧ some k ≠ u.ownBlock) v xs) (hg : W.grownBy w1 u.ownBlock) (hat : v1.ownBlock = u.ownBlock ∨ ∃ b, v1.ownBlock = some b ∧ W.heap.size ≤ b) : V d e w1 base (fun k => ok k ∧ some k ≠ v1.ownBlock) v xs := V_map h (fun _ hf => F_after hf hg hat)
theorem V_afterv (h : V d e W base (fun k => ok k ∧ some k ≠ v.ownBlock) u xs) (hg : W.grownBy w1 v.ownBlock) (hat : v1.ownBlock = v.ownBlock ∨ ∃ b, v1.ownBlock = some b ∧ W.heap.size ≤ b) : V d e w1 base (fun k => ok k ∧ some k ≠ v1.ownBlock) u xs := V_after h hg hat
theorem V_elder' (h : V d e W base ok v xs) (hbase : ∀ k, u.ownBlock = some k → W.heap.size ≤ k) (hb : Below W.heap.size W w1) : V d e w1 base (fun k => ok k ∧ some k ≠ u.ownBlock) v xs := V_map h (fun _ hf => F_elder' hf hbase hb)
theorem V_elderB (h : V d e W base ok v xs) (a : Nat) (ha : W.heap.size ≤ a) : V d e W base (fun k => ok k ∧ k ≠ a) v xs := V_map h (fun _ hf => F_elderB hf a ha)
theorem F_take (h : F d W ok A xs.length xs) (hm : m ≤ xs.length) : F d W ok A (xs.take m).length (xs.take m) := F_imp h (fun _ hC => C_take hC hm)
theorem F_cut (h : F d W ok A xs.length xs) (hm : m ≤ xs.length) (hc : xs.length ≤ c) : F d W ok (if c = m then A else A.map (·.add (m * d.sz))) (xs.drop m).length (xs.drop m) := F_imp h (fun _ hC => C_drop hC hm hc)
theorem FK_slice_mk {l : List α} (hl : l.length ≤ c) (hf : F d W ok A l.length l) : FK (Kd.slice e d) W ok l [.slice A l.length c] := fun W' hW => ⟨A, c, rfl, hl, hf W' hW⟩
theorem R_newM {M : Nat → Prop} (h : d.R e w1 W.heap.size ok v xs) (hle : w.heap.size ≤ W.heap.size) (hM : ∀ k, w.heap.size ≤ k → M k) : d.R e w1 W.heap.size (fun k => M k ∧ ok k) v xs := R_mono (R_bound h) (fun k hk => ⟨hM k (Nat.le_trans hle hk.2.1), hk.1⟩)
end
end Kd
end Go.Proofs.YtepipgneefcoiaaW.PrintWords
namespace Go.Proofs.Ytepipgneefcoiaa.D
open Go.RowKit Go.Proofs.YtepipgneefcoiaaW.PrintWords Go.Proofs.YtepipgneefcoiaaW.PrintLast Go.Proofs.YtepipgneefcoiaaW.PrintMore
def errW : Option Int → Value
  | none => .nilIface
  | some c => .iface 0 (.int .i64 c)
theorem errW_none : errW none = .nilIface := rfl
theorem errW_some (c : Int) : errW (some c) = .iface 0 (.int .i64 c) := rfl
theorem info5 : (Try.prog.info? 5).map (fun i => (i.zero, i.size, i.bytes)) = some (some (.int .u8 0), 1, 1) := by kernel_rfl
theorem info9 : (Try.prog.info? 9).map (fun i => (i.zero, i.size, i.bytes)) = some (some (.string ⟨#[]⟩), 1, 16) := by kernel_rfl
theorem info27 : (Try.prog.info? 27).map (fun i => (i.zero, i.size, i.bytes)) = some (some (.slice none 0 0), 1, 24) := by kernel_rfl
theorem info106 : (Try.prog.info? 106).map (fun i => (i.zero, i.size, i.bytes)) = some (some (.agg #[(.int .u64 0), (.int .u64 0), (.int .i64 0), (.int .i64 0), (.slice none 0 0)]), 5, 56) := by kernel_rfl
theorem info111 : (Try.prog.info? 111).map (fun i => (i.zero, i.size, i.bytes)) = some (some (.agg #[(.int .i64 0), (.string ⟨#[]⟩)]), 2, 24) := by kernel_rfl
def rd_L3 (xs : List (List Int)) (i : Int) : (List Int) := xs.getD i.toNat ([] : List Int)
theorem at_L3 {w : World} {A : Option Addr} {n : Nat} {xs : List (List Int)} (h : Kd.C (Kd.slice 5 (Kd.int .u8)) w A n xs) (i : Int) (h0 : 0 ≤ i) (h1 : i < n) : ∃ ad A0 c0, A = some ad ∧ w.cell? (ad.add i.toNat) = some (.slice A0 (rd_L3 xs i).length c0) ∧ (rd_L3 xs i).length ≤ c0 ∧ (Kd.int .u8).C w A0 (rd_L3 xs i).length (rd_L3 xs i) := by
  obtain ⟨ad, c, e, _, hK, hc0⟩ := Kd.C_get h ([] : List Int) i h0 h1
  have hc : ∀ j u, c[j]? = some u → w.cell? (ad.add (i.toNat * 1 + j)) = some u := hc0
  obtain ⟨A0, c0, rfl, l0, g0⟩ := hK
  exact ⟨ad, A0, c0, e, by have hq := hc 0 _ rfl; rwa [Nat.mul_one, Nat.add_zero] at hq, l0, g0⟩
structure S106 where
  f0 : Int
  f1 : Int
  f2 : Int
  f3 : Int
  f4 : (List Int)
def z106 : S106 := ⟨(0 : Int), (0 : Int), (0 : Int), (0 : Int), ([] : List Int)⟩
def k106 : Kd S106 := Kd.iso (Kd.pair (Kd.int .u64) (Kd.pair (Kd.int .u64) (Kd.pair (Kd.int .i64) (Kd.pair (Kd.int .i64) (Kd.slice 5 (Kd.int .u8)))))) (fun x : S106 => (x.f0, x.f1, x.f2, x.f3, x.f4))
theorem k106_open {w : World} {x : S106} {cs : List Value} (h : k106.K w x cs) : ∃ A4 c4, cs = [.int .u64 x.f0, .int .u64 x.f1, .int .i64 x.f2, .int .i64 x.f3, .slice A4 x.f4.length c4] ∧ x.f4.length ≤ c4 ∧ (Kd.int .u8).C w A4 x.f4.length x.f4 := by
  obtain ⟨_, _, rfl, rfl, ⟨_, _, rfl, rfl, ⟨_, _, rfl, rfl, ⟨_, _, rfl, rfl, ⟨A4, c4, rfl, l4, g4⟩⟩⟩⟩⟩ := h
  exact ⟨A4, c4, rfl, l4, g4⟩
theorem k106_mkM (w : World) (base : Nat) (ok : Nat → Prop) (x : S106) {v4 : Value} (g4 : (Kd.int .u8).R 5 w base ok v4 x.f4) : k106.M w base ok x [.int .u64 x.f0, .int .u64 x.f1, .int .i64 x.f2, .int .i64 x.f3, v4] := ⟨[.int .u64 x.f0], [.int .u64 x.f1, .int .i64 x.f2, .int .i64 x.f3, v4], rfl, rfl, ⟨[.int .u64 x.f1], [.int .i64 x.f2, .int .i64 x.f3, v4], rfl, rfl, ⟨[.int .i64 x.f2], [.int .i64 x.f3, v4], rfl, rfl, ⟨[.int .i64 x.f3], [v4], rfl, rfl, ⟨v4, rfl, g4⟩⟩⟩⟩⟩
def rd_T106 (xs : List S106) (i : Int) : S106 := xs.getD i.toNat z106
theorem at_T106 {w : World} {A : Option Addr} {n : Nat} {xs : List S106} (h : Kd.C k106 w A n xs) (i : Int) (h0 : 0 ≤ i) (h1 : i < n) : ∃ ad A4 c4, A = some ad ∧ w.cell? (ad.add (i.toNat * 5)) = some (.int .u64 (rd_T106 xs i).f0) ∧ w.cell? ⟨(ad.add (i.toNat * 5)).block, (ad.add (i.toNat * 5)).off + 1, none⟩ = some (.int .u64 (rd_T106 xs i).f1) ∧ w.cell? ⟨(ad.add (i.toNat * 5)).block, (ad.add (i.toNat * 5)).off + 2, none⟩ = some (.int .i64 (rd_T106 xs i).f2) ∧ w.cell? ⟨(ad.add (i.toNat * 5)).block, (ad.add (i.toNat * 5)).off + 3, none⟩ = some (.int .i64 (rd_T106 xs i).f3) ∧ w.cell? ⟨(ad.add (i.toNat * 5)).block, (ad.add (i.toNat * 5)).off + 4, none⟩ = some (.slice A4 (rd_T106 xs i).f4.length c4) ∧ (rd_T106 xs i).f4.length ≤ c4 ∧ (Kd.int .u8).C w A4 (rd_T106 xs i).f4.length (rd_T106 xs i).f4 := by
  obtain ⟨ad, c, e, _, hK, hc0⟩ := Kd.C_get h z106 i h0 h1
  have hc : ∀ j u, c[j]? = some u → w.cell? (ad.add (i.toNat * 5 + j)) = some u := hc0
  obtain ⟨A4, c4, rfl, l4, g4⟩ := k106_open hK
  exact ⟨ad, A4, c4, e, hc 0 _ rfl, by rw [← add_field _ _ 1 (by omega)]; exact hc 1 _ rfl, by rw [← add_field _ _ 2 (by omega)]; exact hc 2 _ rfl, by rw [← add_field _ _ 3 (by omega)]; exact hc 3 _ rfl, by rw [← add_field _ _ 4 (by omega)]; exact hc 4 _ rfl, l4, g4⟩
structure S111 where
  f0 : Int
  f1 : ByteArray
def z111 : S111 := ⟨(0 : Int), (⟨#[]⟩ : ByteArray)⟩
def k111 : Kd S111 := Kd.iso (Kd.pair (Kd.int .i64) Kd.string) (fun x : S111 => (x.f0, x.f1))
theorem k111_open {w : World} {x : S111} {cs : List Value} (h : k111.K w x cs) : cs = [.int .i64 x.f0, .string x.f1] := by
  obtain ⟨_, _, rfl, rfl, rfl⟩ := h
  exact rfl
theorem k111_mkM (w : World) (base : Nat) (ok : Nat → Prop) (x : S111)  : k111.M w base ok x [.int .i64 x.f0, .string x.f1] := ⟨[.int .i64 x.f0], [.string x.f1], rfl, rfl, rfl⟩
def rd_T111 (xs : List S111) (i : Int) : S111 := xs.getD i.toNat z111
theorem at_T111 {w : World} {A : Option Addr} {n : Nat} {xs : List S111} (h : Kd.C k111 w A n xs) (i : Int) (h0 : 0 ≤ i) (h1 : i < n) : ∃ ad , A = some ad ∧ w.cell? (ad.add (i.toNat * 2)) = some (.int .i64 (rd_T111 xs i).f0) ∧ w.cell? ⟨(ad.add (i.toNat * 2)).block, (ad.add (i.toNat * 2)).off + 1, none⟩ = some (.string (rd_T111 xs i).f1) := by
  obtain ⟨ad, c, e, _, hK, hc0⟩ := Kd.C_get h z111 i h0 h1
  have hc : ∀ j u, c[j]? = some u → w.cell? (ad.add (i.toNat * 2 + j)) = some u := hc0
  obtain rfl := k111_open hK
  exact ⟨ad, e, hc 0 _ rfl, by rw [← add_field _ _ 1 (by omega)]; exact hc 1 _ rfl⟩
structure S51 where
  f0 : (List ByteArray)
  f1 : (List S111)
  f2 : Int
  f3 : Bool
  f4 : Bool
structure S61 where
  f0 : Int
  f1 : Int
  f2 : Int
  f3 : Int
def k61 : Kd S61 := Kd.iso (Kd.pair (Kd.int .i64) (Kd.pair (Kd.int .i64) (Kd.pair (Kd.int .i64) (Kd.int .u64)))) (fun x : S61 => (x.f0, x.f1, x.f2, x.f3))
theorem k61_open {w : World} {x : S61} {cs : List Value} (h : k61.K w x cs) : cs = [.int .i64 x.f0, .int .i64 x.f1, .int .i64 x.f2, .int .u64 x.f3] := by
  obtain ⟨_, _, rfl, rfl, ⟨_, _, rfl, rfl, ⟨_, _, rfl, rfl, rfl⟩⟩⟩ := h
  exact rfl
structure S79 where
  f0 : Int
  f1 : Int
  f2 : (List Int)
  f3 : (List Bool)
end Go.Proofs.Ytepipgneefcoiaa.D
namespace Go.Proofs.Ytepipgneefcoiaa.D
open Go.RowKit Go.Proofs.YtepipgneefcoiaaW.PrintWords Go.Proofs.YtepipgneefcoiaaW.PrintLast Go.Proofs.YtepipgneefcoiaaW.PrintMore
theorem C_lit_int {k : IntKind} {w : World} {b : Nat} (xs : List Int) (hm : xs.length ≤ 9223372036854775807) (h : ∀ j p, xs[j]? = some p → w.cell? ⟨b, j, none⟩ = some (.int k p)) :
    Kd.C (Kd.int k) w (some ⟨b, 0, none⟩) xs.length xs := by
  refine ⟨rfl, hm, fun _ => ⟨_, rfl, fun j p hj => ⟨[.int k p], rfl, rfl, fun i u hu => ?_⟩⟩⟩
  cases i with
  | zero =>
    injection hu with hu
    subst hu
    show w.cell? ((⟨b, 0, none⟩ : Addr).add (j * 1 + 0)) = _
    rw [add_plain, Nat.mul_one, Nat.add_zero]
    exact h j p hj
  | succ i => simp at hu
theorem clone_nil {α : Type} {d : Kd α} {w : World} {xs : List α} (h : d.C w none xs.length xs) : xs = [] := by
  cases xs with
  | nil => rfl
  | cons x xs =>
    obtain ⟨ad, e, _⟩ := h.2.2 (by simp)
    cases e
def bl : Nat → Nat → List Bool
  | 0, _ => []
  | n + 1, m => (m % 2 == 1) :: bl n (m / 2)
def bm (n m : Nat) : Array Bool := (bl n m).toArray
section
variable {P : Program} {md : Region.Mode} {ops : Array Oper} {Q : Exit → Act → World → Prop} {S : World → Prop} {ds : List Nat}
theorem pu {oi : Oper} {v : Value} {fuel : Nat} {l : Array Bool} {a : Act} {w : World} (i : Nat) (N : Option Tmp) (l' : Array Bool) {a' : Act} (h : wpAnyLast P md ops Q S ds fuel l' a' w)
    (hi : ops[i]? = some oi := by rfl) (hN : oi.dst = N := by rfl) (hc : anyB md ops l l' i = true := by first | kernel_rfl | exact any_of HT_.out (by kernel_rfl))
    (hQ : ∀ c a w, Q (.panic c) (a.put oi.dst v) w → Q (.panic c) a w := by exact fun _ _ _ h => h) (hy : Yields P ops oi v a := by exact Or.inl ⟨by rfl, by intro w'; go_simp; with_reducible rfl⟩) (ha : a.put N v = a' := by (simp only [Act.put, List.setIfInBounds_toArray, List.set_cons_zero, List.set_cons_succ, i64_w, i32_w]; rfl)) : wpAnyLast P md ops Q S ds (fuel + 1) l a w := pure_ l' hi hN hc hQ hy ha h
end
theorem b_w {w W0 W : World} (h : Aside0 (Below w.heap.size w W0)) (k : Below w.heap.size w W0 → Below w.heap.size w W := by intro h; repeat (first | (with_reducible first | exact h | apply below_alloc | apply pw_below_drewN | apply below_drew1 | refine below_set ?_ (Aside0.out (by with_reducible assumption))) | exact h)) : Below w.heap.size w W := k h.out
theorem bk {p q : Prop} (h : Aside0 q) (k : q → p := by intro h; (with_reducible repeat (first | refine blk_drewN ?_ _ | refine blk_drew ?_ | refine blk_alloc ?_ _)); exact h) : p := k h.out
theorem bb {w0 w w' : World} {g : Nat} {o : Obj} (h : Aside0 (w0.heap[g]? = some o)) (hb : Below w.heap.size w w') (k : w0.heap[g]? = some o → w.heap[g]? = some o := by intro h; (with_reducible repeat (first | refine blk_drewN ?_ _ | refine blk_drew ?_ | refine blk_alloc ?_ _)); exact h) : Aside0 (w'.heap[g]? = some o) := ⟨blk_below (k h.out) hb⟩
theorem nl {w0 w : World} {g b : Nat} {o : Obj} (h : Aside0 (w0.heap[g]? = some o)) (hg : b = w.heap.size) (k : w0.heap[g]? = some o → w.heap[g]? = some o := by intro h; (with_reducible repeat (first | refine blk_drewN ?_ _ | refine blk_drew ?_ | refine blk_alloc ?_ _)); exact h) : Aside0 (g ≠ b) := ⟨hg ▸ Nat.ne_of_lt (blk_lt (k h.out))⟩
theorem ng {w0 w : World} {g b : Nat} {o : Obj} (h : Aside0 (w0.heap[g]? = some o)) (hg : b = w.heap.size) (k : w0.heap[g]? = some o → w.heap[g]? = some o := by intro h; (with_reducible repeat (first | refine blk_drewN ?_ _ | refine blk_drew ?_ | refine blk_alloc ?_ _)); exact h) : Aside0 (b ≠ g) := ⟨hg ▸ Nat.ne_of_gt (blk_lt (k h.out))⟩
theorem bnd {α β : Type} {o : Option α} {f : α → Option β} {r : β} (h : o.bind f = some r) : ∃ a, Aside0 (o = some a) ∧ f a = some r := by
  obtain ⟨a, h1, h2⟩ := Option.bind_eq_some_iff.mp h
  exact ⟨a, ⟨h1⟩, h2⟩
section
variable {P : Program} {md : Region.Mode} {ops : Array Oper} {Q : Exit → Act → World → Prop} {S : World → Prop} {ds : List Nat}
theorem pud {oi : Oper} {fuel : Nat} {l : Array Bool} {a : Act} {w : World} (i : Nat) (N : Option Tmp) (l' : Array Bool) {a' : Act} (h : wpAnyLast P md ops Q S ds fuel l' a' w)
    (hi : ops[i]? = some oi := by rfl) (hN : oi.dst = N := by rfl) (hc : anyB md ops l l' i = true := by first | kernel_rfl | exact any_of HT_.out (by kernel_rfl))
    (hQ : ∀ c a w, Q (.panic c) (a.put oi.dst undef) w → Q (.panic c) a w := by exact fun _ _ _ h => h) (hy : Yields P ops oi undef a := by exact Or.inr ⟨by rfl, rfl⟩) (ha : a.put N undef = a' := by (simp only [Act.put, List.setIfInBounds_toArray, List.set_cons_zero, List.set_cons_succ, i64_w, i32_w]; rfl)) : wpAnyLast P md ops Q S ds (fuel + 1) l a w := pure_ l' hi hN hc hQ hy ha h
end
theorem bs {w W W0 w2 : World} (h : Aside0 (Below w.heap.size w W0)) (hb : Below W.heap.size W w2) (k : Below w.heap.size w W0 → Below w.heap.size w W := by intro h; repeat (first | (with_reducible first | exact h | apply below_alloc | apply pw_below_drewN | apply below_drew1 | refine below_set ?_ (Aside0.out (by with_reducible assumption))) | exact h)) : Aside0 (Below w.heap.size w w2) := ⟨below_step (k h.out) hb⟩
theorem gs {w W W0 : World} {b : Nat} (h : Aside0 (Below w.heap.size w W0)) (hg : b = W.heap.size) (k : Below w.heap.size w W0 → Below w.heap.size w W := by intro h; repeat (first | (with_reducible first | exact h | apply below_alloc | apply pw_below_drewN | apply below_drew1 | refine below_set ?_ (Aside0.out (by with_reducible assumption))) | exact h)) : Aside0 (w.heap.size ≤ b) := ⟨hg ▸ below_size (k h.out)⟩
theorem kc {p q r : Prop} (h : Aside0 q) (b : Aside0 r) (k : q → r → p := by intro h b; repeat (first | exact (Kd.C_below h b) | (with_reducible refine Kd.C_alloc ?_ _) | (with_reducible refine Kd.C_drewN ?_ _) | (with_reducible refine Kd.C_drew ?_))) : p := k h.out b.out
theorem xb {w W : World} {a : Addr} {v : Value} (b : Aside0 (Below w.heap.size w W)) (h : w.cell? a = some v) : W.cell? a = some v := (b.out.cell (World.block_lt_of_cell? w _ h)).trans h
theorem kR' {p q : Prop} (h : Aside0 q) (k : q → p := by intro h; (with_reducible repeat (first | apply Kd.R_alloc | apply Kd.R_drewN | apply Kd.R_drew)); exact h) : p := k h.out
theorem kS' {p q : Prop} (h : Aside0 q) (k : q → p := by intro h; (with_reducible repeat (first | apply Kd.S_alloc | apply Kd.S_drewN | apply Kd.S_drew)); exact h) : p := k h.out
theorem kV' {p q : Prop} (h : Aside0 q) (k : q → p := by intro h; (with_reducible repeat (first | apply Kd.V_alloc | apply Kd.V_drewN | apply Kd.V_drew)); exact h) : p := k h.out
theorem kp {w W0 W : World} {S : Nat → Prop} (h : Aside0 (Kept w W0 S)) (k : Kept w W0 S → Kept w W S := by intro h; repeat (first | (with_reducible first | exact h | apply Kept.alloc | apply Kept.drewN | apply Kept.drew | refine Kept.setCell ?_ (.inr (Aside0.out (by with_reducible assumption))) _) | exact h)) : Kept w W S := k h.out
theorem blk_farB {w : World} {g b i : Nat} {t : TypeId} {cs : Array Value} {u : Value} (n : Aside0 (g ≠ b)) (h : w.heap[g]? = some (.cells cs t (0, 0))) : (w.setCell ⟨b, i, none⟩ u).heap[g]? = some (.cells cs t (0, 0)) := blk_far h n.out u
theorem bp {p q : Prop} (h : Aside0 q) (k : q → p := by intro h; (repeat (with_reducible first | refine blk_drewN ?_ _ | refine blk_drew ?_ | refine blk_alloc ?_ _ | (apply blk_farB; assumption) | apply blk_put)); exact h; all_goals first | (simp only [List.setIfInBounds_toArray, List.set_cons_zero, List.set_cons_succ]; done) | (simp only [List.setIfInBounds_toArray, List.set_cons_zero, List.set_cons_succ]; rfl) | rfl) : p := k h.out
theorem er {p : Prop} (h : p := by first | rfl | (simp [errW_none, errW_some] <;> rfl) | (simp [*, errW_none, errW_some] <;> rfl)) : p := h
theorem rn {p : Prop} (h : p := by first | exact Kd.R_nil _ _ _ _ _ | exact Kd.N_nil _ _ _ _ _ | exact Kd.V_nil _ _ _ _ _ | exact Kd.Q_nil _ _ _ _ _ | exact Kd.S_nil _ _ _ _ _) : p := h
theorem sm {p : Prop} (h : p := by first | rfl | (simp; done) | (simp [*]; done)) : p := h
theorem om {p : Prop} (h : p := by first | omega | exact Nat.le_refl _) : p := h
theorem od {p : Prop} [Decidable p] (h : decide p = true := by first | (with_reducible assumption) | assumption) : p := of_decide_eq_true h
section
variable {P : Program} {ops : Array Oper} {rest : List Oper} {o : Oper} {a : Act} {Q : Exit → Act → World → Prop} {W : World}
theorem bx (N : Tmp) (cs : Array Value) (t : TypeId) (h : ∀ g, g = W.heap.size → ∀ w1, w1.heap[g]? = some (.cells cs t (0, 0)) → Below W.heap.size W w1 → wpList P ops Q rest (a.put o.dst (.pointer (some ⟨g, 0, none⟩))) w1)
    (hgd : o.guard = none := by rfl) (hd : o.dst = some N := by rfl) (hrun : (execOp a.eval o).run P W = .ok (.value (.pointer (some ⟨W.heap.size, 0, none⟩))) (W.alloc (.cells cs t (0, 0))) := by first | (go_simp; done) | (go_simp; rfl)) : wpList P ops Q (o :: rest) a W := box_event hgd hd hrun h
theorem gl (N : Tmp) {f : FuncId} {fn : Func} (hf : P.funcs[f]? = some fn) (args : Array Value) {us : Array Operand} {ts : Array TypeId} (h : Calls P f args W fun e w' => ∃ v, e = .returned v ∧ wpList P ops Q rest (a.put (some N) v) w')
    (hd : o.dst = some N := by rfl) (hg : o.guard = none := by rfl) (hname : (fn.name == "runtime.NumGoroutine") = false := by kernel_rfl) (hb : fn.body.isSome = true := by rfl) (hop : o.op = .call { callee := .value (.func f), args := us, argTypes := ts } := by rfl) (hargs : us.map a.eval = args := by (try simp only [List.map_toArray, List.map_cons, List.map_nil]); first | done | rfl | (simp only [List.length_drop, List.length_take]; rfl)) : wpList P ops Q (o :: rest) a W := goesL_ (some N) hd hg hf hname hb args hop hargs h
end
section
variable {α : Type} {d : Kd α} {e base g t g' t' : Nat} {ok ok' : Nat → Prop} {w W : World} {v : Value} {xs : List α} {cs cs' : Array Value} {u0 u1 u2 u3 u4 u5 u6 : Value}
theorem rR (h : Kd.R d e w base ok v xs) (k : Kd.R d e w base ok v xs → Kd.R d e W base ok v xs := by intro h; (with_reducible repeat (first | apply Kd.R_alloc | apply Kd.R_drewN | apply Kd.R_drew)); exact h) : Kd.R d e W base ok v xs := k h
theorem tR (h : Aside0 (Kd.R d e w base ok v xs)) (b : Aside0 (w.heap[g]? = some (.cells cs t (0, 0)))) (m : ∀ q, q ∈ e :: d.E → q ≠ t := by decide) : Kd.R d e w base (fun k => ok k ∧ k ≠ g) v xs := Kd.R_types h.out b.out m
theorem tR2 (h : Aside0 (Kd.R d e w base ok v xs)) (b : Aside0 (w.heap[g]? = some (.cells cs t (0, 0)))) (b' : Aside0 (w.heap[g']? = some (.cells cs' t' (0, 0)))) (m : ∀ q, q ∈ e :: d.E → q ≠ t := by decide) (m' : ∀ q, q ∈ e :: d.E → q ≠ t' := by decide) : Kd.R d e w base (fun k => (ok k ∧ k ≠ g) ∧ k ≠ g') v xs := Kd.R_types (Kd.R_types h.out b.out m) b'.out m'
theorem fR1 {i : Nat} (h : Kd.R d e w base ok v xs) (m : ∀ k, ok k → k ≠ g) : Kd.R d e (w.setCell ⟨g, i, none⟩ u0) base ok v xs := Kd.R_far h m _
theorem fR5 (h : Kd.R d e w base ok v xs) (m : ∀ k, ok k → k ≠ g) : Kd.R d e (((((w.setCell ⟨g, 0, none⟩ u0).setCell ⟨g, 1, none⟩ u1).setCell ⟨g, 2, none⟩ u2).setCell ⟨g, 3, none⟩ u3).setCell ⟨g, 4, none⟩ u4) base ok v xs := Kd.R_far (Kd.R_far (Kd.R_far (Kd.R_far (Kd.R_far h m _) m _) m _) m _) m _
theorem rS (h : Kd.S d e w base ok v xs) (k : Kd.S d e w base ok v xs → Kd.S d e W base ok v xs := by intro h; (with_reducible repeat (first | apply Kd.S_alloc | apply Kd.S_drewN | apply Kd.S_drew)); exact h) : Kd.S d e W base ok v xs := k h
theorem tS (h : Aside0 (Kd.S d e w base ok v xs)) (b : Aside0 (w.heap[g]? = some (.cells cs t (0, 0)))) (m : ∀ q, q ∈ e :: d.E → q ≠ t := by decide) : Kd.S d e w base (fun k => ok k ∧ k ≠ g) v xs := Kd.S_types h.out b.out m
theorem fS7 (h : Kd.S d e w base ok v xs) (m : ∀ k, ok k → k ≠ g) : Kd.S d e (((((((w.setCell ⟨g, 0, none⟩ u0).setCell ⟨g, 1, none⟩ u1).setCell ⟨g, 2, none⟩ u2).setCell ⟨g, 3, none⟩ u3).setCell ⟨g, 4, none⟩ u4).setCell ⟨g, 5, none⟩ u5).setCell ⟨g, 6, none⟩ u6) base ok v xs := Kd.S_far (Kd.S_far (Kd.S_far (Kd.S_far (Kd.S_far (Kd.S_far (Kd.S_far h m _) m _) m _) m _) m _) m _) m _
end
section
variable {α β : Type} {p : Prop} [Decidable p] {a b : Option α} {r : α}
theorem it (h : (if true = true then a else b) = some r) : a = some r := by rwa [if_pos rfl] at h
theorem fi (h : (if false = true then a else b) = some r) : b = some r := by rwa [if_neg (show ¬ (false = true) by decide)] at h
theorem ifN (h : (if p then a else none) = some r) : p ∧ a = some r := by
  by_cases c : p
  · rw [if_pos c] at h
    exact ⟨c, h⟩
  · rw [if_neg c] at h
    cases h
theorem nm (h : (if p then none else b) = some r) : ¬ p ∧ b = some r := by
  by_cases c : p
  · rw [if_pos c] at h
    cases h
  · rw [if_neg c] at h
    exact ⟨c, h⟩
theorem yy (x : α) : ∃ y, Aside0 (y = x) := ⟨x, ⟨rfl⟩⟩
theorem yx {x y : α} {q p : Prop} (n : Aside0 (y = x)) (h : q) (k : y = x → q → p := by intro n h; first | (rw [n]; with_reducible exact h) | (have h2 := (Option.bind_some _ _).symm.trans h; rw [n]; with_reducible exact h2) | (have h2 := (Option.bind_some _ _).symm.trans h; with_reducible exact h2) | with_reducible exact h | (rw [n]; exact h) | exact h) : p := k n.out h
end
theorem ln {q : Prop} {a b : Nat} (h : q) (k : q → a = b := by intro h; (try rw [List.length_drop]); (try rw [List.length_take]); omega) : a = b := k h
theorem aw {p : Prop} {a b : Nat} (e : a = b) (k : a = b → p := by intro e; (try simp only [List.map_toArray, List.map_cons, List.map_nil]); first | done | (rw [e] <;> rfl) | rfl | (simp only [List.length_drop, List.length_take]; rfl)) : p := k e
section
variable {P : Program} {md : Region.Mode} {ops : Array Oper} {Q : Exit → Act → World → Prop} {S : World → Prop} {ds : List Nat} {fuel : Nat} {l : Array Bool} {a : Act} {w : World}
theorem p_t {oi : Oper} {v : Value} (i : Nat) (N : Option Tmp) (l' : Array Bool) {a' : Act} (h : wpAnyLast P md ops Q S ds fuel l' a' w)
    (hi : ops[i]? = some oi := by rfl) (hN : oi.dst = N := by rfl) (hc : takeB md ops ds l l' i = true := by exact take_ofW HT_.out HW_.out (by kernel_rfl))
    (hQ : ∀ c a w, Q (.panic c) (a.put oi.dst v) w → Q (.panic c) a w := by exact fun _ _ _ h => h) (hy : YieldsIf P ops S oi v a := by exact Or.inl ⟨by rfl, by intro w' s; (repeat (have t := s.1; replace s := s.2)); go_simp; with_reducible rfl⟩) (hH : S w := by exact hHeld) (ha : a.put N v = a' := by (simp only [Act.put, List.setIfInBounds_toArray, List.set_cons_zero, List.set_cons_succ, i64_w, i32_w]; rfl)) : wpAnyLast P md ops Q S ds (fuel + 1) l a w := take_ l' hi hN hc hQ hy hH ha h
theorem no (N : Option Tmp) {v : Value} {a' : Act} (h : wpAnyLast P md ops Q S ds fuel l a' w) (ha : Act.put a N v = a' := by (simp only [Act.put, List.setIfInBounds_toArray, List.set_cons_zero, List.set_cons_succ, i64_w, i32_w]; rfl)) : wpAnyLast P md ops Q S ds fuel l (Act.put a N v) w := norm_ ha h
theorem na {a' : Act} (h : wpAnyLast P md ops Q S ds fuel l a' w) (ha : a = a' := by (simp only [putAll, Act.put, List.setIfInBounds_toArray, List.set_cons_zero, List.set_cons_succ]; rfl)) : wpAnyLast P md ops Q S ds fuel l a w := norm_ ha h
theorem nb {a' : Act} (h : wpAnyLast P md ops Q S ds fuel l a' w) (ha : a = a' := by first | (simp only [putAll, Act.put, List.setIfInBounds_toArray, List.set_cons_zero, List.set_cons_succ]; done) | (simp only [putAll, Act.put, List.setIfInBounds_toArray, List.set_cons_zero, List.set_cons_succ]; rfl)) : wpAnyLast P md ops Q S ds fuel l a w := norm_ ha h
end
section
variable {P : Program} {md : Region.Mode} {ops : Array Oper} {Q : Exit → Act → World → Prop} {S : World → Prop} {ds : List Nat} {fuel : Nat} {l : Array Bool} {a : Act} {w : World}
theorem pn {oi : Oper} (i : Nat) (N : Option Tmp) (l' : Array Bool)
    (h : ∀ K : Act → World → Prop, Shut (∀ a' w', S w' → (S w' → wpAnyLast P md ops Q S ds fuel l' a' w') → K a' w') → if Region.wanted oi (yielded ops a.tmps) = true then Oper.wp P oi a w K Q else K (a.put N undef) w)
    (hi : ops[i]? = some oi := by rfl) (hN : oi.dst = N := by rfl) (hc : readyB md ops l l' i = true := by exact one_of HT_.out (by kernel_rfl)) (hd : i ∉ ds := by decide) : wpAnyLast P md ops Q S ds (fuel + 1) l a w := one_ l' hi hN hc hd h
theorem pw {oi oj : Oper} (i j : Nat) (Ni Nj : Option Tmp) (li lj : Array Bool)
    (h1 : ∀ K : Act → World → Prop, Shut (∀ a' w', S w' → (S w' → wpAnyLast P md ops Q S ds fuel li a' w') → K a' w') → if Region.wanted oi (yielded ops a.tmps) = true then Oper.wp P oi a w K Q else K (a.put Ni undef) w)
    (h2 : ∀ K : Act → World → Prop, Shut (∀ a' w', S w' → (S w' → wpAnyLast P md ops Q S ds fuel lj a' w') → K a' w') → if Region.wanted oj (yielded ops a.tmps) = true then Oper.wp P oj a w K Q else K (a.put Nj undef) w)
    (hi : ops[i]? = some oi := by rfl) (hj : ops[j]? = some oj := by rfl) (hNi : oi.dst = Ni := by rfl) (hNj : oj.dst = Nj := by rfl)
    (hc : (Region.ready md ops l == [i, j] && l.setIfInBounds i true == li && l.setIfInBounds j true == lj) = true := by exact two_of HT_.out (by kernel_rfl)) (hdi : i ∉ ds := by decide) (hdj : j ∉ ds := by decide) : wpAnyLast P md ops Q S ds (fuel + 1) l a w := two_ li lj hi hj hNi hNj hc hdi hdj h1 h2
theorem go_ {oi : Oper} {N : Option Tmp} {K : Act → World → Prop} {f : FuncId} {fn : Func} {us : Array Operand} {ts : Array TypeId} (hf : P.funcs[f]? = some fn) (args : Array Value) (h : Calls P f args w fun e w' => ∃ v, e = .returned v ∧ K (a.put N v) w')
    (hname : (fn.name == "runtime.NumGoroutine") = false := by kernel_rfl) (hb : fn.body.isSome = true := by rfl) (hw : Region.wanted oi (yielded ops a.tmps) = true := by rfl) (hN : oi.dst = N := by rfl) (hop : oi.op = .call { callee := .value (.func f), args := us, argTypes := ts } := by rfl)
    (hargs : us.map a.eval = args := by (try simp only [List.map_toArray, List.map_cons, List.map_nil]); first | done | rfl | (simp only [List.length_drop, List.length_take]; rfl)) : if Region.wanted oi (yielded ops a.tmps) = true then Oper.wp P oi a w K Q else K (a.put N undef) w := goes_ hf hname hb args hw hN hop hargs h
end
theorem cz5 {w : World} {g : Nat} {t : TypeId} {a0 a1 a2 a3 a4 : Value} (h : w.heap[g]? = some (.cells #[a0, a1, a2, a3, a4] t (0, 0))) : w.cell? ⟨g, 0, none⟩ = some a0 ∧ w.cell? ⟨g, 1, none⟩ = some a1 ∧ w.cell? ⟨g, 2, none⟩ = some a2 ∧ w.cell? ⟨g, 3, none⟩ = some a3 ∧ w.cell? ⟨g, 4, none⟩ = some a4 ∧ w.frozen? ⟨g, 0, none⟩ = false ∧ w.frozen? ⟨g, 1, none⟩ = false ∧ w.frozen? ⟨g, 2, none⟩ = false ∧ w.frozen? ⟨g, 3, none⟩ = false ∧ w.frozen? ⟨g, 4, none⟩ = false := ⟨(blk_cell h 0).trans rfl, (blk_cell h 1).trans rfl, (blk_cell h 2).trans rfl, (blk_cell h 3).trans rfl, (blk_cell h 4).trans rfl, blk_frozen h 0, blk_frozen h 1, blk_frozen h 2, blk_frozen h 3, blk_frozen h 4⟩
theorem cz7 {w : World} {g : Nat} {t : TypeId} {a0 a1 a2 a3 a4 a5 a6 : Value} (h : w.heap[g]? = some (.cells #[a0, a1, a2, a3, a4, a5, a6] t (0, 0))) : w.cell? ⟨g, 0, none⟩ = some a0 ∧ w.cell? ⟨g, 1, none⟩ = some a1 ∧ w.cell? ⟨g, 2, none⟩ = some a2 ∧ w.cell? ⟨g, 3, none⟩ = some a3 ∧ w.cell? ⟨g, 4, none⟩ = some a4 ∧ w.cell? ⟨g, 5, none⟩ = some a5 ∧ w.cell? ⟨g, 6, none⟩ = some a6 ∧ w.frozen? ⟨g, 0, none⟩ = false ∧ w.frozen? ⟨g, 1, none⟩ = false ∧ w.frozen? ⟨g, 2, none⟩ = false ∧ w.frozen? ⟨g, 3, none⟩ = false ∧ w.frozen? ⟨g, 4, none⟩ = false ∧ w.frozen? ⟨g, 5, none⟩ = false ∧ w.frozen? ⟨g, 6, none⟩ = false := ⟨(blk_cell h 0).trans rfl, (blk_cell h 1).trans rfl, (blk_cell h 2).trans rfl, (blk_cell h 3).trans rfl, (blk_cell h 4).trans rfl, (blk_cell h 5).trans rfl, (blk_cell h 6).trans rfl, blk_frozen h 0, blk_frozen h 1, blk_frozen h 2, blk_frozen h 3, blk_frozen h 4, blk_frozen h 5, blk_frozen h 6⟩
end Go.Proofs.Ytepipgneefcoiaa.D
namespace Go.Proofs.Ytepipgneefcoiaa.D
open Go.RowKit Go.Proofs.YtepipgneefcoiaaW.PrintWords Go.Proofs.YtepipgneefcoiaaW.PrintLast Go.Proofs.YtepipgneefcoiaaW.PrintMore
def by8 (l : List Int) : List Value := l.map (Value.int .u8)
theorem by8_len (l : List Int) : (by8 l).length = l.length := by simp [by8]
theorem by8_one (l : List Int) : ∀ v ∈ by8 l, v.oneCell' = true := by
 intro v hv
 obtain ⟨x, _, rfl⟩ := List.mem_map.1 hv
 rfl
def sp8 (L : List Int) (o : Nat) (X : List Int) : List Int := L.take o ++ X ++ L.drop (o + X.length)
theorem sp8_len {L X : List Int} {o : Nat} (h : o + X.length ≤ L.length) : (sp8 L o X).length = L.length := by
 simp [sp8]; omega
theorem by8_sp (L : List Int) (o : Nat) (X : List Int) : by8 (sp8 L o X) = (by8 L).take o ++ by8 X ++ (by8 L).drop (o + (by8 X).length) := by
 simp [by8, sp8, List.map_take, List.map_drop]
def cut8 (L : List Int) (o n : Nat) : List Int := (L.drop o).take n
theorem cut8_len {L : List Int} {o n : Nat} (h : o + n ≤ L.length) : (cut8 L o n).length = n := by
 simp [cut8]; omega
theorem cut8_at {L : List Int} {o n j : Nat} (h : j < n) : (cut8 L o n)[j]? = L[o + j]? := by
 unfold cut8
 rw [List.getElem?_take, if_pos h, List.getElem?_drop]
theorem ad_at (g o j : Nat) : (⟨g, o, none⟩ : Addr).add j = ⟨g, o + j, none⟩ := by unfold Addr.add; split <;> simp_all
theorem run_load_at {w : World} {g o ty T : Nat} {L cs : List Value} {d : TypeDesc} (hg : w.heap[g]? = some (.cells L.toArray T (0, 0))) (hcs : ∀ j v, cs[j]? = some v → L[o + j]? = some v) (hu : Try.prog.underlying ty = some d) (hd : (match d with | .struct _ | .array _ _ => true | _ => false) = true) (hi : (Try.prog.info? ty).map (·.size) = some cs.length) :
    Sem.run Try.prog (loadVar ty ⟨g, o, none⟩) w = .ok (.agg cs.toArray) w := by
  have hl : (loadCells ⟨g, o, none⟩ cs.length).run Try.prog w = .ok cs.toArray w :=
    run_loadCells_list (P := Try.prog) w ⟨g, o, none⟩ cs (fun j v hv => by
      rw [ad_at, blk_cell hg]
      simpa using hcs j v hv)
  cases hq : Try.prog.info? ty with
  | none => simp [hq] at hi
  | some i =>
    have hs : i.size = cs.length := by simpa [hq] using hi
    have hagg : (isAgg ty).run Try.prog w = .ok true w := by
      unfold isAgg
      rw [Sem.run_bind, run_underlying hu w]
      cases d <;> simp_all
    simp [loadVar, Sem.run_bind, hagg, sizeOf, typeInfo, hq, hs, hl]
theorem run_store_at {w : World} {g o ty T : Nat} {L cs : List Value} (hg : w.heap[g]? = some (.cells L.toArray T (0, 0))) (hfit : o + cs.length ≤ L.length) (h1 : ∀ v ∈ cs, v.oneCell' = true) (hi : (Try.prog.info? ty).map (·.size) = some cs.length) :
    ∃ w', Sem.run Try.prog (storeVar ty ⟨g, o, none⟩ (.agg cs.toArray)) w = .ok () w' ∧ w'.heap[g]? = some (.cells (L.take o ++ cs ++ L.drop (o + cs.length)).toArray T (0, 0)) ∧ w.grownBy w' (some g) := by
  have hs := run_storeCells_at Try.prog g o T cs 0 L.toArray w hg (by simpa using hfit) h1
  refine ⟨_, ?_, setRow_heap w g _ _ T _ hg, ?_⟩
  · cases hq : Try.prog.info? ty with
    | none => simp [hq] at hi
    | some i =>
      have he : cs.length = i.size := by simp [hq] at hi; omega
      simp only [Nat.add_zero] at hs
      simp [storeVar, sizeOf, typeInfo, hq, Value.cells, he, hs]
  · refine ⟨rfl, rfl, rfl, by simp [World.setRow], fun i hi hne => ?_⟩
    have : i ≠ g := fun e => hne (by rw [e])
    simp only [World.setRow]
    rw [Array.getElem?_modify, if_neg (Ne.symm this)]
theorem wpl_load_at {ops : Array Oper} {rest : List Oper} {op : Oper} {a : Act} {w : World} {Q : Exit → Act → World → Prop} (hgd : op.guard = none) (ty : TypeId) (x : Operand) (ho : op.op = .load ty x)
    {g o T : Nat} (hx : a.eval x = .pointer (some ⟨g, o, none⟩)) {L : List Value} (cs : List Value) (d : TypeDesc) (hg : w.heap[g]? = some (.cells L.toArray T (0, 0))) (hcs : ∀ j v, cs[j]? = some v → L[o + j]? = some v)
    (hu : Try.prog.underlying ty = some d) (hd : (match d with | .struct _ | .array _ _ => true | _ => false) = true) (hi : (Try.prog.info? ty).map (·.size) = some cs.length)
    (h : wpList Try.prog ops Q rest (a.put op.dst (.agg cs.toArray)) w) : wpList Try.prog ops Q (op :: rest) a w := by
  refine wpList_plain hgd fun _ hK => ?_
  unfold Oper.wp execOp
  simp only [ho, hx, Instr.loadAt, Instr.sureAddr, Sem.run_bind, Sem.run_pure, Result.andThen_ok, run_load_at hg hcs hu hd hi]
  exact hK _ _ h
theorem wpl_store_at {ops : Array Oper} {rest : List Oper} {op : Oper} {a : Act} {w : World} {Q : Exit → Act → World → Prop} (hgd : op.guard = none) (ty : TypeId) (x y : Operand) (ho : op.op = .store ty x y)
    {g o T : Nat} (hx : a.eval x = .pointer (some ⟨g, o, none⟩)) {L : List Value} (cs : List Value) (hy : a.eval y = .agg cs.toArray) (hg : w.heap[g]? = some (.cells L.toArray T (0, 0))) (hfit : o + cs.length ≤ L.length) (h1 : ∀ v ∈ cs, v.oneCell' = true) (hi : (Try.prog.info? ty).map (·.size) = some cs.length)
    (h : ∀ w', w'.heap[g]? = some (.cells (L.take o ++ cs ++ L.drop (o + cs.length)).toArray T (0, 0)) → w.grownBy w' (some g) → wpList Try.prog ops Q rest (a.put op.dst undef) w') : wpList Try.prog ops Q (op :: rest) a w := by
  refine wpList_plain hgd fun _ hK => ?_
  obtain ⟨w', h2, h3, h4⟩ := run_store_at hg hfit h1 hi
  unfold Oper.wp execOp
  simp only [ho, hx, hy, Instr.storeAt, Instr.sureAddr, Sem.run_bind, Sem.run_pure, Result.andThen_ok, h2]
  exact hK _ _ (h w' h3 h4)
theorem wpl_copy_at {w : World} {ops : Array Oper} {rest : List Oper} {o : Oper} {a : Act} {Q : Exit → Act → World → Prop} (hgd : o.guard = none) (d s : Operand) (dT sT : TypeId)
    (ho : o.op = .call { callee := .builtin .copy, args := #[d, s], argTypes := #[dT, sT] }) (elem : TypeId) (hu : Try.prog.underlying dT = some (.slice elem)) (hsz : (Try.prog.info? elem).map (·.size) = some 1)
    (dp sp : Option Addr) (dLen dCap sLen sCap : Nat) (hd : a.eval d = .slice dp dLen dCap) (hs : a.eval s = .slice sp sLen sCap)
    (g off : Nat) (cur : List Value) (t : TypeId) (hg : w.heap[g]? = some (.cells cur.toArray t (0, 0))) (cs : List Value) (hn : cs.length = Nat.min sLen dLen)
    (hpos : 0 < cs.length → dp = some ⟨g, off, none⟩ ∧ ∃ ad, sp = some ad ∧ ∀ j v, cs[j]? = some v → w.cell? (ad.add j) = some v)
    (hfit : off + cs.length ≤ cur.length) (h1 : ∀ v ∈ cs, v.oneCell' = true)
    (h : ∀ w', Aside0 (w'.heap[g]? = some (.cells (cur.take off ++ cs ++ cur.drop (off + cs.length)).toArray t (0, 0))) → Aside0 (w.grownBy w' (some g)) → wpList Try.prog ops Q rest (a.put o.dst (goInt cs.length)) w') :
    wpList Try.prog ops Q (o :: rest) a w := by
  by_cases h0 : cs.length = 0
  · obtain rfl : cs = [] := List.eq_nil_of_length_eq_zero h0
    refine wpList_copy_nothing hgd d s dT sT ho elem hu hsz dp sp dLen dCap sLen sCap hd hs (by simpa using hn.symm) ?_
    exact h w ⟨by simpa using hg⟩ ⟨⟨rfl, rfl, rfl, Nat.le_refl _, fun _ _ _ => rfl⟩⟩
  · obtain ⟨rfl, ad, rfl, hsrc⟩ := hpos (by omega)
    refine wpList_copy_own hgd d s dT sT ho elem hu hsz g off dLen dCap ad sLen sCap hd hs cur.toArray t hg cs hn hsrc (by simpa using hfit) h1 ?_
    refine h _ ⟨by simpa using setRow_heap w g _ _ t _ hg⟩ ⟨⟨rfl, rfl, rfl, by simp [World.setRow], fun i hi hne => ?_⟩⟩
    have : i ≠ g := fun e => hne (by rw [e])
    simp only [World.setRow]
    rw [Array.getElem?_modify, if_neg (Ne.symm this)]
def skp (S : Nat → Prop) (w w' : World) : Prop := w'.os = w.os ∧ w'.tape = w.tape ∧ w'.output = w.output ∧ w.heap.size ≤ w'.heap.size ∧ ∀ i, i < w.heap.size → ¬ S i → w'.heap[i]? = w.heap[i]?
theorem skp_grown {S : Nat → Prop} {w w' : World} {o : Option Nat} (h : w.grownBy w' o) (ho : ∀ i, some i = o → S i) : skp S w w' :=
  ⟨h.os, h.tape, h.output, h.size, fun i hi hn => h.block i hi (fun e => hn (ho i e))⟩
theorem skp_trans {S S' : Nat → Prop} {w w1 w2 : World} (h : skp S w w1) (k : skp S' w1 w2) (hs : ∀ i, S' i → S i ∨ w.heap.size ≤ i) : skp S w w2 :=
  ⟨k.1.trans h.1, k.2.1.trans h.2.1, k.2.2.1.trans h.2.2.1, Nat.le_trans h.2.2.2.1 k.2.2.2.1, fun i hi hn => (k.2.2.2.2 i (Nat.lt_of_lt_of_le hi h.2.2.2.1) (fun e => (hs i e).elim hn (fun h' => by omega))).trans (h.2.2.2.2 i hi hn)⟩
theorem skp_refl (S : Nat → Prop) (w : World) : skp S w w := ⟨rfl, rfl, rfl, Nat.le_refl _, fun _ _ _ => rfl⟩
theorem skp_mono {S S' : Nat → Prop} {w w' : World} (h : skp S w w') (hs : ∀ i, S i → S' i) : skp S' w w' := ⟨h.1, h.2.1, h.2.2.1, h.2.2.2.1, fun i hi hn => h.2.2.2.2 i hi (fun e => hn (hs i e))⟩
theorem skp_of_below {S : Nat → Prop} {w w' : World} (b : Below w.heap.size w w') : skp S w w' := ⟨b.os, b.tape, b.output, b.size, fun i hi _ => b.block i hi⟩
theorem skp_below {S : Nat → Prop} {w0 w w' : World} (hB : Below w0.heap.size w0 w) (h : skp S w w') (hS : ∀ i, S i → w0.heap.size ≤ i) : Below w0.heap.size w0 w' :=
  ⟨h.1.trans hB.os, h.2.1.trans hB.tape, h.2.2.1.trans hB.output, Nat.le_trans hB.size h.2.2.2.1, fun i hi => (h.2.2.2.2 i (Nat.lt_of_lt_of_le hi hB.size) (fun e => by have := hS i e; omega)).trans (hB.block i hi)⟩
theorem skp_set {w : World} {g p : Nat} {v : Value} : skp (fun i => i = g) w (w.setCell ⟨g, p, none⟩ v) := by
 refine ⟨rfl, rfl, rfl, by simp [World.setCell], fun i hi hne => ?_⟩
 simp only [World.setCell]
 rw [Array.getElem?_modify, if_neg (fun e => hne e.symm)]
theorem skp_drew {S : Nat → Prop} (w : World) : skp S w w.drew := ⟨rfl, rfl, rfl, Nat.le_refl _, fun _ _ _ => rfl⟩
theorem skp_blk {S : Nat → Prop} {w w' : World} {i : Nat} {o : Obj} (h : skp S w w') (hb : w.heap[i]? = some o) (hn : ¬ S i) : w'.heap[i]? = some o := (h.2.2.2.2 i (blk_lt hb) hn).trans hb
structure Pc where
  bl : Int
  at_ : Int
  b : List Int
def kB : Kd (List Int) := Kd.arr 64 (Kd.int .u8) (by decide)
def kP : Kd Pc := Kd.iso (Kd.pair (Kd.int .i64) (Kd.pair (Kd.int .i64) kB)) (fun x => (x.bl, x.at_, x.b))
def pcc (x : Pc) : List Value := .int .i64 x.bl :: .int .i64 x.at_ :: by8 x.b
theorem kP_openM {w : World} {base : Nat} {ok : Nat → Prop} {x : Pc} {cs : List Value} (h : kP.M w base ok x cs) : cs = pcc x ∧ x.b.length = 64 := by
 obtain ⟨c0, c1, rfl, h0, c2, c3, rfl, h1, h2⟩ := h
 have e0 : c0 = [.int .i64 x.bl] := h0
 have e1 : c2 = [.int .i64 x.at_] := h1
 obtain ⟨h3, h4⟩ := Kd.arr_cells (Kd.K_of_M _ h2)
 subst e0 e1
 exact ⟨by rw [h4]; rfl, h3⟩
theorem kP_mkM (w : World) (base : Nat) (ok : Nat → Prop) (x : Pc) (h : x.b.length = 64) : kP.M w base ok x (pcc x) :=
  ⟨[.int .i64 x.bl], .int .i64 x.at_ :: by8 x.b, rfl, rfl, [.int .i64 x.at_], by8 x.b, rfl, rfl, Kd.arr_of_cells h⟩
theorem pcc_len {x : Pc} (h : x.b.length = 64) : (pcc x).length = 66 := by simp [pcc, by8_len, h]
theorem pcc_one (x : Pc) : ∀ v ∈ pcc x, v.oneCell' = true := by
 intro v hv
 rcases List.mem_cons.1 hv with rfl | hv
 · rfl
 rcases List.mem_cons.1 hv with rfl | hv
 · rfl
 exact by8_one _ v hv
structure Dk where
  nb : Nat
  now : List Int
  safe : List Int
  pend : List Pc
  fu : Bool
  le : Int
  of : Bool
structure Dk.Ok (s : Dk) : Prop where
  nb0 : 0 < s.nb
  nb1 : s.nb ≤ 4096
  now : s.now.length = s.nb * 256
  safe : s.safe.length = s.nb * 256
  pend : ∀ x ∈ s.pend, 0 ≤ x.bl ∧ x.bl < (s.nb : Int) ∧ 0 ≤ x.at_ ∧ x.at_ ≤ 192 ∧ x.b.length = 64
structure dm (base : Nat) (w : World) (p n f : Nat) (vP : Value) (s : Dk) : Prop where
  box : w.heap[p]? = some (.cells #[.slice (some ⟨n, 0, none⟩) s.nb s.nb, .slice (some ⟨f, 0, none⟩) s.nb s.nb, vP, .bool s.fu, .int .i64 s.le, .bool s.of] 94 (0, 0))
  now : w.heap[n]? = some (.cells (by8 s.now).toArray 96 (0, 0))
  safe : w.heap[f]? = some (.cells (by8 s.safe).toArray 96 (0, 0))
  pend : Kd.R kP 100 w base (fun _ => True) vP s.pend
  ne : n ≠ f
  hp : base ≤ p
  hn : base ≤ n
  hf : base ≤ f
  ok : s.Ok
def dS (p n f : Nat) (vP : Value) : Nat → Prop := fun i => i = p ∨ i = n ∨ i = f ∨ some i = vP.ownBlock
theorem dm_skp {base p n f : Nat} {w w' : World} {vP : Value} {s : Dk} {S : Nat → Prop} (h : dm base w p n f vP s) (hk : skp S w w') (hS : ∀ i, S i → w.heap.size ≤ i) : dm base w' p n f vP s := by
 have b : Below w.heap.size w w' := skp_below (Below.refl _ _) hk hS
 exact ⟨blk_below h.box b, blk_below h.now b, blk_below h.safe b, Kd.R_below h.pend b, h.ne, h.hp, h.hn, h.hf, h.ok⟩
theorem dm_below {base p n f : Nat} {w w' : World} {vP : Value} {s : Dk} (h : dm base w p n f vP s) (b : Below w.heap.size w w') : dm base w' p n f vP s :=
  dm_skp h (skp_of_below (S := fun _ => False) b) (fun i hi => hi.elim)
theorem dm_ne {base p n f : Nat} {w : World} {vP : Value} {s : Dk} (h : dm base w p n f vP s) : p ≠ n ∧ p ≠ f ∧ some p ≠ vP.ownBlock ∧ some n ≠ vP.ownBlock ∧ some f ≠ vP.ownBlock :=
  ⟨blk_ne h.box h.now (by decide), blk_ne h.box h.safe (by decide), Kd.R_ne h.pend h.box (by decide), Kd.R_ne h.pend h.now (by decide), Kd.R_ne h.pend h.safe (by decide)⟩
theorem drawn_below {w w' : World} (hd : Drawn0 w w') : Below w.heap.size w w' := by
 obtain ⟨n, rfl⟩ := hd.out
 exact pw_below_drewN (Below.refl _ _) n
theorem run_alloc_at {P : Program} {w : World} {ty : TypeId} {z : Value} {n : Nat} (hinfo : (P.info? ty).map (fun i => (i.zero, i.size)) = some (some z, n)) :
    Sem.run P (Instr.alloc ty true (.tuple #[])) w = .ok (.pointer (some ⟨w.heap.size, 0, none⟩)) (w.alloc (.cells z.cells ty (0, 0))) := by
  obtain ⟨i, hi, hz⟩ := Option.map_eq_some_iff.1 hinfo
  injection hz with hz hn
  simp [Instr.alloc, newVar, newRow, zeroValue, typeInfo, Sem.run_bind, hi, hz]
theorem wpl_alloc_at {P : Program} {ops : Array Oper} {rest : List Oper} {op : Oper} {a : Act} {w : World} {Q : Exit → Act → World → Prop} (hgd : op.guard = none) (ty : TypeId) (ho : op.op = .alloc ty) (z : Value) (n : Nat)
    (hinfo : (P.info? ty).map (fun i => (i.zero, i.size)) = some (some z, n)) (hz : z.cells.size = n)
    (h : ∀ (g : Nat) (L : List Value) (w' : World), Aside0 (g = w.heap.size) → Aside0 (L.length = n) → Aside0 (w'.heap[g]? = some (.cells L.toArray ty (0, 0))) → Aside0 (Below w.heap.size w w') → wpList P ops Q rest (a.put op.dst (.pointer (some ⟨g, 0, none⟩))) w') : wpList P ops Q (op :: rest) a w := by
  refine wpList_plain hgd fun _ hK => ?_
  unfold Oper.wp execOp
  simp only [ho, Sem.run_bind, Sem.run_pure, run_alloc_at hinfo, Result.andThen_ok]
  exact hK _ _ (h _ z.cells.toList _ ⟨rfl⟩ ⟨by simpa using hz⟩ ⟨by simpa using blk_new w (.cells z.cells ty (0, 0))⟩ ⟨below_alloc (Below.refl _ _) _⟩)
theorem stp_load_at {P : Program} {ops : Array Oper} {o : Oper} {a : Act} {W : World} {K : Act → World → Prop} {Q : Exit → Act → World → Prop} (hw : Region.wanted o (yielded ops a.tmps) = true) (ty : TypeId) (x : Operand) (ho : o.op = .load ty x)
    {v : Value} {ad : Addr} (hx : a.eval x = .pointer (some ad)) (hr : Sem.run P (loadVar ty ad) W = .ok v W) (h : K (a.put o.dst v) W) :
    if Region.wanted o (yielded ops a.tmps) = true then Oper.wp P o a W K Q else K (a.put o.dst undef) W := by
  rw [if_pos hw]
  unfold Oper.wp execOp
  simp only [ho, hx, Instr.loadAt, Instr.sureAddr, Sem.run_bind, Sem.run_pure, Result.andThen_ok, hr]
  exact h
theorem fill_go (c : List Value) : ∀ (l : List Value) (j : Nat) (A : Array Value), j + l.length = A.size → (∀ k, k < j → A[k]? = c[k]?) → (∀ k, l[k]? = c[j + k]?) → ((l.zipIdx j).foldl (fun cs (x : Value × Nat) => cs.setIfInBounds (0 + x.2) x.1) A) = A.mapIdx (fun k v => (c[k]?).getD v)
  | [], j, A, hj, h1, h2 => by
    simp at hj ⊢
    apply Array.ext_getElem?
    intro k
    simp only [Array.getElem?_mapIdx]
    by_cases hk : k < j
    · have := h1 k hk
      rw [Array.getElem?_eq_getElem (by omega)] at this ⊢
      simp [← this]
    · rw [Array.getElem?_eq_none (by omega)]; rfl
  | v :: l, j, A, hj, h1, h2 => by
    rw [List.zipIdx_cons, List.foldl_cons]
    have ih := fill_go c l (j + 1) (A.setIfInBounds (0 + j) v) (by simp at hj ⊢; omega) (fun k hk => by
      rw [Array.getElem?_setIfInBounds]
      by_cases e : 0 + j = k
      · have := h2 0
        simp at this
        subst e
        rw [if_pos rfl, if_pos (by simp at hj; omega)]
        rw [Nat.zero_add]; exact this
      · rw [if_neg e]; exact h1 k (by omega)) (fun k => by have := h2 (k + 1); simp at this; rw [this]; congr 1; omega)
    refine ih.trans ?_
    apply Array.ext_getElem?
    intro k
    simp only [Array.getElem?_mapIdx, Array.getElem?_setIfInBounds]
    by_cases e : 0 + j = k
    · subst e
      have := h2 0
      simp at this
      have hj' : j < A.size := by simp at hj; omega
      simp [hj', ← this]
    · rw [if_neg e]
theorem run_build1 {P : Program} (w : World) (t e : TypeId) (cs : List Value) (n : Nat) (z : Value) (hu : P.underlying t = some (.slice e)) (hinfo : (P.info? e).map (fun i => (i.zero, i.size)) = some (some z, n)) (hn : cs.length = n) (h0 : 0 < n) (h1 : n ≤ 1000) :
    Sem.run P (Instr.buildSlice t 1 #[(0, .agg cs.toArray)]) w = .ok (.slice (some ⟨w.heap.size, 0, none⟩) 1 1) (w.alloc (.cells cs.toArray e (0, 0))) := by
  obtain ⟨i, hi, hz⟩ := Option.map_eq_some_iff.1 hinfo
  injection hz with hz hs
  refine run_buildSlice w t e 1 _ cs.toArray i z hu hi hz (by rw [hs]; omega) (by rw [hs]; omega) ?_
  have hg := fill_go cs cs 0 ((Array.range (1 * i.size)).map (z.cells[· % z.cells.size]!)) (by simp [hn, hs]) (fun k hk => by omega) (fun k => by rw [Nat.zero_add])
  have hA : ((Array.range (1 * i.size)).map (z.cells[· % z.cells.size]!)).mapIdx (fun k v => (cs[k]?).getD v) = cs.toArray := by
    apply Array.ext_getElem?
    intro k
    simp only [Array.getElem?_mapIdx, List.getElem?_toArray]
    by_cases hk : k < n
    · rw [Array.getElem?_eq_getElem (by simp [hs]; omega), List.getElem?_eq_getElem (by omega)]
      rfl
    · rw [Array.getElem?_eq_none (by simp [hs]; omega), List.getElem?_eq_none (by omega)]; rfl
  rw [hA] at hg
  have hfold : cs.toArray.zipIdx.foldl (fun cs (x : Value × Nat) => cs.setIfInBounds (0 * i.size + x.2) x.1) ((Array.range (1 * i.size)).map (z.cells[· % z.cells.size]!)) = cs.toArray := by
    rw [Nat.zero_mul, ← Array.foldl_toList]
    simpa using hg
  show (match (some (0 * i.size, i.size) : Option (Nat × Nat)) with
    | none => none
    | some (off, size) => if (Value.agg cs.toArray).cells.size ≠ size || off + (Value.agg cs.toArray).cells.size > ((Array.range (1 * i.size)).map (z.cells[· % z.cells.size]!)).size then none
      else Instr.fill _ ((Value.agg cs.toArray).cells.zipIdx.foldl (fun cs (c, j) => cs.setIfInBounds (off + j) c) ((Array.range (1 * i.size)).map (z.cells[· % z.cells.size]!))) []) = _
  have hsz : (Value.agg cs.toArray).cells = cs.toArray := rfl
  simp only [hsz]
  rw [if_neg (by simp [hn, hs])]
  exact congrArg some hfold
theorem stp_build1 {P : Program} {ops : Array Oper} {o : Oper} {a : Act} {W : World} {K : Act → World → Prop} {Q : Exit → Act → World → Prop} (hw : Region.wanted o (yielded ops a.tmps) = true) (t e : TypeId) (x : Operand) (ho : o.op = .buildSlice t 1 #[(0, x)])
    (cs : List Value) (n : Nat) (z : Value) (hx : a.eval x = .agg cs.toArray) (hu : P.underlying t = some (.slice e)) (hinfo : (P.info? e).map (fun i => (i.zero, i.size)) = some (some z, n)) (hn : cs.length = n) (h0 : 0 < n) (h1 : n ≤ 1000)
    (h : K (a.put o.dst (.slice (some ⟨W.heap.size, 0, none⟩) 1 1)) (W.alloc (.cells cs.toArray e (0, 0)))) :
    if Region.wanted o (yielded ops a.tmps) = true then Oper.wp P o a W K Q else K (a.put o.dst undef) W := by
  rw [if_pos hw]
  unfold Oper.wp execOp
  have hr := run_build1 W t e cs n z hu hinfo hn h0 h1
  simp only [ho, List.map_toArray, List.map_cons, List.map_nil, hx, Sem.run_bind, hr, Result.andThen_ok, Sem.run_pure]
  exact h
theorem dk_Blocks {base p n f : Nat} {w : World} {vP : Value} {s : Dk} (h : dm base w p n f vP s) :
    Calls Try.prog 17 #[.pointer (some ⟨p, 0, none⟩)] w fun e w' => e = .returned (.int .i64 (s.nb : Int)) ∧ Drawn0 w w' := by
 have z0 : w.cell? ⟨p, 0, none⟩ = some (.slice (some ⟨n, 0, none⟩) s.nb s.nb) := (blk_cell h.box 0).trans rfl
 go_enter Try.func17, Try.ntmps17
 go_wp2
 go_ret
 exact ⟨rfl, Drawn0.refl _⟩
def hasB (s : Dk) (n : Int) : Bool := decide (0 ≤ n) && decide (n < (s.nb : Int))
theorem dk_has {base p n f : Nat} {w : World} {vP : Value} {s : Dk} (h : dm base w p n f vP s) (i : Int) (b : Bool) (hb : hasB s i = b) :
    Calls Try.prog 54 #[.pointer (some ⟨p, 0, none⟩), .int .i64 i] w fun e w' => e = .returned (.bool b) ∧ Drawn0 w w' := by
 have H := Aside0.mk h
 have HB := Aside0.mk hb
 clear h hb
 unfold hasB at HB
 by_cases c1 : 0 ≤ i
 rotate_left
 · have c1b : decide (0 ≤ i) = false := decide_eq_false c1
   have E := Aside0.mk (show false = b by rw [← HB.out, c1b]; rfl)
   go_enter Try.func54, Try.ntmps54
   go_wp2
   go_ret
   exact ⟨by rw [← E.out]; rfl, Drawn0.refl _⟩
 have c1b : decide (0 ≤ i) = true := decide_eq_true c1
 by_cases c2 : i < (s.nb : Int)
 · have c2b : decide (i < (s.nb : Int)) = true := decide_eq_true c2
   have E := Aside0.mk (show true = b by rw [← HB.out, c1b, c2b]; rfl)
   go_enter Try.func54, Try.ntmps54
   go_wp2_with (go_at_call 17; refine (dk_Blocks H.out).mono ?_; rintro e w1 ⟨rfl, hd⟩; have D1 := Aside0.mk hd; clear hd)
   go_ret
   exact ⟨by rw [← E.out]; rfl, D1.out⟩
 have c2b : decide (i < (s.nb : Int)) = false := decide_eq_false c2
 have E := Aside0.mk (show false = b by rw [← HB.out, c1b, c2b]; rfl)
 go_enter Try.func54, Try.ntmps54
 go_wp2_with (go_at_call 17; refine (dk_Blocks H.out).mono ?_; rintro e w1 ⟨rfl, hd⟩; have D1 := Aside0.mk hd; clear hd)
 go_ret
 exact ⟨by rw [← E.out]; rfl, D1.out⟩
def pwx (s : Dk) : Dk × Bool := if (s.of || (s.fu && s.le == 0)) = true then ({s with of := true}, false) else ({s with le := wrap64 (s.le - 1)}, true)
theorem dm_set {base p n f : Nat} {w : World} {vP : Value} {s s' : Dk} (h : dm base w p n f vP s) (j : Nat) (v : Value) (hb : #[.slice (some ⟨n, 0, none⟩) s.nb s.nb, .slice (some ⟨f, 0, none⟩) s.nb s.nb, vP, .bool s.fu, .int .i64 s.le, .bool s.of].setIfInBounds j v = #[.slice (some ⟨n, 0, none⟩) s'.nb s'.nb, .slice (some ⟨f, 0, none⟩) s'.nb s'.nb, vP, .bool s'.fu, .int .i64 s'.le, .bool s'.of]) (h1 : s'.now = s.now) (h2 : s'.safe = s.safe) (h3 : s'.pend = s.pend) (h4 : s'.nb = s.nb) : dm base (w.setCell ⟨p, j, none⟩ v) p n f vP s' := by
 obtain ⟨n1, n2, n3, n4, n5⟩ := dm_ne h
 refine ⟨(blk_set h.box j v).trans (by rw [hb]), ?_, ?_, ?_, h.ne, h.hp, h.hn, h.hf, ⟨by rw [h4]; exact h.ok.nb0, by rw [h4]; exact h.ok.nb1, by rw [h1, h4]; exact h.ok.now, by rw [h2, h4]; exact h.ok.safe, by rw [h3, h4]; exact h.ok.pend⟩⟩
 · rw [h1]; exact blk_far h.now (p := ⟨p, j, none⟩) (Ne.symm n1) v
 · rw [h2]; exact blk_far h.safe (p := ⟨p, j, none⟩) (Ne.symm n2) v
 rw [h3]; exact Kd.R_set h.pend h.box (by decide) j v
set_option maxRecDepth 4000 in
theorem dk_power {base p n f : Nat} {w : World} {vP : Value} {s s' : Dk} {b : Bool} (h : dm base w p n f vP s) (hx : pwx s = (s', b)) :
    Calls Try.prog 58 #[.pointer (some ⟨p, 0, none⟩)] w fun e w' => e = .returned (.bool b) ∧ dm base w' p n f vP s' ∧ skp (fun i => i = p) w w' := by
 have H := Aside0.mk h
 have z3 : w.cell? ⟨p, 3, none⟩ = some (.bool s.fu) := (blk_cell h.box 3).trans rfl
 have z4 : w.cell? ⟨p, 4, none⟩ = some (.int .i64 s.le) := (blk_cell h.box 4).trans rfl
 have z5 : w.cell? ⟨p, 5, none⟩ = some (.bool s.of) := (blk_cell h.box 5).trans rfl
 have f4 := blk_frozen h.box 4
 have f5 := blk_frozen h.box 5
 clear h
 unfold pwx at hx
 by_cases c1 : (s.fu && s.le == 0) = true
 · have e1 : s.fu = true := by simp at c1; exact c1.1
   have e2 : (s.le == 0) = true := by simp at c1; simp [c1.2]
   rw [if_pos (by rw [c1]; simp)] at hx
   injection hx with hx1 hx2
   subst hx1 hx2
   have D := Aside0.mk (dm_set (s' := {s with of := true}) H.out 5 (.bool true) rfl rfl rfl rfl rfl)
   have y5 : (w.setCell ⟨p, 5, none⟩ (.bool true)).cell? ⟨p, 5, none⟩ = some (.bool true) := (blk_cell D.out.box 5).trans rfl
   rw [e1] at z3
   clear c1
   go_enter Try.func58, Try.ntmps58
   go_wp2
   go_ret
   exact ⟨rfl, D.out, skp_set⟩
 have e1 : (s.fu && s.le == 0) = false := by simpa using c1
 cases ho : s.of with
 | true =>
  rw [if_pos (by rw [ho]; simp)] at hx
  injection hx with hx1 hx2
  subst hx1 hx2
  have e3 : ({s with of := true} : Dk) = s := by cases s; simp at ho; subst ho; rfl
  rw [ho] at z5
  have HO := Aside0.mk ho
  clear ho c1
  rcases Bool.eq_false_or_eq_true s.fu with hf | hf
  ·
    have e2 : (s.le == 0) = false := by rw [hf] at e1; simpa using e1
    rw [hf] at z3
    clear hf e1
    go_enter Try.func58, Try.ntmps58
    go_wp2
    go_ret
    exact ⟨rfl, by rw [e3]; exact H.out, skp_refl _ _⟩
  ·
    rw [hf] at z3
    clear hf e1
    go_enter Try.func58, Try.ntmps58
    go_wp2
    go_ret
    exact ⟨rfl, by rw [e3]; exact H.out, skp_refl _ _⟩
 | false => ?_
 rw [if_neg (by rw [ho, e1]; simp)] at hx
 injection hx with hx1 hx2
 subst hx1 hx2
 rw [ho] at z5
 have HO := Aside0.mk ho
 have WW : IntKind.i64.wrap (s.le - 1) = wrap64 (s.le - 1) := i64_w _
 obtain ⟨L, hL⟩ : ∃ L, L = wrap64 (s.le - 1) := ⟨_, rfl⟩
 rw [← hL] at WW ⊢
 have D := Aside0.mk (dm_set (s' := {s with le := L}) H.out 4 (.int .i64 L) rfl rfl rfl rfl rfl)
 have HL := Aside0.mk hL
 clear ho c1 hL
 rcases Bool.eq_false_or_eq_true s.fu with hf | hf
 ·
   have e2 : (s.le == 0) = false := by rw [hf] at e1; simpa using e1
   rw [hf] at z3
   clear hf e1
   go_enter Try.func58, Try.ntmps58
   go_wp2
   go_ret
   exact ⟨rfl, D.out, skp_set⟩
 ·
   rw [hf] at z3
   clear hf e1
   go_enter Try.func58, Try.ntmps58
   go_wp2
   go_ret
   exact ⟨rfl, D.out, skp_set⟩
theorem cut_by8 {L : List Int} {o n : Nat} : ∀ j v, (by8 (cut8 L o n))[j]? = some v → (by8 L)[o + j]? = some v := by
 intro j v hv
 have hj : j < n := by
   have := (List.getElem?_eq_some_iff.1 hv).1
   rw [by8_len] at this
   unfold cut8 at this
   rw [List.length_take] at this
   omega
 simp only [by8, List.getElem?_map] at hv ⊢
 rwa [cut8_at hj] at hv
theorem info96 : (Try.prog.info? 96).map (·.size) = some 256 := by kernel_rfl
def z96 : Value := .agg (Array.replicate 256 (.int .u8 0))
theorem info96z : (Try.prog.info? 96).map (fun i => (i.zero, i.size)) = some (some z96, 256) := by kernel_rfl
set_option maxRecDepth 8000 in
set_option maxHeartbeats 4000000 in
theorem dk_Read {base p n f : Nat} {w : World} {vP : Value} {s : Dk} (h : dm base w p n f vP s) (i : Nat) (hi : i < s.nb) (ho : s.of = false) :
    Calls Try.prog 16 #[.pointer (some ⟨p, 0, none⟩), .int .i64 (i : Int)] w fun e w' => ∃ g, e = .returned (.tuple #[.slice (some ⟨g, 0, none⟩) 256 256, .int .i64 0]) ∧ w.heap.size ≤ g ∧ w'.heap[g]? = some (.cells (by8 (cut8 s.now (i * 256) 256)).toArray 96 (0, 0)) ∧ Below w.heap.size w w' := by
 have H := Aside0.mk h
 have hb : hasB s (i : Int) = true := by unfold hasB; rw [decide_eq_true (by omega), decide_eq_true (by omega)]; rfl
 have HB := Aside0.mk hb
 have HO := Aside0.mk ho
 have nb1 := h.ok.nb1
 have L1 : (cut8 s.now (i * 256) 256).length = 256 := cut8_len (by rw [h.ok.now]; omega)
 have HL := Aside0.mk L1
 clear h hb ho L1
 go_enter Try.func16, Try.ntmps16
 go_upto_region 3 with (go_at_call 54; refine (dk_has H.out (i : Int) true HB.out).mono ?_; rintro e w1 ⟨rfl, hd⟩; have B1 := Aside0.mk (drawn_below hd); have H1 := Aside0.mk (dm_below H.out B1.out); clear hd)
 have z0 : w1.cell? ⟨p, 0, none⟩ = some (.slice (some ⟨n, 0, none⟩) s.nb s.nb) := (blk_cell H1.out.box 0).trans rfl
 have z5 : w1.cell? ⟨p, 5, none⟩ = some (.bool false) := (blk_cell H1.out.box 5).trans (by rw [HO.out]; rfl)
 have n0 := H1.out.now
 go_upto_region 6 with (first | ((with_reducible refine gate_dst (N := 23) rfl ?_); refine wpl_load_at rfl 96 (.tmp 22) rfl (g := n) (o := i * 256) (T := 96) ?hx (by8 (cut8 s.now (i * 256) 256)) _ H1.out.now cut_by8 Try.underlying96 rfl (by rw [by8_len, HL.out]; exact info96) ?_; (case hx => first | rfl | (simp; done))) | ((with_reducible refine gate_dst (N := 6) rfl ?_); refine wpl_alloc_at rfl 96 rfl z96 256 info96z (by decide) ?_; intro g L w2 hg hL hb hB) | ((with_reducible refine wpl_store_at rfl 96 (.tmp 6) (.tmp 23) rfl rfl (by8 (cut8 s.now (i * 256) 256)) rfl hb.out ?hf (by8_one _) ?hn ?_); (case hf => rw [by8_len, HL.out, hL.out]; decide); (case hn => rw [by8_len, HL.out]; exact info96); intro w3 hb3 hg3))
 have B3 := Aside0.mk (below_then (Below.refl w.heap.size w) (Nat.le_refl _) (below_step B1.out (pw_below_grown hB.out (some g) (below_size hB.out) hg3 (fun k e => by injection e with e; have := hg.out; omega))))
 have e3 : (L.take 0 ++ by8 (cut8 s.now (i * 256) 256) ++ L.drop (0 + (by8 (cut8 s.now (i * 256) 256)).length)) = by8 (cut8 s.now (i * 256) 256) := by
   rw [by8_len, HL.out, List.take_zero, List.nil_append, List.drop_of_length_le (by rw [hL.out]; decide), List.append_nil]
 rw [e3] at hb3
 have HB3 := Aside0.mk hb3
 clear hb3 e3 hb hg3 z0 z5 n0
 go_wp2
 go_ret2
 exact ⟨g, rfl, by have := hg.out; have := B1.out.size; omega, HB3.out, B3.out⟩
theorem info100 : (Try.prog.info? 100).map (·.size) = some 66 := by kernel_rfl
def z100 : Value := .agg (#[.int .i64 0, .int .i64 0] ++ Array.replicate 64 (.int .u8 0))
theorem info100z : (Try.prog.info? 100).map (fun i => (i.zero, i.size)) = some (some z100, 66) := by kernel_rfl
theorem info100b : (Try.prog.info? 100).map (fun i => (i.zero, i.size, i.bytes)) = some (some z100, kP.sz, 80) := by kernel_rfl
theorem info5s : (Try.prog.info? 5).map (·.size) = some 1 := by kernel_rfl
def newer (w : World) (v v' : Value) : Prop := v'.ownBlock = none ∨ v'.ownBlock = v.ownBlock ∨ ∃ b, v'.ownBlock = some b ∧ w.heap.size ≤ b
def pcs (n : Int) (b : List Int) : List Pc := [⟨n, 0, cut8 b 0 64⟩, ⟨n, 64, cut8 b 64 64⟩, ⟨n, 128, cut8 b 128 64⟩, ⟨n, 192, cut8 b 192 64⟩]
theorem dm_app {base p n f : Nat} {W w1 : World} {AP : Option Addr} {LP cP : Nat} {s : Dk} {x : Pc} {v' : Value} (h : dm base W p n f (.slice AP LP cP) s) (hR : Kd.R kP 100 w1 base (fun _ => True) v' (s.pend ++ [x])) (hg : W.grownBy w1 (Value.slice AP LP cP).ownBlock) (hx : 0 ≤ x.bl ∧ x.bl < (s.nb : Int) ∧ 0 ≤ x.at_ ∧ x.at_ ≤ 192 ∧ x.b.length = 64) :
    dm base (w1.setCell ⟨p, 2, none⟩ v') p n f v' {s with pend := s.pend ++ [x]} := by
  obtain ⟨n1, n2, n3, n4, n5⟩ := dm_ne h
  have b1 := blk_grown h.box hg n3
  refine ⟨(blk_set b1 2 v').trans rfl, blk_far (blk_grown h.now hg n4) (p := ⟨p, 2, none⟩) (Ne.symm n1) _, blk_far (blk_grown h.safe hg n5) (p := ⟨p, 2, none⟩) (Ne.symm n2) _, Kd.R_set hR b1 (by decide) 2 _, h.ne, h.hp, h.hn, h.hf, ⟨h.ok.nb0, h.ok.nb1, h.ok.now, h.ok.safe, fun y hy => ?_⟩⟩
  rcases List.mem_append.1 hy with hy | hy
  · exact h.ok.pend y hy
  · rw [List.mem_singleton.1 hy]; exact hx
theorem dm_now {base p n f : Nat} {w w' : World} {vP : Value} {s : Dk} {N' : List Int} (h : dm base w p n f vP s) (hb : w'.heap[n]? = some (.cells (by8 N').toArray 96 (0, 0))) (hg : w.grownBy w' (some n)) (hl : N'.length = s.now.length) : dm base w' p n f vP {s with now := N'} := by
 obtain ⟨n1, n2, n3, n4, n5⟩ := dm_ne h
 have nn : ∀ k, k ≠ n → some k ≠ (some n : Option Nat) := fun k e e' => e (by injection e')
 exact ⟨blk_grown h.box hg (nn p n1), hb, blk_grown h.safe hg (nn f (Ne.symm h.ne)), Kd.R_grown (Kd.R_mono (Kd.R_types h.pend h.now (by decide)) (fun _ h => h.2)) hg (fun k hk => nn k hk) |> fun r => Kd.R_mono r (fun _ _ => trivial), h.ne, h.hp, h.hn, h.hf, ⟨h.ok.nb0, h.ok.nb1, by rw [hl]; exact h.ok.now, h.ok.safe, h.ok.pend⟩⟩
theorem C_cells {w : World} {A : Option Addr} {n : Nat} {xs : List Int} (h : Kd.C (Kd.int .u8) w A n xs) (h0 : 0 < n) : ∃ ad, A = some ad ∧ ∀ j v, (by8 xs)[j]? = some v → w.cell? (ad.add j) = some v := by
 obtain ⟨ad, ea, hcell⟩ := h.2.2 h0
 refine ⟨ad, ea, fun j v hj => ?_⟩
 simp only [by8, List.getElem?_map, Option.map_eq_some_iff] at hj
 obtain ⟨p, hp, rfl⟩ := hj
 obtain ⟨cc, _, hK, hcs⟩ := hcell j p hp
 cases hK
 have := hcs 0 _ rfl
 rwa [show (Kd.int .u8).sz = 1 from rfl, Nat.mul_one, Nat.add_zero] at this
theorem pcs_at {i : Int} {b : List Int} {k : Nat} (hk : k < 4) : (pcs i b)[k]? = some ⟨i, (k : Int) * 64, cut8 b (k * 64) 64⟩ := by
 rcases (show k = 0 ∨ k = 1 ∨ k = 2 ∨ k = 3 by omega) with rfl | rfl | rfl | rfl <;> rfl
theorem pcs_take {i : Int} {b : List Int} {k : Nat} (hk : k < 4) : (pcs i b).take (k + 1) = (pcs i b).take k ++ [⟨i, (k : Int) * 64, cut8 b (k * 64) 64⟩] := by
 rw [List.take_add_one, pcs_at hk]; rfl
theorem newer_trans {w w1 : World} {v vF v1 : Value} (h : newer w v vF) (hs : w.heap.size ≤ w1.heap.size) (k : newer w1 vF v1) : newer w v v1 := by
 rcases k with k | k | ⟨b, k, kb⟩
 · exact .inl k
 · unfold newer; rw [k]; exact h
 exact .inr (.inr ⟨b, k, Nat.le_trans hs kb⟩)
theorem newer_dS {w : World} {p n f : Nat} {v v' : Value} (h : newer w v v') (i : Nat) (e : dS p n f v' i) : dS p n f v i ∨ w.heap.size ≤ i := by
 rcases e with e | e | e | e
 · exact .inl (.inl e)
 · exact .inl (.inr (.inl e))
 · exact .inl (.inr (.inr (.inl e)))
 rcases h with h | h | ⟨b, h, hb⟩
 · rw [h] at e; cases e
 · rw [h] at e; exact .inl (.inr (.inr (.inr e)))
 rw [h] at e; injection e with e; right; omega
noncomputable def pc0 (i at_ : Int) : List Value := (Try.zeroCells100.toList.set 0 (.int .i64 i)).set 1 (.int .i64 at_)
theorem zc_len : Try.zeroCells100.toList.length = 66 := by kernel_rfl
theorem zc_two : Try.zeroCells100.toList = .int .i64 0 :: .int .i64 0 :: List.replicate 64 (.int .u8 0) := by kernel_rfl
theorem pc0_eq (i at_ : Int) : (Try.zeroCells100.setIfInBounds 0 (.int .i64 i)).setIfInBounds 1 (.int .i64 at_) = (pc0 i at_).toArray := by
 apply Array.toList_inj.1
 rw [Array.toList_setIfInBounds, Array.toList_setIfInBounds]
 rfl
theorem pc0_len (i at_ : Int) : (pc0 i at_).length = 66 := by simp only [pc0, List.length_set, zc_len]
theorem pc0_is (i at_ : Int) : pc0 i at_ = .int .i64 i :: .int .i64 at_ :: List.replicate 64 (.int .u8 0) := by unfold pc0; rw [zc_two]; rfl
theorem pc0_one (i at_ : Int) : ∀ v ∈ pc0 i at_, v.oneCell' = true := by
 rw [pc0_is]
 intro v hv
 rcases List.mem_cons.1 hv with rfl | hv
 · rfl
 rcases List.mem_cons.1 hv with rfl | hv
 · rfl
 rw [(List.mem_replicate.1 hv).2]; rfl
set_option maxRecDepth 20000 in
set_option maxHeartbeats 16000000 in
theorem dk_Write {base p n f : Nat} {w : World} {vP : Value} {s s' : Dk} (h : dm base w p n f vP s) (hbase : base ≤ w.heap.size) (i : Nat) (hi : i < s.nb) (Ab : Option Addr) (cb : Nat) (b : List Int) (hbl : b.length = 256) (hpw : pwx s = (s', true)) (hl : s.pend.length ≤ 100000) (hcb : 256 ≤ cb) (hb : ∀ W, skp (dS p n f vP) w W → Kd.C (Kd.int .u8) W Ab 256 b) :
    Calls Try.prog 22 #[.pointer (some ⟨p, 0, none⟩), .int .i64 (i : Int), .slice Ab 256 cb] w fun e w' => e = .returned (.int .i64 0) ∧ ∃ vP', dm base w' p n f vP' {s' with now := sp8 s'.now (i * 256) b, pend := s'.pend ++ pcs (i : Int) b} ∧ newer w vP vP' ∧ skp (dS p n f vP) w w' := by
 obtain ⟨ab, rfl, _⟩ := C_cells (hb w (skp_refl _ _)) (by decide)
 have H := Aside0.mk h
 have hh : hasB s (i : Int) = true := by unfold hasB; rw [decide_eq_true (by omega), decide_eq_true (by omega)]; rfl
 have HH := Aside0.mk hh
 have HP := Aside0.mk hpw
 have HB := Aside0.mk hb
 have BL := Aside0.mk hbl
 have SB := Aside0.mk hbase
 have e1 : s'.nb = s.nb ∧ s'.pend = s.pend := by
   unfold pwx at hpw
   split at hpw
   · injection hpw with _ h2; cases h2
   · injection hpw with h1 _; subst h1; exact ⟨rfl, rfl⟩
 have hi' : i < s'.nb := by rw [e1.1]; exact hi
 have HL := Aside0.mk (show s'.pend.length ≤ 100000 by rw [e1.2]; exact hl)
 have nb1 : s'.nb ≤ 4096 := by rw [e1.1]; exact h.ok.nb1
 clear h hh hpw hb hbl hl e1 hbase hi
 go_enter Try.func22, Try.ntmps22
 go_upto_region 5 with (first | (go_at_call 54; refine (dk_has H.out (i : Int) true HH.out).mono ?_; rintro e w1 ⟨rfl, hd⟩; have B1 := Aside0.mk (drawn_below hd); have H1 := Aside0.mk (dm_below H.out B1.out); clear hd) | (go_at_call 58; refine (dk_power H1.out HP.out).mono ?_; rintro e w2 ⟨rfl, hD, hk⟩; have D2 := Aside0.mk hD; have K2 := Aside0.mk (skp_trans (skp_of_below (S := dS p n f vP) B1.out) hk (fun j e => .inl (.inl e))); clear hD hk))
 have z0 : w2.cell? ⟨p, 0, none⟩ = some (.slice (some ⟨n, 0, none⟩) s'.nb s'.nb) := (blk_cell D2.out.box 0).trans rfl
 go_upto_region 6 with (((with_reducible refine gate_dst (N := 31) rfl ?_); refine wpl_copy_at rfl (.tmp 29) (.tmp 30) 27 27 rfl 5 Try.underlying27 info5s _ _ 256 _ _ _ rfl rfl n (i * 256) (by8 s'.now) 96 D2.out.now (by8 b) ?hn ?hpos ?hfit (by8_one _) ?_; (case hn => rw [by8_len, BL.out]; decide); (case hpos => intro h0; obtain ⟨ad, ea, hc⟩ := C_cells (HB.out _ K2.out) (by decide); exact ⟨rfl, ad, ea, hc⟩); (case hfit => rw [by8_len, by8_len, BL.out, D2.out.ok.now]; omega); intro w3 hb3 hg3; have hs3 := hb3.out; rw [← by8_sp] at hs3; have D3 := Aside0.mk (dm_now D2.out hs3 hg3.out (sp8_len (by rw [BL.out, D2.out.ok.now]; omega))); have K3 := Aside0.mk (skp_trans K2.out (skp_grown (S := fun k => k = n) hg3.out (fun k e => by injection e)) (fun k e => .inl (.inr (.inl e)))); clear hs3 hb3 hg3))
 clear z0
 obtain ⟨N1, hN1⟩ : ∃ N, N = sp8 s'.now (i * 256) b := ⟨_, rfl⟩
 rw [← hN1] at D3
 have EN := Aside0.mk hN1
 clear hN1
 rw [by8_len, BL.out, show goInt ((256 : Nat) : Int) = .int .i64 256 from rfl]
 simp only [Act.put, List.setIfInBounds_toArray, List.set_cons_zero, List.set_cons_succ]
 go_wp2
 go_loopw [32] (fun v32 wr => ∃ (k : Nat) (v' : Value), v32 = .int .i64 (k : Int) ∧ k ≤ 4 ∧ Aside0 (dm base wr p n f v' {s' with now := N1, pend := s'.pend ++ (pcs (i : Int) b).take k}) ∧ Aside0 (newer w vP v') ∧ Aside0 (skp (dS p n f vP) w wr)) (fun v32 _ => 4 - (intOf v32).toNat)
 case atStart => exact ⟨0, vP, rfl, by omega, ⟨by rw [List.take_zero, List.append_nil]; exact D3.out⟩, ⟨.inr (.inl rfl)⟩, K3⟩
 obtain ⟨k, v', rfl, hk, HD, HN, HK⟩ := hrel
 by_cases c1 : k < 4
 rotate_left
 · have c1b : decide (k < 4) = false := decide_eq_false c1
   obtain rfl : k = 4 := by omega
   go_wp2
   go_ret
   exact ⟨rfl, v', by rw [← EN.out]; exact HD.out, HN.out, HK.out⟩
 have c1b : decide (k < 4) = true := decide_eq_true c1
 have wm : IntKind.i64.wrap ((k : Int) * 64) = (k : Int) * 64 := by rw [i64_w]; exact IntWalk.wrap64_in _ (by omega)
 have hpk := HL.out
 obtain ⟨B8, hB8⟩ : ∃ B8, B8 = cut8 b (k * 64) 64 := ⟨_, rfl⟩
 have EB := Aside0.mk hB8
 have LB := Aside0.mk (show B8.length = 64 by rw [hB8]; exact cut8_len (by rw [BL.out]; omega))
 clear hB8
 go_upto_region 10 with (first | ((with_reducible refine gate_dst (N := 8) rfl ?_); refine wpl_alloc_at rfl 100 rfl z100 66 info100z (by decide) ?_; intro g8 L8 w8 hg hL hb hB) | ((with_reducible refine gate_store (t := 100) (p := 8) (v := .tmp 38) rfl ?_); refine wpl_store_at rfl 100 (.tmp 8) (.tmp 38) rfl rfl (pc0 (i : Int) ((k : Int) * 64)) ?hy hb.out ?hf (pc0_one _ _) (by rw [pc0_len]; exact info100) ?_; (case hy => exact congrArg Value.agg (pc0_eq _ _)); (case hf => rw [hL.out, pc0_len]; decide); intro w9 hb9 hg9))
 have e9 : L8.take 0 ++ pc0 (i : Int) ((k : Int) * 64) ++ L8.drop (0 + (pc0 (i : Int) ((k : Int) * 64)).length) = pc0 (i : Int) ((k : Int) * 64) := by
   rw [pc0_len, List.take_zero, List.nil_append, List.drop_of_length_le (by rw [hL.out]; decide), List.append_nil]
 rw [e9] at hb9
 have B9 := Aside0.mk (below_step (Below.refl wr.heap.size wr) (pw_below_grown hB.out (some g8) (below_size hB.out) hg9 (fun j e => by injection e with e; have := hg.out; omega)))
 have G9 := Aside0.mk hb9
 have GE := Aside0.mk (show wr.heap.size ≤ g8 by have := hg.out; omega)
 clear hb hL hg hB e9 hb9 hg9
 simp only [Act.put, List.setIfInBounds_toArray, List.set_cons_zero, List.set_cons_succ]
 have y1 : w9.drew.cell? ⟨g8, 1, none⟩ = some (.int .i64 ((k : Int) * 64)) := by show w9.cell? _ = _; rw [blk_cell G9.out, pc0_is]; rfl
 have y1' : w9.cell? ⟨g8, 1, none⟩ = some (.int .i64 ((k : Int) * 64)) := y1
 have nc : ¬ cb = k * 64 := by omega
 have nl : (k : Int) * 64 ≤ 256 := by omega
 have n0 : 0 ≤ (k : Int) * 64 := by omega
 have nT : ((k : Int) * 64).toNat = k * 64 := by omega
 go_still_tail 6, (by kernel_rfl)
 change wpList _ _ _ _ _ w9.drew
 have CB := Aside0.mk (C_cells (HB.out w9 (skp_trans HK.out (skp_of_below (S := fun _ => False) B9.out) (fun j e => e.elim))) (by decide))
 refine wpl_copy_at rfl (.tmp 40) (.tmp 44) 27 27 rfl 5 Try.underlying27 info5s _ _ 64 64 (256 - k * 64) (cb - k * 64) rfl rfl g8 2 (pc0 (i : Int) ((k : Int) * 64)) 100 (show w9.drew.heap[g8]? = _ from G9.out) (by8 B8) ?hn ?hpos ?hfit (by8_one _) ?_
 case hn => rw [by8_len, LB.out]; exact (Nat.min_eq_right (by omega)).symm
 case hpos =>
  intro h0
  refine ⟨rfl, ab.add (k * 64), rfl, fun j v hj => ?_⟩
  obtain ⟨ad, ea, hc⟩ := CB.out
  cases ea
  rw [add_add]
  refine hc (k * 64 + j) v ?_
  rw [EB.out] at hj
  exact cut_by8 j v hj
 case hfit => rw [by8_len, LB.out, pc0_len]; decide
 intro w10 hb10 hg10
 obtain ⟨x, hx⟩ : ∃ x : Pc, x = ⟨(i : Int), (k : Int) * 64, B8⟩ := ⟨_, rfl⟩
 have E10 : (pc0 (i : Int) ((k : Int) * 64)).take 2 ++ by8 B8 ++ (pc0 (i : Int) ((k : Int) * 64)).drop (2 + (by8 B8).length) = pcc x := by
   rw [pc0_is, by8_len, LB.out, hx]
   simp [pcc]
 have h10 := hb10.out
 rw [E10] at h10
 have XB := Aside0.mk (show x.b.length = 64 by rw [hx]; exact LB.out)
 have X0 := Aside0.mk (pcc_len XB.out)
 have XO := Aside0.mk (show 0 ≤ x.bl ∧ x.bl < (s'.nb : Int) ∧ 0 ≤ x.at_ ∧ x.at_ ≤ 192 ∧ x.b.length = 64 by rw [hx]; exact ⟨by dsimp only; omega, by dsimp only; omega, by dsimp only; omega, by dsimp only; omega, LB.out⟩)
 obtain ⟨L, hL⟩ : ∃ L, L = s'.pend ++ (pcs (i : Int) b).take k := ⟨_, rfl⟩
 have EL := Aside0.mk (show L ++ [x] = s'.pend ++ (pcs (i : Int) b).take (k + 1) by rw [hL, pcs_take c1, List.append_assoc, hx, EB.out])
 have LL := Aside0.mk (show (L.length + 1) * 80 ≤ 140737488355328 by rw [hL, List.length_append, List.length_take]; omega)
 rw [← hL] at HD
 have B10 := Aside0.mk (show Below wr.heap.size wr w10 from below_step (Below.refl wr.heap.size wr) (pw_below_grown (below_drew B9.out) (some g8) (below_size (below_drew B9.out)) hg10.out (fun j e => by injection e with e; have := GE.out; omega)))
 have G0 := Aside0.mk (show w10.drew.heap[g8]? = some (.cells (pcc x).toArray 100 (0, 0)) from h10)
 have D0 := Aside0.mk (show dm base w10.drew p n f v' {s' with now := N1, pend := L} from dm_below HD.out (below_drew B10.out))
 have S0 := Aside0.mk (show base ≤ w10.drew.heap.size from Nat.le_trans SB.out (Nat.le_trans HK.out.2.2.2.1 (below_size (below_drew B10.out))))
 have Z0 := Aside0.mk (show skp (dS p n f vP) w w10.drew from skp_trans HK.out (skp_of_below (S := fun _ => False) (below_drew B10.out)) (fun j e => e.elim))
 obtain ⟨AP, cP, rfl⟩ := Kd.R_slice HD.out.pend
 obtain ⟨LP, hLP⟩ : ∃ LP, LP = L.length := ⟨_, rfl⟩
 have LN := Aside0.mk (show (L ++ [x]).length = LP + 1 by rw [List.length_append, hLP]; rfl)
 rw [← hLP] at D0 HN
 clear h10 hb10 hg10 E10 hL hx hLP HD CB G9 B9 B10 GE EB y1 y1' nc nl n0 nT
 go_upto_region 11 with (fail)
 refine start_ (n := 11) (S := fun w' => w'.cell? ⟨p, 2, none⟩ = some (.slice AP LP cP)) (ds := [10]) #[false, false, false, false, false, false, false, false, false, false, false] (by kernel_rfl) rfl rfl (((blk_cell D0.out.box 2).trans rfl)) (fun hHeld => ?_)
 generalize w10.drew = W at hHeld D0 G0 S0 Z0 ⊢
 refine pu 0 (some 46) (bm 11 1) ?_
 refine pu 1 (some 47) (bm 11 3) ?_
 refine pu 2 (some 48) (bm 11 7) ?_
 refine pu 3 (some 49) (bm 11 15) ?_
 refine take_ (i := 4) (N := some 50) (v := ?_) (a' := ?_) #[true, true, true, true, true, false, false, false, false, false, false] rfl rfl (by kernel_rfl) (fun _ _ _ h => h) (Or.inl ⟨by rfl, ?_⟩) hHeld ?_ ?_
 rotate_left
 · intro w' s0
   go_simp
   with_reducible rfl
 rotate_left
 · simp only [Act.put, List.setIfInBounds_toArray, List.set_cons_zero, List.set_cons_succ, i64_w, i32_w]
   rfl
 refine one_ (i := 5) (N := some 51) #[true, true, true, true, true, true, false, false, false, false, false] rfl rfl (by kernel_rfl) (by decide) (fun K hK => ?_)
 refine stp_load_at (by rfl) 100 (.tmp 8) rfl (v := .agg (pcc x).toArray) (ad := ⟨g8, 0, none⟩) rfl (run_load_at G0.out (fun j v hv => by rwa [Nat.zero_add]) Try.underlying100 rfl (by rw [X0.out]; exact info100)) ?_
 refine hK.out _ _ (((blk_cell D0.out.box 2).trans rfl)) (fun hHeld => ?_)
 clear hK K
 refine no (some 51) ?_
 refine one_ (i := 6) (N := some 52) #[true, true, true, true, true, true, true, false, false, false, false] rfl rfl (by kernel_rfl) (by decide) (fun K hK => ?_)
 refine stp_build1 (by rfl) 92 100 (.tmp 51) rfl (pcc x) 66 z100 rfl Try.underlying92 info100z X0.out (by decide) (by decide) ?_
 have D1 := Aside0.mk (dm_below D0.out (below_alloc (Below.refl _ _) (.cells (pcc x).toArray 100)))
 refine hK.out _ _ (((blk_cell D1.out.box 2).trans rfl)) (fun hHeld => ?_)
 clear hK K
 refine no (some 52) ?_
 refine one_ (i := 7) (N := some 53) #[true, true, true, true, true, true, true, true, false, false, false] rfl rfl (by kernel_rfl) (by decide) (fun K hK => ?_)
 refine Kd.R_append_step kP (w0 := W) (W := W) base (by rfl) (.tmp 50) (.tmp 52) 92 100 z100 80 rfl Try.underlying92 info100b rfl (by decide) (by decide) (.slice AP LP cP) L x (pcc x) (fun _ => True) (fun _ => False) rfl rfl (kP_mkM _ _ _ x XB.out) (fun _ h => h.elim) (fun _ _ => trivial) D0.out.pend (Below.refl _ _) S0.out LL.out ?_
 intro v1 w1 ho hb hg hat
 obtain ⟨Av, cv, ev⟩ := Kd.R_slice ho; subst ev
 rw [LN.out] at ho hat ⊢
 have R1 := Aside0.mk ho; have G1 := Aside0.mk hg; have A1 := Aside0.mk hat; have X1 := Aside0.mk (blk_grown D0.out.box hg (Kd.R_ne D0.out.pend D0.out.box (by decide)))
 have f2 := blk_frozen X1.out 2
 have z2 : w1.cell? ⟨p, 2, none⟩ = some (.slice AP LP cP) := (blk_cell X1.out 2).trans rfl
 clear ho hb hg hat
 refine hK.out _ _ (z2) (fun hHeld => ?_)
 clear hK K
 refine no (some 53) ?_
 refine pu 8 (some 54) (bm 11 511) ?_
 refine pu 9 (some 55) (bm 11 1023) ?_
 refine last_ (i := 10) (N := none) #[true, true, true, true, true, true, true, true, true, true, true] rfl rfl (by kernel_rfl) (by decide) (fun K hK => ?_)
 refine skip_ (w1 := ?_) (by rfl) rfl ?_ ?_
 rotate_left
 · go_simp
   rfl
 refine hK.out _ _ ?_
 clear hK K
 refine done_ (by kernel_rfl) ?_
 go_wp2
 go_roundw
 case rel => exact ⟨k + 1, _, by go_num, by omega, ⟨by rw [← EL.out]; exact dm_app D0.out R1.out G1.out XO.out⟩, ⟨newer_trans HN.out Z0.out.2.2.2.1 (.inr A1.out)⟩, ⟨skp_trans (skp_trans Z0.out (skp_grown (S := fun q => some q = (Value.slice AP LP cP).ownBlock) G1.out (fun q e => e)) (fun q e => newer_dS HN.out q (.inr (.inr (.inr e))))) skp_set (fun q e => .inl (.inl e))⟩⟩
 case measure => simp [intOf]; omega
theorem wps_load {P : Program} {ops : Array Oper} {w : World} {Q : Act → Prop} {rest : List Oper} {o : Oper} {a : Act} (hw : Region.wanted o (yielded ops a.tmps) = true) (ty : TypeId) (x : Operand) (ho : o.op = .load ty x)
    {v : Value} {ad : Addr} (hx : a.eval x = .pointer (some ad)) (hr : Sem.run P (loadVar ty ad) w = .ok v w) (h : wpStill P ops w Q rest (a.put o.dst v)) : wpStill P ops w Q (o :: rest) a := by
  refine wpStill_step (fun K hK => ?_)
  rw [if_pos hw]
  unfold Oper.still execOp
  simp only [ho, hx, Instr.loadAt, Instr.sureAddr, Sem.run_bind, Sem.run_pure, Result.andThen_ok, hr]
  first | exact hK _ h | exact ⟨rfl, hK _ h⟩ | exact ⟨_, rfl, hK _ h⟩
theorem run_load_c {w : World} {ad : Addr} {ty : TypeId} {cs : List Value} {d : TypeDesc} (hc : ∀ j v, cs[j]? = some v → w.cell? (ad.add j) = some v) (hu : Try.prog.underlying ty = some d) (hd : (match d with | .struct _ | .array _ _ => true | _ => false) = true) (hi : (Try.prog.info? ty).map (·.size) = some cs.length) :
    Sem.run Try.prog (loadVar ty ad) w = .ok (.agg cs.toArray) w := by
  have hl := run_loadCells_list (P := Try.prog) w ad cs hc
  cases hq : Try.prog.info? ty with
  | none => simp [hq] at hi
  | some i =>
    have hs : i.size = cs.length := by simpa [hq] using hi
    have hagg : (isAgg ty).run Try.prog w = .ok true w := by
      unfold isAgg
      rw [Sem.run_bind, run_underlying hu w]
      cases d <;> simp_all
    simp [loadVar, Sem.run_bind, hagg, sizeOf, typeInfo, hq, hs, hl]
theorem wpl_load_c {ops : Array Oper} {rest : List Oper} {op : Oper} {a : Act} {w : World} {Q : Exit → Act → World → Prop} (hgd : op.guard = none) (ty : TypeId) (x : Operand) (ho : op.op = .load ty x)
    {ad : Addr} (hx : a.eval x = .pointer (some ad)) (cs : List Value) (d : TypeDesc) (hc : ∀ j v, cs[j]? = some v → w.cell? (ad.add j) = some v)
    (hu : Try.prog.underlying ty = some d) (hd : (match d with | .struct _ | .array _ _ => true | _ => false) = true) (hi : (Try.prog.info? ty).map (·.size) = some cs.length)
    (h : wpList Try.prog ops Q rest (a.put op.dst (.agg cs.toArray)) w) : wpList Try.prog ops Q (op :: rest) a w := by
  refine wpList_plain hgd fun _ hK => ?_
  unfold Oper.wp execOp
  simp only [ho, hx, Instr.loadAt, Instr.sureAddr, Sem.run_bind, Sem.run_pure, Result.andThen_ok, run_load_c hc hu hd hi]
  exact hK _ _ h
def rdP (P : List Pc) (j : Nat) : Pc := P.getD j ⟨0, 0, []⟩
theorem rdP_mem {P : List Pc} {j : Nat} (h : j < P.length) : rdP P j ∈ P := by
 unfold rdP
 rw [List.getD_eq_getElem?_getD, List.getElem?_eq_getElem h]
 exact List.getElem_mem _
theorem pc_at {W : World} {base : Nat} {A : Option Addr} {m c : Nat} {P : List Pc} (h : Kd.R kP 100 W base (fun _ => True) (.slice A m c) P) (j : Nat) (hj : j < m) : ∃ q, A = some ⟨q, 0, none⟩ ∧ ∀ k v, (pcc (rdP P j))[k]? = some v → W.cell? ((⟨q, j * 66, none⟩ : Addr).add k) = some v := by
 obtain ⟨rfl, _, _⟩ := Kd.R_reads' h
 obtain ⟨q, cap, e, _, _, _, _⟩ := Kd.R_form h (by omega)
 injection e with e1 e2 e3
 subst e1
 obtain ⟨cs, _, hM, hc, _⟩ := Kd.R_elem h ⟨0, 0, []⟩ (j : Int) (by omega) (by omega)
 have hp := (kP_openM hM).1
 refine ⟨q, rfl, fun k v hv => ?_⟩
 have := hc k v (by rw [hp]; exact hv)
 rw [ad_at]
 exact this
def keepF (kept : Nat → Bool) (P : List Pc) : Nat → List Int → List Int
  | 0, S => S
  | j + 1, S => if kept j = true then sp8 (keepF kept P j S) ((rdP P j).bl.toNat * 256 + (rdP P j).at_.toNat) (rdP P j).b else keepF kept P j S
def backF (F : List Int) (P : List Pc) : Nat → List Int → List Int
  | 0, N => N
  | j + 1, N => sp8 (backF F P j N) ((rdP P j).bl.toNat * 256) (cut8 F ((rdP P j).bl.toNat * 256) 256)
def stl (kept : Nat → Bool) (s : Dk) : Dk := {s with safe := keepF kept s.pend s.pend.length s.safe, now := backF (keepF kept s.pend s.pend.length s.safe) s.pend s.pend.length s.now, pend := []}
theorem keepF_len {s : Dk} (h : s.Ok) (kept : Nat → Bool) : ∀ j, j ≤ s.pend.length → (keepF kept s.pend j s.safe).length = s.safe.length
  | 0, _ => rfl
  | j + 1, hj => by
    have ih := keepF_len h kept j (by omega)
    unfold keepF
    split
    · obtain ⟨h1, h2, h3, h4, h5⟩ := h.pend _ (rdP_mem (show j < s.pend.length by omega))
      rw [sp8_len (by rw [ih, h5, h.safe]; omega), ih]
    · exact ih
theorem backF_len {s : Dk} (h : s.Ok) (F : List Int) (hF : F.length = s.safe.length) : ∀ j, j ≤ s.pend.length → (backF F s.pend j s.now).length = s.now.length
  | 0, _ => rfl
  | j + 1, hj => by
    have ih := backF_len h F hF j (by omega)
    obtain ⟨h1, h2, h3, h4, h5⟩ := h.pend _ (rdP_mem (show j < s.pend.length by omega))
    have hc : (cut8 F ((rdP s.pend j).bl.toNat * 256) 256).length = 256 := cut8_len (by rw [hF, h.safe]; omega)
    unfold backF
    rw [sp8_len (by rw [ih, hc, h.now]; omega), ih]
theorem dm_safe {base p n f : Nat} {w w' : World} {vP : Value} {s : Dk} {F' : List Int} (h : dm base w p n f vP s) (hb : w'.heap[f]? = some (.cells (by8 F').toArray 96 (0, 0))) (hg : w.grownBy w' (some f)) (hl : F'.length = s.safe.length) : dm base w' p n f vP {s with safe := F'} := by
 obtain ⟨n1, n2, n3, n4, n5⟩ := dm_ne h
 have nn : ∀ k, k ≠ f → some k ≠ (some f : Option Nat) := fun k e e' => e (by injection e')
 exact ⟨blk_grown h.box hg (nn p n2), blk_grown h.now hg (nn n h.ne), hb, Kd.R_grown (Kd.R_mono (Kd.R_types h.pend h.safe (by decide)) (fun _ h => h.2)) hg (fun k hk => nn k hk) |> fun r => Kd.R_mono r (fun _ _ => trivial), h.ne, h.hp, h.hn, h.hf, ⟨h.ok.nb0, h.ok.nb1, h.ok.now, by rw [hl]; exact h.ok.safe, h.ok.pend⟩⟩
set_option maxRecDepth 4000 in
theorem dk_WriteArg {base p n f : Nat} {w : World} {vP : Value} {s : Dk} (h : dm base w p n f vP s) (i : Int) (Ab : Option Addr) (m cb : Nat) (hh : hasB s i = false ∨ m ≠ 256) :
    Calls Try.prog 22 #[.pointer (some ⟨p, 0, none⟩), .int .i64 i, .slice Ab m cb] w fun e w' => e = .returned (.int .i64 1) ∧ Drawn0 w w' := by
 have H := Aside0.mk h
 cases hb : hasB s i with
 | false =>
  have HB := Aside0.mk hb
  clear h hh hb
  go_enter Try.func22, Try.ntmps22
  go_wp2_with (go_at_call 54; refine (dk_has H.out i false HB.out).mono ?_; rintro e w1 ⟨rfl, hd⟩; have D1 := Aside0.mk hd; clear hd)
  go_ret
  exact ⟨rfl, D1.out⟩
 | true => ?_
 have HB := Aside0.mk hb
 have hm : ¬ m = 256 := by rcases hh with e | e; · rw [hb] at e; cases e
                           · exact e
 have hmb : ((m : Int) != 256) = true := by simp; omega
 clear h hh hb
 go_enter Try.func22, Try.ntmps22
 go_wp2_with (go_at_call 54; refine (dk_has H.out i true HB.out).mono ?_; rintro e w1 ⟨rfl, hd⟩; have D1 := Aside0.mk hd; clear hd)
 go_ret
 exact ⟨rfl, D1.out⟩
set_option maxRecDepth 4000 in
theorem dk_WriteDown {base p n f : Nat} {w : World} {vP : Value} {s s' : Dk} (h : dm base w p n f vP s) (i : Int) (Ab : Option Addr) (cb : Nat) (hh : hasB s i = true) (hpw : pwx s = (s', false)) :
    Calls Try.prog 22 #[.pointer (some ⟨p, 0, none⟩), .int .i64 i, .slice Ab 256 cb] w fun e w' => e = .returned (.int .i64 9) ∧ dm base w' p n f vP s' ∧ skp (fun i => i = p) w w' := by
 have H := Aside0.mk h
 have HB := Aside0.mk hh
 have HP := Aside0.mk hpw
 clear h hh hpw
 go_enter Try.func22, Try.ntmps22
 go_wp2_with (first | (go_at_call 54; refine (dk_has H.out i true HB.out).mono ?_; rintro e w1 ⟨rfl, hd⟩; have B1 := Aside0.mk (drawn_below hd); have H1 := Aside0.mk (dm_below H.out B1.out); clear hd) | (go_at_call 58; refine (dk_power H1.out HP.out).mono ?_; rintro e w2 ⟨rfl, hD, hk⟩; have D2 := Aside0.mk hD; have K2 := Aside0.mk (skp_trans (skp_of_below (S := fun i => i = p) B1.out) hk (fun j e => .inl e)); clear hD hk))
 go_ret
 exact ⟨rfl, D2.out, K2.out⟩
set_option maxRecDepth 4000 in
theorem dk_ReadArg {base p n f : Nat} {w : World} {vP : Value} {s : Dk} (h : dm base w p n f vP s) (i : Int) (hh : hasB s i = false) :
    Calls Try.prog 16 #[.pointer (some ⟨p, 0, none⟩), .int .i64 i] w fun e w' => e = .returned (.tuple #[.slice none 0 0, .int .i64 1]) ∧ Drawn0 w w' := by
 have H := Aside0.mk h
 have HB := Aside0.mk hh
 clear h hh
 go_enter Try.func16, Try.ntmps16
 go_wp2_with (go_at_call 54; refine (dk_has H.out i false HB.out).mono ?_; rintro e w1 ⟨rfl, hd⟩; have D1 := Aside0.mk hd; clear hd)
 go_ret2
 exact ⟨rfl, D1.out⟩
set_option maxRecDepth 4000 in
theorem dk_ReadDown {base p n f : Nat} {w : World} {vP : Value} {s : Dk} (h : dm base w p n f vP s) (i : Int) (hh : hasB s i = true) (ho : s.of = true) :
    Calls Try.prog 16 #[.pointer (some ⟨p, 0, none⟩), .int .i64 i] w fun e w' => e = .returned (.tuple #[.slice none 0 0, .int .i64 9]) ∧ Drawn0 w w' := by
 have H := Aside0.mk h
 have HB := Aside0.mk hh
 have HO := Aside0.mk ho
 clear h hh ho
 go_enter Try.func16, Try.ntmps16
 go_upto_region 3 with (go_at_call 54; refine (dk_has H.out i true HB.out).mono ?_; rintro e w1 ⟨rfl, hd⟩; have D1 := Aside0.mk hd; have H1 := Aside0.mk (dm_below H.out (drawn_below hd)); clear hd)
 have z5 : w1.cell? ⟨p, 5, none⟩ = some (.bool true) := (blk_cell H1.out.box 5).trans (by rw [HO.out]; rfl)
 go_wp2
 go_ret2
 exact ⟨rfl, D1.out⟩
theorem run_arr_slice {P : Program} (w : World) (t e : TypeId) (n f o aN : Nat) (hu : P.underlying t = some (.array n e)) (hi : (P.info? e).map (·.size) = some 1) (h : aN < n) :
    Sem.run P (Instr.sliceAt t (.pointer (some ⟨f, o, none⟩)) (some (.int .i64 (aN : Int))) none none) w = .ok (.slice (some ⟨f, o + aN, none⟩) (n - aN) (n - aN)) w := by
  obtain ⟨i, hi, hs⟩ := Option.map_eq_some_iff.1 hi
  have h1 : (aN : Int) ≤ (n : Int) := by omega
  have h2 : ¬ n = aN := by omega
  simp [Instr.sliceAt, Sem.run_bind, run_underlying hu w, Instr.sureAddr, Instr.sliceBounds, Instr.sliceBound, asIntOf, sizeOf, typeInfo, hi, hs, h1, h2, ad_at]
  exact fun h3 => absurd h3 (by omega)
theorem wps_value {P : Program} {ops : Array Oper} {w : World} {Q : Act → Prop} {rest : List Oper} {o : Oper} {a : Act} (hw : Region.wanted o (yielded ops a.tmps) = true)
    {v : Value} (hr : (execOp a.eval o).run P w = .ok (.value v) w) (h : wpStill P ops w Q rest (a.put o.dst v)) : wpStill P ops w Q (o :: rest) a := by
  refine wpStill_step (fun K hK => ?_)
  rw [if_pos hw]
  unfold Oper.still
  rw [hr]
  exact ⟨rfl, hK _ h⟩
theorem exec_slice {P : Program} {ρ : Operand → Value} {o : Oper} {t : TypeId} {x : Operand} {lo hi mx : Option Operand} {w : World} {v : Value} (ho : o.op = .slice t x lo hi mx) (h : Sem.run P (Instr.sliceAt t (ρ x) (lo.map ρ) (hi.map ρ) (mx.map ρ)) w = .ok v w) :
    (execOp ρ o).run P w = .ok (.value v) w := by
  unfold execOp
  simp only [ho, Sem.run_bind, h, Result.andThen_ok, Sem.run_pure]
theorem dm_clear {base p n f : Nat} {w : World} {vP : Value} {s : Dk} (h : dm base w p n f vP s) : dm base (w.setCell ⟨p, 2, none⟩ (.slice none 0 0)) p n f (.slice none 0 0) {s with pend := []} := by
 obtain ⟨n1, n2, n3, n4, n5⟩ := dm_ne h
 exact ⟨(blk_set h.box 2 _).trans rfl, blk_far h.now (p := ⟨p, 2, none⟩) (Ne.symm n1) _, blk_far h.safe (p := ⟨p, 2, none⟩) (Ne.symm n2) _, Kd.R_nil _ _ _ _ _, h.ne, h.hp, h.hn, h.hf, ⟨h.ok.nb0, h.ok.nb1, h.ok.now, h.ok.safe, fun x hx => by cases hx⟩⟩
set_option maxRecDepth 20000 in
set_option maxHeartbeats 16000000 in
theorem dk_settle59 {base p n f : Nat} {w : World} {vP : Value} {s : Dk} (kept : Nat → Bool) (h : dm base w p n f vP s) (hbase : base ≤ w.heap.size) (hl : s.pend.length ≤ 100000)
    (hcl : ∀ (j : Nat) (W : World), j < s.pend.length → skp (dS p n f vP) w W → Calls Try.prog 59 #[.int .i64 (j : Int)] W fun e w' => e = .returned (.bool (kept j)) ∧ Drawn0 W w') :
    Calls Try.prog 56 #[.pointer (some ⟨p, 0, none⟩), .func (.func 59) #[] #[]] w fun e w' => e = .returned (.tuple #[]) ∧ dm base w' p n f (.slice none 0 0) (stl kept s) ∧ skp (dS p n f vP) w w' := by
 obtain ⟨AP, cP, rfl⟩ := Kd.R_slice h.pend
 obtain ⟨m, hm⟩ : ∃ m, m = s.pend.length := ⟨_, rfl⟩
 rw [← hm] at h hcl ⊢
 have HM := Aside0.mk hm
 have H := Aside0.mk h
 have HC := Aside0.mk hcl
 have SB := Aside0.mk hbase
 have z2 : w.cell? ⟨p, 2, none⟩ = some (.slice AP m cP) := (blk_cell h.box 2).trans rfl
 have hm1 : m ≤ 100000 := by rw [hm]; exact hl
 have nb1 := h.ok.nb1
 clear h hcl hm hl hbase
 go_enter Try.func56, Try.ntmps56
 go_wp2
 clear z2
 go_loopw [13] (fun v13 wr => ∃ j : Nat, v13 = .int .i64 (j : Int) ∧ j ≤ m ∧ Aside0 (dm base wr p n f (.slice AP m cP) {s with safe := keepF kept s.pend j s.safe}) ∧ Aside0 (skp (dS p n f (.slice AP m cP)) w wr)) (fun v13 _ => m - (intOf v13).toNat)
 case atStart => exact ⟨0, rfl, Nat.zero_le _, H, ⟨skp_refl _ _⟩⟩
 obtain ⟨j, rfl, hj, HD, HK⟩ := hrel
 by_cases c1 : j < m
 rotate_left
 · have c1b : decide (j < m) = false := decide_eq_false c1
   obtain rfl : j = m := by omega
   obtain ⟨F, hF⟩ : ∃ F, F = keepF kept s.pend j s.safe := ⟨_, rfl⟩
   rw [← hF] at HD
   have EF := Aside0.mk hF
   have z2 : wr.cell? ⟨p, 2, none⟩ = some (.slice AP j cP) := (blk_cell HD.out.box 2).trans rfl
   clear hF H
   go_wp2
   clear z2
   go_loopw [40] (fun v40 wq => ∃ t : Nat, v40 = .int .i64 (t : Int) ∧ t ≤ j ∧ Aside0 (dm base wq p n f (.slice AP j cP) {s with safe := F, now := backF F s.pend t s.now}) ∧ Aside0 (skp (dS p n f (.slice AP j cP)) w wq)) (fun v40 _ => j - (intOf v40).toNat)
   case atStart => exact ⟨0, rfl, Nat.zero_le _, HD, HK⟩
   clear HD HK
   obtain ⟨t, rfl, ht, HD, HK⟩ := hrel
   by_cases c2 : t < j
   rotate_left
   · have c2b : decide (t < j) = false := decide_eq_false c2
     obtain rfl : t = j := by omega
     have z2 : wr.cell? ⟨p, 2, none⟩ = some (.slice AP t cP) := (blk_cell HD.out.box 2).trans rfl
     have f2 := blk_frozen HD.out.box 2
     have D9 := Aside0.mk (dm_clear HD.out)
     have E9 := Aside0.mk (show ({s with safe := F, now := backF F s.pend t s.now, pend := []} : Dk) = stl kept s by unfold stl; rw [← HM.out, ← EF.out])
     go_wp2
     (try simp only [Exit.inBlock, Exit.then])
     first | refine bodyPost_ret (results_none rfl _ _ _) rfl ?_ | refine bodyPost_end (results_none rfl _ _ _) rfl ?_
     exact ⟨rfl, by rw [← E9.out]; exact D9.out, skp_trans HK.out skp_set (fun i e => .inl (.inl e))⟩
   have c2b : decide (t < j) = true := decide_eq_true c2
   obtain ⟨q, eq_, hpc⟩ := pc_at HD.out.pend t c2
   obtain ⟨x, hx⟩ : ∃ x, x = rdP s.pend t := ⟨_, rfl⟩
   have hpc' : ∀ k v, (pcc x)[k]? = some v → wr.cell? ((⟨q, t * 66, none⟩ : Addr).add k) = some v := by rw [hx]; exact hpc
   have PC := Aside0.mk hpc'
   have XO := Aside0.mk (show 0 ≤ x.bl ∧ x.bl < (s.nb : Int) ∧ 0 ≤ x.at_ ∧ x.at_ ≤ 192 ∧ x.b.length = 64 by rw [hx]; exact HD.out.ok.pend _ (rdP_mem (P := s.pend) (by have := HM.out; omega)))
   have XL := Aside0.mk (pcc_len XO.out.2.2.2.2)
   have EX := Aside0.mk hx
   clear hpc hpc' hx
   subst eq_
   go_upto_region 9 with (first | ((with_reducible refine gate_dst (N := 43) rfl ?_); refine wpl_load_c rfl 100 (.tmp 42) rfl (ad := ⟨q, t * 66, none⟩) rfl (pcc x) _ PC.out Try.underlying100 rfl (by rw [XL.out]; exact info100) ?_) | ((with_reducible refine gate_dst (N := 7) rfl ?_); refine wpl_alloc_at rfl 100 rfl z100 66 info100z (by decide) ?_; intro g5 L5 w5 hg hL hb hB) | ((with_reducible refine gate_store (t := 100) (p := 7) (v := .tmp 43) rfl ?_); refine wpl_store_at rfl 100 (.tmp 7) (.tmp 43) rfl rfl (pcc x) rfl hb.out ?hf (pcc_one x) (by rw [XL.out]; exact info100) ?_; (case hf => rw [hL.out, XL.out]; decide); intro w6 hb6 hg6))
   have e6 : L5.take 0 ++ pcc x ++ L5.drop (0 + (pcc x).length) = pcc x := by
     rw [XL.out, List.take_zero, List.nil_append, List.drop_of_length_le (by rw [hL.out]; decide), List.append_nil]
   rw [e6] at hb6
   have B6 := Aside0.mk (below_step (Below.refl wr.heap.size wr) (pw_below_grown hB.out (some g5) (below_size hB.out) hg6 (fun j e => by injection e with e; have := hg.out; omega)))
   have G6 := Aside0.mk hb6
   have K6 := Aside0.mk (skp_trans HK.out (skp_of_below (S := fun _ => False) B6.out) (fun j e => e.elim))
   clear hb hL hg hB e6 hb6 hg6 PC
   simp only [Act.put, List.setIfInBounds_toArray, List.set_cons_zero, List.set_cons_succ]
   obtain ⟨N, hN⟩ : ∃ N, N = backF F s.pend t s.now := ⟨_, rfl⟩
   rw [← hN] at HD
   obtain ⟨o1, o2, o3, o4, o5⟩ := XO.out
   obtain ⟨bN, hbN⟩ : ∃ bN : Nat, x.bl = (bN : Int) := ⟨x.bl.toNat, by omega⟩
   rw [hbN] at o1 o2
   have EN := Aside0.mk (show sp8 N (bN * 256) (cut8 F (bN * 256) 256) = backF F s.pend (t + 1) s.now by unfold backF; rw [← hN, ← EX.out, hbN]; simp)
   have HBN := Aside0.mk hbN
   have DM6 := Aside0.mk (dm_below HD.out B6.out)
   have CL := Aside0.mk (show (cut8 F (bN * 256) 256).length = 256 from cut8_len (by have := HD.out.ok.safe; dsimp only at this; rw [this]; omega))
   clear hbN hN o3 o4 o5
   have y0 : w6.drew.cell? ⟨g5, 0, none⟩ = some (.int .i64 (bN : Int)) := by show w6.cell? _ = _; rw [blk_cell G6.out, ← HBN.out]; rfl
   have y0' : w6.cell? ⟨g5, 0, none⟩ = some (.int .i64 (bN : Int)) := y0
   have z1 : w6.drew.cell? ⟨p, 1, none⟩ = some (.slice (some ⟨f, 0, none⟩) s.nb s.nb) := (blk_cell DM6.out.box 1).trans rfl
   have z1' : w6.cell? ⟨p, 1, none⟩ = some (.slice (some ⟨f, 0, none⟩) s.nb s.nb) := z1
   have z0 : w6.drew.cell? ⟨p, 0, none⟩ = some (.slice (some ⟨n, 0, none⟩) s.nb s.nb) := (blk_cell DM6.out.box 0).trans rfl
   have z0' : w6.cell? ⟨p, 0, none⟩ = some (.slice (some ⟨n, 0, none⟩) s.nb s.nb) := z0
   have q1 : bN < s.nb := by omega
   refine wp_region_still_tail 15 (by kernel_rfl) (by kernel_rfl) ?_
   simp only [List.take_succ_cons, List.take_zero, List.drop_succ_cons, List.drop_zero]
   iterate 13 still_step
   refine wps_load (by rfl) 96 (.tmp 56) rfl (v := .agg (by8 (cut8 F (bN * 256) 256)).toArray) (ad := ⟨f, bN * 256, none⟩) rfl (run_load_at (w := w6.drew) DM6.out.safe cut_by8 Try.underlying96 rfl (by rw [by8_len, CL.out]; exact info96)) ?_
   simp only [Act.put, List.setIfInBounds_toArray, List.set_cons_zero, List.set_cons_succ]
   repeat still_step
   try refine wpStill_nil ?_
   change wpList _ _ _ _ _ w6.drew
   refine wpl_store_at rfl 96 (.tmp 58) (.tmp 57) rfl rfl (by8 (cut8 F (bN * 256) 256)) rfl (show w6.drew.heap[n]? = _ from DM6.out.now) ?hf (by8_one _) (by rw [by8_len, CL.out]; exact info96) ?_
   case hf => rw [by8_len, by8_len, CL.out, DM6.out.ok.now]; show _ ≤ s.nb * 256; omega
   intro w8 h8 hg8
   rw [← by8_sp, EN.out] at h8
   have LF := DM6.out.ok.now
   have D8 := Aside0.mk (dm_now (w := w6.drew) (dm_below DM6.out (below_drew (Below.refl _ _))) h8 hg8 (by rw [← EN.out, sp8_len]; rw [CL.out]; show _ ≤ N.length; rw [show N.length = s.nb * 256 from LF]; omega))
   have K8 := Aside0.mk (skp_trans K6.out (skp_trans (skp_drew (S := fun t => t = n) w6) (skp_grown (S := fun t => t = n) hg8 (fun t e => by injection e)) (fun t e => .inl e)) (fun t e => .inl (.inr (.inl e))))
   clear h8 hg8 y0 y0' z1 z1' z0 z0' LF
   simp only [Act.put, List.setIfInBounds_toArray, List.set_cons_zero, List.set_cons_succ]
   go_wp2
   go_roundw
   case rel => exact ⟨t + 1, by go_num, by omega, D8, K8⟩
   case measure => simp [intOf]; omega
 have c1b : decide (j < m) = true := decide_eq_true c1
 obtain ⟨q, eq_, hpc⟩ := pc_at HD.out.pend j c1
 obtain ⟨x, hx⟩ : ∃ x, x = rdP s.pend j := ⟨_, rfl⟩
 have hpc' : ∀ k v, (pcc x)[k]? = some v → wr.cell? ((⟨q, j * 66, none⟩ : Addr).add k) = some v := by rw [hx]; exact hpc
 have EQ := Aside0.mk eq_
 have PC := Aside0.mk hpc'
 have XO := Aside0.mk (show 0 ≤ x.bl ∧ x.bl < (s.nb : Int) ∧ 0 ≤ x.at_ ∧ x.at_ ≤ 192 ∧ x.b.length = 64 by rw [hx]; exact HD.out.ok.pend _ (rdP_mem (P := s.pend) (by have := HM.out; omega)))
 have XL := Aside0.mk (pcc_len XO.out.2.2.2.2)
 have EX := Aside0.mk hx
 clear hpc hpc' hx EQ
 subst eq_
 go_upto_region 3 with (first | ((with_reducible refine gate_dst (N := 17) rfl ?_); refine wpl_load_c rfl 100 (.tmp 16) rfl (ad := ⟨q, j * 66, none⟩) rfl (pcc x) _ PC.out Try.underlying100 rfl (by rw [XL.out]; exact info100) ?_) | ((with_reducible refine gate_dst (N := 5) rfl ?_); refine wpl_alloc_at rfl 100 rfl z100 66 info100z (by decide) ?_; intro g5 L5 w5 hg hL hb hB) | ((with_reducible refine gate_store (t := 100) (p := 5) (v := .tmp 17) rfl ?_); refine wpl_store_at rfl 100 (.tmp 5) (.tmp 17) rfl rfl (pcc x) rfl hb.out ?hf (pcc_one x) (by rw [XL.out]; exact info100) ?_; (case hf => rw [hL.out, XL.out]; decide); intro w6 hb6 hg6))
 have e6 : L5.take 0 ++ pcc x ++ L5.drop (0 + (pcc x).length) = pcc x := by
   rw [XL.out, List.take_zero, List.nil_append, List.drop_of_length_le (by rw [hL.out]; decide), List.append_nil]
 rw [e6] at hb6
 have B6 := Aside0.mk (below_step (Below.refl wr.heap.size wr) (pw_below_grown hB.out (some g5) (below_size hB.out) hg6 (fun j e => by injection e with e; have := hg.out; omega)))
 have G6 := Aside0.mk hb6
 have GE := Aside0.mk (show wr.heap.size ≤ g5 by have := hg.out; omega)
 have K6 := Aside0.mk (skp_trans HK.out (skp_of_below (S := fun _ => False) B6.out) (fun j e => e.elim))
 clear hb hL hg hB e6 hb6 hg6 PC
 simp only [Act.put, List.setIfInBounds_toArray, List.set_cons_zero, List.set_cons_succ]
 obtain ⟨F, hF⟩ : ∃ F, F = keepF kept s.pend j s.safe := ⟨_, rfl⟩
 rw [← hF] at HD
 have EF := Aside0.mk hF
 clear hF
 cases hkj : kept j with
 | false =>
  have EN := Aside0.mk (show F = keepF kept s.pend (j + 1) s.safe by unfold keepF; rw [hkj, if_neg (by decide), EF.out])
  have HKJ := Aside0.mk hkj
  clear hkj
  go_wp2_with (go_at_call 59; refine (HC.out j _ c1 K6.out).mono ?_; rintro e w7 ⟨e7, hd⟩; rw [HKJ.out] at e7; subst e7; have D7 := Aside0.mk (drawn_below hd); clear hd)
  go_roundw
  case rel => exact ⟨j + 1, by go_num, by omega, ⟨by rw [← EN.out]; exact dm_below (dm_below HD.out B6.out) D7.out⟩, ⟨skp_trans K6.out (skp_of_below (S := fun _ => False) D7.out) (fun j e => e.elim)⟩⟩
  case measure => simp [intOf]; omega
 | true => ?_
 obtain ⟨o1, o2, o3, o4, o5⟩ := XO.out
 obtain ⟨bN, hbN⟩ : ∃ bN : Nat, x.bl = (bN : Int) := ⟨x.bl.toNat, by omega⟩
 obtain ⟨aN, haN⟩ : ∃ aN : Nat, x.at_ = (aN : Int) := ⟨x.at_.toNat, by omega⟩
 rw [hbN] at o1 o2
 rw [haN] at o3 o4
 have EN := Aside0.mk (show sp8 F (bN * 256 + aN) x.b = keepF kept s.pend (j + 1) s.safe by unfold keepF; rw [hkj, if_pos rfl, ← EF.out, ← EX.out, hbN, haN]; simp)
 have HKJ := Aside0.mk hkj
 have HBN := Aside0.mk hbN
 have HAN := Aside0.mk haN
 have XB := Aside0.mk o5
 clear hkj hbN haN o5
 go_upto_region 4 with (go_at_call 59; refine (HC.out j _ c1 K6.out).mono ?_; rintro e w7 ⟨e7, hd⟩; rw [HKJ.out] at e7; subst e7; have D7 := Aside0.mk (drawn_below hd); clear hd)
 have DM7 := Aside0.mk (dm_below (dm_below HD.out B6.out) D7.out)
 have G7 := Aside0.mk (blk_below G6.out D7.out)
 have K7 := Aside0.mk (skp_trans K6.out (skp_of_below (S := fun _ => False) D7.out) (fun j e => e.elim))
 have y0 : w7.drew.cell? ⟨g5, 0, none⟩ = some (.int .i64 (bN : Int)) := by show w7.cell? _ = _; rw [blk_cell G7.out, ← HBN.out]; rfl
 have y0' : w7.cell? ⟨g5, 0, none⟩ = some (.int .i64 (bN : Int)) := y0
 have y1 : w7.drew.cell? ⟨g5, 1, none⟩ = some (.int .i64 (aN : Int)) := by show w7.cell? _ = _; rw [blk_cell G7.out, ← HAN.out]; rfl
 have y1' : w7.cell? ⟨g5, 1, none⟩ = some (.int .i64 (aN : Int)) := y1
 have z1 : w7.drew.cell? ⟨p, 1, none⟩ = some (.slice (some ⟨f, 0, none⟩) s.nb s.nb) := (blk_cell DM7.out.box 1).trans rfl
 have z1' : w7.cell? ⟨p, 1, none⟩ = some (.slice (some ⟨f, 0, none⟩) s.nb s.nb) := z1
 have q1 : bN < s.nb := by omega
 have q2 : aN ≤ 256 := by omega
 have q3 : ¬ 256 = aN := by omega
 go_still_tail 12, (by kernel_rfl)
 refine wps_value (v := .slice (some ⟨f, bN * 256 + aN, none⟩) (256 - aN) (256 - aN)) (by rfl) (exec_slice rfl (run_arr_slice _ 96 5 256 f (bN * 256) aN Try.underlying96 info5s (by omega))) ?_
 simp only [Act.put, List.setIfInBounds_toArray, List.set_cons_zero, List.set_cons_succ]
 repeat still_step
 try refine wpStill_nil ?_
 change wpList _ _ _ _ _ w7.drew
 refine wpl_copy_at rfl (.tmp 30) (.tmp 32) 27 27 rfl 5 Try.underlying27 info5s _ _ (256 - aN) (256 - aN) 64 64 rfl rfl f (bN * 256 + aN) (by8 F) 96 (show w7.drew.heap[f]? = _ from DM7.out.safe) (by8 x.b) ?hn ?hpos ?hfit (by8_one _) ?_
 case hn => rw [by8_len, XB.out]; exact (Nat.min_eq_left (by omega)).symm
 case hpos =>
  intro h0
  refine ⟨rfl, ⟨g5, 2, none⟩, rfl, fun t v hv => ?_⟩
  rw [ad_at]
  show w7.cell? _ = _
  rw [blk_cell G7.out]
  simp only [List.getElem?_toArray]
  rw [show 2 + t = t + 2 by omega]
  exact hv
 case hfit => rw [by8_len, by8_len, XB.out, DM7.out.ok.safe]; show _ ≤ s.nb * 256; omega
 intro w8 hb8 hg8
 have h8 := hb8.out
 rw [← by8_sp, EN.out] at h8
 have LF := DM7.out.ok.safe
 have D8 := Aside0.mk (dm_safe (w := w7.drew) (dm_below DM7.out (below_drew (Below.refl _ _))) h8 hg8.out (by rw [← EN.out, sp8_len]; rw [XB.out]; show _ ≤ F.length; rw [show F.length = s.nb * 256 from LF]; omega))
 have K8 := Aside0.mk (skp_trans K7.out (skp_trans (skp_drew (S := fun t => t = f) w7) (skp_grown (S := fun t => t = f) hg8.out (fun t e => by injection e)) (fun t e => .inl e)) (fun t e => .inl (.inr (.inr (.inl e)))))
 clear h8 hb8 hg8 y0 y0' y1 y1' z1 z1' LF
 rw [by8_len, XB.out, show goInt ((64 : Nat) : Int) = .int .i64 64 from rfl]
 simp only [Act.put, List.setIfInBounds_toArray, List.set_cons_zero, List.set_cons_succ]
 go_wp2
 go_roundw
 case rel => exact ⟨j + 1, by go_num, by omega, D8, K8⟩
 case measure => simp [intOf]; omega
theorem fl_clos (i : Int) (w : World) : Calls Try.prog 59 #[.int .i64 i] w fun e w' => e = .returned (.bool true) ∧ Drawn0 w w' := by
 go_enter Try.func59, Try.ntmps59
 go_wp2
 go_ret
 exact ⟨rfl, Drawn0.refl _⟩
def flx (s : Dk) : Dk × Int := if (pwx s).2 = true then (stl (fun _ => true) (pwx s).1, 0) else ((pwx s).1, 9)
theorem pwx_keeps (s : Dk) : (pwx s).1.pend = s.pend ∧ (pwx s).1.nb = s.nb ∧ (pwx s).1.now = s.now ∧ (pwx s).1.safe = s.safe := by
 unfold pwx
 split <;> exact ⟨rfl, rfl, rfl, rfl⟩
set_option maxRecDepth 8000 in
theorem dk_Flush {base p n f : Nat} {w : World} {vP : Value} {s : Dk} (h : dm base w p n f vP s) (hbase : base ≤ w.heap.size) (hl : s.pend.length ≤ 100000) (s' : Dk) (e' : Int) (hx : flx s = (s', e')) :
    Calls Try.prog 24 #[.pointer (some ⟨p, 0, none⟩)] w fun e w' => e = .returned (.int .i64 e') ∧ ∃ vP', dm base w' p n f vP' s' ∧ newer w vP vP' ∧ skp (dS p n f vP) w w' := by
 have H := Aside0.mk h
 have SB := Aside0.mk hbase
 obtain ⟨⟨s1, b⟩, hp⟩ : ∃ q, q = pwx s := ⟨_, rfl⟩
 have HP := Aside0.mk hp.symm
 have HL := Aside0.mk (show s1.pend.length ≤ 100000 by have := (pwx_keeps s).1; rw [← hp] at this; dsimp only at this; rw [this]; exact hl)
 unfold flx at hx
 rw [← hp] at hx
 clear h hbase hl hp
 cases b with
 | true =>
  rw [if_pos rfl] at hx
  injection hx with h1 h2
  subst h1 h2
  go_enter Try.func24, Try.ntmps24
  go_wp2_with (first | (go_at_call 58; refine (dk_power H.out HP.out).mono ?_; rintro e w2 ⟨rfl, hD, hk⟩; have D2 := Aside0.mk hD; have K2 := Aside0.mk (skp_mono (S' := dS p n f vP) hk (fun i e => .inl e)); clear hD hk) | (go_at_call 56; refine (dk_settle59 (fun _ => true) D2.out (Nat.le_trans SB.out K2.out.2.2.2.1) HL.out (fun j W _ _ => fl_clos _ W)).mono ?_; rintro e w3 ⟨rfl, hD, hk⟩; have D3 := Aside0.mk hD; have K3 := Aside0.mk (skp_trans K2.out hk (fun i e => .inl e)); clear hD hk))
  go_ret
  exact ⟨rfl, _, D3.out, .inl rfl, K3.out⟩
 | false => ?_
 rw [if_neg (by simp)] at hx
 injection hx with h1 h2
 subst h1 h2
 go_enter Try.func24, Try.ntmps24
 go_wp2_with (first | (go_at_call 58; refine (dk_power H.out HP.out).mono ?_; rintro e w2 ⟨rfl, hD, hk⟩; have D2 := Aside0.mk hD; have K2 := Aside0.mk (skp_mono (S' := dS p n f vP) hk (fun i e => .inl e)); clear hD hk))
 go_ret
 exact ⟨rfl, _, D2.out, .inr (.inl rfl), K2.out⟩
theorem C_blk {W : World} {g o m T : Nat} {L : List Int} (h : W.heap[g]? = some (.cells (by8 L).toArray T (0, 0))) (hf : o + m ≤ L.length) (hm : m ≤ 1000000000) : Kd.C (Kd.int .u8) W (some ⟨g, o, none⟩) m (cut8 L o m) := by
 refine ⟨cut8_len hf, by omega, fun h0 => ⟨⟨g, o, none⟩, rfl, fun j p hj => ⟨[.int .u8 p], rfl, rfl, fun i u hu => ?_⟩⟩⟩
 cases i with
 | zero =>
  have e : u = .int .u8 p := by simpa using hu.symm
  subst e
  rw [ad_at, blk_cell h]
  have := cut_by8 (L := L) (o := o) (n := m) j (.int .u8 p) (by simp only [by8, List.getElem?_map, hj]; rfl)
  rw [show (Kd.int .u8).sz = 1 from rfl, Nat.mul_one, Nat.add_zero]
  simpa using this
 | succ i => simp at hu
theorem info96b : (Try.prog.info? 96).map (fun i => (i.zero, i.size, i.bytes)) = some (some z96, 256, 256) := by kernel_rfl
theorem zB_is (n : Nat) : madeCells z96.cells (n * 256) = (by8 (List.replicate (n * 256) 0)).toArray := by
 have hz : ∀ k, z96.cells[k % z96.cells.size]! = (.int .u8 0 : Value) := by
   intro k
   have h : z96.cells = Array.replicate 256 (.int .u8 0) := rfl
   have hk : k % z96.cells.size < z96.cells.size := Nat.mod_lt _ (by rw [h]; simp)
   rw [getElem!_pos z96.cells _ hk]
   simp only [h, Array.getElem_replicate]
 unfold madeCells
 apply Array.toList_inj.1
 simp only [hz]
 simp [by8, List.map_const']
theorem run_mk {w : World} (n : Nat) (h : n ≤ 4096) : Sem.run Try.prog (Instr.makeSlice 91 (.int .i64 (n : Int)) (.int .i64 (n : Int))) w = .ok (.slice (some ⟨w.heap.size, 0, none⟩) n n) (w.alloc (.cells (by8 (List.replicate (n * 256) 0)).toArray 96 (0, 0))) := by
 obtain ⟨i, hi, hzz⟩ := Option.map_eq_some_iff.1 info96b
 simp only [Prod.mk.injEq] at hzz
 obtain ⟨hz, hs, hb⟩ := hzz
 have hr := run_make (P := Try.prog) w 91 96 i z96 Try.underlying91 hi hz .i64 .i64 n n (by omega) (Int.le_refl _) (by rw [hb]; omega) (by omega)
 simp only [Int.toNat_natCast] at hr
 rw [hr, hs, zB_is]
theorem al3 (w : World) (A B C : Obj) : (((w.alloc A).alloc B).alloc C).drew.heap[w.heap.size]? = some A ∧ (((w.alloc A).alloc B).alloc C).drew.heap[w.heap.size + 1]? = some B ∧ (((w.alloc A).alloc B).alloc C).drew.heap[w.heap.size + 1 + 1]? = some C := by
 show (((w.heap.push A).push B).push C)[w.heap.size]? = some A ∧ (((w.heap.push A).push B).push C)[w.heap.size + 1]? = some B ∧ (((w.heap.push A).push B).push C)[w.heap.size + 1 + 1]? = some C
 refine ⟨?_, ?_, ?_⟩
 · rw [Array.getElem?_push, if_neg (by simp; omega), Array.getElem?_push, if_neg (by simp), Array.getElem?_push, if_pos rfl]
 · rw [Array.getElem?_push, if_neg (by simp), Array.getElem?_push, if_pos (by simp)]
 rw [Array.getElem?_push, if_pos (by simp)]
theorem dm_new {w : World} {p a b n : Nat} {w' : World} (h0 : 1 ≤ n) (h1 : n ≤ 4096) (Z : Array Value) (hZ : Z = (by8 (List.replicate (n * 256) 0)).toArray)
    (hp : w'.heap[p]? = some (.cells #[.slice (some ⟨a, 0, none⟩) n n, .slice (some ⟨b, 0, none⟩) n n, .slice none 0 0, .bool false, .int .i64 0, .bool false] 94 (0, 0))) (ha : w'.heap[a]? = some (.cells Z 96 (0, 0))) (hb : w'.heap[b]? = some (.cells Z 96 (0, 0))) (ne : a ≠ b) (h2 : w.heap.size ≤ p) (h3 : w.heap.size ≤ a) (h4 : w.heap.size ≤ b) :
    dm w.heap.size w' p a b (.slice none 0 0) ⟨n, List.replicate (n * 256) 0, List.replicate (n * 256) 0, [], false, 0, false⟩ := by
  subst hZ
  exact ⟨hp, ha, hb, Kd.R_nil _ _ _ _ _, ne, h2, h3, h4, ⟨h0, h1, List.length_replicate .., List.length_replicate .., fun x hx => by cases hx⟩⟩
set_option maxRecDepth 8000 in
set_option maxHeartbeats 4000000 in
theorem dk_New (w : World) (n : Nat) (h0 : 1 ≤ n) (h1 : n ≤ 4096) :
    Calls Try.prog 14 #[.int .i64 (n : Int)] w fun e w' => ∃ p a b, e = .returned (.tuple #[.pointer (some ⟨p, 0, none⟩), .int .i64 0]) ∧ dm w.heap.size w' p a b (.slice none 0 0) ⟨n, List.replicate (n * 256) 0, List.replicate (n * 256) 0, [], false, 0, false⟩ ∧ Below w.heap.size w w' := by
 have c1 : decide ((n : Int) < 1) = false := decide_eq_false (by omega)
 have c2 : decide (4096 < (n : Int)) = false := decide_eq_false (by omega)
 have c3 : decide (4096 < n) = false := decide_eq_false (by omega)
 have c4 : decide (n < 1) = false := decide_eq_false (by omega)
 obtain ⟨Z, hZ⟩ : ∃ Z, Z = (by8 (List.replicate (n * 256) 0)).toArray := ⟨_, rfl⟩
 have mk : ∀ w' : World, Sem.run Try.prog (Instr.makeSlice 91 (.int .i64 (n : Int)) (.int .i64 (n : Int))) w' = .ok (.slice (some ⟨w'.heap.size, 0, none⟩) n n) (w'.alloc (.cells Z 96 (0, 0))) := by intro w'; rw [hZ]; exact run_mk n h1
 have HZ := Aside0.mk hZ
 clear hZ
 go_enter Try.func14, Try.ntmps14
 go_upto_region 3 with (fail)
 go_region
 all_goals
   go_wp2
   go_ret2
 · refine ⟨w.heap.size + 1 + 1, w.heap.size, w.heap.size + 1, rfl, dm_new h0 h1 Z HZ.out ?_ ?_ ?_ ?_ ?_ ?_ ?_, ?_⟩
   · exact (al3 _ _ _ _).2.2
   · exact (al3 _ _ _ _).1
   · exact (al3 _ _ _ _).2.1
   · omega
   · omega
   · omega
   · omega
   repeat (first | exact Below.refl _ _ | apply below_alloc | apply below_drew1)
 refine ⟨w.heap.size + 1 + 1, w.heap.size + 1, w.heap.size, rfl, dm_new h0 h1 Z HZ.out ?_ ?_ ?_ ?_ ?_ ?_ ?_, ?_⟩
 · exact (al3 _ _ _ _).2.2
 · exact (al3 _ _ _ _).2.1
 · exact (al3 _ _ _ _).1
 · omega
 · omega
 · omega
 · omega
 repeat (first | exact Below.refl _ _ | apply below_alloc | apply below_drew1)
def J (w0 w : World) (p : Nat) (s : Dk) : Prop := ∃ a b v, dm w0.heap.size w p a b v s ∧ Below w0.heap.size w0 w
def oth (w w' : World) : Prop := w.heap.size ≤ w'.heap.size ∧ ∀ (i : Nat) (cells : Array Value) (t : TypeId), w.heap[i]? = some (.cells cells t (0, 0)) → t ≠ 94 → t ≠ 96 → t ≠ 100 → w'.heap[i]? = some (.cells cells t (0, 0))
theorem oth_below {w w' : World} (b : Below w.heap.size w w') : oth w w' := ⟨b.size, fun i c t e _ _ _ => blk_below e b⟩
theorem dS_type {base p n f : Nat} {w : World} {vP : Value} {s : Dk} (h : dm base w p n f vP s) {i : Nat} {cells : Array Value} {t : TypeId} (e : w.heap[i]? = some (.cells cells t (0, 0))) (h1 : t ≠ 94) (h2 : t ≠ 96) (h3 : t ≠ 100) : ¬ dS p n f vP i := by
 rintro (e1 | e1 | e1 | e1)
 · exact blk_ne e h.box h1 e1
 · exact blk_ne e h.now h2 e1
 · exact blk_ne e h.safe h2 e1
 exact Kd.R_ne h.pend e (Ne.symm h3) e1
theorem oth_skp {base p n f : Nat} {w w' : World} {vP : Value} {s : Dk} {S : Nat → Prop} (h : dm base w p n f vP s) (hk : skp S w w') (hS : ∀ i, S i → dS p n f vP i) : oth w w' :=
  ⟨hk.2.2.2.1, fun i c t e h1 h2 h3 => skp_blk hk e (fun hs => dS_type h e h1 h2 h3 (hS i hs))⟩
theorem dS_base {base p n f : Nat} {w : World} {vP : Value} {s : Dk} (h : dm base w p n f vP s) (i : Nat) (e : dS p n f vP i) : base ≤ i := by
 rcases e with e | e | e | e
 · rw [e]; exact h.hp
 · rw [e]; exact h.hn
 · rw [e]; exact h.hf
 exact Kd.R_base h.pend i e.symm
theorem R_oth {w w' : World} {base base' : Nat} {ok : Nat → Prop} {v : Value} {xs : List Int} (h : Kd.R (Kd.int .u8) 5 w base ok v xs) (k : oth w w') (hb : base' ≤ base) : Kd.R (Kd.int .u8) 5 w' base' ok v xs := by
 refine Kd.R_lower (Kd.R_mono (Kd.R_move (Kd.R_bound (Kd.R_tight rfl h)) ?_) (fun i hi => ?_)) hb
 · rintro i ⟨e, _, hlt, q, hq, cells, hc⟩
   have hq' : q = 5 := by simpa [Kd.int, Kd.scalar] using hq
   subst hq'
   rw [hc]
   exact k.2 i cells 5 hc (by decide) (by decide) (by decide)
 exact h.1 i hi.1.symm
theorem J_below {w0 w : World} {p : Nat} {s : Dk} (h : J w0 w p s) : Below w0.heap.size w0 w := by obtain ⟨a, b, v, _, h⟩ := h; exact h
theorem J_ok {w0 w : World} {p : Nat} {s : Dk} (h : J w0 w p s) : s.Ok := by obtain ⟨a, b, v, h, _⟩ := h; exact h.ok
theorem J_deep {w0 w w' : World} {p : Nat} {s : Dk} (h : J w0 w p s) (b : Below w.heap.size w w') : J w0 w' p s := by
 obtain ⟨a, b', v, h1, h2⟩ := h
 exact ⟨a, b', v, dm_below h1 b, below_step h2 b⟩
theorem J_act {w0 w w' : World} {p a b a' b' : Nat} {v v' : Value} {s s' : Dk} {S : Nat → Prop} (h : dm w0.heap.size w p a b v s) (hB : Below w0.heap.size w0 w) (h' : dm w0.heap.size w' p a' b' v' s') (hk : skp S w w') (hS : ∀ i, S i → dS p a b v i) : J w0 w' p s' ∧ oth w w' :=
  ⟨⟨a', b', v', h', skp_below hB hk (fun i e => dS_base h i (hS i e))⟩, oth_skp h hk hS⟩
theorem J_New (w : World) (n : Nat) (h0 : 1 ≤ n) (h1 : n ≤ 4096) : Calls Try.prog 14 #[.int .i64 (n : Int)] w fun e w' => ∃ p, e = .returned (.tuple #[.pointer (some ⟨p, 0, none⟩), .int .i64 0]) ∧ J w w' p ⟨n, List.replicate (n * 256) 0, List.replicate (n * 256) 0, [], false, 0, false⟩ := by
 refine (dk_New w n h0 h1).mono ?_
 rintro e w' ⟨p, a, b, rfl, hd, hb⟩
 exact ⟨p, rfl, a, b, _, hd, hb⟩
theorem J_Blocks {w0 w : World} {p : Nat} {s : Dk} (h : J w0 w p s) : Calls Try.prog 17 #[.pointer (some ⟨p, 0, none⟩)] w fun e w' => e = .returned (.int .i64 (s.nb : Int)) ∧ J w0 w' p s ∧ Below w.heap.size w w' := by
 obtain ⟨a, b, v, h1, h2⟩ := id h
 refine (dk_Blocks h1).mono ?_
 rintro e w' ⟨rfl, hd⟩
 exact ⟨rfl, J_deep h (drawn_below hd), drawn_below hd⟩
def wrx (s : Dk) (i : Int) (b : List Int) : Dk × Int :=
  if hasB s i = true ∧ b.length = 256 then
    (if (pwx s).2 = true then ({(pwx s).1 with now := sp8 (pwx s).1.now (i.toNat * 256) b, pend := (pwx s).1.pend ++ pcs i b}, 0) else ((pwx s).1, 9))
  else (s, 1)
theorem hasB_nat {s : Dk} {i : Int} (h : hasB s i = true) : ∃ k : Nat, i = (k : Int) ∧ k < s.nb := by
 unfold hasB at h
 simp only [Bool.and_eq_true, decide_eq_true_eq] at h
 exact ⟨i.toNat, by omega, by omega⟩
theorem J_Write {w0 w : World} {p : Nat} {s : Dk} (h : J w0 w p s) (hl : s.pend.length ≤ 100000) (i : Int) (A : Option Addr) (m c base : Nat) (b : List Int) (hR : Kd.R (Kd.int .u8) 5 w base (fun _ => True) (.slice A m c) b) (s' : Dk) (e' : Int) (hx : wrx s i b = (s', e')) :
    Calls Try.prog 22 #[.pointer (some ⟨p, 0, none⟩), .int .i64 i, .slice A m c] w fun e w' => e = .returned (.int .i64 e') ∧ J w0 w' p s' ∧ oth w w' := by
 obtain ⟨a, b', v, h1, h2⟩ := id h
 obtain ⟨rfl, hmc, hC⟩ := Kd.R_reads' hR
 unfold wrx at hx
 by_cases c0 : hasB s i = true ∧ b.length = 256
 rotate_left
 · rw [if_neg c0] at hx
   injection hx with e1 e2
   subst e1 e2
   refine (dk_WriteArg h1 i A b.length c ?_).mono ?_
   · cases hh : hasB s i with
     | false => exact .inl rfl
     | true => exact .inr (fun e => c0 ⟨hh, e⟩)
   rintro e w' ⟨rfl, hd⟩
   exact ⟨rfl, J_deep h (drawn_below hd), oth_below (drawn_below hd)⟩
 rw [if_pos c0] at hx
 obtain ⟨k, rfl, hk⟩ := hasB_nat c0.1
 obtain ⟨⟨s1, d⟩, hp⟩ : ∃ q, q = pwx s := ⟨_, rfl⟩
 rw [← hp] at hx
 have c2 := c0.2
 cases d with
 | true =>
  rw [if_pos rfl] at hx
  injection hx with e1 e2
  subst e1 e2
  rw [c2] at hR hC hmc ⊢
  refine (dk_Write h1 h2.size k hk A c b c2 hp.symm hl hmc (fun W hW => ?_)).mono ?_
  · have ho := oth_skp h1 hW (fun i e => e)
    have := Kd.R_reads' (R_oth hR ho (Nat.le_refl _))
    rw [c2] at this
    exact this.2.2
  rintro e w' ⟨rfl, v', hd, hn, hk2⟩
  rw [Int.toNat_natCast]
  exact ⟨rfl, J_act h1 h2 hd hk2 (fun i e => e)⟩
 | false => ?_
 rw [if_neg (by simp)] at hx
 injection hx with e1 e2
 subst e1 e2
 rw [c2]
 refine (dk_WriteDown h1 (k : Int) A c c0.1 hp.symm).mono ?_
 rintro e w' ⟨rfl, hd, hk2⟩
 exact ⟨rfl, J_act h1 h2 hd hk2 (fun i e => .inl e)⟩
def rdx (s : Dk) (i : Int) : List Int × Int := if hasB s i = true then (if s.of = true then ([], 9) else (cut8 s.now (i.toNat * 256) 256, 0)) else ([], 1)
def frs (w w' : World) (v : Value) (l : List Int) : Prop := (v = .slice none 0 0 ∧ l = []) ∨ ∃ g, v = .slice (some ⟨g, 0, none⟩) l.length l.length ∧ w.heap.size ≤ g ∧ l.length ≤ 1000000 ∧ w'.heap[g]? = some (.cells (by8 l).toArray 96 (0, 0))
theorem J_Read {w0 w : World} {p : Nat} {s : Dk} (h : J w0 w p s) (i : Int) (l : List Int) (e' : Int) (hx : rdx s i = (l, e')) :
    Calls Try.prog 16 #[.pointer (some ⟨p, 0, none⟩), .int .i64 i] w fun e w' => ∃ v, e = .returned (.tuple #[v, .int .i64 e']) ∧ frs w w' v l ∧ J w0 w' p s ∧ Below w.heap.size w w' := by
 obtain ⟨a, b, v, h1, h2⟩ := id h
 unfold rdx at hx
 by_cases c1 : hasB s i = true
 rotate_left
 · rw [if_neg c1] at hx
   injection hx with e1 e2
   subst e1 e2
   refine (dk_ReadArg h1 i (by simpa using c1)).mono ?_
   rintro e w' ⟨rfl, hd⟩
   exact ⟨_, rfl, .inl ⟨rfl, rfl⟩, J_deep h (drawn_below hd), drawn_below hd⟩
 rw [if_pos c1] at hx
 by_cases c2 : s.of = true
 · rw [if_pos c2] at hx
   injection hx with e1 e2
   subst e1 e2
   refine (dk_ReadDown h1 i c1 c2).mono ?_
   rintro e w' ⟨rfl, hd⟩
   exact ⟨_, rfl, .inl ⟨rfl, rfl⟩, J_deep h (drawn_below hd), drawn_below hd⟩
 rw [if_neg c2] at hx
 injection hx with e1 e2
 subst e1 e2
 obtain ⟨k, rfl, hk⟩ := hasB_nat c1
 rw [Int.toNat_natCast]
 have hl : (cut8 s.now (k * 256) 256).length = 256 := cut8_len (by rw [h1.ok.now]; omega)
 refine (dk_Read h1 k hk (by simpa using c2)).mono ?_
 rintro e w' ⟨g, rfl, hg, hb, hB⟩
 exact ⟨_, rfl, .inr ⟨g, by rw [hl], hg, by rw [hl]; decide, hb⟩, J_deep h hB, hB⟩
theorem w64' {n : Int} (h0 : -9223372036854775808 ≤ n) (h1 : n < 9223372036854775808) : wrap64 n = n := by unfold wrap64; omega
end Go.Proofs.Ytepipgneefcoiaa.D
