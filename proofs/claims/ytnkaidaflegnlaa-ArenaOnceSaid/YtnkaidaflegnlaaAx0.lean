/- The functions of the program that these laws reach, each as a plain Lean function, and the proof that the machine's call comes to it; no condition beyond those that each theorem names. Made by wip/xprint.py. -/
import Derived.Test.YtnkaidaflegnlaaProg
import Derived.Below
import Derived.Deep.Draws
import Derived.Deep.AppendLies
import Derived.Maps.AppendAt
import Derived.OwnWalk
import Derived.Laws.BytesArg
import Derived.Laws.MakeOwn
import Derived.Laws.OwnMore
import Derived.Deep.OwnRows
import Derived.Tactics
import Derived.Lib.ConvBytes
import Derived.Laws.Slices
import Derived.WalkKit
import Derived.KernelRfl
import Derived.RowKit3
import Derived.Deep.LoopGhost
import Derived.Deep.QuietTactic
import Derived.BigQuiet
import Derived.WideLaws
import Derived.Deep.DeepCutAuto
import Derived.Deep.CutBlock
import Derived.Deep.RegionHeld3
import Derived.Laws.Rows
import Derived.Lib.AppendStr
import Derived.ArgAppend
import Derived.Laws.IdiomCopy
import Derived.OrdersHeld
import Derived.Laws.BitsLemmas
import Derived.RowKit
import Derived.Lib.SlBytesConst
import Derived.WalkSpells
import Derived.StillTailTactics
import Derived.Deep.RegionWith
import Derived.Laws.CopyOwn
import Derived.Great.BuildSlice
import Derived.Shelf.Spec.SlicesInsert
import Derived.Shelf.Spec.SlicesInsertGrow
import Derived.Shelf.Slices.Delete
import Derived.Lib.RowBridge
import Derived.Test.YtnkaidaflegnlaaWords
namespace Go.Proofs.Ytnkaidaflegnlaa.A
open Go.RowKit Go.Proofs.YtnkaidaflegnlaaW.PrintWords Go.Proofs.YtnkaidaflegnlaaW.PrintLast Go.Proofs.YtnkaidaflegnlaaW.PrintMore
attribute [local go_sem] max2_int min2_int max_two min_two max_three min_three max_four min_four   -- for this text's walks alone
set_option linter.unusedVariables false
set_option linter.unusedSimpArgs false



def errW : Option Int → Value
  | none => .nilIface
  | some c => .iface 0 (.int .i64 c)
theorem errW_none : errW none = .nilIface := rfl
theorem errW_some (c : Int) : errW (some c) = .iface 0 (.int .i64 c) := rfl

theorem info3 : (Try.prog.info? 3).map (fun i => (i.zero, i.size, i.bytes)) = some (some (.int .i64 0), 1, 8) := by kernel_rfl
theorem info96 : (Try.prog.info? 96).map (fun i => (i.zero, i.size, i.bytes)) = some (some (.agg #[(.int .i64 0), (.int .i64 0), (.string ⟨#[]⟩), (.slice none 0 0), (.string ⟨#[]⟩), (.int .i64 0), (.slice none 0 0)]), 7, 104) := by kernel_rfl
theorem info103 : (Try.prog.info? 103).map (fun i => (i.zero, i.size, i.bytes)) = some (some (.agg #[(.string ⟨#[]⟩), (.string ⟨#[]⟩)]), 2, 32) := by kernel_rfl
theorem info116 : (Try.prog.info? 116).map (fun i => (i.zero, i.size, i.bytes)) = some (some (.agg #[(.int .i64 0), (.int .i64 0), (.string ⟨#[]⟩), (.slice none 0 0), (.string ⟨#[]⟩), (.slice none 0 0), (.slice none 0 0)]), 7, 120) := by kernel_rfl
-- the values' own types
/-! #### struct type 103 -/
structure S103 where
  f0 : ByteArray
  f1 : ByteArray
def z103 : S103 := ⟨(⟨#[]⟩ : ByteArray), (⟨#[]⟩ : ByteArray)⟩
def k103 : Kd S103 := Kd.iso (Kd.pair Kd.string Kd.string) (fun x : S103 => (x.f0, x.f1))
theorem k103_heap : Kd.Heap k103 := Kd.heap_iso _ (Kd.heap_pair Kd.heap_string Kd.heap_string)
theorem k103_open {w : World} {x : S103} {cs : List Value} (h : k103.K w x cs) : cs = [.string x.f0, .string x.f1] := by
  obtain ⟨_, _, rfl, rfl, rfl⟩ := h
  exact rfl
theorem k103_openM {w : World} {base : Nat} {ok : Nat → Prop} {x : S103} {cs : List Value} (h : k103.M w base ok x cs) : cs = [.string x.f0, .string x.f1] := by
  obtain ⟨_, _, rfl, rfl, rfl⟩ := h
  exact rfl
theorem k103_mk (w : World) (x : S103)  : k103.K w x [.string x.f0, .string x.f1] := ⟨[.string x.f0], [.string x.f1], rfl, rfl, rfl⟩
theorem k103_mkM (w : World) (base : Nat) (ok : Nat → Prop) (x : S103)  : k103.M w base ok x [.string x.f0, .string x.f1] := ⟨[.string x.f0], [.string x.f1], rfl, rfl, rfl⟩
theorem k103_mkF (W : World) (ok : Nat → Prop) (x : S103) : Kd.FK k103 W ok x [.string x.f0, .string x.f1] := fun W2 _ => k103_mk W2 x
def rd_T103 (xs : List S103) (i : Int) : S103 := xs.getD i.toNat z103
theorem at_T103 {w : World} {A : Option Addr} {n : Nat} {xs : List S103} (h : Kd.C k103 w A n xs) (i : Int) (h0 : 0 ≤ i) (h1 : i < n) : ∃ ad , A = some ad ∧ w.cell? (ad.add (i.toNat * 2)) = some (.string (rd_T103 xs i).f0) ∧ w.cell? ⟨(ad.add (i.toNat * 2)).block, (ad.add (i.toNat * 2)).off + 1, none⟩ = some (.string (rd_T103 xs i).f1) := by
  obtain ⟨ad, c, e, _, hK, hc0⟩ := Kd.C_get h z103 i h0 h1
  have hc : ∀ j u, c[j]? = some u → w.cell? (ad.add (i.toNat * 2 + j)) = some u := hc0
  obtain rfl := k103_open hK
  exact ⟨ad, e, hc 0 _ rfl, by rw [← add_field _ _ 1 (by omega)]; exact hc 1 _ rfl⟩

def rd_L3 (xs : List (List S103)) (i : Int) : (List S103) := xs.getD i.toNat ([] : List S103)
theorem at_L3 {w : World} {A : Option Addr} {n : Nat} {xs : List (List S103)} (h : Kd.C (Kd.slice 103 k103) w A n xs) (i : Int) (h0 : 0 ≤ i) (h1 : i < n) : ∃ ad A0 c0, A = some ad ∧ w.cell? (ad.add i.toNat) = some (.slice A0 (rd_L3 xs i).length c0) ∧ (rd_L3 xs i).length ≤ c0 ∧ k103.C w A0 (rd_L3 xs i).length (rd_L3 xs i) := by
  obtain ⟨ad, c, e, _, hK, hc0⟩ := Kd.C_get h ([] : List S103) i h0 h1
  have hc : ∀ j u, c[j]? = some u → w.cell? (ad.add (i.toNat * 1 + j)) = some u := hc0
  obtain ⟨A0, c0, rfl, l0, g0⟩ := hK
  exact ⟨ad, A0, c0, e, by have hq := hc 0 _ rfl; rwa [Nat.mul_one, Nat.add_zero] at hq, l0, g0⟩

/-! #### struct type 94 -/
structure S94 where
  f0 : Int
  f1 : Int
  f2 : ByteArray
  f3 : (List S103)
  f4 : ByteArray
def z94 : S94 := ⟨(0 : Int), (0 : Int), (⟨#[]⟩ : ByteArray), ([] : List S103), (⟨#[]⟩ : ByteArray)⟩
def k94 : Kd S94 := Kd.iso (Kd.pair (Kd.int .i64) (Kd.pair (Kd.int .i64) (Kd.pair Kd.string (Kd.pair (Kd.slice 103 k103) Kd.string)))) (fun x : S94 => (x.f0, x.f1, x.f2, x.f3, x.f4))
theorem k94_heap : Kd.Heap k94 := Kd.heap_iso _ (Kd.heap_pair (Kd.heap_int .i64) (Kd.heap_pair (Kd.heap_int .i64) (Kd.heap_pair Kd.heap_string (Kd.heap_pair (Kd.heap_slice 103 k103_heap) Kd.heap_string))))
theorem k94_open {w : World} {x : S94} {cs : List Value} (h : k94.K w x cs) : ∃ A3 c3, cs = [.int .i64 x.f0, .int .i64 x.f1, .string x.f2, .slice A3 x.f3.length c3, .string x.f4] ∧ x.f3.length ≤ c3 ∧ k103.C w A3 x.f3.length x.f3 := by
  obtain ⟨_, _, rfl, rfl, ⟨_, _, rfl, rfl, ⟨_, _, rfl, rfl, ⟨_, _, rfl, ⟨A3, c3, rfl, l3, g3⟩, rfl⟩⟩⟩⟩ := h
  exact ⟨A3, c3, rfl, l3, g3⟩
theorem k94_openM {w : World} {base : Nat} {ok : Nat → Prop} {x : S94} {cs : List Value} (h : k94.M w base ok x cs) : ∃ v3, cs = [.int .i64 x.f0, .int .i64 x.f1, .string x.f2, v3, .string x.f4] ∧ k103.R 103 w base ok v3 x.f3 := by
  obtain ⟨_, _, rfl, rfl, ⟨_, _, rfl, rfl, ⟨_, _, rfl, rfl, ⟨_, _, rfl, ⟨v3, rfl, g3⟩, rfl⟩⟩⟩⟩ := h
  exact ⟨v3, rfl, g3⟩
theorem k94_mk (w : World) (x : S94) {A3 : Option Addr} {c3 : Nat} (l3 : x.f3.length ≤ c3) (g3 : k103.C w A3 x.f3.length x.f3) : k94.K w x [.int .i64 x.f0, .int .i64 x.f1, .string x.f2, .slice A3 x.f3.length c3, .string x.f4] := ⟨[.int .i64 x.f0], [.int .i64 x.f1, .string x.f2, .slice A3 x.f3.length c3, .string x.f4], rfl, rfl, ⟨[.int .i64 x.f1], [.string x.f2, .slice A3 x.f3.length c3, .string x.f4], rfl, rfl, ⟨[.string x.f2], [.slice A3 x.f3.length c3, .string x.f4], rfl, rfl, ⟨[.slice A3 x.f3.length c3], [.string x.f4], rfl, ⟨A3, c3, rfl, l3, g3⟩, rfl⟩⟩⟩⟩
theorem k94_mkM (w : World) (base : Nat) (ok : Nat → Prop) (x : S94) {v3 : Value} (g3 : k103.R 103 w base ok v3 x.f3) : k94.M w base ok x [.int .i64 x.f0, .int .i64 x.f1, .string x.f2, v3, .string x.f4] := ⟨[.int .i64 x.f0], [.int .i64 x.f1, .string x.f2, v3, .string x.f4], rfl, rfl, ⟨[.int .i64 x.f1], [.string x.f2, v3, .string x.f4], rfl, rfl, ⟨[.string x.f2], [v3, .string x.f4], rfl, rfl, ⟨[v3], [.string x.f4], rfl, ⟨v3, rfl, g3⟩, rfl⟩⟩⟩⟩
theorem k94_openF {W : World} {ok : Nat → Prop} {x : S94} {cs : List Value} (h : Kd.FK k94 W ok x cs) : ∃ A3 c3, cs = [.int .i64 x.f0, .int .i64 x.f1, .string x.f2, .slice A3 x.f3.length c3, .string x.f4] ∧ x.f3.length ≤ c3 ∧ Kd.F k103 W ok A3 x.f3.length x.f3 := by
  obtain ⟨A3, c3, rfl, l3, _⟩ := k94_open (Kd.FK_now h)
  exact ⟨A3, c3, rfl, l3, (fun W' hW => by obtain ⟨A3_, c3_, he, l3_, g3_⟩ := k94_open (h W' hW); injection (Option.some.inj (show some (Value.slice A3 x.f3.length c3) = some (Value.slice A3_ x.f3.length c3_) from congrArg (fun l => l[3]?) he)) with ha_ _ _; rw [ha_]; exact g3_)⟩
theorem k94_mkF (W : World) (ok : Nat → Prop) (x : S94) {A3 : Option Addr} {c3 : Nat} (l3 : x.f3.length ≤ c3) (g3 : Kd.F k103 W ok A3 x.f3.length x.f3) : Kd.FK k94 W ok x [.int .i64 x.f0, .int .i64 x.f1, .string x.f2, .slice A3 x.f3.length c3, .string x.f4] := fun W2 hW => k94_mk W2 x l3 (g3 W2 hW)
def rd_T94 (xs : List S94) (i : Int) : S94 := xs.getD i.toNat z94
theorem at_T94 {w : World} {A : Option Addr} {n : Nat} {xs : List S94} (h : Kd.C k94 w A n xs) (i : Int) (h0 : 0 ≤ i) (h1 : i < n) : ∃ ad A3 c3, A = some ad ∧ w.cell? (ad.add (i.toNat * 5)) = some (.int .i64 (rd_T94 xs i).f0) ∧ w.cell? ⟨(ad.add (i.toNat * 5)).block, (ad.add (i.toNat * 5)).off + 1, none⟩ = some (.int .i64 (rd_T94 xs i).f1) ∧ w.cell? ⟨(ad.add (i.toNat * 5)).block, (ad.add (i.toNat * 5)).off + 2, none⟩ = some (.string (rd_T94 xs i).f2) ∧ w.cell? ⟨(ad.add (i.toNat * 5)).block, (ad.add (i.toNat * 5)).off + 3, none⟩ = some (.slice A3 (rd_T94 xs i).f3.length c3) ∧ w.cell? ⟨(ad.add (i.toNat * 5)).block, (ad.add (i.toNat * 5)).off + 4, none⟩ = some (.string (rd_T94 xs i).f4) ∧ (rd_T94 xs i).f3.length ≤ c3 ∧ k103.C w A3 (rd_T94 xs i).f3.length (rd_T94 xs i).f3 := by
  obtain ⟨ad, c, e, _, hK, hc0⟩ := Kd.C_get h z94 i h0 h1
  have hc : ∀ j u, c[j]? = some u → w.cell? (ad.add (i.toNat * 5 + j)) = some u := hc0
  obtain ⟨A3, c3, rfl, l3, g3⟩ := k94_open hK
  exact ⟨ad, A3, c3, e, hc 0 _ rfl, by rw [← add_field _ _ 1 (by omega)]; exact hc 1 _ rfl, by rw [← add_field _ _ 2 (by omega)]; exact hc 2 _ rfl, by rw [← add_field _ _ 3 (by omega)]; exact hc 3 _ rfl, by rw [← add_field _ _ 4 (by omega)]; exact hc 4 _ rfl, l3, g3⟩

def rd_L5 (xs : List (List Int)) (i : Int) : (List Int) := xs.getD i.toNat ([] : List Int)
theorem at_L5 {w : World} {A : Option Addr} {n : Nat} {xs : List (List Int)} (h : Kd.C (Kd.slice 3 (Kd.int .i64)) w A n xs) (i : Int) (h0 : 0 ≤ i) (h1 : i < n) : ∃ ad A0 c0, A = some ad ∧ w.cell? (ad.add i.toNat) = some (.slice A0 (rd_L5 xs i).length c0) ∧ (rd_L5 xs i).length ≤ c0 ∧ (Kd.int .i64).C w A0 (rd_L5 xs i).length (rd_L5 xs i) := by
  obtain ⟨ad, c, e, _, hK, hc0⟩ := Kd.C_get h ([] : List Int) i h0 h1
  have hc : ∀ j u, c[j]? = some u → w.cell? (ad.add (i.toNat * 1 + j)) = some u := hc0
  obtain ⟨A0, c0, rfl, l0, g0⟩ := hK
  exact ⟨ad, A0, c0, e, by have hq := hc 0 _ rfl; rwa [Nat.mul_one, Nat.add_zero] at hq, l0, g0⟩

/-! #### struct type 96 -/
structure S96 where
  f0 : S94
  f1 : Int
  f2 : (List Int)
def z96 : S96 := ⟨z94, (0 : Int), ([] : List Int)⟩
def k96 : Kd S96 := Kd.iso (Kd.pair k94 (Kd.pair (Kd.int .i64) (Kd.slice 3 (Kd.int .i64)))) (fun x : S96 => (x.f0, x.f1, x.f2))
theorem k96_heap : Kd.Heap k96 := Kd.heap_iso _ (Kd.heap_pair k94_heap (Kd.heap_pair (Kd.heap_int .i64) (Kd.heap_slice 3 (Kd.heap_int .i64))))
theorem k96_open {w : World} {x : S96} {cs : List Value} (h : k96.K w x cs) : ∃ A3 c3 A6 c6, cs = [.int .i64 x.f0.f0, .int .i64 x.f0.f1, .string x.f0.f2, .slice A3 x.f0.f3.length c3, .string x.f0.f4, .int .i64 x.f1, .slice A6 x.f2.length c6] ∧ x.f0.f3.length ≤ c3 ∧ k103.C w A3 x.f0.f3.length x.f0.f3 ∧ x.f2.length ≤ c6 ∧ (Kd.int .i64).C w A6 x.f2.length x.f2 := by
  obtain ⟨_, _, rfl, s0, ⟨_, _, rfl, rfl, ⟨A6, c6, rfl, l6, g6⟩⟩⟩ := h
  obtain ⟨A3, c3, rfl, l3, g3⟩ := k94_open s0
  exact ⟨A3, c3, A6, c6, rfl, l3, g3, l6, g6⟩
theorem k96_openM {w : World} {base : Nat} {ok : Nat → Prop} {x : S96} {cs : List Value} (h : k96.M w base ok x cs) : ∃ v3 v6, cs = [.int .i64 x.f0.f0, .int .i64 x.f0.f1, .string x.f0.f2, v3, .string x.f0.f4, .int .i64 x.f1, v6] ∧ k103.R 103 w base ok v3 x.f0.f3 ∧ (Kd.int .i64).R 3 w base ok v6 x.f2 := by
  obtain ⟨_, _, rfl, s0, ⟨_, _, rfl, rfl, ⟨v6, rfl, g6⟩⟩⟩ := h
  obtain ⟨v3, rfl, g3⟩ := k94_openM s0
  exact ⟨v3, v6, rfl, g3, g6⟩
theorem k96_mk (w : World) (x : S96) {A3 : Option Addr} {c3 : Nat} (l3 : x.f0.f3.length ≤ c3) (g3 : k103.C w A3 x.f0.f3.length x.f0.f3) {A6 : Option Addr} {c6 : Nat} (l6 : x.f2.length ≤ c6) (g6 : (Kd.int .i64).C w A6 x.f2.length x.f2) : k96.K w x [.int .i64 x.f0.f0, .int .i64 x.f0.f1, .string x.f0.f2, .slice A3 x.f0.f3.length c3, .string x.f0.f4, .int .i64 x.f1, .slice A6 x.f2.length c6] := ⟨[.int .i64 x.f0.f0, .int .i64 x.f0.f1, .string x.f0.f2, .slice A3 x.f0.f3.length c3, .string x.f0.f4], [.int .i64 x.f1, .slice A6 x.f2.length c6], rfl, (k94_mk w x.f0 l3 g3), ⟨[.int .i64 x.f1], [.slice A6 x.f2.length c6], rfl, rfl, ⟨A6, c6, rfl, l6, g6⟩⟩⟩
theorem k96_mkM (w : World) (base : Nat) (ok : Nat → Prop) (x : S96) {v3 : Value} (g3 : k103.R 103 w base ok v3 x.f0.f3) {v6 : Value} (g6 : (Kd.int .i64).R 3 w base ok v6 x.f2) : k96.M w base ok x [.int .i64 x.f0.f0, .int .i64 x.f0.f1, .string x.f0.f2, v3, .string x.f0.f4, .int .i64 x.f1, v6] := ⟨[.int .i64 x.f0.f0, .int .i64 x.f0.f1, .string x.f0.f2, v3, .string x.f0.f4], [.int .i64 x.f1, v6], rfl, (k94_mkM w base ok x.f0 g3), ⟨[.int .i64 x.f1], [v6], rfl, rfl, ⟨v6, rfl, g6⟩⟩⟩
theorem k96_openF {W : World} {ok : Nat → Prop} {x : S96} {cs : List Value} (h : Kd.FK k96 W ok x cs) : ∃ A3 c3 A6 c6, cs = [.int .i64 x.f0.f0, .int .i64 x.f0.f1, .string x.f0.f2, .slice A3 x.f0.f3.length c3, .string x.f0.f4, .int .i64 x.f1, .slice A6 x.f2.length c6] ∧ x.f0.f3.length ≤ c3 ∧ Kd.F k103 W ok A3 x.f0.f3.length x.f0.f3 ∧ x.f2.length ≤ c6 ∧ Kd.F (Kd.int .i64) W ok A6 x.f2.length x.f2 := by
  obtain ⟨A3, c3, A6, c6, rfl, l3, _, l6, _⟩ := k96_open (Kd.FK_now h)
  exact ⟨A3, c3, A6, c6, rfl, l3, (fun W' hW => by obtain ⟨A3_, c3_, A6_, c6_, he, l3_, g3_, l6_, g6_⟩ := k96_open (h W' hW); injection (Option.some.inj (show some (Value.slice A3 x.f0.f3.length c3) = some (Value.slice A3_ x.f0.f3.length c3_) from congrArg (fun l => l[3]?) he)) with ha_ _ _; rw [ha_]; exact g3_), l6, (fun W' hW => by obtain ⟨A3_, c3_, A6_, c6_, he, l3_, g3_, l6_, g6_⟩ := k96_open (h W' hW); injection (Option.some.inj (show some (Value.slice A6 x.f2.length c6) = some (Value.slice A6_ x.f2.length c6_) from congrArg (fun l => l[6]?) he)) with ha_ _ _; rw [ha_]; exact g6_)⟩
theorem k96_mkF (W : World) (ok : Nat → Prop) (x : S96) {A3 : Option Addr} {c3 : Nat} (l3 : x.f0.f3.length ≤ c3) (g3 : Kd.F k103 W ok A3 x.f0.f3.length x.f0.f3) {A6 : Option Addr} {c6 : Nat} (l6 : x.f2.length ≤ c6) (g6 : Kd.F (Kd.int .i64) W ok A6 x.f2.length x.f2) : Kd.FK k96 W ok x [.int .i64 x.f0.f0, .int .i64 x.f0.f1, .string x.f0.f2, .slice A3 x.f0.f3.length c3, .string x.f0.f4, .int .i64 x.f1, .slice A6 x.f2.length c6] := fun W2 hW => k96_mk W2 x l3 (g3 W2 hW) l6 (g6 W2 hW)
def rd_T96 (xs : List S96) (i : Int) : S96 := xs.getD i.toNat z96
theorem at_T96 {w : World} {A : Option Addr} {n : Nat} {xs : List S96} (h : Kd.C k96 w A n xs) (i : Int) (h0 : 0 ≤ i) (h1 : i < n) : ∃ ad A3 c3 A6 c6, A = some ad ∧ w.cell? (ad.add (i.toNat * 7)) = some (.int .i64 (rd_T96 xs i).f0.f0) ∧ w.cell? ⟨(ad.add (i.toNat * 7)).block, (ad.add (i.toNat * 7)).off + 1, none⟩ = some (.int .i64 (rd_T96 xs i).f0.f1) ∧ w.cell? ⟨(ad.add (i.toNat * 7)).block, (ad.add (i.toNat * 7)).off + 2, none⟩ = some (.string (rd_T96 xs i).f0.f2) ∧ w.cell? ⟨(ad.add (i.toNat * 7)).block, (ad.add (i.toNat * 7)).off + 3, none⟩ = some (.slice A3 (rd_T96 xs i).f0.f3.length c3) ∧ w.cell? ⟨(ad.add (i.toNat * 7)).block, (ad.add (i.toNat * 7)).off + 4, none⟩ = some (.string (rd_T96 xs i).f0.f4) ∧ w.cell? ⟨(ad.add (i.toNat * 7)).block, (ad.add (i.toNat * 7)).off + 5, none⟩ = some (.int .i64 (rd_T96 xs i).f1) ∧ w.cell? ⟨(ad.add (i.toNat * 7)).block, (ad.add (i.toNat * 7)).off + 6, none⟩ = some (.slice A6 (rd_T96 xs i).f2.length c6) ∧ (rd_T96 xs i).f0.f3.length ≤ c3 ∧ k103.C w A3 (rd_T96 xs i).f0.f3.length (rd_T96 xs i).f0.f3 ∧ (rd_T96 xs i).f2.length ≤ c6 ∧ (Kd.int .i64).C w A6 (rd_T96 xs i).f2.length (rd_T96 xs i).f2 := by
  obtain ⟨ad, c, e, _, hK, hc0⟩ := Kd.C_get h z96 i h0 h1
  have hc : ∀ j u, c[j]? = some u → w.cell? (ad.add (i.toNat * 7 + j)) = some u := hc0
  obtain ⟨A3, c3, A6, c6, rfl, l3, g3, l6, g6⟩ := k96_open hK
  exact ⟨ad, A3, c3, A6, c6, e, hc 0 _ rfl, by rw [← add_field _ _ 1 (by omega)]; exact hc 1 _ rfl, by rw [← add_field _ _ 2 (by omega)]; exact hc 2 _ rfl, by rw [← add_field _ _ 3 (by omega)]; exact hc 3 _ rfl, by rw [← add_field _ _ 4 (by omega)]; exact hc 4 _ rfl, by rw [← add_field _ _ 5 (by omega)]; exact hc 5 _ rfl, by rw [← add_field _ _ 6 (by omega)]; exact hc 6 _ rfl, l3, g3, l6, g6⟩

/-! #### struct type 67, nested in itself -/
structure S67 where
  f0 : Int
  f1 : Int
  f2 : ByteArray
  f3 : (List S103)
  f4 : ByteArray
  f5 : (List S67)
def z67 : S67 := ⟨(0 : Int), (0 : Int), (⟨#[]⟩ : ByteArray), ([] : List S103), (⟨#[]⟩ : ByteArray), ([] : List S67)⟩
def F67 (d : Kd S67) : Kd S67 := Kd.iso (Kd.pair (Kd.int .i64) (Kd.pair (Kd.int .i64) (Kd.pair Kd.string (Kd.pair (Kd.slice 103 k103) (Kd.pair Kd.string (Kd.slice 67 d)))))) (fun x : S67 => (x.f0, x.f1, x.f2, x.f3, x.f4, x.f5))
theorem mono67 : Kd.Mono F67 := Kd.mono_iso _ (Kd.mono_pair (Kd.mono_const _) (Kd.mono_pair (Kd.mono_const _) (Kd.mono_pair (Kd.mono_const _) (Kd.mono_pair (Kd.mono_const _) (Kd.mono_pair (Kd.mono_const _) (Kd.mono_slice 67 Kd.mono_id))))))
theorem sub67 : Kd.Sub F67 [67, 103] := Kd.sub_iso _ (Kd.sub_pair (Kd.sub_const _ (by decide)) (Kd.sub_pair (Kd.sub_const _ (by decide)) (Kd.sub_pair (Kd.sub_const _ (by decide)) (Kd.sub_pair (Kd.sub_const _ (by decide)) (Kd.sub_pair (Kd.sub_const _ (by decide)) (Kd.sub_slice 67 (by decide) Kd.sub_id))))))
theorem sz67 : ∀ n, (Kd.upto F67 6 [67, 103] n).sz = 6 := Kd.upto_sz (fun _ => rfl)
def k67 : Kd S67 := Kd.fix F67 6 [67, 103] sz67 (Kd.upto_E sub67)
theorem k67_heap : Kd.Heap k67 := Kd.heap_fix (fun _ h_ => Kd.heap_iso _ (Kd.heap_pair (Kd.heap_int .i64) (Kd.heap_pair (Kd.heap_int .i64) (Kd.heap_pair Kd.heap_string (Kd.heap_pair (Kd.heap_slice 103 k103_heap) (Kd.heap_pair Kd.heap_string (Kd.heap_slice 67 h_)))))))
theorem k67_open {w : World} {x : S67} {cs : List Value} (h : k67.K w x cs) : ∃ A3 c3 A5 c5, cs = [.int .i64 x.f0, .int .i64 x.f1, .string x.f2, .slice A3 x.f3.length c3, .string x.f4, .slice A5 x.f5.length c5] ∧ x.f3.length ≤ c3 ∧ k103.C w A3 x.f3.length x.f3 ∧ x.f5.length ≤ c5 ∧ k67.C w A5 x.f5.length x.f5 := by
  obtain ⟨n, h⟩ := h
  cases n with
  | zero => exact h.elim
  | succ n =>
    obtain ⟨_, _, rfl, rfl, ⟨_, _, rfl, rfl, ⟨_, _, rfl, rfl, ⟨_, _, rfl, ⟨A3, c3, rfl, l3, g3⟩, ⟨_, _, rfl, rfl, ⟨A5, c5, rfl, l5, g5⟩⟩⟩⟩⟩⟩ := h
    exact ⟨A3, c3, A5, c5, rfl, l3, g3, l5, Kd.fix_C g5⟩
theorem k67_openM {w : World} {base : Nat} {ok : Nat → Prop} {x : S67} {cs : List Value} (h : k67.M w base ok x cs) : ∃ v3 v5, cs = [.int .i64 x.f0, .int .i64 x.f1, .string x.f2, v3, .string x.f4, v5] ∧ k103.R 103 w base ok v3 x.f3 ∧ k67.R 67 w base ok v5 x.f5 := by
  obtain ⟨n, h⟩ := h
  cases n with
  | zero => exact h.elim
  | succ n =>
    obtain ⟨_, _, rfl, rfl, ⟨_, _, rfl, rfl, ⟨_, _, rfl, rfl, ⟨_, _, rfl, ⟨v3, rfl, g3⟩, ⟨_, _, rfl, rfl, ⟨v5, rfl, g5⟩⟩⟩⟩⟩⟩ := h
    exact ⟨v3, v5, rfl, g3, Kd.fix_R g5⟩
theorem k67_mk (w : World) (x : S67) {A3 : Option Addr} {c3 : Nat} (l3 : x.f3.length ≤ c3) (g3 : k103.C w A3 x.f3.length x.f3) {A5 : Option Addr} {c5 : Nat} (l5 : x.f5.length ≤ c5) (g5 : k67.C w A5 x.f5.length x.f5) : k67.K w x [.int .i64 x.f0, .int .i64 x.f1, .string x.f2, .slice A3 x.f3.length c3, .string x.f4, .slice A5 x.f5.length c5] := by
  obtain ⟨n5, q5⟩ := Kd.fix_C_back mono67 g5
  have r5 := Kd.upto_C_le mono67 sz67 (show n5 ≤ n5 by omega) q5
  exact ⟨n5 + 1, ⟨[.int .i64 x.f0], [.int .i64 x.f1, .string x.f2, .slice A3 x.f3.length c3, .string x.f4, .slice A5 x.f5.length c5], rfl, rfl, ⟨[.int .i64 x.f1], [.string x.f2, .slice A3 x.f3.length c3, .string x.f4, .slice A5 x.f5.length c5], rfl, rfl, ⟨[.string x.f2], [.slice A3 x.f3.length c3, .string x.f4, .slice A5 x.f5.length c5], rfl, rfl, ⟨[.slice A3 x.f3.length c3], [.string x.f4, .slice A5 x.f5.length c5], rfl, ⟨A3, c3, rfl, l3, g3⟩, ⟨[.string x.f4], [.slice A5 x.f5.length c5], rfl, rfl, ⟨A5, c5, rfl, l5, r5⟩⟩⟩⟩⟩⟩⟩
theorem k67_mkM (w : World) (base : Nat) (ok : Nat → Prop) (x : S67) {v3 : Value} (g3 : k103.R 103 w base ok v3 x.f3) {v5 : Value} (g5 : k67.R 67 w base ok v5 x.f5) : k67.M w base ok x [.int .i64 x.f0, .int .i64 x.f1, .string x.f2, v3, .string x.f4, v5] := by
  obtain ⟨n5, q5⟩ := Kd.fix_R_back mono67 g5
  have r5 := Kd.upto_R_le mono67 sz67 (show n5 ≤ n5 by omega) q5
  exact ⟨n5 + 1, ⟨[.int .i64 x.f0], [.int .i64 x.f1, .string x.f2, v3, .string x.f4, v5], rfl, rfl, ⟨[.int .i64 x.f1], [.string x.f2, v3, .string x.f4, v5], rfl, rfl, ⟨[.string x.f2], [v3, .string x.f4, v5], rfl, rfl, ⟨[v3], [.string x.f4, v5], rfl, ⟨v3, rfl, g3⟩, ⟨[.string x.f4], [v5], rfl, rfl, ⟨v5, rfl, r5⟩⟩⟩⟩⟩⟩⟩
theorem k67_openF {W : World} {ok : Nat → Prop} {x : S67} {cs : List Value} (h : Kd.FK k67 W ok x cs) : ∃ A3 c3 A5 c5, cs = [.int .i64 x.f0, .int .i64 x.f1, .string x.f2, .slice A3 x.f3.length c3, .string x.f4, .slice A5 x.f5.length c5] ∧ x.f3.length ≤ c3 ∧ Kd.F k103 W ok A3 x.f3.length x.f3 ∧ x.f5.length ≤ c5 ∧ Kd.F k67 W ok A5 x.f5.length x.f5 := by
  obtain ⟨A3, c3, A5, c5, rfl, l3, _, l5, _⟩ := k67_open (Kd.FK_now h)
  exact ⟨A3, c3, A5, c5, rfl, l3, (fun W' hW => by obtain ⟨A3_, c3_, A5_, c5_, he, l3_, g3_, l5_, g5_⟩ := k67_open (h W' hW); injection (Option.some.inj (show some (Value.slice A3 x.f3.length c3) = some (Value.slice A3_ x.f3.length c3_) from congrArg (fun l => l[3]?) he)) with ha_ _ _; rw [ha_]; exact g3_), l5, (fun W' hW => by obtain ⟨A3_, c3_, A5_, c5_, he, l3_, g3_, l5_, g5_⟩ := k67_open (h W' hW); injection (Option.some.inj (show some (Value.slice A5 x.f5.length c5) = some (Value.slice A5_ x.f5.length c5_) from congrArg (fun l => l[5]?) he)) with ha_ _ _; rw [ha_]; exact g5_)⟩
theorem k67_mkF (W : World) (ok : Nat → Prop) (x : S67) {A3 : Option Addr} {c3 : Nat} (l3 : x.f3.length ≤ c3) (g3 : Kd.F k103 W ok A3 x.f3.length x.f3) {A5 : Option Addr} {c5 : Nat} (l5 : x.f5.length ≤ c5) (g5 : Kd.F k67 W ok A5 x.f5.length x.f5) : Kd.FK k67 W ok x [.int .i64 x.f0, .int .i64 x.f1, .string x.f2, .slice A3 x.f3.length c3, .string x.f4, .slice A5 x.f5.length c5] := fun W2 hW => k67_mk W2 x l3 (g3 W2 hW) l5 (g5 W2 hW)
def rd_T67 (xs : List S67) (i : Int) : S67 := xs.getD i.toNat z67
theorem at_T67 {w : World} {A : Option Addr} {n : Nat} {xs : List S67} (h : Kd.C k67 w A n xs) (i : Int) (h0 : 0 ≤ i) (h1 : i < n) : ∃ ad A3 c3 A5 c5, A = some ad ∧ w.cell? (ad.add (i.toNat * 6)) = some (.int .i64 (rd_T67 xs i).f0) ∧ w.cell? ⟨(ad.add (i.toNat * 6)).block, (ad.add (i.toNat * 6)).off + 1, none⟩ = some (.int .i64 (rd_T67 xs i).f1) ∧ w.cell? ⟨(ad.add (i.toNat * 6)).block, (ad.add (i.toNat * 6)).off + 2, none⟩ = some (.string (rd_T67 xs i).f2) ∧ w.cell? ⟨(ad.add (i.toNat * 6)).block, (ad.add (i.toNat * 6)).off + 3, none⟩ = some (.slice A3 (rd_T67 xs i).f3.length c3) ∧ w.cell? ⟨(ad.add (i.toNat * 6)).block, (ad.add (i.toNat * 6)).off + 4, none⟩ = some (.string (rd_T67 xs i).f4) ∧ w.cell? ⟨(ad.add (i.toNat * 6)).block, (ad.add (i.toNat * 6)).off + 5, none⟩ = some (.slice A5 (rd_T67 xs i).f5.length c5) ∧ (rd_T67 xs i).f3.length ≤ c3 ∧ k103.C w A3 (rd_T67 xs i).f3.length (rd_T67 xs i).f3 ∧ (rd_T67 xs i).f5.length ≤ c5 ∧ k67.C w A5 (rd_T67 xs i).f5.length (rd_T67 xs i).f5 := by
  obtain ⟨ad, c, e, _, hK, hc0⟩ := Kd.C_get h z67 i h0 h1
  have hc : ∀ j u, c[j]? = some u → w.cell? (ad.add (i.toNat * 6 + j)) = some u := hc0
  obtain ⟨A3, c3, A5, c5, rfl, l3, g3, l5, g5⟩ := k67_open hK
  exact ⟨ad, A3, c3, A5, c5, e, hc 0 _ rfl, by rw [← add_field _ _ 1 (by omega)]; exact hc 1 _ rfl, by rw [← add_field _ _ 2 (by omega)]; exact hc 2 _ rfl, by rw [← add_field _ _ 3 (by omega)]; exact hc 3 _ rfl, by rw [← add_field _ _ 4 (by omega)]; exact hc 4 _ rfl, by rw [← add_field _ _ 5 (by omega)]; exact hc 5 _ rfl, l3, g3, l5, g5⟩

/-! #### struct type 116 -/
structure S116 where
  f0 : S67
  f1 : (List Int)
def z116 : S116 := ⟨z67, ([] : List Int)⟩
def nilK : Kd (List S67) where
  sz := 1
  E := []
  K := fun _ x cs => x = [] ∧ cs = [.slice none 0 0]
  M := fun _ _ _ x cs => x = [] ∧ cs = [.slice none 0 0]
  K_len := fun h => by rw [h.2]; rfl
  K_one := fun h u hu => by
    rw [h.2] at hu
    rw [List.mem_singleton.1 hu]; rfl
  K_below := fun _ h => h
  K_of_M := fun h => h
  M_mono := fun _ h => h
  M_bound := fun h => h
  M_move := fun _ h => h
  M_lower := fun _ h => h
theorem nilK_heap : Kd.Heap nilK := ⟨fun _ h => h⟩
def k67n : Kd S67 := Kd.iso (Kd.pair (Kd.int .i64) (Kd.pair (Kd.int .i64) (Kd.pair Kd.string (Kd.pair (Kd.slice 103 k103) (Kd.pair Kd.string nilK))))) (fun x : S67 => (x.f0, x.f1, x.f2, x.f3, x.f4, x.f5))
def k116 : Kd S116 := Kd.iso (Kd.pair k67n (Kd.slice 3 (Kd.int .i64))) (fun x : S116 => (x.f0, x.f1))
theorem k116_heap : Kd.Heap k116 := Kd.heap_iso _ (Kd.heap_pair (Kd.heap_iso _ (Kd.heap_pair (Kd.heap_int .i64) (Kd.heap_pair (Kd.heap_int .i64) (Kd.heap_pair Kd.heap_string (Kd.heap_pair (Kd.heap_slice 103 k103_heap) (Kd.heap_pair Kd.heap_string nilK_heap)))))) (Kd.heap_slice 3 (Kd.heap_int .i64)))
theorem k116_openN {w : World} {x : S116} {cs : List Value} (h : k116.K w x cs) : ∃ A3 c3 A6 c6, cs = [.int .i64 x.f0.f0, .int .i64 x.f0.f1, .string x.f0.f2, .slice A3 x.f0.f3.length c3, .string x.f0.f4, .slice none 0 0, .slice A6 x.f1.length c6] ∧ x.f0.f5 = [] ∧ x.f0.f3.length ≤ c3 ∧ k103.C w A3 x.f0.f3.length x.f0.f3 ∧ x.f1.length ≤ c6 ∧ (Kd.int .i64).C w A6 x.f1.length x.f1 := by
  obtain ⟨_, _, rfl, s0, ⟨A6, c6, rfl, l6, g6⟩⟩ := h
  obtain ⟨_, _, rfl, rfl, ⟨_, _, rfl, rfl, ⟨_, _, rfl, rfl, ⟨_, _, rfl, ⟨A3, c3, rfl, l3, g3⟩, ⟨_, _, rfl, rfl, ⟨z5, rfl⟩⟩⟩⟩⟩⟩ := s0
  exact ⟨A3, c3, A6, c6, rfl, z5, l3, g3, l6, g6⟩
theorem k116_open {w : World} {x : S116} {cs : List Value} (h : k116.K w x cs) : ∃ A3 c3 A5 c5 A6 c6, cs = [.int .i64 x.f0.f0, .int .i64 x.f0.f1, .string x.f0.f2, .slice A3 x.f0.f3.length c3, .string x.f0.f4, .slice A5 x.f0.f5.length c5, .slice A6 x.f1.length c6] ∧ x.f0.f3.length ≤ c3 ∧ k103.C w A3 x.f0.f3.length x.f0.f3 ∧ x.f0.f5.length ≤ c5 ∧ k67.C w A5 x.f0.f5.length x.f0.f5 ∧ x.f1.length ≤ c6 ∧ (Kd.int .i64).C w A6 x.f1.length x.f1 := by
  obtain ⟨A3, c3, A6, c6, e, z5, l3, g3, l6, g6⟩ := k116_openN h
  exact ⟨A3, c3, none, 0, A6, c6, by rw [z5]; exact e, l3, g3, by rw [z5]; exact Nat.le_refl _, by rw [z5]; exact Kd.C_nil _ _, l6, g6⟩
theorem k116_openM {w : World} {base : Nat} {ok : Nat → Prop} {x : S116} {cs : List Value} (h : k116.M w base ok x cs) : ∃ v3 v5 v6, cs = [.int .i64 x.f0.f0, .int .i64 x.f0.f1, .string x.f0.f2, v3, .string x.f0.f4, v5, v6] ∧ k103.R 103 w base ok v3 x.f0.f3 ∧ k67.R 67 w base ok v5 x.f0.f5 ∧ (Kd.int .i64).R 3 w base ok v6 x.f1 := by
  obtain ⟨_, _, rfl, s0, ⟨v6, rfl, g6⟩⟩ := h
  obtain ⟨_, _, rfl, rfl, ⟨_, _, rfl, rfl, ⟨_, _, rfl, rfl, ⟨_, _, rfl, ⟨v3, rfl, g3⟩, ⟨_, _, rfl, rfl, ⟨z5, rfl⟩⟩⟩⟩⟩⟩ := s0
  refine ⟨v3, .slice none 0 0, v6, rfl, g3, ?_, g6⟩
  have z5 : x.f0.f5 = [] := z5
  rw [z5]; exact Kd.R_nil _ _ _ _ _
theorem k116_nil5 {W : World} {ok : Nat → Prop} {x : S116} {a b c d : Value} {A3 A5 A6 : Option Addr} {n3 n5 n6 c3 c5 c6 : Nat} (h : Kd.FK k116 W ok x [a, b, c, .slice A3 n3 c3, d, .slice A5 n5 c5, .slice A6 n6 c6]) : A5 = none ∧ c5 = 0 ∧ x.f0.f5 = [] := by
  obtain ⟨_, _, _, _, e, z5, _⟩ := k116_openN (Kd.FK_now h)
  have e5 := Option.some.inj (show some (Value.slice A5 n5 c5) = some (Value.slice none 0 0) from congrArg (fun l => l[5]?) e)
  injection e5 with e6 _ e7
  exact ⟨e6, e7, z5⟩
theorem k116_mk (w : World) (x : S116) {A3 : Option Addr} {c3 : Nat} (l3 : x.f0.f3.length ≤ c3) (g3 : k103.C w A3 x.f0.f3.length x.f0.f3) {A5 : Option Addr} {c5 : Nat} (hz : A5 = none ∧ c5 = 0 ∧ x.f0.f5 = []) {A6 : Option Addr} {c6 : Nat} (l6 : x.f1.length ≤ c6) (g6 : (Kd.int .i64).C w A6 x.f1.length x.f1) : k116.K w x [.int .i64 x.f0.f0, .int .i64 x.f0.f1, .string x.f0.f2, .slice A3 x.f0.f3.length c3, .string x.f0.f4, .slice A5 x.f0.f5.length c5, .slice A6 x.f1.length c6] := by
  obtain ⟨rfl, rfl, z5⟩ := hz
  refine ⟨[.int .i64 x.f0.f0, .int .i64 x.f0.f1, .string x.f0.f2, .slice A3 x.f0.f3.length c3, .string x.f0.f4, .slice none x.f0.f5.length 0], [.slice A6 x.f1.length c6], rfl, ?_, ⟨A6, c6, rfl, l6, g6⟩⟩
  exact ⟨[.int .i64 x.f0.f0], [.int .i64 x.f0.f1, .string x.f0.f2, .slice A3 x.f0.f3.length c3, .string x.f0.f4, .slice none x.f0.f5.length 0], rfl, rfl, ⟨[.int .i64 x.f0.f1], [.string x.f0.f2, .slice A3 x.f0.f3.length c3, .string x.f0.f4, .slice none x.f0.f5.length 0], rfl, rfl, ⟨[.string x.f0.f2], [.slice A3 x.f0.f3.length c3, .string x.f0.f4, .slice none x.f0.f5.length 0], rfl, rfl, ⟨[.slice A3 x.f0.f3.length c3], [.string x.f0.f4, .slice none x.f0.f5.length 0], rfl, ⟨A3, c3, rfl, l3, g3⟩, ⟨[.string x.f0.f4], [.slice none x.f0.f5.length 0], rfl, rfl, ⟨z5, by rw [z5]; rfl⟩⟩⟩⟩⟩⟩
theorem k116_mkM (w : World) (base : Nat) (ok : Nat → Prop) (x : S116) {v3 : Value} (g3 : k103.R 103 w base ok v3 x.f0.f3) {v5 : Value} (g5 : k67.R 67 w base ok v5 x.f0.f5) {v6 : Value} (g6 : (Kd.int .i64).R 3 w base ok v6 x.f1) (hz : v5 = .slice none 0 0 ∧ x.f0.f5 = [] := by exact ⟨rfl, rfl⟩) : k116.M w base ok x [.int .i64 x.f0.f0, .int .i64 x.f0.f1, .string x.f0.f2, v3, .string x.f0.f4, v5, v6] := by
  obtain ⟨rfl, z5⟩ := hz
  refine ⟨[.int .i64 x.f0.f0, .int .i64 x.f0.f1, .string x.f0.f2, v3, .string x.f0.f4, .slice none 0 0], [v6], rfl, ?_, ⟨v6, rfl, g6⟩⟩
  exact ⟨[.int .i64 x.f0.f0], [.int .i64 x.f0.f1, .string x.f0.f2, v3, .string x.f0.f4, .slice none 0 0], rfl, rfl, ⟨[.int .i64 x.f0.f1], [.string x.f0.f2, v3, .string x.f0.f4, .slice none 0 0], rfl, rfl, ⟨[.string x.f0.f2], [v3, .string x.f0.f4, .slice none 0 0], rfl, rfl, ⟨[v3], [.string x.f0.f4, .slice none 0 0], rfl, ⟨v3, rfl, g3⟩, ⟨[.string x.f0.f4], [.slice none 0 0], rfl, rfl, ⟨z5, rfl⟩⟩⟩⟩⟩⟩
theorem k116_openF {W : World} {ok : Nat → Prop} {x : S116} {cs : List Value} (h : Kd.FK k116 W ok x cs) : ∃ A3 c3 A5 c5 A6 c6, cs = [.int .i64 x.f0.f0, .int .i64 x.f0.f1, .string x.f0.f2, .slice A3 x.f0.f3.length c3, .string x.f0.f4, .slice A5 x.f0.f5.length c5, .slice A6 x.f1.length c6] ∧ x.f0.f3.length ≤ c3 ∧ Kd.F k103 W ok A3 x.f0.f3.length x.f0.f3 ∧ x.f0.f5.length ≤ c5 ∧ Kd.F k67 W ok A5 x.f0.f5.length x.f0.f5 ∧ x.f1.length ≤ c6 ∧ Kd.F (Kd.int .i64) W ok A6 x.f1.length x.f1 := by
  obtain ⟨A3, c3, A5, c5, A6, c6, rfl, l3, _, l5, _, l6, _⟩ := k116_open (Kd.FK_now h)
  exact ⟨A3, c3, A5, c5, A6, c6, rfl, l3, (fun W' hW => by obtain ⟨A3_, c3_, A5_, c5_, A6_, c6_, he, l3_, g3_, l5_, g5_, l6_, g6_⟩ := k116_open (h W' hW); injection (Option.some.inj (show some (Value.slice A3 x.f0.f3.length c3) = some (Value.slice A3_ x.f0.f3.length c3_) from congrArg (fun l => l[3]?) he)) with ha_ _ _; rw [ha_]; exact g3_), l5, (fun W' hW => by obtain ⟨A3_, c3_, A5_, c5_, A6_, c6_, he, l3_, g3_, l5_, g5_, l6_, g6_⟩ := k116_open (h W' hW); injection (Option.some.inj (show some (Value.slice A5 x.f0.f5.length c5) = some (Value.slice A5_ x.f0.f5.length c5_) from congrArg (fun l => l[5]?) he)) with ha_ _ _; rw [ha_]; exact g5_), l6, (fun W' hW => by obtain ⟨A3_, c3_, A5_, c5_, A6_, c6_, he, l3_, g3_, l5_, g5_, l6_, g6_⟩ := k116_open (h W' hW); injection (Option.some.inj (show some (Value.slice A6 x.f1.length c6) = some (Value.slice A6_ x.f1.length c6_) from congrArg (fun l => l[6]?) he)) with ha_ _ _; rw [ha_]; exact g6_)⟩
theorem k116_mkF (W : World) (ok : Nat → Prop) (x : S116) {A3 : Option Addr} {c3 : Nat} (l3 : x.f0.f3.length ≤ c3) (g3 : Kd.F k103 W ok A3 x.f0.f3.length x.f0.f3) {A5 : Option Addr} {c5 : Nat} (l5 : x.f0.f5.length ≤ c5) (g5 : Kd.F k67 W ok A5 x.f0.f5.length x.f0.f5) {A6 : Option Addr} {c6 : Nat} (l6 : x.f1.length ≤ c6) (g6 : Kd.F (Kd.int .i64) W ok A6 x.f1.length x.f1) (hz : A5 = none ∧ c5 = 0 ∧ x.f0.f5 = [] := by dsimp only; first | exact ⟨rfl, rfl, rfl⟩ | exact k116_nil5 (by assumption)) : Kd.FK k116 W ok x [.int .i64 x.f0.f0, .int .i64 x.f0.f1, .string x.f0.f2, .slice A3 x.f0.f3.length c3, .string x.f0.f4, .slice A5 x.f0.f5.length c5, .slice A6 x.f1.length c6] := fun W2 hW => k116_mk W2 x l3 (g3 W2 hW) hz l6 (g6 W2 hW)
def rd_T116 (xs : List S116) (i : Int) : S116 := xs.getD i.toNat z116
theorem at_T116 {w : World} {A : Option Addr} {n : Nat} {xs : List S116} (h : Kd.C k116 w A n xs) (i : Int) (h0 : 0 ≤ i) (h1 : i < n) : ∃ ad A3 c3 A5 c5 A6 c6, A = some ad ∧ w.cell? (ad.add (i.toNat * 7)) = some (.int .i64 (rd_T116 xs i).f0.f0) ∧ w.cell? ⟨(ad.add (i.toNat * 7)).block, (ad.add (i.toNat * 7)).off + 1, none⟩ = some (.int .i64 (rd_T116 xs i).f0.f1) ∧ w.cell? ⟨(ad.add (i.toNat * 7)).block, (ad.add (i.toNat * 7)).off + 2, none⟩ = some (.string (rd_T116 xs i).f0.f2) ∧ w.cell? ⟨(ad.add (i.toNat * 7)).block, (ad.add (i.toNat * 7)).off + 3, none⟩ = some (.slice A3 (rd_T116 xs i).f0.f3.length c3) ∧ w.cell? ⟨(ad.add (i.toNat * 7)).block, (ad.add (i.toNat * 7)).off + 4, none⟩ = some (.string (rd_T116 xs i).f0.f4) ∧ w.cell? ⟨(ad.add (i.toNat * 7)).block, (ad.add (i.toNat * 7)).off + 5, none⟩ = some (.slice A5 (rd_T116 xs i).f0.f5.length c5) ∧ w.cell? ⟨(ad.add (i.toNat * 7)).block, (ad.add (i.toNat * 7)).off + 6, none⟩ = some (.slice A6 (rd_T116 xs i).f1.length c6) ∧ (rd_T116 xs i).f0.f3.length ≤ c3 ∧ k103.C w A3 (rd_T116 xs i).f0.f3.length (rd_T116 xs i).f0.f3 ∧ (rd_T116 xs i).f0.f5.length ≤ c5 ∧ k67.C w A5 (rd_T116 xs i).f0.f5.length (rd_T116 xs i).f0.f5 ∧ (rd_T116 xs i).f1.length ≤ c6 ∧ (Kd.int .i64).C w A6 (rd_T116 xs i).f1.length (rd_T116 xs i).f1 := by
  obtain ⟨ad, c, e, _, hK, hc0⟩ := Kd.C_get h z116 i h0 h1
  have hc : ∀ j u, c[j]? = some u → w.cell? (ad.add (i.toNat * 7 + j)) = some u := hc0
  obtain ⟨A3, c3, A5, c5, A6, c6, rfl, l3, g3, l5, g5, l6, g6⟩ := k116_open hK
  exact ⟨ad, A3, c3, A5, c5, A6, c6, e, hc 0 _ rfl, by rw [← add_field _ _ 1 (by omega)]; exact hc 1 _ rfl, by rw [← add_field _ _ 2 (by omega)]; exact hc 2 _ rfl, by rw [← add_field _ _ 3 (by omega)]; exact hc 3 _ rfl, by rw [← add_field _ _ 4 (by omega)]; exact hc 4 _ rfl, by rw [← add_field _ _ 5 (by omega)]; exact hc 5 _ rfl, by rw [← add_field _ _ 6 (by omega)]; exact hc 6 _ rfl, l3, g3, l5, g5, l6, g6⟩

/-! #### struct type 54 -/
structure S54 where
  f0 : Int
  f1 : Int
  f2 : Int
  f3 : Int
  f4 : ByteArray
  f5 : (List S103)
def z54 : S54 := ⟨(0 : Int), (0 : Int), (0 : Int), (0 : Int), (⟨#[]⟩ : ByteArray), ([] : List S103)⟩
def k54 : Kd S54 := Kd.iso (Kd.pair (Kd.int .i64) (Kd.pair (Kd.int .i64) (Kd.pair (Kd.int .i64) (Kd.pair (Kd.int .i64) (Kd.pair Kd.string (Kd.slice 103 k103)))))) (fun x : S54 => (x.f0, x.f1, x.f2, x.f3, x.f4, x.f5))
theorem k54_heap : Kd.Heap k54 := Kd.heap_iso _ (Kd.heap_pair (Kd.heap_int .i64) (Kd.heap_pair (Kd.heap_int .i64) (Kd.heap_pair (Kd.heap_int .i64) (Kd.heap_pair (Kd.heap_int .i64) (Kd.heap_pair Kd.heap_string (Kd.heap_slice 103 k103_heap))))))
theorem k54_open {w : World} {x : S54} {cs : List Value} (h : k54.K w x cs) : ∃ A5 c5, cs = [.int .i64 x.f0, .int .i64 x.f1, .int .i64 x.f2, .int .i64 x.f3, .string x.f4, .slice A5 x.f5.length c5] ∧ x.f5.length ≤ c5 ∧ k103.C w A5 x.f5.length x.f5 := by
  obtain ⟨_, _, rfl, rfl, ⟨_, _, rfl, rfl, ⟨_, _, rfl, rfl, ⟨_, _, rfl, rfl, ⟨_, _, rfl, rfl, ⟨A5, c5, rfl, l5, g5⟩⟩⟩⟩⟩⟩ := h
  exact ⟨A5, c5, rfl, l5, g5⟩
theorem k54_openM {w : World} {base : Nat} {ok : Nat → Prop} {x : S54} {cs : List Value} (h : k54.M w base ok x cs) : ∃ v5, cs = [.int .i64 x.f0, .int .i64 x.f1, .int .i64 x.f2, .int .i64 x.f3, .string x.f4, v5] ∧ k103.R 103 w base ok v5 x.f5 := by
  obtain ⟨_, _, rfl, rfl, ⟨_, _, rfl, rfl, ⟨_, _, rfl, rfl, ⟨_, _, rfl, rfl, ⟨_, _, rfl, rfl, ⟨v5, rfl, g5⟩⟩⟩⟩⟩⟩ := h
  exact ⟨v5, rfl, g5⟩
theorem k54_mk (w : World) (x : S54) {A5 : Option Addr} {c5 : Nat} (l5 : x.f5.length ≤ c5) (g5 : k103.C w A5 x.f5.length x.f5) : k54.K w x [.int .i64 x.f0, .int .i64 x.f1, .int .i64 x.f2, .int .i64 x.f3, .string x.f4, .slice A5 x.f5.length c5] := ⟨[.int .i64 x.f0], [.int .i64 x.f1, .int .i64 x.f2, .int .i64 x.f3, .string x.f4, .slice A5 x.f5.length c5], rfl, rfl, ⟨[.int .i64 x.f1], [.int .i64 x.f2, .int .i64 x.f3, .string x.f4, .slice A5 x.f5.length c5], rfl, rfl, ⟨[.int .i64 x.f2], [.int .i64 x.f3, .string x.f4, .slice A5 x.f5.length c5], rfl, rfl, ⟨[.int .i64 x.f3], [.string x.f4, .slice A5 x.f5.length c5], rfl, rfl, ⟨[.string x.f4], [.slice A5 x.f5.length c5], rfl, rfl, ⟨A5, c5, rfl, l5, g5⟩⟩⟩⟩⟩⟩
theorem k54_mkM (w : World) (base : Nat) (ok : Nat → Prop) (x : S54) {v5 : Value} (g5 : k103.R 103 w base ok v5 x.f5) : k54.M w base ok x [.int .i64 x.f0, .int .i64 x.f1, .int .i64 x.f2, .int .i64 x.f3, .string x.f4, v5] := ⟨[.int .i64 x.f0], [.int .i64 x.f1, .int .i64 x.f2, .int .i64 x.f3, .string x.f4, v5], rfl, rfl, ⟨[.int .i64 x.f1], [.int .i64 x.f2, .int .i64 x.f3, .string x.f4, v5], rfl, rfl, ⟨[.int .i64 x.f2], [.int .i64 x.f3, .string x.f4, v5], rfl, rfl, ⟨[.int .i64 x.f3], [.string x.f4, v5], rfl, rfl, ⟨[.string x.f4], [v5], rfl, rfl, ⟨v5, rfl, g5⟩⟩⟩⟩⟩⟩
theorem k54_openF {W : World} {ok : Nat → Prop} {x : S54} {cs : List Value} (h : Kd.FK k54 W ok x cs) : ∃ A5 c5, cs = [.int .i64 x.f0, .int .i64 x.f1, .int .i64 x.f2, .int .i64 x.f3, .string x.f4, .slice A5 x.f5.length c5] ∧ x.f5.length ≤ c5 ∧ Kd.F k103 W ok A5 x.f5.length x.f5 := by
  obtain ⟨A5, c5, rfl, l5, _⟩ := k54_open (Kd.FK_now h)
  exact ⟨A5, c5, rfl, l5, (fun W' hW => by obtain ⟨A5_, c5_, he, l5_, g5_⟩ := k54_open (h W' hW); injection (Option.some.inj (show some (Value.slice A5 x.f5.length c5) = some (Value.slice A5_ x.f5.length c5_) from congrArg (fun l => l[5]?) he)) with ha_ _ _; rw [ha_]; exact g5_)⟩
theorem k54_mkF (W : World) (ok : Nat → Prop) (x : S54) {A5 : Option Addr} {c5 : Nat} (l5 : x.f5.length ≤ c5) (g5 : Kd.F k103 W ok A5 x.f5.length x.f5) : Kd.FK k54 W ok x [.int .i64 x.f0, .int .i64 x.f1, .int .i64 x.f2, .int .i64 x.f3, .string x.f4, .slice A5 x.f5.length c5] := fun W2 hW => k54_mk W2 x l5 (g5 W2 hW)
def rd_T54 (xs : List S54) (i : Int) : S54 := xs.getD i.toNat z54
theorem at_T54 {w : World} {A : Option Addr} {n : Nat} {xs : List S54} (h : Kd.C k54 w A n xs) (i : Int) (h0 : 0 ≤ i) (h1 : i < n) : ∃ ad A5 c5, A = some ad ∧ w.cell? (ad.add (i.toNat * 6)) = some (.int .i64 (rd_T54 xs i).f0) ∧ w.cell? ⟨(ad.add (i.toNat * 6)).block, (ad.add (i.toNat * 6)).off + 1, none⟩ = some (.int .i64 (rd_T54 xs i).f1) ∧ w.cell? ⟨(ad.add (i.toNat * 6)).block, (ad.add (i.toNat * 6)).off + 2, none⟩ = some (.int .i64 (rd_T54 xs i).f2) ∧ w.cell? ⟨(ad.add (i.toNat * 6)).block, (ad.add (i.toNat * 6)).off + 3, none⟩ = some (.int .i64 (rd_T54 xs i).f3) ∧ w.cell? ⟨(ad.add (i.toNat * 6)).block, (ad.add (i.toNat * 6)).off + 4, none⟩ = some (.string (rd_T54 xs i).f4) ∧ w.cell? ⟨(ad.add (i.toNat * 6)).block, (ad.add (i.toNat * 6)).off + 5, none⟩ = some (.slice A5 (rd_T54 xs i).f5.length c5) ∧ (rd_T54 xs i).f5.length ≤ c5 ∧ k103.C w A5 (rd_T54 xs i).f5.length (rd_T54 xs i).f5 := by
  obtain ⟨ad, c, e, _, hK, hc0⟩ := Kd.C_get h z54 i h0 h1
  have hc : ∀ j u, c[j]? = some u → w.cell? (ad.add (i.toNat * 6 + j)) = some u := hc0
  obtain ⟨A5, c5, rfl, l5, g5⟩ := k54_open hK
  exact ⟨ad, A5, c5, e, hc 0 _ rfl, by rw [← add_field _ _ 1 (by omega)]; exact hc 1 _ rfl, by rw [← add_field _ _ 2 (by omega)]; exact hc 2 _ rfl, by rw [← add_field _ _ 3 (by omega)]; exact hc 3 _ rfl, by rw [← add_field _ _ 4 (by omega)]; exact hc 4 _ rfl, by rw [← add_field _ _ 5 (by omega)]; exact hc 5 _ rfl, l5, g5⟩

def rd_L11 (xs : List (List S54)) (i : Int) : (List S54) := xs.getD i.toNat ([] : List S54)
theorem at_L11 {w : World} {A : Option Addr} {n : Nat} {xs : List (List S54)} (h : Kd.C (Kd.slice 54 k54) w A n xs) (i : Int) (h0 : 0 ≤ i) (h1 : i < n) : ∃ ad A0 c0, A = some ad ∧ w.cell? (ad.add i.toNat) = some (.slice A0 (rd_L11 xs i).length c0) ∧ (rd_L11 xs i).length ≤ c0 ∧ k54.C w A0 (rd_L11 xs i).length (rd_L11 xs i) := by
  obtain ⟨ad, c, e, _, hK, hc0⟩ := Kd.C_get h ([] : List S54) i h0 h1
  have hc : ∀ j u, c[j]? = some u → w.cell? (ad.add (i.toNat * 1 + j)) = some u := hc0
  obtain ⟨A0, c0, rfl, l0, g0⟩ := hK
  exact ⟨ad, A0, c0, e, by have hq := hc 0 _ rfl; rwa [Nat.mul_one, Nat.add_zero] at hq, l0, g0⟩

end Go.Proofs.Ytnkaidaflegnlaa.A
