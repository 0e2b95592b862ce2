/- The functions of the program that these laws reach, each as a plain Lean function, and the proof that the machine's call comes to it; no condition beyond those that each theorem names. Made by wip/xprint.py. -/
import Derived.Test.YtmdmoohkdkooaaaRows
import Derived.Test.YtmdmoohkdkooaaaMf7
import Derived.Test.YtmdmoohkdkooaaaOpenMarksTurns
import Derived.Test.YtmdmoohkdkooaaaPureMarksTurns
import Derived.WalkKit
import Derived.ProofKit
import Derived.OpenShut
import Derived.ShutString
import Derived.ChangeOld
import Derived.Below
import Derived.SizedLaws
namespace Go.Proofs.Ytmdmoohkdkooaaa.marksTurns
open Go.ChangeShapes Go.WideShapes Go.ChangeAt Go.RowKit
open Go.ChangeMaps (open_string shut_string)
open Go.Proofs.YtmdmoohkdkooaaaW.PrintWords Go.Proofs.YtmdmoohkdkooaaaW.PrintLast Go.Proofs.YtmdmoohkdkooaaaW.PrintMore
open Go.Proofs.Ytmdmoohkdkooaaa.M Go.Proofs.Ytmdmoohkdkooaaa.M.marksTurnsOpen
set_option linter.unusedVariables false
theorem own : ownKnob Try.prog.godebug = none := by kernel_rfl
theorem laidOut : laidOutB Try.prog = true := by kernel_rfl
set_option maxRecDepth 100000 in
theorem lifted (os : Os) (started : os.Started) (H : Type) (enc : TypeId × Value → H) :
    ReturnsInHanded {} Try.checked os 7 .any (Rows.marksTurnsSpec.pre6 enc Try.prog Try.f7 Rows.marksTurnsRow.domain false) (Rows.marksTurnsSpec.post enc Try.prog Try.f7 false true false false) := by
  refine returnsInHanded_of_change_sized (C := Try.checked) own started (by kernel_rfl) Try.func7
    (ChangeSpec.witness6 (enc := enc) (C := Try.checked) false ⟨#[], #[.slice none 0 0, .int .i64 0, .agg #[.int .i64 0, .string ByteArray.empty, .slice none 0 0]], []⟩ 8 (by kernel_rfl) (by kernel_rfl) (by kernel_rfl) (by kernel_rfl)) ?_
  intro W base args ds gs before hval0 hW hcnd hsz0 _
  have hsz : (DataW.weightsEach Try.prog (Try.f7.params.toList ++ Rows.marksTurnsSpec.plain.varTypes Try.prog) (ds ++ gs)).all (· ≤ reachBytes) = true := hsz0
  have hval : ∀ (j : Nat) t v, Try.f7.params[j]? = some t → args[j]? = some v → Value.okWide Try.prog W .any base t v := hval0
  have hW' := hW
  obtain ⟨p, q, hA0, hV, rfl, hfz, hnd⟩ := hW
  have hA : DataW.TrodAll enc Try.prog W 0 (fun _ => true) true Try.f7.params.toList args.toList ds p := hA0
  rw [Try.params7] at hA hval hsz
  obtain ⟨v0, vs0, d0, ds0, p0, q0, hargs, rfl, rfl, h0, r0⟩ := trodAll_cons hA
  obtain ⟨v1, vs1, d1, ds1, p1, q1, rfl, rfl, rfl, h1, r1⟩ := trodAll_cons r0
  obtain ⟨v2, vs2, d2, ds2, p2, q2, rfl, rfl, rfl, h2, r2⟩ := trodAll_cons r1
  obtain ⟨rfl, rfl, rfl⟩ := trodAll_nil r2
  obtain rfl : args = #[v0, v1, v2] := by cases args; simp_all
  obtain ⟨rfl, rfl⟩ := trodVars_none hV
  obtain ⟨a0, len0, cap0, rfl⟩ := okWide_slice Try.underlying25 (hval 0 25 v0 rfl rfl)
  have k0 := h0
  have lt0 : ∀ x ∈ p0, x.block < W.heap.size := by obtain ⟨m, hm⟩ := k0; exact DataW.trod_lt m _ _ _ hm
  obtain ⟨fuel0, hf0⟩ := h0
  obtain ⟨x0, ⟨A0, c0, hcs0, hl0, hC0⟩, hw0⟩ := opens_slice Try.underlying25 (by kernel_rfl) opens27 _ _ _ hf0
  obtain ⟨rfl, rfl, rfl⟩ : A0 = a0 ∧ len0 = x0.length ∧ c0 = cap0 := by
    have e := List.cons.inj (show [Value.slice a0 len0 cap0] = [.slice A0 x0.length c0] from hcs0)
    injection e.1 with e1 e2 e3
    exact ⟨e1.symm, e2, e3.symm⟩
  obtain ⟨x1, rfl, rfl, rfl, hw1⟩ := open_int Try.underlying3 (hval 1 3 v1 rfl rfl) h1
  obtain ⟨cs2, rfl, hz2⟩ := okWide_struct Try.underlying27 (hval 2 27 v2 rfl rfl)
  have k2 := h2
  have lt2 : ∀ x ∈ p2, x.block < W.heap.size := by obtain ⟨m, hm⟩ := k2; exact DataW.trod_lt m _ _ _ hm
  obtain ⟨fuel2, hf2⟩ := h2
  obtain ⟨x2, hK2, hw2⟩ := opens27 _ _ _ hf2
  obtain ⟨A2_2, c2_2, hcs2, hl2_2, hC2_2⟩ := k27_open hK2
  obtain rfl : cs2 = #[.int .i64 x2.f0, .string x2.f1, .slice A2_2 x2.f2.length c2_2] := by
    have e : cs2.toList = [.int .i64 x2.f0, .string x2.f1, .slice A2_2 x2.f2.length c2_2] := hcs2
    rw [← Array.toArray_toList (xs := cs2), e]
  clear hA0 hval0 hsz0 hsz
  obtain ⟨k, h⟩ := Pure.MarksTurns x0 x1 x2 hw0 hw1 hw2
  refine (marginalialaw07_MarksTurns.calls k A0 c0 x0 x1 x2.f0 x2.f1 A2_2 c2_2 x2.f2 true W hC0 hl0 hC2_2 hl2_2 h).mono fun e W' ⟨he, bel⟩ => ?_
  subst he
  exact ⟨_, rfl, _, _, _, [], _, [], hW', trodAll_mk1 (shut_bool Try.underlying4 _), (trodAll_cons_mk (Below.trod laidOut (by kernel_rfl) (of_decide_eq_true (by kernel_rfl)) k0 bel lt0) (trodAll_cons_mk (shut_int Try.underlying3 hw1) (trodAll_cons_mk (Below.trod laidOut (by kernel_rfl) (of_decide_eq_true (by kernel_rfl)) k2 bel lt2) trodAll_mk0))), rfl, bel.frame _, fun h => by cases h⟩
theorem over : Rows.marksTurnsRow.holds Try.pinned (OpenSpec.ofChange Rows.marksTurnsSpec) :=
  OpenClaim.holds_of_wide 7 Try.f7 rfl rfl rfl rfl rfl rfl rfl ⟨rfl, rfl, rfl, rfl, rfl⟩ rfl rfl rfl rfl rfl (by kernel_rfl) Try.func7 (by kernel_rfl)
    (of_decide_eq_true (by kernel_rfl)) (by unfold Func.isWrapper; first | (rw [if_pos (by decide +kernel)]; kernel_rfl) | (rw [if_neg (by decide +kernel)]; exact ⟨rfl, rfl⟩))
    (fun os started H enc _ => lifted os started H enc)
theorem proved : Rows.MarksTurnsSaid := over
#print axioms proved
end Go.Proofs.Ytmdmoohkdkooaaa.marksTurns
namespace Go.Proofs.Ytmdmoohkdkooaaa
/-- The row, under a short name, for the claim. -/
theorem marksTurns_holds : Rows.MarksTurnsSaid := marksTurns.proved
end Go.Proofs.Ytmdmoohkdkooaaa
