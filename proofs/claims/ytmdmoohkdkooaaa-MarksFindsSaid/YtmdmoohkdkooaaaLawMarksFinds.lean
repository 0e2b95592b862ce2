/- The functions of the program that these laws reach, each as a plain Lean function, and the proof that the machine's call comes to it; no condition beyond those that each theorem names. Made by wip/xprint.py. -/
import Derived.Test.YtmdmoohkdkooaaaRows
import Derived.Test.YtmdmoohkdkooaaaMf5
import Derived.Test.YtmdmoohkdkooaaaOpenMarksFinds
import Derived.Test.YtmdmoohkdkooaaaPureMarksFinds
import Derived.WalkKit
import Derived.ProofKit
import Derived.OpenShut
import Derived.ShutString
import Derived.ChangeOld
import Derived.Below
import Derived.SizedLaws
import Derived.Test.YtmdmoohkdkooaaaWSized
namespace Go.Proofs.Ytmdmoohkdkooaaa.marksFinds
open Go.ChangeShapes Go.WideShapes Go.ChangeAt Go.RowKit
open Go.ChangeMaps (open_string shut_string)
open Go.Proofs.YtmdmoohkdkooaaaW.PrintWords Go.Proofs.YtmdmoohkdkooaaaW.PrintLast Go.Proofs.YtmdmoohkdkooaaaW.PrintMore
open Go.Proofs.Ytmdmoohkdkooaaa.M Go.Proofs.Ytmdmoohkdkooaaa.M.marksFindsOpen
set_option linter.unusedVariables false
theorem own : ownKnob Try.prog.godebug = none := by kernel_rfl
theorem laidOut : laidOutB Try.prog = true := by kernel_rfl
set_option maxRecDepth 100000 in
theorem lifted (os : Os) (started : os.Started) (H : Type) (enc : TypeId × Value → H) :
    ReturnsInHanded {} Try.checked os 5 .any (Rows.marksFindsSpec.pre6 enc Try.prog Try.f5 Rows.marksFindsRow.domain false) (Rows.marksFindsSpec.post enc Try.prog Try.f5 false true false false) := by
  refine returnsInHanded_of_change_sized (C := Try.checked) own started (by kernel_rfl) Try.func5
    (ChangeSpec.witness6 (enc := enc) (C := Try.checked) false ⟨#[], #[.slice none 0 0, .string ByteArray.empty, .slice none 0 0], []⟩ 8 (by kernel_rfl) (by kernel_rfl) (by kernel_rfl) (by kernel_rfl)) ?_
  intro W base args ds gs before hval0 hW hcnd hsz0 _
  have hsz : (DataW.weightsEach Try.prog (Try.f5.params.toList ++ Rows.marksFindsSpec.plain.varTypes Try.prog) (ds ++ gs)).all (· ≤ reachBytes) = true := hsz0
  have hval : ∀ (j : Nat) t v, Try.f5.params[j]? = some t → args[j]? = some v → Value.okWide Try.prog W .any base t v := hval0
  have hW' := hW
  obtain ⟨p, q, hA0, hV, rfl, hfz, hnd⟩ := hW
  have hA : DataW.TrodAll enc Try.prog W 0 (fun _ => true) true Try.f5.params.toList args.toList ds p := hA0
  rw [Try.params5] at hA hval hsz
  obtain ⟨v0, vs0, d0, ds0, p0, q0, hargs, rfl, rfl, h0, r0⟩ := trodAll_cons hA
  obtain ⟨v1, vs1, d1, ds1, p1, q1, rfl, rfl, rfl, h1, r1⟩ := trodAll_cons r0
  obtain ⟨v2, vs2, d2, ds2, p2, q2, rfl, rfl, rfl, h2, r2⟩ := trodAll_cons r1
  obtain ⟨rfl, rfl, rfl⟩ := trodAll_nil r2
  obtain rfl : args = #[v0, v1, v2] := by cases args; simp_all
  obtain ⟨rfl, rfl⟩ := trodVars_none hV
  obtain ⟨a0, len0, cap0, rfl⟩ := okWide_slice Try.underlying25 (hval 0 25 v0 rfl rfl)
  have k0 := h0
  have lt0 : ∀ x ∈ p0, x.block < W.heap.size := by obtain ⟨m, hm⟩ := k0; exact DataW.trod_lt m _ _ _ hm
  obtain ⟨fuel0, hf0⟩ := h0
  obtain ⟨x0, ⟨A0, c0, hcs0, hl0, hC0⟩, hw0⟩ := opens_slice Try.underlying25 (by kernel_rfl) opens27 _ _ _ hf0
  obtain ⟨rfl, rfl, rfl⟩ : A0 = a0 ∧ len0 = x0.length ∧ c0 = cap0 := by
    have e := List.cons.inj (show [Value.slice a0 len0 cap0] = [.slice A0 x0.length c0] from hcs0)
    injection e.1 with e1 e2 e3
    exact ⟨e1.symm, e2, e3.symm⟩
  obtain ⟨x1, rfl, rfl, rfl, y1⟩ := open_string Try.underlying9 (hval 1 9 v1 rfl rfl) h1
  have hw1 : x1.size ≤ 140737488351232 := by
    have z := sized_string hsz (j := 1) (t := 9) rfl rfl
    rw [Array.length_toList] at z
    exact z
  obtain ⟨a2, len2, cap2, rfl⟩ := okWide_slice Try.underlying33 (hval 2 33 v2 rfl rfl)
  have k2 := h2
  have lt2 : ∀ x ∈ p2, x.block < W.heap.size := by obtain ⟨m, hm⟩ := k2; exact DataW.trod_lt m _ _ _ hm
  have y2 : len2 * 8 ≤ 140737488351232 := Go.Proofs.YtmdmoohkdkooaaaW.PrintWords.sized_ints hsz (j := 2) (t := 33) rfl rfl Try.underlying33 Try.underlying3 (by kernel_rfl) (by kernel_rfl) h2
  obtain ⟨fuel2, hf2⟩ := h2
  obtain ⟨x2, ⟨A2, c2, hcs2, hl2, hC2⟩, hw2⟩ := opens_slice Try.underlying33 (by kernel_rfl) (opens_int Try.underlying3) _ _ _ hf2
  obtain ⟨rfl, rfl, rfl⟩ : A2 = a2 ∧ len2 = x2.length ∧ c2 = cap2 := by
    have e := List.cons.inj (show [Value.slice a2 len2 cap2] = [.slice A2 x2.length c2] from hcs2)
    injection e.1 with e1 e2 e3
    exact ⟨e1.symm, e2, e3.symm⟩
  clear hA0 hval0 hsz0 hsz
  obtain ⟨k, h⟩ := Pure.MarksFinds x0 x1 x2 hw0 hw1 hw2.1 y2 hw2.2
  refine (marginalialaw07_MarksFinds.calls k A0 c0 x0 x1 A2 c2 x2 true W hC0 hl0 hC2 hl2 h).mono fun e W' ⟨he, bel⟩ => ?_
  subst he
  exact ⟨_, rfl, _, _, _, [], _, [], hW', trodAll_mk1 (shut_bool Try.underlying4 _), (trodAll_cons_mk (Below.trod laidOut (by kernel_rfl) (of_decide_eq_true (by kernel_rfl)) k0 bel lt0) (trodAll_cons_mk (shut_string Try.underlying9 y1) (trodAll_cons_mk (Below.trod laidOut (by kernel_rfl) (of_decide_eq_true (by kernel_rfl)) k2 bel lt2) trodAll_mk0))), rfl, bel.frame _, fun h => by cases h⟩
theorem over : Rows.marksFindsRow.holds Try.pinned (OpenSpec.ofChange Rows.marksFindsSpec) :=
  OpenClaim.holds_of_wide 5 Try.f5 rfl rfl rfl rfl rfl rfl rfl ⟨rfl, rfl, rfl, rfl, rfl⟩ rfl rfl rfl rfl rfl (by kernel_rfl) Try.func5 (by kernel_rfl)
    (of_decide_eq_true (by kernel_rfl)) (by unfold Func.isWrapper; first | (rw [if_pos (by decide +kernel)]; kernel_rfl) | (rw [if_neg (by decide +kernel)]; exact ⟨rfl, rfl⟩))
    (fun os started H enc _ => lifted os started H enc)
theorem proved : Rows.MarksFindsSaid := over
#print axioms proved
end Go.Proofs.Ytmdmoohkdkooaaa.marksFinds
namespace Go.Proofs.Ytmdmoohkdkooaaa
/-- The row, under a short name, for the claim. -/
theorem marksFinds_holds : Rows.MarksFindsSaid := marksFinds.proved
end Go.Proofs.Ytmdmoohkdkooaaa
