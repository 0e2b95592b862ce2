/- The functions of the program that these laws reach, each as a plain Lean function, and the proof that the machine's call comes to it; no condition beyond those that each theorem names. Made by wip/xprint.py. -/
import Derived.Test.YtnmopjmlilekjaaRows
import Derived.Test.YtnmopjmlilekjaaKf13
import Derived.Test.YtnmopjmlilekjaaOpenCellBack
import Derived.Test.YtnmopjmlilekjaaPureCellBack
import Derived.WalkKit
import Derived.ProofKit
import Derived.OpenShut
import Derived.ShutString
import Derived.ChangeOld
import Derived.Below
import Derived.SizedLaws
import Derived.Test.YtnmopjmlilekjaaWSized
namespace Go.Proofs.Ytnmopjmlilekjaa.cellBack
open Go.ChangeShapes Go.WideShapes Go.ChangeAt Go.RowKit
open Go.ChangeMaps (open_string shut_string)
open Go.Proofs.YtnmopjmlilekjaaW.PrintWords Go.Proofs.YtnmopjmlilekjaaW.PrintLast Go.Proofs.YtnmopjmlilekjaaW.PrintMore
open Go.Proofs.Ytnmopjmlilekjaa.K Go.Proofs.Ytnmopjmlilekjaa.K.cellBackOpen
set_option linter.unusedVariables false
theorem own : ownKnob Try.prog.godebug = none := by kernel_rfl
theorem laidOut : laidOutB Try.prog = true := by kernel_rfl
set_option maxRecDepth 100000 in
theorem lifted (os : Os) (started : os.Started) (H : Type) (enc : TypeId × Value → H) :
    ReturnsInHanded {} Try.checked os 13 .any (Rows.cellBackSpec.pre6 enc Try.prog Try.f13 Rows.cellBackRow.domain false) (Rows.cellBackSpec.post enc Try.prog Try.f13 false true false false) := by
  refine returnsInHanded_of_change_sized (C := Try.checked) own started (by kernel_rfl) Try.func13
    (ChangeSpec.witness6 (enc := enc) (C := Try.checked) false ⟨#[], #[.agg #[.int .u64 0, .int .u64 0, .int .i64 0, .int .i64 0, .slice none 0 0], .slice none 0 0], []⟩ 8 (by kernel_rfl) (by kernel_rfl) (by kernel_rfl) (by kernel_rfl)) ?_
  intro W base args ds gs before hval0 hW hcnd hsz0 _
  have hsz : (DataW.weightsEach Try.prog (Try.f13.params.toList ++ Rows.cellBackSpec.plain.varTypes Try.prog) (ds ++ gs)).all (· ≤ reachBytes) = true := hsz0
  have hval : ∀ (j : Nat) t v, Try.f13.params[j]? = some t → args[j]? = some v → Value.okWide Try.prog W .any base t v := hval0
  have hW' := hW
  obtain ⟨p, q, hA0, hV, rfl, hfz, hnd⟩ := hW
  have hA : DataW.TrodAll enc Try.prog W 0 (fun _ => true) true Try.f13.params.toList args.toList ds p := hA0
  rw [Try.params13] at hA hval hsz
  obtain ⟨v0, vs0, d0, ds0, p0, q0, hargs, rfl, rfl, h0, r0⟩ := trodAll_cons hA
  obtain ⟨v1, vs1, d1, ds1, p1, q1, rfl, rfl, rfl, h1, r1⟩ := trodAll_cons r0
  obtain ⟨rfl, rfl, rfl⟩ := trodAll_nil r1
  obtain rfl : args = #[v0, v1] := by cases args; simp_all
  obtain ⟨rfl, rfl⟩ := trodVars_none hV
  obtain ⟨cs0, rfl, hz0⟩ := okWide_struct Try.underlying34 (hval 0 34 v0 rfl rfl)
  have k0 := h0
  have lt0 : ∀ x ∈ p0, x.block < W.heap.size := by obtain ⟨m, hm⟩ := k0; exact DataW.trod_lt m _ _ _ hm
  obtain ⟨fuel0, hf0⟩ := h0
  obtain ⟨x0, hK0, hw0⟩ := opens34 _ _ _ hf0
  obtain ⟨A0_4, c0_4, hcs0, hl0_4, hC0_4⟩ := k34_open hK0
  obtain rfl : cs0 = #[.int .u64 x0.f0, .int .u64 x0.f1, .int .i64 x0.f2, .int .i64 x0.f3, .slice A0_4 x0.f4.length c0_4] := by
    have e : cs0.toList = [.int .u64 x0.f0, .int .u64 x0.f1, .int .i64 x0.f2, .int .i64 x0.f3, .slice A0_4 x0.f4.length c0_4] := hcs0
    rw [← Array.toArray_toList (xs := cs0), e]
  obtain ⟨a1, len1, cap1, rfl⟩ := okWide_slice Try.underlying22 (hval 1 22 v1 rfl rfl)
  have k1 := h1
  have lt1 : ∀ x ∈ p1, x.block < W.heap.size := by obtain ⟨m, hm⟩ := k1; exact DataW.trod_lt m _ _ _ hm
  have y1 : len1 * 1 ≤ 140737488351232 := Go.Proofs.YtnmopjmlilekjaaW.PrintWords.sized_ints hsz (j := 1) (t := 22) rfl rfl Try.underlying22 Try.underlying5 (by kernel_rfl) (by kernel_rfl) h1
  obtain ⟨fuel1, hf1⟩ := h1
  obtain ⟨x1, ⟨A1, c1, hcs1, hl1, hC1⟩, hw1⟩ := opens_slice Try.underlying22 (by kernel_rfl) (opens_int Try.underlying5) _ _ _ hf1
  obtain ⟨rfl, rfl, rfl⟩ : A1 = a1 ∧ len1 = x1.length ∧ c1 = cap1 := by
    have e := List.cons.inj (show [Value.slice a1 len1 cap1] = [.slice A1 x1.length c1] from hcs1)
    injection e.1 with e1 e2 e3
    exact ⟨e1.symm, e2, e3.symm⟩
  clear hA0 hval0 hsz0 hsz
  obtain ⟨k, h⟩ := Pure.CellBack x0 x1 hw0 hw1.1 y1 hw1.2
  refine (marginalialaw16_CellBack.calls k x0.f0 x0.f1 x0.f2 x0.f3 A0_4 c0_4 x0.f4 A1 c1 x1 true W hC0_4 hl0_4 hC1 hl1 h).mono fun e W' ⟨he, bel⟩ => ?_
  subst he
  exact ⟨_, rfl, _, _, _, [], _, [], hW', trodAll_mk1 (shut_bool Try.underlying4 _), (trodAll_cons_mk (Below.trod laidOut (by kernel_rfl) (of_decide_eq_true (by kernel_rfl)) k0 bel lt0) (trodAll_cons_mk (Below.trod laidOut (by kernel_rfl) (of_decide_eq_true (by kernel_rfl)) k1 bel lt1) trodAll_mk0)), rfl, bel.frame _, fun h => by cases h⟩
theorem over : Rows.cellBackRow.holds Try.pinned (OpenSpec.ofChange Rows.cellBackSpec) :=
  OpenClaim.holds_of_wide 13 Try.f13 rfl rfl rfl rfl rfl rfl rfl ⟨rfl, rfl, rfl, rfl, rfl⟩ rfl rfl rfl rfl rfl (by kernel_rfl) Try.func13 (by kernel_rfl)
    (of_decide_eq_true (by kernel_rfl)) (by unfold Func.isWrapper; first | (rw [if_pos (by decide +kernel)]; kernel_rfl) | (rw [if_neg (by decide +kernel)]; exact ⟨rfl, rfl⟩))
    (fun os started H enc _ => lifted os started H enc)
theorem proved : Rows.CellBackSaid := over
#print axioms proved
end Go.Proofs.Ytnmopjmlilekjaa.cellBack
namespace Go.Proofs.Ytnmopjmlilekjaa
/-- The row, under a short name, for the claim. -/
theorem cellBack_holds : Rows.CellBackSaid := cellBack.proved
end Go.Proofs.Ytnmopjmlilekjaa
