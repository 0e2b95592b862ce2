import Derived.Test.YtepipgneefcoiaaOpenWalNil
namespace Go.Proofs.Ytepipgneefcoiaa.Pure
open Go.RowKit Go.Proofs.YtepipgneefcoiaaW.PrintWords Go.Proofs.YtepipgneefcoiaaW.PrintLast Go.Proofs.YtepipgneefcoiaaW.PrintMore
open Go.Proofs.Ytepipgneefcoiaa.D Go.Proofs.Ytepipgneefcoiaa.D.walNilOpen
theorem wf_i64 {x : Int} (h : (Lit.int .i64 x).wf = true) : -9223372036854775808 ≤ x ∧ x ≤ 9223372036854775807 := by
  simp [Lit.wf, IntKind.min, IntKind.max, IntKind.bits, IntKind.signed] at h
  omega
theorem wf_u8 {x : Int} (h : (Lit.int .u8 x).wf = true) : 0 ≤ x ∧ x < 256 := by
  simp [Lit.wf, IntKind.min, IntKind.max, IntKind.bits, IntKind.signed] at h
  omega
theorem WalNil : walNilOpen.Pure := by
  intro x0 x1 x2 _ _ _ h1 h2
  unfold marginalialaw17_WalNil.f
  exact if_pos ⟨wf_i64 h1, wf_i64 h2⟩
end Go.Proofs.Ytepipgneefcoiaa.Pure
