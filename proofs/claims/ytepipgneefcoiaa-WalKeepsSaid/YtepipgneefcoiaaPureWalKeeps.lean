import Derived.Test.YtepipgneefcoiaaOpenWalKeeps
namespace Go.Proofs.Ytepipgneefcoiaa.Pure
open Go.RowKit Go.Proofs.YtepipgneefcoiaaW.PrintWords Go.Proofs.YtepipgneefcoiaaW.PrintLast Go.Proofs.YtepipgneefcoiaaW.PrintMore
open Go.Proofs.Ytepipgneefcoiaa.D Go.Proofs.Ytepipgneefcoiaa.D.walKeepsOpen
theorem wf_i64 {x : Int} (h : (Lit.int .i64 x).wf = true) : -9223372036854775808 ≤ x ∧ x ≤ 9223372036854775807 := by
  simp [Lit.wf, IntKind.min, IntKind.max, IntKind.bits, IntKind.signed] at h
  omega
theorem wf_u8 {x : Int} (h : (Lit.int .u8 x).wf = true) : 0 ≤ x ∧ x < 256 := by
  simp [Lit.wf, IntKind.min, IntKind.max, IntKind.bits, IntKind.signed] at h
  omega
theorem WalKeeps : walKeepsOpen.Pure := by
  intro x0 h1
  unfold marginalialaw17_WalKeeps.f
  refine if_pos (fun x hx => ?_)
  obtain ⟨_, h3, h4, _⟩ := h1.2 x hx
  exact ⟨fun b hb => wf_u8 (h4.2 b hb), wf_i64 h3⟩
end Go.Proofs.Ytepipgneefcoiaa.Pure
