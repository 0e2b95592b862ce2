/- PageOnly: bytes that are a page's are what it is encoded as; with one more behind, or one less, they are none of any. No condition beyond those that each theorem names. -/
import Derived.Test.YtnkaidaflegnlaaGf7
import Derived.Test.YtnkaidaflegnlaaPageInv
import Derived.Test.YtnkaidaflegnlaaPageSame
namespace Go.Proofs.Ytnkaidaflegnlaa.Pure
open Go.RowKit Go.Proofs.Ytnkaidaflegnlaa Go.Proofs.Ytnkaidaflegnlaa.G Go.Proofs.Ytnkaidaflegnlaa.PageLaws Go.Proofs.YtnkaidaflegnlaaW.PrintWords Go.Proofs.YtnkaidaflegnlaaW.PrintLast Go.Proofs.YtnkaidaflegnlaaW.PrintMore
set_option linter.unusedVariables false
theorem PageOnly : marginalialaw20_PageOnly.Pure := by
  intro b _ _ hwf
  have r0 : marginalialaw20_alive.f = some true := rfl
  have hb : Bs b := fun x hx => by
    have h1 := hwf x hx
    simp [Lit.wf, IntKind.min, IntKind.max, IntKind.bits, IntKind.signed] at h1
    omega
  by_cases c : (b.length : Int) > 300
  · exact ⟨0, by rw [marginalialaw20_PageOnly.f, if_pos c, r0, Option.bind_some]⟩
  · obtain ⟨⟨a, x, y, d, e⟩, ⟨K1, q1⟩, hr⟩ := decode_ev hb
    by_cases ce : e = 0
    · subst ce
      have r1 : page_Decode.f K1 b = some (a, x, y, d, 0) := q1 K1 (Nat.le_refl _)
      obtain ⟨h1, h2, h3, h4, h5, h6⟩ := decode_inv hb r1
      obtain ⟨K2, q2⟩ := encode_ev (a := a) (x := x) (y := y) (d := d) h4 h5
      obtain ⟨k, hk⟩ : ∃ k, k = K1 + K2 := ⟨_, rfl⟩
      have r1 : page_Decode.f k b = some (a, x, y, d, 0) := q1 k (by omega)
      have r2 : page_Encode.f k a x y d = some (b, 0) := by have := q2 k (by omega); rw [if_pos h2, h3] at this; exact this
      have r3 : page_Decode.f k (b ++ [0]) = some (0, [], 0, [], 8) := decode_bad (by rw [List.length_append, h1]; decide) k
      have ew : wrap64 ((b.length : Int) - 1) = ((b.length - 1 : Nat) : Int) := by rw [w64 (by omega) (by omega)]; omega
      have r4 : page_Decode.f k (b.take (b.length - 1)) = some (0, [], 0, [], 8) := decode_bad (by rw [List.length_take]; omega) k
      exact ⟨k, by rw [marginalialaw20_PageOnly.f, if_neg c, r1, Option.bind_some, if_pos rfl, r2, Option.bind_some, Option.bind_some, if_pos (by simp; omega), Option.bind_some, List.nil_append, if_pos (by omega), r3, Option.bind_some, ew, if_pos (by omega), if_pos (by omega), Int.toNat_natCast, r4, Option.bind_some, r0, Option.bind_some, if_pos rfl, if_pos rfl, if_pos rfl, if_pos rfl]; rfl⟩
    · have hbad := hr.resolve_right ce
      obtain ⟨K2, q2⟩ := same_ev (a := 0) (x := []) (y := 0) (d := []) (by simp)
      obtain ⟨k, hk⟩ : ∃ k, k = K1 + K2 := ⟨_, rfl⟩
      have r1 : page_Decode.f k b = some (0, [], 0, [], 8) := by rw [← hbad]; exact q1 k (by omega)
      have r2 : marginaliaref20_Same.f k 0 [] 0 [] 0 [] 0 [] = some true := q2 k (by omega)
      exact ⟨k, by rw [marginalialaw20_PageOnly.f, if_neg c, r1, Option.bind_some, if_neg (by decide), r0, Option.bind_some, if_pos rfl, if_pos rfl, r2, Option.bind_some]⟩
end Go.Proofs.Ytnkaidaflegnlaa.Pure
