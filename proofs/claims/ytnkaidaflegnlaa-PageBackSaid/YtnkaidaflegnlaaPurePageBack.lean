/- PageBack: a page that is encoded is decoded as it was, in a block's bytes; one that may not be, or does not fit, is not encoded. No condition beyond those that each theorem names. -/
import Derived.Test.YtnkaidaflegnlaaOpenPageBack
import Derived.Test.YtnkaidaflegnlaaPageDec
import Derived.Test.YtnkaidaflegnlaaPageSame
namespace Go.Proofs.Ytnkaidaflegnlaa.Pure
open Go.RowKit Go.Proofs.Ytnkaidaflegnlaa Go.Proofs.Ytnkaidaflegnlaa.G Go.Proofs.Ytnkaidaflegnlaa.G.pageBackOpen Go.Proofs.Ytnkaidaflegnlaa.PageLaws Go.Proofs.YtnkaidaflegnlaaW.PrintWords Go.Proofs.YtnkaidaflegnlaaW.PrintLast Go.Proofs.YtnkaidaflegnlaaW.PrintMore
set_option linter.unusedVariables false
theorem PageBack : pageBackOpen.Pure := by
  rintro ⟨a, x, y, d⟩ hwf
  show ∃ k, marginalialaw20_PageBack.f k a x y d = some true
  have r0 : marginalialaw20_alive.f = some true := rfl
  have hkey : ∀ z ∈ x, 0 ≤ z.f0 ∧ z.f0 < 18446744073709551616 := fun z hz => by
    have h1 := (hwf.2.1.2 z hz).1
    simp [Lit.wf, IntKind.min, IntKind.max, IntKind.bits, IntKind.signed] at h1
    omega
  rcases small_ev a x y d with ⟨⟨K1, q1⟩, hx, hd_, _⟩ | ⟨K1, q1⟩
  · obtain ⟨K2, q2⟩ := encode_ev (a := a) (x := x) (y := y) (d := d) (by omega) (by omega)
    obtain ⟨K3, q3⟩ := check_ev (a := a) (x := x) (y := y) (d := d) (by omega) (by omega)
    by_cases c : chk a x y d = 0
    · obtain ⟨hm, hs⟩ := chk_zero c
      obtain ⟨K4, q4⟩ := size_ev (a := a) (x := x) (y := y) (d := d) (by omega) (by omega)
      obtain ⟨K5, q5⟩ := same_ev (a := a) (x := x) (y := y) (d := d) (by omega)
      have hlen := enc_len c
      have hbl := body_len c
      have hzero : ∀ i : Nat, sz a x d ≤ (i : Int) → i < 256 → rd (enc a x y d) (i : Int) = 0 := fun i h1 h2 => by
        unfold enc fin rd
        rw [Int.toNat_natCast, List.getD_eq_getElem?_getD, List.getElem?_append_right (by omega), List.getElem?_replicate]
        split <;> rfl
      have hsz0 : 0 ≤ sz a x d := by omega
      have hloop : ∀ n i : Nat, i + n = 256 → sz a x d ≤ (i : Int) → Ev (fun k => marginalialaw20_PageBack.l0 k (enc a x y d) 0 (sz a x d) (i : Int) a x y d a x y d) true := by
        intro n
        induction n with
        | zero =>
          intro i hi hge
          refine ⟨K5 + 1, fun k hk => ?_⟩
          obtain ⟨m, rfl⟩ : ∃ m, k = m + 1 := ⟨k - 1, by omega⟩
          have r5 : marginaliaref20_Same.f m a x y d a x y d = some true := q5 m (by omega)
          show marginalialaw20_PageBack.l0 (m + 1) (enc a x y d) 0 (sz a x d) (i : Int) a x y d a x y d = _
          rw [marginalialaw20_PageBack.l0, if_neg (by omega), r0, Option.bind_some, if_pos rfl, if_pos rfl, if_pos (by omega), if_pos hs, r5, Option.bind_some]
        | succ n ih =>
          intro i hi hge
          refine Ev.step (fun k => ?_) (ih (i + 1) (by omega) (by omega))
          rw [marginalialaw20_PageBack.l0, if_pos (by omega), if_pos (by omega), if_pos (hzero i hge (by omega)), w64 (by omega) (by omega)]
          rfl
      obtain ⟨K6, q6⟩ := hloop (256 - (sz a x d).toNat) (sz a x d).toNat (by omega) (by omega)
      rw [Int.toNat_of_nonneg hsz0] at q6
      obtain ⟨k, hk⟩ : ∃ k, k = K1 + K2 + K3 + K4 + K6 := ⟨_, rfl⟩
      have r1 : marginalialaw20_small.f k a x y d = some true := q1 k (by omega)
      have r2 : page_Encode.f k a x y d = some (enc a x y d, 0) := by have := q2 k (by omega); rw [if_pos c] at this; exact this
      have r3 : page_Check.f k a x y d = some 0 := by have := q3 k (by omega); rw [c] at this; exact this
      have r4 : page_Size.f k a x y d = some (sz a x d) := by have := q4 k (by omega); rw [if_pos hm] at this; exact this
      have r6 : marginalialaw20_PageBack.l0 k (enc a x y d) 0 (sz a x d) (sz a x d) a x y d a x y d = some true := q6 k (by omega)
      have r7 := decode_enc (by omega) c hkey r3
      exact ⟨k, by rw [marginalialaw20_PageBack.f, r1, Option.bind_some, if_pos rfl, r2, Option.bind_some, r3, Option.bind_some, if_pos rfl, if_pos rfl, r7, Option.bind_some, r4, Option.bind_some, r6]⟩
    · obtain ⟨k, hk⟩ : ∃ k, k = K1 + K2 + K3 := ⟨_, rfl⟩
      have r1 : marginalialaw20_small.f k a x y d = some true := q1 k (by omega)
      have r2 : page_Encode.f k a x y d = some ([], chk a x y d) := by have := q2 k (by omega); rw [if_neg c] at this; exact this
      have r3 : page_Check.f k a x y d = some (chk a x y d) := q3 k (by omega)
      exact ⟨k, by rw [marginalialaw20_PageBack.f, r1, Option.bind_some, if_pos rfl, r2, Option.bind_some, r3, Option.bind_some, if_pos rfl, if_neg c, r0, Option.bind_some, if_pos rfl]; rfl⟩
  · have r1 : marginalialaw20_small.f K1 a x y d = some false := q1 K1 (Nat.le_refl _)
    exact ⟨K1, by rw [marginalialaw20_PageBack.f, r1, Option.bind_some, if_neg (by decide), r0, Option.bind_some]⟩
end Go.Proofs.Ytnkaidaflegnlaa.Pure
