/- The functions of the program that these laws reach, each as a plain Lean function, and the proof that the machine's call comes to it; no condition beyond those that each theorem names. Made by wip/xprint.py. -/
import Derived.Test.YtepipgneefcoiaaTW9
import Derived.Test.YtepipgneefcoiaaTW10d
import Derived.Test.YtepipgneefcoiaaDx0
namespace Go.Proofs.Ytepipgneefcoiaa.D
open Go.RowKit Go.Proofs.YtepipgneefcoiaaW.PrintWords Go.Proofs.YtepipgneefcoiaaW.PrintLast Go.Proofs.YtepipgneefcoiaaW.PrintMore
attribute [local go_sem] max2_int min2_int max_two min_two max_three min_three max_four min_four
set_option linter.unusedVariables false
set_option linter.unusedSimpArgs false
/- A disk of noughts has no cells. -/
def zc6 : S106 := ⟨0, 0, 0, 0, []⟩
def new8 (n : Nat) : Dk := ⟨n, List.replicate (n * 256) 0, List.replicate (n * 256) 0, [], false, 0, false⟩
theorem decZ_nought : decZ (List.replicate 64 0) = zc6 := by
  unfold decZ
  rw [if_neg]
  · rfl
  · rintro ⟨_, _, h, _⟩
    exact absurd h (by decide)
theorem cut_nought {n o m : Nat} (h : o + m ≤ n) : cut8 (List.replicate n 0) o m = List.replicate m (0 : Int) := by
  simp [cut8]
  omega
theorem sec_nought {n o m : Nat} (h : (o + m) * 64 ≤ n) : (secL (List.replicate n 0) o m).map decZ = List.replicate m zc6 := by
  refine List.ext_getElem (by simp [secL]) (fun i h1 h2 => ?_)
  have hi : i < m := by simpa using h2
  simp only [secL, List.getElem_map, List.getElem_range, List.getElem_replicate]
  rw [cut_nought (by omega), decZ_nought]
theorem lmax_z (m : Nat) : lmax (List.replicate m zc6) = 0 := by
  unfold lmax
  induction m with
  | zero => rfl
  | succ m ih => rw [List.replicate_succ, List.foldl_cons]; exact ih
theorem rec1_z (m : Nat) (ep : Int) : rec1 (List.replicate m zc6) ep = none := by
  unfold rec1
  cases m with
  | zero => rfl
  | succ m => rw [if_neg (by simp), if_pos (show (rd_T106 (List.replicate (m + 1) zc6) 0).f3 = 0 from rfl)]
theorem prs_z (k m : Nat) (ep least : Int) : prs ep k (List.replicate m zc6) least = ([], 0) := by
  cases k with
  | zero => rfl
  | succ k => unfold prs; rw [rec1_z]
theorem zeros_bytes (n : Nat) : CrcK.Bytes (List.replicate n (0 : Int)) := by
  intro x hx
  rw [(List.mem_replicate.1 hx).2]
  omega
/- The live question's cell, and its disk. -/
noncomputable def ab1 : S106 := ⟨5, 1, 0, 1, [97, 98]⟩
theorem ab_may : MayC ab1 := ⟨⟨by decide, by decide, by decide, by decide⟩, by intro x hx; simp [ab1] at hx; omega⟩
theorem ab_cut : CellLaws.cutn [97, 98] 5 1 ((CellLaws.many 2 : Nat) : Int) (CellLaws.many 2) = [ab1] := by rfl
theorem dec_enc {c : S106} (h0 : 0 ≤ c.f0 ∧ c.f0 < 18446744073709551616) (h1 : 0 ≤ c.f1 ∧ c.f1 < 18446744073709551616) (hm : MayC c) : decZ (encC c) = c := by
  obtain ⟨g, g0, g1, g2, g3, g4⟩ := CellLaws.enc_good (l := c.f4) h0 h1 hm.may
  unfold decZ encC
  rw [if_pos g, g0, g1, g2, g3, g4]
theorem encC_len {c : S106} (hm : MayC c) : (encC c).length = 64 := CellLaws.enc_length hm.may.2.2.2
noncomputable def abD : List Int := encC ab1 ++ List.replicate 192 0
theorem abD_len : abD.length = 256 := by rw [abD, List.length_append, encC_len ab_may, List.length_replicate]
theorem ab_secs : (secL abD 0 4).map decZ = ab1 :: List.replicate 3 zc6 := by
  have hl := encC_len ab_may
  have h0 : cut8 abD 0 64 = encC ab1 := by simp [cut8, abD, hl]
  have hz : ∀ i, 1 ≤ i → i < 4 → cut8 abD (i * 64) 64 = List.replicate 64 0 := fun i h1 h2 => by
    unfold cut8 abD
    rw [List.drop_append, List.drop_of_length_le (by omega), List.nil_append, hl]
    exact cut_nought (by omega)
  have e : secL abD 0 4 = [cut8 abD 0 64, cut8 abD (1 * 64) 64, cut8 abD (2 * 64) 64, cut8 abD (3 * 64) 64] := rfl
  rw [e, h0, hz 1 (by omega) (by omega), hz 2 (by omega) (by omega), hz 3 (by omega) (by omega)]
  simp only [List.map_cons, List.map_nil, decZ_nought, dec_enc (c := ab1) (by decide) (by decide) ab_may]
  rfl
theorem ab_row : CellLaws.Row [ab1] := by
  intro j h
  have : j = 0 := by simp at h; omega
  subst this
  exact ⟨rfl, rfl, rfl, rfl, (show ([97, 98] : List Int).length ≠ 0 by decide), (show ([97, 98] : List Int).length ≤ 39 by decide), fun h => absurd h (show ¬ 0 + 1 < 1 by decide)⟩
theorem ab_rec : rec1 (ab1 :: List.replicate 3 zc6) 5 = some ([97, 98], 1, 1) := by
  unfold rec1
  rw [if_neg (by simp), if_neg (show ¬ (rd_T106 (ab1 :: List.replicate 3 zc6) 0).f3 = 0 from by decide), if_neg (show ¬ (rd_T106 (ab1 :: List.replicate 3 zc6) 0).f3 > _ from by decide), if_neg (show ¬ (rd_T106 (ab1 :: List.replicate 3 zc6) 0).f0 ≠ 5 from by decide)]
  rw [if_pos (show CellLaws.Row ((ab1 :: List.replicate 3 zc6).take (rd_T106 (ab1 :: List.replicate 3 zc6) 0).f3.toNat) from ab_row)]
  rfl
theorem ab_prs (k : Nat) : prs 5 (k + 1) (ab1 :: List.replicate 3 zc6) 0 = ([[97, 98]], 1) := by
  unfold prs
  rw [ab_rec]
  simp only
  rw [if_neg (by decide), show (ab1 :: List.replicate 3 zc6).drop 1 = List.replicate 3 zc6 from rfl, prs_z]
  rfl
theorem ab_lmax : lmax (ab1 :: List.replicate 3 zc6) = 1 := by rfl
/- The log that the live question opens, appends to and flushes. -/
def ab0 : Wl := ⟨0, 1, 5, 1, 0, [], false, fun _ => False⟩
noncomputable def abS : Dk := (wrx (new8 1) 0 abD).1
theorem ab_wrx : wrx (new8 1) 0 abD = (abS, 0) := by
  have hl := abD_len
  unfold abS wrx
  rw [if_pos ⟨by decide, hl⟩]
  rfl
theorem sp_nought {X : List Int} {n : Nat} (h : X.length ≤ n) : sp8 (List.replicate n 0) 0 X = X ++ List.replicate (n - X.length) 0 := by
  unfold sp8
  rw [List.take_zero, List.nil_append, Nat.zero_add, List.drop_replicate]
theorem layx_one {fi : Nat} {s s' : Dk} {a k : Nat} {X B : List Int} (ho : s.of = false) (ha : a % 4 = 0) (hB : sp8 (cut8 s.now ((fi + a / 4) * 256) 256) 0 X = B) (hw : wrx s ((fi + a / 4 : Nat) : Int) B = (s', 0)) : layx fi (k + 2) s a [X] = (s', 0) := by
  have e : ([X].take (4 - a % 4)).flatten = X := by rw [ha]; simp
  have e2 : [X].drop (4 - a % 4) = [] := by rw [ha]; simp
  have z : ∀ (k : Nat) (s : Dk) (a : Nat), layx fi (k + 1) s a [] = (s, 0) := fun k s a => by unfold layx; rw [if_pos List.length_nil]
  rw [layx]
  rw [if_neg (by simp), if_neg (by simp [ho]), e, e2, ha, Nat.zero_mul, hB, hw, if_neg (by simp)]
  exact z _ _ _
set_option maxRecDepth 20000 in
theorem ab_lay : layx 0 2 (new8 1) 0 [encC ab1] = (abS, 0) := by
  have hl := encC_len ab_may
  refine layx_one (B := abD) rfl rfl ?_ ab_wrx
  have e : cut8 (new8 1).now ((0 + 0 / 4) * 256) 256 = List.replicate 256 0 := by
    unfold new8
    exact cut_nought (by omega)
  rw [e, sp_nought (by omega), hl]
  unfold abD
  rfl
set_option maxRecDepth 20000 in
theorem ab_apx : apx ab0 (new8 1) [97, 98] = (⟨0, 1, 5, 1, 1, [[97, 98]], false, fun _ => False⟩, abS, 0) := by
  have hr : ¬ rmx ab0 < (([97, 98] : List Int).length : Int) := by decide
  unfold apx
  rw [if_neg (by decide), if_neg (by decide), if_neg (by decide), if_neg hr]
  rw [show layx ab0.fi (CellLaws.many ([97, 98] : List Int).length + 1) (new8 1) ab0.en ((CellLaws.cutn [97, 98] ab0.ep ab0.li (CellLaws.many ([97, 98] : List Int).length : Int) (CellLaws.many ([97, 98] : List Int).length)).map encC) = (abS, 0) from ab_lay]
  rfl
theorem ab_now : abS.now = abD ∧ abS.of = false ∧ abS.nb = 1 ∧ abS.fu = false := by
  have hl := abD_len
  have e : sp8 (List.replicate (1 * 256) 0) (Int.toNat 0 * 256) abD = abD := by
    have := sp_nought (X := abD) (n := 256) (by omega)
    rw [hl, Nat.sub_self, List.replicate_zero, List.append_nil] at this
    exact this
  unfold abS wrx
  rw [if_pos ⟨by decide, hl⟩]
  exact ⟨e, rfl, rfl, rfl⟩
theorem pwx_Rest (s : Dk) : (pwx s).1.now = s.now ∧ (pwx s).1.safe = s.safe ∧ (pwx s).1.pend = s.pend ∧ (pwx s).1.nb = s.nb ∧ (pwx s).1.fu = s.fu ∧ ((pwx s).2 = true → (pwx s).1.of = s.of) := by
  unfold pwx
  split
  · exact ⟨rfl, rfl, rfl, rfl, rfl, fun h => by cases h⟩
  · exact ⟨rfl, rfl, rfl, rfl, rfl, fun _ => rfl⟩
/- A flush changes nothing that is read. -/
theorem flx_now {s : Dk} (h : Nw s) : (flx s).1.now = s.now ∧ (flx s).1.nb = s.nb := by
  obtain ⟨e1, e2, e3, e4, e5, e6⟩ := pwx_Rest s
  unfold flx
  split
  · rw [stl_eq (pwx_Nw h)]
    refine ⟨?_, e4⟩
    show keepF _ (pwx s).1.pend (pwx s).1.pend.length (pwx s).1.safe = s.now
    rw [keepF_all, e2, e3]
    exact h.2.symm
  · exact ⟨e1, e4⟩
theorem flx_ok {s : Dk} (h1 : s.of = false) (h2 : s.fu = false) : (flx s).2 = 0 ∧ (flx s).1.of = false := by
  have e : (pwx s).2 = true := by unfold pwx; rw [if_neg (by simp [h1, h2])]
  unfold flx
  rw [if_pos e]
  exact ⟨rfl, by show (pwx s).1.of = false; rw [(pwx_Rest s).2.2.2.2.2 e]; exact h1⟩
theorem ab_Nw : Nw abS := wrx_Nw (new_Nw 1 (by omega) (by omega)) _ _
set_option maxRecDepth 20000 in
theorem ab_flx : ∃ S, flx abS = (S, 0) ∧ S.now = abD ∧ S.of = false ∧ S.nb = 1 := by
  obtain ⟨h1, h2, h3, h4⟩ := ab_now
  obtain ⟨g1, g2⟩ := flx_now ab_Nw
  obtain ⟨g3, g4⟩ := flx_ok h2 h4
  rcases hf : flx abS with ⟨S, r⟩
  rw [hf] at g1 g2 g3 g4
  subst g3
  exact ⟨S, rfl, g1.trans h1, g4, g2.trans h3⟩
set_option maxRecDepth 20000 in
theorem abD_bytes : CrcK.Bytes abD := by
  intro x hx
  unfold abD at hx
  rcases List.mem_append.1 hx with h | h
  · exact CellLaws.enc_bytes (a0 := ab1.f0) (a1 := ab1.f1) (a2 := ab1.f2) (a3 := ab1.f3) ab_may.may.2.2.2 ab_may.by_ x h
  · exact zeros_bytes _ x h
end Go.Proofs.Ytepipgneefcoiaa.D
