/- The functions of the program that these laws reach, each as a plain Lean function, and the proof that the machine's call comes to it; no condition beyond those that each theorem names. Made by wip/xprint.py. -/
import Derived.Test.YtepipgneefcoiaaTWF
import Derived.Test.YtepipgneefcoiaaTWG
import Derived.Test.YtepipgneefcoiaaDf48
import Derived.Test.YtepipgneefcoiaaDf38
import Derived.Test.YtepipgneefcoiaaDx0
namespace Go.Proofs.Ytepipgneefcoiaa.D
open Go.RowKit Go.Proofs.YtepipgneefcoiaaW.PrintWords Go.Proofs.YtepipgneefcoiaaW.PrintLast Go.Proofs.YtepipgneefcoiaaW.PrintMore
attribute [local go_sem] max2_int min2_int max_two min_two max_three min_three max_four min_four
set_option linter.unusedVariables false
set_option linter.unusedSimpArgs false
/- What is kept. -/
structure Kp (j : Nat) (ent : List (List Int × Int)) (sure : Nat) (l : Wl) (s : Dk) : Prop where
  sx : Sx s
  nb : s.nb = 10
  by_ : ∀ i x, i < 40 → Poss s i x → CrcK.Bytes x
  pd : s.pend.length ≤ 800 * j
  fi : l.fi = 2
  si : l.si = 8
  rs : l.rs = ent.map Prod.fst
  rl : ent.length ≤ j
  en : l.en = tot ent
  e32 : l.en ≤ 32
  ep : 1 ≤ l.ep ∧ l.ep ≤ 1 + (j : Int)
  li : 1 ≤ l.li ∧ l.li ≤ 1 + (j : Int)
  e0 : ∀ i c, PC s i c → c.f0 ≤ l.ep ∧ c.f1 ≤ l.li
  es : ∀ e ∈ ent, e.1 ≠ [] ∧ e.2 ≤ l.li
  e6 : ∀ e ∈ ent, e.1.length ≤ 600
  rd : Rd s l.ep ent 0 0
  su : Su s l.ep ent sure 0
  sl : sure ≤ ent.length
  ok : l.br = false → Lay s l.ep ent 0 ∧ (∀ i c, i < l.en → PC s i c → c.f0 = l.ep → c.f1 = l.li → c = decZ (sec s (8 + i))) ∧ (∀ i c, l.en ≤ i → PC s i c → c.f0 = l.ep → c.f1 = l.li → False)
theorem Kp_mono {j k : Nat} {ent : List (List Int × Int)} {sure : Nat} {l : Wl} {s : Dk} (h : Kp j ent sure l s) (hk : j ≤ k) : Kp k ent sure l s :=
  ⟨h.sx, h.nb, h.by_, by have := h.pd; omega, h.fi, h.si, h.rs, by have := h.rl; omega, h.en, h.e32, by have := h.ep; omega, by have := h.li; omega, h.e0, h.es, h.e6, h.rd, h.su, h.sl, h.ok⟩
theorem PC_mono {s s' : Dk} (hn : s.nb = 10) (h : ∀ i x, i < s.nb * 4 → Poss s' i x → Poss s i x) : ∀ i c, PC s' i c → PC s i c :=
  fun i c ⟨hi, x, hx, hc⟩ => ⟨hi, x, h _ _ (by omega) hx, hc⟩
theorem Su_of {s : Dk} {ep : Int} (h : ∀ i c, PC s i c → c = decZ (sec s (8 + i))) : ∀ (E : List (List Int × Int)) (n a : Nat), Lay s ep E a → Su s ep E n a
  | [], _, _, _ => trivial
  | _ :: _, 0, _, _ => trivial
  | (b0, l0) :: E, n + 1, a, k => ⟨fun j c hc c' hc' => (h _ _ hc').trans (k.1 j c hc), Su_of h E n _ k.2⟩
theorem lmax_le {B : Int} : ∀ (cs : List S106) (a : Int), (∀ c ∈ cs, c.f1 ≤ B) → a ≤ B → a ≤ cs.foldl (fun m (c : S106) => if m < c.f1 then c.f1 else m) a ∧ cs.foldl (fun m (c : S106) => if m < c.f1 then c.f1 else m) a ≤ B ∧ ∀ c ∈ cs, c.f1 ≤ cs.foldl (fun m (c : S106) => if m < c.f1 then c.f1 else m) a
  | [], a, _, ha => ⟨Int.le_refl _, ha, fun c hc => by cases hc⟩
  | x :: cs, a, h, ha => by
    have hx := h x List.mem_cons_self
    obtain ⟨a', ha'⟩ : ∃ a', a' = (if a < x.f1 then x.f1 else a) := ⟨_, rfl⟩
    have h1 : a ≤ a' ∧ x.f1 ≤ a' ∧ a' ≤ B := by rw [ha']; split <;> omega
    obtain ⟨q1, q2, q3⟩ := lmax_le cs a' (fun c hc => h c (List.mem_cons_of_mem _ hc)) h1.2.2
    have e : (x :: cs).foldl (fun m (c : S106) => if m < c.f1 then c.f1 else m) a = cs.foldl (fun m (c : S106) => if m < c.f1 then c.f1 else m) a' := by rw [ha']; rfl
    rw [e]
    refine ⟨by omega, q2, fun c hc => ?_⟩
    rcases List.mem_cons.1 hc with rfl | hc
    · omega
    · exact q3 c hc
theorem lmax_at {cs : List S106} {c : S106} (h : c ∈ cs) : c.f1 ≤ lmax cs := by
  obtain ⟨B, hB⟩ : ∃ B : Int, 0 ≤ B ∧ ∀ c ∈ cs, c.f1 ≤ B := by
    clear h
    induction cs with
    | nil => exact ⟨0, Int.le_refl _, fun c hc => by cases hc⟩
    | cons x cs ih =>
      obtain ⟨B, h0, h1⟩ := ih
      refine ⟨max B x.f1, by omega, fun c hc => ?_⟩
      rcases List.mem_cons.1 hc with rfl | hc
      · omega
      · have := h1 c hc; omega
  exact (lmax_le cs 0 hB.2 hB.1).2.2 c h
theorem lmax_bd {cs : List S106} {B : Int} (h : ∀ c ∈ cs, c.f1 ≤ B) (h0 : 0 ≤ B) : 0 ≤ lmax cs ∧ lmax cs ≤ B :=
  ⟨(lmax_le cs 0 h h0).1, (lmax_le cs 0 h h0).2.1⟩
theorem Lay_lives {s : Dk} {ep B : Int} (h : ∀ i, i < 32 → (decZ (sec s (8 + i))).f1 ≤ B) : ∀ (E : List (List Int × Int)) (a : Nat), a + tot E ≤ 32 → (∀ e ∈ E, e.1 ≠ []) → Lay s ep E a → ∀ e ∈ E, e.2 ≤ B
  | [], _, _, _, _, e, he => by cases he
  | (b0, l0) :: E, a, ht, hE, k, e, he => by
    rw [tot_cons] at ht
    have p0 : 0 < mny b0 := mny_pos (hE _ List.mem_cons_self)
    rcases List.mem_cons.1 he with rfl | he
    · obtain ⟨c, hc⟩ := cutr_lt (ep := ep) (li := l0) p0
      have h1 := k.1 0 c hc
      have h2 := h (a + 0) (by omega)
      rw [h1, (cutr_at hc).2.2.1] at h2
      exact h2
    · exact Lay_lives h E _ (by omega) (fun e he => hE e (List.mem_cons_of_mem _ he)) k.2 e he
theorem new_Kp : Kp 0 [] 0 ⟨2, 8, 1, 1, 0, [], false, fun _ => False⟩ (new8 10) := by
  have z : ∀ i x, i < 40 → Poss (new8 10) i x → x = List.replicate 64 0 := fun i x hi hx => by
    rcases hx with rfl | ⟨y, hy, _⟩
    · exact cut_nought (by omega)
    · unfold new8 at hy; cases hy
  have c0 : ∀ i c, PC (new8 10) i c → c = zc6 := fun i c ⟨hi, x, hx, hc⟩ => by
    rw [← hc, z _ x (by omega) hx, decZ_nought]
  refine ⟨new_Sx (by omega) (by omega), rfl, fun i x hi hx => by rw [z i x hi hx]; exact zeros_bytes 64, Nat.zero_le _, rfl, rfl, rfl, Nat.zero_le _, rfl, Nat.zero_le _, ⟨by decide, by decide⟩, ⟨by decide, by decide⟩, fun i c hc => by rw [c0 i c hc]; exact ⟨by decide, by decide⟩, fun e he => (by cases he), fun e he => (by cases he), fun b li _ hA => ?_, trivial, Nat.le_refl _, fun _ => ⟨trivial, fun i c hi => absurd hi (Nat.not_lt_zero _), fun i c _ hc h0 _ => ?_⟩⟩
  · obtain ⟨c, hc⟩ := cutr_lt (ep := 1) (li := li) (mny_pos hA.1)
    have h1 := c0 _ _ (hA.2 0 c hc)
    have h2 := (cutr_at hc).2.1
    rw [h1] at h2
    exact absurd h2 (by decide)
  · rw [c0 i c hc] at h0
    exact absurd h0 (by decide)
theorem Kp_append {j : Nat} {ent : List (List Int × Int)} {sure : Nat} {l : Wl} {s : Dk} (h : Kp j ent sure l s) (hj : j ≤ 40) {b : List Int} (hb : CrcK.Bytes b) (hb6 : b.length ≤ 600) {l' : Wl} {s' : Dk} {e : Int} (hx : apx l s b = (l', s', e)) : (e = 0 ∧ Kp (j + 1) (ent ++ [(b, l.li)]) sure l' s') ∨ (e ≠ 0 ∧ Kp (j + 1) ent sure l' s') := by
  have h' := Kp_mono h (Nat.le_succ j)
  unfold apx at hx
  by_cases c1 : b.length = 0
  · rw [if_pos c1] at hx
    injection hx with e1 hx
    injection hx with e2 e3
    subst e1 e2 e3
    exact .inr ⟨by decide, h'⟩
  rw [if_neg c1, if_neg (by omega)] at hx
  by_cases c2 : l.br = true
  · rw [if_pos c2] at hx
    injection hx with e1 hx
    injection hx with e2 e3
    subst e1 e2 e3
    exact .inr ⟨by decide, h'⟩
  rw [if_neg c2] at hx
  by_cases c3 : rmx l < (b.length : Int)
  · rw [if_pos c3] at hx
    injection hx with e1 hx
    injection hx with e2 e3
    subst e1 e2 e3
    exact .inr ⟨by decide, h'⟩
  rw [if_neg c3] at hx
  have hbn : b ≠ [] := fun e => c1 (by rw [e]; rfl)
  obtain ⟨g1, g2⟩ := room_many c3 (by omega) (by rw [h.si]; exact h.e32)
  rw [h.si] at g1
  obtain ⟨hLay, h3, h4⟩ := h.ok (by simpa using c2)
  have hep := h.ep
  have hli := h.li
  have LE := encs_len hb (by omega) l.ep l.li
  have MAY := cut_may hb (by omega) l.ep l.li
  have hl : ((CellLaws.cutn b l.ep l.li (CellLaws.many b.length : Int) (CellLaws.many b.length)).map encC).length = mny b := by rw [List.length_map, CellLaws.cutn_length]; rfl
  have at_ : ∀ (k : Nat) (x : List Int), ((CellLaws.cutn b l.ep l.li (CellLaws.many b.length : Int) (CellLaws.many b.length)).map encC)[k]? = some x → ∃ c, (cutr b l.ep l.li)[k]? = some c ∧ x = encC c ∧ decZ x = c ∧ CrcK.Bytes x := fun k x hk => by
    rw [List.getElem?_map] at hk
    obtain ⟨c, hc, rfl⟩ := Option.map_eq_some_iff.1 hk
    have hm := MAY c (List.mem_of_getElem? hc)
    have hc' : (cutr b l.ep l.li)[k]? = some c := hc
    obtain ⟨_, f0, f1, _⟩ := cutr_at hc'
    exact ⟨c, hc', rfl, dec_enc (by rw [f0]; omega) (by rw [f1]; omega) hm, CellLaws.enc_bytes hm.may.2.2.2 hm.by_⟩
  have to_ : ∀ (k : Nat) (c : S106), (cutr b l.ep l.li)[k]? = some c → ((CellLaws.cutn b l.ep l.li (CellLaws.many b.length : Int) (CellLaws.many b.length)).map encC)[k]? = some (encC c) := fun k c hc => by
    rw [List.getElem?_map]
    exact (congrArg (Option.map encC) hc)
  obtain ⟨ps, hps⟩ : ∃ ps, ps = (CellLaws.cutn b l.ep l.li (CellLaws.many b.length : Int) (CellLaws.many b.length)).map encC := ⟨_, rfl⟩
  rw [← hps] at hl LE at_ to_ hx
  obtain ⟨⟨s1, e1⟩, hl1⟩ : ∃ q, layx l.fi (CellLaws.many b.length + 1) s l.en ps = q := ⟨_, rfl⟩
  rw [hl1] at hx
  have hm : mny b = CellLaws.many b.length := rfl
  obtain ⟨q1, q2, q3, _, q5⟩ := layx_sec _ s l.en ps (by omega) LE h.sx (by rw [h.fi, h.nb, hl]; omega) s1 e1 hl1
  rw [h.fi, h.nb] at q5
  have hpd := h.pd
  rcases q5 with ⟨e0, q6, q7, q8⟩ | ⟨e9, m, hm2, q6⟩
  · rw [if_neg (by simp [e0])] at hx
    injection hx with e1' hx
    injection hx with e2 e3
    subst e1' e2 e3
    have hnew : ∀ i c, PC s1 i c → PC s i c ∨ ∃ k, i = l.en + k ∧ (cutr b l.ep l.li)[k]? = some c := fun i c ⟨hi, x, hx, hc⟩ => by
      rcases q6 _ x (by omega) hx with g | ⟨k, g1, g2⟩
      · exact .inl ⟨hi, x, g, hc⟩
      · obtain ⟨c', c1, _, c2, _⟩ := at_ k x g2
        exact .inr ⟨k, by omega, by rw [c1, ← c2, hc]⟩
    have same : ∀ i, i < l.en → sec s1 (8 + i) = sec s (8 + i) := fun i hi => q7 _ (by omega) (by omega)
    have new : ∀ k c, (cutr b l.ep l.li)[k]? = some c → decZ (sec s1 (8 + (l.en + k))) = c := fun k c hc => by
      have := q8 k _ (to_ k c hc)
      obtain ⟨c', c1, _, c2, _⟩ := at_ k _ (to_ k c hc)
      rw [show 8 + (l.en + k) = 2 * 4 + l.en + k by omega, this, c2]
      rw [hc] at c1
      exact (Option.some.inj c1).symm
    have hen := h.en
    refine .inl ⟨rfl, q1, q2.trans h.nb, fun i x hi hx => ?_, by show s1.pend.length ≤ _; omega, h.fi, h.si, by show l.rs ++ [b] = _; rw [h.rs, List.map_append]; rfl, by have := h.rl; simp; omega, by show l.en + CellLaws.many b.length = _; rw [tot_app, ← h.en, tot_cons]; show _ = l.en + (mny b + 0); omega, by show l.en + CellLaws.many b.length ≤ 32; omega, by show 1 ≤ l.ep ∧ l.ep ≤ _; omega, by show 1 ≤ l.li ∧ l.li ≤ _; omega, fun i c hc => ?_, fun e he => ?_, fun e he => ?_, ?_, ?_, by rw [List.length_append]; have := h.sl; omega, fun _ => ⟨?_, fun i c hi hc h0 h1 => ?_, fun i c hi hc h0 h1 => ?_⟩⟩
    · rcases q6 i x (by omega) hx with g | ⟨k, _, g2⟩
      · exact h.by_ i x hi g
      · obtain ⟨_, _, _, _, q⟩ := at_ k x g2; exact q
    · rcases hnew i c hc with g | ⟨k, _, g⟩
      · exact h.e0 i c g
      · have := cutr_at g
        exact ⟨by show c.f0 ≤ l.ep; omega, by show c.f1 ≤ l.li; omega⟩
    · rcases List.mem_append.1 he with he | he
      · exact h.es e he
      · rw [List.mem_singleton.1 he]; exact ⟨hbn, Int.le_refl _⟩
    · rcases List.mem_append.1 he with he | he
      · exact h.e6 e he
      · rw [List.mem_singleton.1 he]; exact hb6
    · exact Rd_grow (L := l.li) (en := l.en) (fun i c hc => (hnew i c hc).imp id (fun ⟨k, g1, g2⟩ => ⟨by omega, (cutr_at g2).2.2.1⟩)) h3 (grow_all hbn hnew (fun i c hc => (h.e0 i c hc).2) h4) ent 0 0 (by omega) (by omega) hLay h.es h.rd
    · refine Su_app _ ent sure 0 h.sl (Su_mono ent sure 0 (fun i c hi hc => ?_) h.su)
      rcases hnew i c hc with g | ⟨k, g1, _⟩
      · exact g
      · have := tot_take ent sure
        omega
    · exact Lay_app ent 0 (Lay_same ent 0 (fun i hi => same i (by omega)) hLay) (fun k c hc => by rw [Nat.zero_add, ← h.en]; exact new k c hc)
    · rcases hnew i c hc with g | ⟨k, g1, g2⟩
      · by_cases hi2 : i < l.en
        · rw [same i hi2]; exact h3 i c hi2 g h0 h1
        · exact (h4 i c (by omega) g h0 h1).elim
      · rw [g1]; exact (new k c g2).symm
    · have hi' : l.en + CellLaws.many b.length ≤ i := hi
      rcases hnew i c hc with g | ⟨k, g1, g2⟩
      · exact h4 i c (by omega) g h0 h1
      · have := (cutr_at g2).1
        omega
  · rw [if_pos (by simp [e9])] at hx
    injection hx with e1' hx
    injection hx with e2 e3
    subst e1' e2 e3
    have hnew : ∀ i c, PC s1 i c → PC s i c ∨ ∃ k, k < m ∧ i = l.en + k ∧ (cutr b l.ep l.li)[k]? = some c := fun i c ⟨hi, x, hx, hc⟩ => by
      rcases q6 _ x (by omega) hx with g | ⟨k, g0, g1, g2⟩
      · exact .inl ⟨hi, x, g, hc⟩
      · obtain ⟨c', c1, _, c2, _⟩ := at_ k x g2
        exact .inr ⟨k, g0, by omega, by rw [c1, ← c2, hc]⟩
    have hen := h.en
    refine .inr ⟨by rw [e9]; decide, q1, q2.trans h.nb, fun i x hi hx => ?_, by omega, h.fi, h.si, h.rs, by have := h.rl; omega, h.en, h.e32, h'.ep, h'.li, fun i c hc => ?_, h.es, h.e6, ?_, ?_, h.sl, fun hbr => by cases hbr⟩
    · rcases q6 i x (by omega) hx with g | ⟨k, _, _, g2⟩
      · exact h.by_ i x hi g
      · obtain ⟨_, _, _, _, q⟩ := at_ k x g2; exact q
    · rcases hnew i c hc with g | ⟨k, _, _, g⟩
      · exact h.e0 i c g
      · have := cutr_at g
        exact ⟨by show c.f0 ≤ l.ep; omega, by show c.f1 ≤ l.li; omega⟩
    · have := Rd_grow (L := l.li) (en := l.en) (tail := []) (fun i c hc => (hnew i c hc).imp id (fun ⟨k, _, g1, g2⟩ => ⟨by omega, (cutr_at g2).2.2.1⟩)) h3 (grow_part (m := m) (by omega) hnew h4) ent 0 0 (by omega) (by omega) hLay h.es h.rd
      rw [List.append_nil] at this
      exact this
    · refine Su_mono ent sure 0 (fun i c hi hc => ?_) h.su
      rcases hnew i c hc with g | ⟨k, _, g1, _⟩
      · exact g
      · have := tot_take ent sure
        omega
theorem Kp_sync {j : Nat} {ent : List (List Int × Int)} {sure : Nat} {l : Wl} {s : Dk} (h : Kp j ent sure l s) {l' : Wl} {s' : Dk} {e : Int} (hx : syx l s = (l', s', e)) : (e = 0 ∧ Kp (j + 1) ent ent.length l' s') ∨ (e ≠ 0 ∧ Kp (j + 1) ent sure l' s') := by
  have h' := Kp_mono h (Nat.le_succ j)
  unfold syx at hx
  by_cases c : l.br = true
  · rw [if_pos c] at hx
    injection hx with e1 hx
    injection hx with e2 e3
    subst e1 e2 e3
    exact .inr ⟨by decide, h'⟩
  rw [if_neg c] at hx
  obtain ⟨hLay, h3, h4⟩ := h.ok (by simpa using c)
  obtain ⟨⟨s1, e1⟩, hf⟩ : ∃ q, flx s = q := ⟨_, rfl⟩
  rw [hf] at hx
  injection hx with e1' hx
  injection hx with e2 e3
  dsimp only at e2 e3
  subst e1' e2 e3
  obtain ⟨q1, q2, q3, q4, _, q6⟩ := flush_sec h.sx hf
  rcases q6 with ⟨e0, q6⟩ | ⟨e9, q6⟩
  · have sub : ∀ i x, i < s.nb * 4 → Poss s1 i x → Poss s i x := fun i x hi hx => by rw [q6 i x hx]; exact now_poss h.sx hi
    have pc := PC_mono h.nb sub
    have one : ∀ i c, PC s1 i c → c = decZ (sec s1 (8 + i)) := fun i c ⟨hi, x, hx, hc⟩ => by rw [q4, ← hc, q6 _ x hx]
    have L1 := Lay_same ent 0 (fun i _ => q4 (8 + i)) hLay
    refine .inl ⟨e0, q1, q2.trans h.nb, fun i x hi hx => h.by_ i x hi (sub i x (by rw [h.nb]; exact hi) hx), by have := h'.pd; omega, h.fi, h.si, h.rs, h'.rl, h.en, h.e32, h'.ep, h'.li, fun i c hc => h.e0 i c (pc i c hc), h.es, h.e6, Rd_mono pc ent 0 0 h.rd, Su_of one ent _ 0 L1, Nat.le_refl _, fun _ => ⟨L1, fun i c hi hc _ _ => one i c hc, fun i c hi hc => h4 i c hi (pc i c hc)⟩⟩
  · have pc := PC_mono (s' := s1) h.nb (fun i x _ hx => q6 i x hx)
    refine .inr ⟨by rw [e9]; decide, q1, q2.trans h.nb, fun i x hi hx => h.by_ i x hi (q6 i x hx), by have := h'.pd; omega, h.fi, h.si, h.rs, h'.rl, h.en, h.e32, h'.ep, h'.li, fun i c hc => h.e0 i c (pc i c hc), h.es, h.e6, Rd_mono pc ent 0 0 h.rd, Su_mono ent sure 0 (fun i c _ hc => pc i c hc) h.su, h.sl, fun hbr => by rw [e9] at hbr; cases hbr⟩
theorem Kp_reset {j : Nat} {ent : List (List Int × Int)} {sure : Nat} {l : Wl} {s : Dk} (h : Kp j ent sure l s) {l' : Wl} {e : Int} (hx : rex l (l.ep + 1) = (l', e)) : (e = 0 ∧ Kp (j + 1) [] 0 l' s ∧ l'.ep = l.ep + 1) ∨ (e ≠ 0 ∧ l' = l) := by
  have h' := Kp_mono h (Nat.le_succ j)
  unfold rex at hx
  by_cases c : l.br = true
  · rw [if_pos c] at hx
    injection hx with e1 e2
    subst e1 e2
    exact .inr ⟨by decide, rfl⟩
  rw [if_neg c, if_neg (by omega)] at hx
  injection hx with e1 e2
  subst e1 e2
  have hep := h.ep
  refine .inl ⟨rfl, ⟨h.sx, h.nb, h.by_, h'.pd, h.fi, h.si, rfl, Nat.zero_le _, rfl, Nat.zero_le _, ⟨by show 1 ≤ l.ep + 1; omega, by show l.ep + 1 ≤ _; push_cast; omega⟩, h'.li, fun i c hc => ⟨by have := (h.e0 i c hc).1; show c.f0 ≤ l.ep + 1; omega, (h.e0 i c hc).2⟩, fun e he => (by cases he), fun e he => (by cases he), fun b li _ hA => ?_, trivial, Nat.le_refl _, fun _ => ⟨trivial, fun i c hi => absurd hi (Nat.not_lt_zero _), fun i c _ hc h0 _ => ?_⟩⟩, rfl⟩
  · obtain ⟨c, hc⟩ := cutr_lt (ep := l.ep + 1) (li := li) (mny_pos hA.1)
    have h1 := (h.e0 _ _ (hA.2 0 c hc)).1
    have h2 := (cutr_at hc).2.1
    omega
  · have h1 := (h.e0 _ _ hc).1
    have h2 : c.f0 = l.ep + 1 := h0
    omega
theorem Kp_fuse {j : Nat} {ent : List (List Int × Int)} {sure : Nat} {l : Wl} {s : Dk} (h : Kp j ent sure l s) (k : Int) : Kp (j + 1) ent sure l (fzx s k) := by
  have h' := Kp_mono h (Nat.le_succ j)
  obtain ⟨q1, q2, q3, q4, q5⟩ := fuse_sec h.sx k
  have pc := PC_mono (s' := fzx s k) h.nb (fun i x _ hx => q5 i x hx)
  refine ⟨q1, q2.trans h.nb, fun i x hi hx => h.by_ i x hi (q5 i x hx), by rw [q3]; exact h'.pd, h.fi, h.si, h.rs, h'.rl, h.en, h.e32, h'.ep, h'.li, fun i c hc => h.e0 i c (pc i c hc), h.es, h.e6, Rd_mono pc ent 0 0 h.rd, Su_mono ent sure 0 (fun i c _ hc => pc i c hc) h.su, h.sl, fun hbr => ?_⟩
  obtain ⟨hLay, h3, h4⟩ := h.ok hbr
  exact ⟨Lay_same ent 0 (fun i _ => q4 (8 + i)) hLay, fun i c hi hc h0 h1 => by rw [q4]; exact h3 i c hi (pc i c hc) h0 h1, fun i c hi hc => h4 i c hi (pc i c hc)⟩
theorem sec_bytes {s : Dk} (hn : s.now.length = 2560) (h : ∀ i, i < 40 → CrcK.Bytes (sec s i)) : CrcK.Bytes s.now := by
  intro x hx
  obtain ⟨k, hk, rfl⟩ := List.mem_iff_getElem.1 hx
  refine h (k / 64) (by omega) _ (List.mem_iff_getElem?.2 ⟨k % 64, ?_⟩)
  unfold sec
  rw [cut8_at (Nat.mod_lt _ (by decide)), show k / 64 * 64 + k % 64 = k by omega]
  exact List.getElem?_eq_getElem hk
theorem Kp_crash {j : Nat} {ent : List (List Int × Int)} {sure : Nat} {l : Wl} {s : Dk} (h : Kp j ent sure l s) (hj : j ≤ 40) (keep : List Bool) : CrcK.Bytes (crx s keep).now ∧ lmax (dcs (crx s keep)) < 18446744073709551615 ∧ ∃ k, sure ≤ k ∧ k ≤ ent.length ∧ prs l.ep ((dcs (crx s keep)).length + 1) (dcs (crx s keep)) 0 = ((ent.take k).map Prod.fst, tot (ent.take k)) ∧ ∀ X, Kp (j + 1) (ent.take k) k ⟨2, 8, l.ep, lmax (dcs (crx s keep)) + 1, tot (ent.take k), (ent.take k).map Prod.fst, false, X⟩ (crx s keep) := by
  have h' := Kp_mono h (Nat.le_succ j)
  obtain ⟨q1, q2, q3, q4, q5, q6⟩ := crash_sec h.sx keep
  have cn := fun i x => crash_now h.sx keep (i := i) (x := x)
  obtain ⟨s1, hs1⟩ : ∃ s1, s1 = crx s keep := ⟨_, rfl⟩
  rw [← hs1] at q1 q2 q3 q4 q5 q6 cn ⊢
  have pc := PC_mono h.nb q6
  have nb1 : s1.nb = 10 := q2.trans h.nb
  have one : One s1 := fun i c => ⟨fun ⟨hi, x, hx, hc⟩ => ⟨hi, by rw [← hc, (cn _ x).1 hx]⟩, fun ⟨hi, hc⟩ => ⟨hi, _, now_poss q1 (by omega), hc.symm⟩⟩
  have by1 : ∀ i, i < 40 → CrcK.Bytes (sec s1 i) := fun i hi => h.by_ i _ hi (q6 i _ (by rw [h.nb]; exact hi) (now_poss q1 (by omega)))
  have mem : ∀ c ∈ dcs s1, ∃ i, i < 32 ∧ c = decZ (sec s1 (8 + i)) := fun c hc => by
    obtain ⟨i, hi⟩ := List.mem_iff_getElem?.1 hc
    have h1 : i < 32 := by rw [← dcs_len s1]; exact (List.getElem?_eq_some_iff.1 hi).1
    rw [dcs_at s1 h1] at hi
    exact ⟨i, h1, (Option.some.inj hi).symm⟩
  have hC : ∀ c ∈ dcs s1, CellOk c := fun c hc => by
    obtain ⟨i, hi, rfl⟩ := mem c hc
    exact decZ_ok (by1 _ (by omega))
  have hlv : ∀ c ∈ dcs s1, c.f1 ≤ l.li := fun c hc => by
    obtain ⟨i, hi, e⟩ := mem c hc
    exact (h.e0 i c (pc i c ((one i c).2 ⟨hi, e⟩))).2
  have hli := h.li
  have hlm := lmax_bd hlv (by omega)
  have lv : ∀ i, i < 32 → (decZ (sec s1 (8 + i))).f1 ≤ lmax (dcs s1) := fun i hi => lmax_at (List.mem_of_getElem? (dcs_at s1 hi))
  obtain ⟨k, k1, k2, k3, k4, k5⟩ := prs_Rd one hC pc ent ((dcs s1).length + 1) 0 sure 0 (by rw [dcs_len]; omega) (fun e he => (h.es e he).1) h.rd h.su h.sl (by have := h.e32; have := h.en; omega)
  rw [List.drop_zero] at k3
  refine ⟨sec_bytes (by rw [q1.1.1.now, nb1]) by1, by omega, k, k1, k2, k3, fun X => ?_⟩
  have t1 := tot_take ent k
  have hen := h.en
  have he32 := h.e32
  have lvs := Lay_lives lv (ent.take k) 0 (by omega) (fun e he => (h.es e (List.mem_of_mem_take he)).1) k5
  have no : ∀ i c, PC s1 i c → c.f1 = lmax (dcs s1) + 1 → False := fun i c hc h1 => by
    obtain ⟨hi, e⟩ := (one i c).1 hc
    have := lv i hi
    rw [← e] at this
    omega
  exact ⟨q1, nb1, fun i x hi hx => h.by_ i x hi (q6 i x (by rw [h.nb]; exact hi) hx), by rw [q3]; exact Nat.zero_le _, rfl, rfl, rfl, by have := h'.rl; rw [List.length_take]; omega, rfl, by show tot (ent.take k) ≤ 32; omega, h'.ep, ⟨by show 1 ≤ lmax (dcs s1) + 1; omega, by show lmax (dcs s1) + 1 ≤ 1 + ((j + 1 : Nat) : Int); omega⟩, fun i c hc => ⟨(h.e0 i c (pc i c hc)).1, by obtain ⟨hi, e⟩ := (one i c).1 hc; have := lv i hi; rw [← e] at this; show c.f1 ≤ lmax (dcs s1) + 1; omega⟩, fun e he => ⟨(h.es e (List.mem_of_mem_take he)).1, by have := lvs e he; show e.2 ≤ lmax (dcs s1) + 1; omega⟩, fun e he => h.e6 e (List.mem_of_mem_take he), k4, Su_of (fun i c hc => ((one i c).1 hc).2) _ _ 0 k5, by rw [List.length_take]; omega, fun _ => ⟨k5, fun i c _ hc _ h1 => (no i c hc h1).elim, fun i c _ hc _ h1 => no i c hc h1⟩⟩
/- A row of all records, beside a log. -/
theorem JO_grownD {w0 w w' : World} {q g : Nat} {s : Dk} {O : Nat → Prop} (h : JO w0 w q s O) (hO : O g) (hg : w0.heap.size ≤ g) (hw : w.grownBy w' (some g)) : JO w0 w' q s (fun k => O k ∨ (w.heap.size ≤ k ∧ k < w'.heap.size)) := by
  obtain ⟨a, b, v, h1, h2, h3⟩ := h
  have hn := (h3 g hO).2
  have far : ∀ k, k < w.heap.size → k ≠ g → w'.heap[k]? = w.heap[k]? := fun k hl hk => hw.block k hl (fun e => hk (by injection e))
  have hsz := hw.size
  refine ⟨a, b, v, ⟨(far q (blk_lt h1.box) (fun e => hn (.inl e.symm))).trans h1.box, (far a (blk_lt h1.now) (fun e => hn (.inr (.inl e.symm)))).trans h1.now, (far b (blk_lt h1.safe) (fun e => hn (.inr (.inr (.inl e.symm))))).trans h1.safe, Kd.R_mono (Kd.R_move (Kd.R_tight rfl h1.pend) (fun k hk => far k (dS_lt h1 (.inr (.inr (.inr hk)))) (fun e => hn (by rw [← e]; exact .inr (.inr (.inr hk)))))) (fun _ _ => trivial), h1.ne, h1.hp, h1.hn, h1.hf, h1.ok⟩, pw_below_grown h2 _ (below_size h2) hw (fun k e => by injection e with e; rw [← e]; exact hg), fun k hk => hk.elim (fun hk => ⟨Nat.lt_of_lt_of_le (h3 k hk).1 hsz, (h3 k hk).2⟩) (fun hk => ⟨hk.2, fun e => by have := dS_lt h1 e; omega⟩)⟩
theorem LG_grow {w0 w w' : World} {p q : Nat} {l : Wl} {s : Dk} {O : Nat → Prop} (h : LG w0 p q l s O w) {row : Option Nat} (hg : w.grownBy w' row) (hX : ∀ g, row = some g → l.X g ∧ g ≠ p ∧ w0.heap.size ≤ g) : LG w0 p q l s O w' ∧ JO w0 w' q s (fun k => O k ∨ (w.heap.size ≤ k ∧ k < w'.heap.size)) := by
  obtain ⟨A, n, c, OV, h⟩ := h
  have hj : JO w0 w' q s (fun k => O k ∨ (w.heap.size ≤ k ∧ k < w'.heap.size)) := by
    cases row with
    | none => exact JO_deep h.d (pw_below_grown (Below.refl _ _) none (Nat.le_refl _) hg (fun k hk => by cases hk))
    | some g => exact JO_grownD h.d (h.xo g (hX g rfl).1) (hX g rfl).2.2 hg
  have hp : p < w.heap.size := JO_O h.d h.op
  exact ⟨⟨A, n, c, OV, JO_mono hj (fun _ hk => .inl hk), (hg.block p hp (fun e => (hX p e.symm).2.1 rfl)).trans h.box, h.op, h.lp, h.ov, Kd.V_step h.v (fun k hk hlt => hg.block k hlt (fun e => (h.ov k hk).2.2 (hX k e.symm).1)), h.hn, h.xo⟩, hj⟩
theorem apx_X (l : Wl) (s : Dk) (b : List Int) : (apx l s b).1.X = l.X := by
  unfold apx
  repeat' split
  all_goals rfl
theorem syx_X (l : Wl) (s : Dk) : (syx l s).1.X = l.X := by
  unfold syx
  split <;> rfl
theorem rex_X (l : Wl) (e : Int) : (rex l e).1.X = l.X := by
  unfold rex
  repeat' split
  all_goals rfl
structure KM (w1 : World) (p q : Nat) (l : Wl) (s : Dk) (O : Nat → Prop) (A : Option Addr) (n c : Nat) (S : Nat → Prop) (all : List (List Int)) (W : World) : Prop where
  g : LG w1 p q l s O W
  hn : n = all.length
  a : (Kd.N kL 27 W w1.heap.size S (.slice A n c) all ∧ ∀ k, (Value.slice A n c).ownBlock = some k → l.X k) ∨ (n = c ∧ Kd.V kL 27 W w1.heap.size S (.slice A n c) all)
  hs : ∀ k, S k → (O k ∧ k ≠ p) ∨ k < w1.heap.size
section
variable {w1 W W' : World} {p p' q n c : Nat} {l l' : Wl} {s s' : Dk} {O O' S : Nat → Prop} {A : Option Addr} {all : List (List Int)}
theorem KM_act (h : KM w1 p q l s O A n c S all W) (hG : LG w1 p' q l' s' O' W') (hX : l'.X = l.X) (hO : ∀ k, O k → O' k) (hp : ∀ k, O k → k ≠ p → k ≠ p') (hk : ∀ k, O k → k ≠ p → W'.heap[k]? = W.heap[k]?) : KM w1 p' q l' s' O' A n c S all W' := by
  have st : ∀ k, S k → k < W.heap.size → W'.heap[k]? = W.heap[k]? := fun k hs _ => by
    rcases h.hs k hs with ⟨h1, h2⟩ | h1
    · exact hk k h1 h2
    · exact ((LG_below hG).block k h1).trans ((LG_below h.g).block k h1).symm
  refine ⟨hG, h.hn, ?_, fun k hs => (h.hs k hs).imp (fun h1 => ⟨hO k h1.1, hp k h1.1 h1.2⟩) id⟩
  rcases h.a with ⟨h1, h2⟩ | ⟨h1, h2⟩
  · exact .inl ⟨Kd.N_step h1 st, fun k hk => by rw [hX]; exact h2 k hk⟩
  · exact .inr ⟨h1, Kd.V_step h2 st⟩
theorem LG_O (h : LG w1 p q l s O W) {k : Nat} (hk : O k) : k < W.heap.size := JO_O (LG_d h) hk
theorem LG_deep (h : LG w1 p q l s O W) (hb : Below W.heap.size W W') : LG w1 p q l s (fun k => O k ∨ (W.heap.size ≤ k ∧ k < W'.heap.size)) W' := by
  obtain ⟨A, n, c, OV, h⟩ := h
  exact ⟨A, n, c, OV, LX_deep h hb⟩
theorem KM_step (h : KM w1 p q l s O A n c S all W) (hb : Below W.heap.size W W') : KM w1 p q l s O A n c S all W' :=
  KM_act h (LG_step h.g hb) rfl (fun _ hk => hk) (fun _ _ hk => hk) (fun k hk _ => hb.block k (LG_O h.g hk))
theorem KM_deep (h : KM w1 p q l s O A n c S all W) (hb : Below W.heap.size W W') : KM w1 p q l s (fun k => O k ∨ (W.heap.size ≤ k ∧ k < W'.heap.size)) A n c S all W' :=
  KM_act h (LG_deep h.g hb) rfl (fun _ hk => .inl hk) (fun _ _ hk => hk) (fun k hk _ => hb.block k (LG_O h.g hk))
theorem KM_V (h : KM w1 p q l s O A n c S all W) : Kd.V kL 27 W w1.heap.size S (.slice A n c) all := h.a.elim (fun h => Kd.N_V h.1) (fun h => h.2)
theorem KM_C (h : KM w1 p q l s O A n c S all W) : n ≤ c ∧ Kd.C kL W A all.length all := by
  obtain ⟨_, h2, h3⟩ := Kd.V_at (KM_V h)
  exact ⟨h2, Kd.F_now h3⟩
theorem KM_take (h : KM w1 p q l s O A n c S all W) {k : Nat} (hk : k ≤ all.length) : KM w1 p q l s O A k k S (all.take k) W := by
  obtain ⟨_, h2, h3⟩ := Kd.V_at (KM_V h)
  have e : (all.take k).length = k := by rw [List.length_take]; omega
  refine ⟨h.g, e.symm, .inr ⟨rfl, ?_⟩, h.hs⟩
  have := Kd.V_mk (d := kL) (e := 27) (W := W) (base := w1.heap.size) (ok := S) (A := A) (c := k) (xs := all.take k) (by rw [e]; exact Nat.le_refl _) (fun W' hW => Kd.C_take (h3 W' hW) hk)
  rw [e] at this
  exact this
theorem FK_script {A2 : Option Addr} {c2 : Nat} {b : List Int} (hC : Kd.C (Kd.int .u8) w1 A2 b.length b) (hc : b.length ≤ c2) (hB : Below w1.heap.size w1 W) : Kd.FK kL W (fun k => k < w1.heap.size) b [.slice A2 b.length c2] := by
  intro W' hW
  exact ⟨A2, c2, rfl, hc, (Kd.heap_int .u8).C (fun k hk => (hW k hk (Nat.lt_of_lt_of_le hk (below_size hB))).trans (hB.block k hk)) hC⟩
theorem one_VS {A2 : Option Addr} {c2 : Nat} {b : List Int} (hC : Kd.C (Kd.int .u8) w1 A2 b.length b) (hc : b.length ≤ c2) (hB : Below w1.heap.size w1 W) : Kd.V kL 27 (W.alloc (.cells #[.slice A2 b.length c2] 27)) w1.heap.size (fun k => k < w1.heap.size ∨ W.heap.size ≤ k) (.slice (some ⟨W.heap.size, 0, none⟩) 1 1) [b] := by
  refine Kd.V_mk (xs := [b]) (Nat.le_refl _) (fun W' hW => ?_)
  have hb := blk_new W (.cells #[.slice A2 b.length c2] 27)
  have hb' := (hW _ (.inr (Nat.le_refl _)) (blk_lt hb)).trans hb
  have hB2 := below_alloc hB (.cells #[.slice A2 b.length c2] 27)
  have hC' := (Kd.heap_int .u8).C (w1 := W') (fun k hk => (hW k (.inl hk) (Nat.lt_of_lt_of_le hk (below_size hB2))).trans (hB2.block k hk)) hC
  refine ⟨rfl, by show 1 ≤ 9223372036854775807; omega, fun _ => ⟨⟨W.heap.size, 0, none⟩, rfl, fun j p hj => ?_⟩⟩
  cases j with
  | zero =>
    have e : b = p := by simpa using hj
    subst e
    refine ⟨[.slice A2 b.length c2], rfl, ⟨A2, c2, rfl, hc, hC'⟩, fun i u hu => ?_⟩
    cases i with
    | zero =>
      have e : u = .slice A2 b.length c2 := by simpa using hu.symm
      subst e
      have := (blk_cell hb' 0).trans (rfl : #[Value.slice A2 b.length c2][0]? = some (.slice A2 b.length c2))
      simpa [Addr.add] using this
    | succ i => simp at hu
  | succ j => simp at hj
theorem append_full_list {P : Program} {ops : Array Oper} {rest : List Oper} {o : Oper} {a : Act} {Q : Exit → Act → World → Prop} {α : Type} (d : Kd α) {w0 W : World} (base : Nat) (hgd : o.guard = none) (s x : Operand) (t e : TypeId) (z : Value) (bytes : Nat)
    (ho : o.op = .call { callee := .builtin .append, args := #[s, x], argTypes := #[t, t] })
    (ht : P.underlying t = some (.slice e)) (hinfo : (P.info? e).map (fun i => (i.zero, i.size, i.bytes)) = some (some z, d.sz, bytes)) (hz : z.cells.size = d.sz) (hs0 : 0 < d.sz)
    (xs ys : List α) (A : Option Addr) (n : Nat) (B : Option Addr) (m c : Nat) (ok okp : Nat → Prop) (hs : a.eval s = .slice A n n) (hx : a.eval x = .slice B m c) (hm : 0 < m)
    (HX : Kd.V d e W base okp (.slice A n n) xs) (HY : Kd.V d e W base okp (.slice B m c) ys) (hokp : ∀ k, okp k → ok k) (hfresh : ∀ k, W.heap.size ≤ k → ok k)
    (HB : Below base w0 W) (hbase : base ≤ W.heap.size) (hl : (n + m) * bytes ≤ 140737488355328) (hl2 : n + m ≤ 1000000000000000)
    (h : ∀ v1 w1, Kd.N d e w1 base ok v1 (xs ++ ys) → Below base w0 w1 → Below W.heap.size W w1 → (∀ k, v1.ownBlock = some k → W.heap.size ≤ k) → wpList P ops Q rest (a.put o.dst v1) w1) :
    wpList P ops Q (o :: rest) a W := by
  have hw : Region.wanted o (yielded ops a.tmps) = true := by unfold Region.wanted; rw [hgd]
  unfold wpList
  rw [if_pos hw]
  refine .inl ?_
  obtain ⟨i, hi, hzz⟩ := Option.map_eq_some_iff.1 hinfo
  simp only [Prod.mk.injEq] at hzz
  obtain ⟨hz1, hsz, hby⟩ := hzz
  have nx := (Kd.V_reads' HX).1
  have ny := (Kd.V_reads' HY).1
  obtain ⟨cx, lx, rx, ax, ox⟩ := V_cells HX
  obtain ⟨cy, ly, ry, ay, oy⟩ := V_cells HY
  obtain ⟨ad, rfl, hay⟩ := ay (by omega)
  have hrun : ∃ v' w', (Builtin.append_ #[t, t] o.type #[.slice A n n, .slice (some ad) m c]).run P W = .ok v' w' ∧ w'.ownsRow W.heap.size e d.sz v' (n + m) (cx ++ cy) ∧ W.grownBy w' none := by
    rcases Nat.eq_zero_or_pos n with h0 | hp
    · cases A with
      | some b =>
        have hcx : cx = [] := List.eq_nil_of_length_eq_zero (by rw [lx, ← nx, h0, Nat.zero_mul])
        exact run_append_arg_grows (P := P) W t o.type e i z d.sz bytes ht hi hz1 hsz hby hz hs0 b n n cx (by rw [lx, ← nx]) (fun j u hj => by rw [hcx] at hj; cases hj) ad m c cy (by rw [ly, ← ny]) hay (by omega) (by unfold maxLen; omega) hl
      | none =>
        have hcx : cx = [] := List.eq_nil_of_length_eq_zero (by rw [lx, ← nx, h0, Nat.zero_mul])
        subst h0
        subst hcx
        obtain ⟨v', w', hrun, r1, r2, _⟩ := run_append_own (P := P) W W.heap.size t o.type e i z d.sz bytes ht hi hz1 hsz hby hz hs0 (.slice none 0 0) 0 [] (World.ownsRow_nil W _ e d.sz) ad m c cy (by rw [ly, ← ny]) hay oy (by unfold maxLen; omega) hl (Nat.le_refl _)
        exact ⟨v', w', hrun, r1, r2⟩
    · obtain ⟨b, rfl, hax⟩ := ax (by omega)
      exact run_append_arg_grows (P := P) W t o.type e i z d.sz bytes ht hi hz1 hsz hby hz hs0 b n n cx (by rw [lx, ← nx]) hax ad m c cy (by rw [ly, ← ny]) hay (by omega) (by unfold maxLen; omega) hl
  obtain ⟨v', w', hrun, hown, hgr⟩ := hrun
  unfold Oper.wp
  simp [execOp, ho, resolve, invoke, builtin, hs, hx, hrun, Result.andThen]
  exact h v' w' (N_of_own (xs := xs ++ ys) (cs := cx ++ cy) (okp := okp) (by rw [List.length_append, ← nx, ← ny]; exact hown) (reps_app rx ry) hgr hbase hokp hfresh) (pw_below_grown HB none hbase hgr (fun k hk => by cases hk)) (pw_below_grown (Below.refl _ _) none (Nat.le_refl _) hgr (fun k hk => by cases hk)) (own_base hown)
theorem KM_append {ops : Array Oper} {rest : List Oper} {o : Oper} {a : Act} {Q : Exit → Act → World → Prop} (hgd : o.guard = none) (sO xO : Operand) (ho : o.op = .call { callee := .builtin .append, args := #[sO, xO], argTypes := #[46, 46] })
    (h : KM w1 p q l s O A n c S all W) (A2 : Option Addr) (c2 : Nat) (b : List Int) (hC : Kd.C (Kd.int .u8) w1 A2 b.length b) (hc2 : b.length ≤ c2) (hn : all.length ≤ 1000) (hs : a.eval sO = .slice A n c) (hx : a.eval xO = .slice (some ⟨W.heap.size, 0, none⟩) 1 1)
    (K : ∀ A' n' c' S' O' X' w', KM w1 p q {l with X := X'} s O' A' n' c' S' (all ++ [b]) w' → wpList Try.prog ops Q rest (a.put o.dst (.slice A' n' c')) w') :
    wpList Try.prog ops Q (o :: rest) a (W.alloc (.cells #[.slice A2 b.length c2] 27)) := by
  have hB := LG_below h.g
  have hsz := below_size hB
  have hpl : p < W.heap.size := by
    obtain ⟨_, _, _, _, hx⟩ := h.g
    exact LG_O h.g hx.op
  have fin : ∀ (v1 : Value) (w2 : World) (ok : Nat → Prop), (∀ k, ok k → S k ∨ k < w1.heap.size ∨ W.heap.size ≤ k) → Kd.N kL 27 w2 w1.heap.size ok v1 (all ++ [b]) → LG w1 p q l s O w2 → JO w1 w2 q s (fun k => O k ∨ (W.heap.size ≤ k ∧ k < w2.heap.size)) → (∀ k, v1.ownBlock = some k → l.X k ∨ W.heap.size ≤ k) → wpList Try.prog ops Q rest (a.put o.dst v1) w2 := fun v1 w2 ok hok hN hG hj hat => by
    obtain ⟨A', c', e⟩ := Kd.N_slice hN
    subst e
    have hlt := Kd.N_lt hN
    refine K A' _ c' (fun k => ok k ∧ k < w2.heap.size) (fun k => O k ∨ (W.heap.size ≤ k ∧ k < w2.heap.size)) (fun k => (Value.slice A' (all ++ [b]).length c').ownBlock = some k) w2 ⟨?_, rfl, .inl ⟨Kd.N_bound hN, fun k hk => hk⟩, fun k hk => ?_⟩
    · refine LG_X hG _ (fun k hk => (hat k hk).imp id (fun h1 h2 => ?_)) (fun k hk => ?_) (fun k hk => .inl hk) hj
      · have := LG_O h.g h2
        omega
      · rcases hat k hk with h1 | h1
        · obtain ⟨_, _, _, _, hxx⟩ := hG
          exact .inl (hxx.xo k h1)
        · exact .inr ⟨h1, hlt k hk⟩
    · rcases hok k hk.1 with h1 | h1 | h1
      · exact (h.hs k h1).imp (fun h2 => ⟨.inl h2.1, h2.2⟩) id
      · exact .inr h1
      · exact .inl ⟨.inr ⟨h1, hk.2⟩, by omega⟩
  have hnn := h.hn
  rcases h.a with ⟨hN, hX⟩ | ⟨hnc, hV⟩
  · refine Kd.N_append kL (w0 := w1) w1.heap.size hgd sO xO 46 27 (.slice none 0 0) 24 ho Try.underlying46 info27w rfl (by decide) (by omega) (.slice A n c) all b _ (fun k => S k ∨ k < w1.heap.size ∨ W.heap.size ≤ k) (fun k => k < w1.heap.size) hs hx (FK_script hC hc2 hB) (fun k hk => ⟨.inr (.inl hk), fun e => ?_⟩) (fun k hk => .inr (.inr hk)) (Kd.N_mono hN (fun k hk => .inl hk)) hB hsz (by omega) ?_
    · have := Kd.N_base hN k e.symm
      omega
    · intro v1 w2 hN2 hB2 hg2 hat
      obtain ⟨g1, g2⟩ := LG_grow h.g hg2 (fun g hg => ⟨hX g hg, by
        rcases h.hs g (hN.1 g hg) with h1 | h1
        · exact h1.2
        · have := Kd.N_base hN g hg
          omega, Kd.N_base hN g hg⟩)
      refine fin v1 w2 _ (fun _ hk => hk) hN2 g1 g2 (fun k hk => ?_)
      rcases hat with h1 | ⟨b', h1, h2⟩
      · exact .inl (hX k (by rw [← h1]; exact hk))
      · rw [h1] at hk
        injection hk with hk
        exact .inr (by omega)
  · subst hnc
    have ba := below_alloc (Below.refl W.heap.size W) (.cells #[.slice A2 b.length c2] 27)
    refine append_full_list (W := W.alloc (.cells #[.slice A2 b.length c2] 27)) kL (w0 := w1) w1.heap.size hgd sO xO 46 27 (.slice none 0 0) 24 ho Try.underlying46 info27w rfl (by decide) all [b] A n (some ⟨W.heap.size, 0, none⟩) 1 1 (fun k => S k ∨ k < w1.heap.size ∨ W.heap.size ≤ k) (fun k => S k ∨ k < w1.heap.size ∨ W.heap.size ≤ k) hs hx (by decide) (Kd.V_mono (Kd.V_below hV ba) (fun _ hk => .inl hk)) (Kd.V_mono (one_VS hC hc2 hB) (fun _ hk => .inr hk)) (fun _ hk => hk) (fun k hk => .inr (.inr (Nat.le_trans ba.size hk))) (below_alloc hB _) (Nat.le_trans hsz ba.size) (by omega) (by omega) ?_
    intro v1 w2 hN2 hB2 hb2 hat
    have hb := below_step ba hb2
    exact fin v1 w2 _ (fun _ hk => hk) hN2 (LG_step h.g hb) (JO_deep (LG_d h.g) hb) (fun k hk => .inr (Nat.le_trans ba.size (hat k hk)))
end
/- WalKeeps. -/
theorem same17_l (l : List (List Int)) (hl : l.length ≤ 100000) : ∀ m j : Nat, j + m = l.length → ∃ k, marginaliaref17_Same.l0 k l l (j : Int) = some true
  | 0, j, hj => ⟨1, by unfold marginaliaref17_Same.l0; rw [if_neg (by omega)]⟩
  | m + 1, j, hj => by
    obtain ⟨k, hk⟩ := same17_l l hl m (j + 1) (by omega)
    refine ⟨k + 1, ?_⟩
    unfold marginaliaref17_Same.l0
    rw [if_pos (by omega), if_pos (by omega), if_pos (by omega), if_pos rfl, show wrap64 ((j : Int) + 1) = ((j + 1 : Nat) : Int) by unfold wrap64; omega]
    exact hk
theorem same17 (l : List (List Int)) (hl : l.length ≤ 100000) : ∃ k, marginaliaref17_Same.f k l l = some true := by
  obtain ⟨k, hk⟩ := same17_l l hl l.length 0 (by omega)
  exact ⟨k, by unfold marginaliaref17_Same.f; rw [if_pos rfl]; exact hk⟩
theorem begins17 (all : List (List Int)) (hl : all.length ≤ 100000) (k : Nat) (hk : k ≤ all.length) : ∃ m, marginalialaw17_begins.f m (all.take k) all = some true := by
  obtain ⟨m, hm⟩ := same17 (all.take k) (by rw [List.length_take]; omega)
  refine ⟨m, ?_⟩
  have e : (all.take k).length = k := by rw [List.length_take]; omega
  unfold marginalialaw17_begins.f
  rw [if_pos (by omega), if_pos (by omega), e, Int.toNat_natCast, hm]
  rfl
theorem bx4 {W : World} {g T : Nat} {a b c d : Value} (h : W.heap[g]? = some (.cells #[a, b, c, d] T (0, 0))) : W.cell? ⟨g, 0, none⟩ = some a ∧ W.cell? ⟨g, 1, none⟩ = some b ∧ W.cell? ⟨g, 2, none⟩ = some c ∧ W.cell? ⟨g, 3, none⟩ = some d :=
  ⟨(blk_cell h 0).trans rfl, (blk_cell h 1).trans rfl, (blk_cell h 2).trans rfl, (blk_cell h 3).trans rfl⟩
theorem apx_ep (l : Wl) (s : Dk) (b : List Int) : (apx l s b).1.ep = l.ep := by
  unfold apx
  repeat' split
  all_goals rfl
theorem syx_ep (l : Wl) (s : Dk) : (syx l s).1.ep = l.ep := by
  unfold syx
  split <;> rfl
theorem Kp_X {j : Nat} {ent : List (List Int × Int)} {sure : Nat} {l : Wl} {s : Dk} (h : Kp j ent sure l s) (X : Nat → Prop) : Kp j ent sure {l with X := X} s :=
  ⟨h.sx, h.nb, h.by_, h.pd, h.fi, h.si, h.rs, h.rl, h.en, h.e32, h.ep, h.li, h.e0, h.es, h.e6, h.rd, h.su, h.sl, h.ok⟩
theorem wrapU_one {e : Int} (h : 0 ≤ e ∧ e ≤ 1000) : IntKind.u64.wrap (e + 1) = e + 1 := by
  simp [IntKind.wrap, IntKind.bits, IntKind.signed]
  try omega
section
variable {w1 W W' : World} {p p' q n c j sure : Nat} {l l' : Wl} {s s' : Dk} {O O' S : Nat → Prop} {A : Option Addr} {all : List (List Int)} {ent : List (List Int × Int)}
theorem KM_nil (h : KM w1 p q l s O A n c S all W) : KM w1 p q l s O none 0 0 (fun _ => False) [] W :=
  ⟨h.g, rfl, .inl ⟨Kd.N_nil _ _ _ _ _, fun k hk => by cases hk⟩, fun _ hk => hk.elim⟩
theorem K_begins (h : KM w1 p q l s O A n c S all W) {k : Nat} (hk : k ≤ all.length) (hl : all.length ≤ 1000) {A8 : Option Addr} {c8 base : Nat} (hR : Kd.R kL 27 W base (fun _ => True) (.slice A8 k c8) (all.take k)) :
    Calls Try.prog 48 #[.slice A8 k c8, .slice A n c] W fun e W' => e = .returned (.bool true) ∧ Drawn0 W W' := by
  obtain ⟨m, hm⟩ := begins17 all (by omega) k hk
  have e : (all.take k).length = k := by rw [List.length_take]; omega
  obtain ⟨_, h2, h3⟩ := Kd.R_reads' hR
  obtain ⟨h4, h5⟩ := KM_C h
  have hn := h.hn
  have := marginalialaw17_begins.calls m A8 c8 (all.take k) A c all true W h3 (by rw [e]; exact h2) h5 (by rw [← hn]; exact h4) hm
  rw [e, ← hn] at this
  exact this
theorem K_same {A8 A9 : Option Addr} {k c8 c9 b8 b9 : Nat} {o8 o9 : Nat → Prop} {rs : List (List Int)} (hk : k = rs.length) (hl : rs.length ≤ 1000) (hR : Kd.R kL 27 W b8 o8 (.slice A8 k c8) rs) (hR9 : Kd.R kL 27 W b9 o9 (.slice A9 k c9) rs) :
    Calls Try.prog 38 #[.slice A8 k c8, .slice A9 k c9] W fun e W' => e = .returned (.bool true) ∧ Drawn0 W W' := by
  subst hk
  obtain ⟨m, hm⟩ := same17 rs (by omega)
  obtain ⟨_, h2, h3⟩ := Kd.R_reads' hR
  obtain ⟨_, h4, h5⟩ := Kd.R_reads' hR9
  exact marginaliaref17_Same.calls m A8 c8 rs A9 c9 rs true W h3 h2 h5 h4 hm
theorem K_sameM (h : KM w1 p q l s O A n c S all W) (hl : all.length ≤ 1000) {A8 : Option Addr} {c8 base : Nat} (hR : Kd.R kL 27 W base (fun _ => True) (.slice A8 n c8) all) :
    Calls Try.prog 38 #[.slice A8 n c8, .slice A n c] W fun e W' => e = .returned (.bool true) ∧ Drawn0 W W' := by
  obtain ⟨m, hm⟩ := same17 all (by omega)
  obtain ⟨h1, h2, h3⟩ := Kd.R_reads' hR
  obtain ⟨h4, h5⟩ := KM_C h
  have hn := h.hn
  subst hn
  exact marginaliaref17_Same.calls m A8 c8 all A c all true W h3 h2 h5 h4 hm
theorem K_Records {m : Nat} {rs : List (List Int)} (h : LG w1 p q l s O W) (hm : m = rs.length) (hrs : l.rs = rs) (hl : rs.length ≤ 1000) (hr : ∀ r ∈ rs, r.length ≤ 600) :
    Calls Try.prog 39 #[.pointer (some ⟨p, 0, none⟩)] W fun e W' => ∃ (A : Option Addr) (c : Nat), e = .returned (.slice A m c) ∧ Kd.R kL 27 W' W.heap.size (fun _ => True) (.slice A m c) rs ∧ Below W.heap.size W W' := by
  subst hrs
  refine (L_Records h (by omega) (fun r hr' => by have := hr r hr'; omega)).mono ?_
  rintro e w' ⟨A, n, c, rfl, hn, hR, hb⟩
  have e : n = m := hn.trans hm.symm
  subst e
  exact ⟨A, c, rfl, hR, hb⟩
theorem K_Append (h : KM w1 p q l s O A n c S all W) (hK : Kp j ent sure l s) (hj : j ≤ 40) (A2 : Option Addr) (c2 : Nat) (b : List Int) (hC : Kd.C (Kd.int .u8) w1 A2 b.length b) (hc2 : b.length ≤ c2) (hby : CrcK.Bytes b) (l' : Wl) (s' : Dk) (e' : Int) (hx : apx l s b = (l', s', e')) :
    Calls Try.prog 45 #[.pointer (some ⟨p, 0, none⟩), .slice A2 b.length c2] W fun e W' => e = .returned (.int .i64 e') ∧ ∃ O', KM w1 p q l' s' O' A n c S all W' ∧ (∀ k, O k → O' k) ∧ ∀ k, O k → k ≠ p → W'.heap[k]? = W.heap[k]? := by
  refine (L_Append h.g (by rw [hK.si]; omega) (by rw [hK.si]; exact hK.e32) (by rw [hK.fi, hK.si, hK.nb]; omega) (by rw [hK.rs, List.length_map]; have := hK.rl; omega) (by have := hK.pd; omega) A2 c2 b.length b rfl hc2 (fun W hW _ => Kd.C_below hC hW) hby l' s' e' hx).mono ?_
  rintro e w' ⟨rfl, ⟨O', ho, hG⟩, hk⟩
  have hX := apx_X l s b
  rw [hx] at hX
  exact ⟨rfl, O', KM_act h hG hX ho (fun _ _ hk => hk) (fun k h1 h2 => hk.2 k ⟨h1, h2⟩), ho, fun k h1 h2 => hk.2 k ⟨h1, h2⟩⟩
theorem K_Sync (h : KM w1 p q l s O A n c S all W) (hK : Kp j ent sure l s) (hj : j ≤ 40) (l' : Wl) (s' : Dk) (e' : Int) (hx : syx l s = (l', s', e')) :
    Calls Try.prog 46 #[.pointer (some ⟨p, 0, none⟩)] W fun e W' => e = .returned (.int .i64 e') ∧ KM w1 p q l' s' O A n c S all W' := by
  refine (L_Sync h.g (by have := hK.pd; omega) l' s' e' hx).mono ?_
  rintro e w' ⟨rfl, hG, hk⟩
  have hX := syx_X l s
  rw [hx] at hX
  exact ⟨rfl, KM_act h hG hX (fun _ hk => hk) (fun _ _ hk => hk) hk⟩
theorem K_Reset (h : KM w1 p q l s O A n c S all W) (ep : Int) (l' : Wl) (e' : Int) (hx : rex l ep = (l', e')) :
    Calls Try.prog 47 #[.pointer (some ⟨p, 0, none⟩), .int .u64 ep] W fun e W' => e = .returned (.int .i64 e') ∧ KM w1 p q l' s O A n c S all W' := by
  refine (L_Reset h.g ep l' e' hx).mono ?_
  rintro e w' ⟨rfl, hG, hk⟩
  have hX := rex_X l ep
  rw [hx] at hX
  exact ⟨rfl, KM_act h hG hX (fun _ hk => hk) (fun _ _ hk => hk) hk⟩
theorem K_Fuse (h : KM w1 p q l s O A n c S all W) (k : Int) :
    Calls Try.prog 26 #[.pointer (some ⟨q, 0, none⟩), .int .i64 k] W fun e W' => e = .returned (.tuple #[]) ∧ KM w1 p q l (fzx s k) O A n c S all W' := by
  refine (JO_Fuse (LG_d h.g) k).mono ?_
  rintro e w' ⟨rfl, hj, hk⟩
  exact ⟨rfl, KM_act h (LG_act h.g hj hk) rfl (fun _ hk => hk) (fun _ _ hk => hk) (fun k h1 _ => hk.2 k h1)⟩
theorem K_Crash (h : KM w1 p q l s O A n c S all W) (hK : Kp j ent sure l s) (hj : j ≤ 40) (A3 : Option Addr) (c3 : Nat) (keep : List Bool) (hC : Kd.C Kd.bool w1 A3 keep.length keep) :
    Calls Try.prog 21 #[.pointer (some ⟨q, 0, none⟩), .slice A3 keep.length c3] W fun e W' => e = .returned (.tuple #[]) ∧ KM w1 p q l (crx s keep) O A n c S all W' := by
  refine (JO_Crash (LG_d h.g) (by have := hK.pd; omega) A3 c3 keep (fun W hW => Kd.C_below hC hW)).mono ?_
  rintro e w' ⟨rfl, hj, hk⟩
  exact ⟨rfl, KM_act h (LG_act h.g hj hk) rfl (fun _ hk => hk) (fun _ _ hk => hk) (fun k h1 _ => hk.2 k h1)⟩
theorem O_Open (h : JO w1 W q s O) (X : Nat → Prop) (hX : ∀ k, X k → O k) (hby : CrcK.Bytes s.now) (ho : s.of = false) (hn : s.nb = 10) (ep : Int) (hlm : lmax (dcs s) < 18446744073709551615) (rs : List (List Int)) (en : Nat) (hp : prs ep ((dcs s).length + 1) (dcs s) 0 = (rs, en)) :
    Calls Try.prog 35 #[.pointer (some ⟨q, 0, none⟩), .int .i64 2, .int .i64 8, .int .u64 ep] W fun e W' => ∃ p', e = .returned (.tuple #[.pointer (some ⟨p', 0, none⟩), .int .i64 0]) ∧ LG w1 p' q ⟨2, 8, ep, lmax (dcs s) + 1, en, rs, false, X⟩ s (fun k => O k ∨ (W.heap.size ≤ k ∧ k < W'.heap.size)) W' ∧ W.heap.size ≤ p' ∧ Below W.heap.size W W' := by
  refine L_Open0 h X hX hby ho 2 8 ep (by omega) (by omega) (by omega) (dcs s) rfl _ (fun e => by omega) (fun _ p w' l' e hG hle hb => ?_)
  rw [hp] at e
  subst e
  exact ⟨p, rfl, hG, hle, hb⟩
theorem K_Open (h : KM w1 p q l s O A n c S all W) (hby : CrcK.Bytes s.now) (ho : s.of = false) (hn : s.nb = 10) (ep : Int) (hlm : lmax (dcs s) < 18446744073709551615) (rs : List (List Int)) (en : Nat) (hp : prs ep ((dcs s).length + 1) (dcs s) 0 = (rs, en)) :
    Calls Try.prog 35 #[.pointer (some ⟨q, 0, none⟩), .int .i64 2, .int .i64 8, .int .u64 ep] W fun e W' => ∃ p' O', e = .returned (.tuple #[.pointer (some ⟨p', 0, none⟩), .int .i64 0]) ∧ KM w1 p' q ⟨2, 8, ep, lmax (dcs s) + 1, en, rs, false, l.X⟩ s O' A n c S all W' := by
  have hx : ∀ k, l.X k → O k := by
    obtain ⟨_, _, _, _, hx⟩ := h.g
    exact hx.xo
  refine (O_Open (LG_d h.g) l.X hx hby ho hn ep hlm rs en hp).mono ?_
  rintro e w' ⟨p', rfl, hG, hle, hb⟩
  exact ⟨p', _, rfl, KM_act h hG rfl (fun k hk => .inl hk) (fun k hk _ e => by have := LG_O h.g hk; omega) (fun k hk _ => hb.block k (LG_O h.g hk))⟩
end
set_option maxRecDepth 20000 in
set_option maxHeartbeats 40000000 in
theorem law_WKeeps (A0 : Option Addr) (c0 : Nat) (l0 : List S79) (w : World) (hr0 : Kd.C k79 w A0 l0.length l0) (hc0 : l0.length ≤ c0) (hb : ∀ x ∈ l0, (∀ b ∈ x.f2, 0 ≤ b ∧ b < 256) ∧ (-9223372036854775808 ≤ x.f1 ∧ x.f1 ≤ 9223372036854775807)) : Calls Try.prog 12 #[.slice A0 l0.length c0] w fun e w' => e = .returned (.bool true) ∧ Below w.heap.size w w' := by
  have HR0 := Aside0.mk hr0
  have HB := Aside0.mk hb
  have m0 := Kd.C_max hr0
  clear hr0 hc0 hb
  go_enter Try.func12, Try.ntmps12
  go_upto_region 3 with (first
    | (go_at_call 14; refine (Z_New _ 10 (by omega) (by omega) 10 rfl).mono ?_; rintro e w1 ⟨q, rfl, hj⟩; have J2 := Aside0.mk hj; clear hj)
    | (go_at_call 35; refine (Z_Open J2.out 2 8 (by omega) (by omega) (by omega) _ _ 1 rfl rfl).mono ?_; rintro e w3 ⟨p, rfl, hg, hb⟩; have G3 := Aside0.mk hg; clear hg hb))
  have F3 := Aside0.mk new_Kp
  have M3 := Aside0.mk (show KM w p q ⟨2, 8, 1, 1, 0, [], false, fun _ => False⟩ (new8 10) _ none 0 0 (fun _ => False) [] w3 from ⟨G3.out, rfl, .inl ⟨Kd.N_nil _ _ _ _ _, fun k hk => by cases hk⟩, fun _ hk => hk.elim⟩)
  clear G3 J2
  go_wp2
  go_loopw [5, 7, 8, 9, 10, 11, 12, 13, 14, 15, 16] (fun v5 v7 v8 v9 v10 v11 v12 v13 v14 v15 v16 wr => ∃ (j p sure n c : Nat) (l : Wl) (s : Dk) (O S : Nat → Prop) (A : Option Addr) (ent : List (List Int × Int)) (ep : Int), v5 = .pointer (some ⟨p, 0, none⟩) ∧ v7 = .slice A n c ∧ v8 = .int .i64 (sure : Int) ∧ v9 = .int .u64 ep ∧ v10 = .int .i64 (j : Int) ∧ j ≤ l0.length ∧ j ≤ 40 ∧ Aside0 (l.ep = ep) ∧ Aside0 (Kp j ent sure l s) ∧ Aside0 (KM w p q l s O A n c S (ent.map Prod.fst) wr)) (fun v5 v7 v8 v9 v10 v11 v12 v13 v14 v15 v16 _ => l0.length - (intOf v10).toNat)
  case atStart => exact ⟨0, p, 0, 0, 0, _, _, _, _, none, [], 1, rfl, rfl, rfl, rfl, rfl, Nat.zero_le _, Nat.zero_le _, ⟨rfl⟩, F3, M3⟩
  case round =>
    clear M3 F3
    obtain ⟨j, p, sure, n, c, l, s, O, S, A, ent, ep, rfl, rfl, rfl, rfl, rfl, hj, hj2, EP, HK, HM⟩ := hrel
    by_cases d0 : j < l0.length ∧ j < 40
    · obtain ⟨d1, d2⟩ := d0
      have d1b : decide (j < l0.length) = true := decide_eq_true d1
      have d2b : decide (j < 40) = true := decide_eq_true d2
      obtain ⟨ad, A2, cc2, A3, cc3, x, rfl, hxe, hy, l2, C2, l3, C3⟩ := act79 HR0.out j d1
      have L2 := Aside0.mk l2
      have C2 := Aside0.mk C2
      have L3 := Aside0.mk l3
      have C3 := Aside0.mk C3
      have BY := Aside0.mk (show CrcK.Bytes x.f2 from fun b hb => by have := (HB.out x (by rw [hxe]; exact List.getElem_mem d1)).1 b hb; omega)
      obtain ⟨y0, y1, y2, y3⟩ := hy _ (LG_below HM.out.g)
      have GP := Aside0.mk (show wr.heap.size ≠ p from by
        obtain ⟨_, _, _, _, hx⟩ := HM.out.g
        have := LG_O HM.out.g hx.op
        omega)
      have M1 := Aside0.mk (KM_deep HM.out (below_alloc (Below.refl wr.heap.size wr) (.cells #[.int .i64 x.f0, .int .i64 x.f1, .slice A2 x.f2.length cc2, .slice A3 x.f3.length cc3] 79)))
      have X1 := Aside0.mk (blk_new wr (.cells #[.int .i64 x.f0, .int .i64 x.f1, .slice A2 x.f2.length cc2, .slice A3 x.f3.length cc3] 79 (0, 0)))
      have GO := Aside0.mk (show wr.heap.size ≤ wr.heap.size ∧ wr.heap.size < (wr.alloc (.cells #[.int .i64 x.f0, .int .i64 x.f1, .slice A2 x.f2.length cc2, .slice A3 x.f3.length cc3] 79)).heap.size from ⟨Nat.le_refl _, blk_lt X1.out⟩)
      clear hy l2 l3 hxe
      by_cases e1 : x.f2.length ≤ 600 ∧ x.f3.length ≤ 400
      · have EV := Aside0.mk (small17 e1)
        have L6 := Aside0.mk e1.1
        clear e1
        go_upto_region 13 with (first | (go_at_call 44; refine (marginalialaw17_Act_small.calls _ _ _ _ _ _ _ _ true _ (Kd.C_below C2.out (LG_below M1.out.g)) L2.out (Kd.C_below C3.out (LG_below M1.out.g)) L3.out EV.out).mono ?_; rintro e w4 ⟨rfl, hb⟩; have M4 := Aside0.mk (KM_step M1.out hb); have X4 := Aside0.mk (blk_below X1.out hb); obtain ⟨z0, z1, z2, z3⟩ := bx4 X4.out; clear hb M1 X1))
        have HM0 := Aside0.mk HM.out.hn
        clear y0 y1 y2 y3 HM
        by_cases t1 : x.f0 = 1
        · have t1b : (x.f0 == 1) = true := by rw [t1]; rfl
          clear t1
          obtain ⟨⟨l', s', e'⟩, hx⟩ : ∃ y, apx l s x.f2 = y := ⟨_, rfl⟩
          have HX := Aside0.mk hx
          have hkp := Kp_append HK.out hj2 BY.out L6.out hx
          clear hx
          by_cases e0 : e' = 0
          · have e0b : (e' == 0) = true := by rw [e0]; rfl
            have K5 := Aside0.mk (hkp.elim (fun h => h.2) (fun h => absurd e0 h.1))
            have EP5 := Aside0.mk (show l'.ep = ep from by have h := apx_ep l s x.f2; rw [HX.out] at h; exact h.trans EP.out)
            clear hkp e0
            go_wp2_with (first
              | (go_at_call 45; refine (K_Append M4.out HK.out hj2 _ _ _ C2.out L2.out BY.out l' s' e' HX.out).mono ?_; rintro e w5 ⟨rfl, O5, hM, ho, hk⟩; have M5 := Aside0.mk hM; have X5 := Aside0.mk ((hk _ (.inr GO.out) GP.out).trans X4.out); obtain ⟨u0, u1, u2, u3⟩ := bx4 X5.out; clear hM ho hk M4 X4 z0 z1 z2 z3)
              | ((with_reducible refine gate_builtin (b := .append) (xs := #[.tmp 62, .tmp 65]) rfl ?_); at_builtin; refine KM_append rfl (.tmp 62) (.tmp 65) rfl M5.out _ _ _ C2.out L2.out (by rw [List.length_map]; have := HK.out.rl; omega) rfl rfl ?_; intro A6 n6 cc6 S6 O6 X6 w6 hM; have M6 := Aside0.mk hM; clear hM M5 X5 u0 u1 u2 u3))
            go_roundw
            case rel => exact ⟨j + 1, p, sure, n6, cc6, {l' with X := X6}, s', O6, S6, A6, ent ++ [(x.f2, l.li)], ep, rfl, rfl, rfl, rfl, by go_num, by omega, by omega, EP5, ⟨Kp_X K5.out X6⟩, ⟨by rw [List.map_append]; exact M6.out⟩⟩
            case measure => simp [intOf]; omega
          · have e0b : (e' == 0) = false := by simpa using e0
            have K5 := Aside0.mk (hkp.elim (fun h => absurd h.1 e0) (fun h => h.2))
            have EP5 := Aside0.mk (show l'.ep = ep from by have h := apx_ep l s x.f2; rw [HX.out] at h; exact h.trans EP.out)
            clear hkp e0
            go_wp2_with (first
              | (go_at_call 45; refine (K_Append M4.out HK.out hj2 _ _ _ C2.out L2.out BY.out l' s' e' HX.out).mono ?_; rintro e w5 ⟨rfl, O5, hM, ho, hk⟩; have M5 := Aside0.mk hM; have X5 := Aside0.mk ((hk _ (.inr GO.out) GP.out).trans X4.out); obtain ⟨u0, u1, u2, u3⟩ := bx4 X5.out; clear hM ho hk M4 X4 z0 z1 z2 z3))
            go_roundw
            case rel => exact ⟨j + 1, p, sure, n, c, l', s', O5, S, A, ent, ep, rfl, rfl, rfl, rfl, by go_num, by omega, by omega, EP5, K5, M5⟩
            case measure => simp [intOf]; omega
        by_cases t2 : x.f0 = 2
        · have t1b : (x.f0 == 1) = false := by rw [t2]; rfl
          have t2b : (x.f0 == 2) = true := by rw [t2]; rfl
          clear t2
          obtain ⟨⟨l', s', e'⟩, hx⟩ : ∃ y, syx l s = y := ⟨_, rfl⟩
          have HX := Aside0.mk hx
          have hkp := Kp_sync HK.out hx
          have EP5 := Aside0.mk (show l'.ep = ep from by have h := syx_ep l s; rw [hx] at h; exact h.trans EP.out)
          have NL := Aside0.mk (show n = ent.length from by rw [HM0.out, List.length_map])
          clear hx
          by_cases e0 : e' = 0
          · have e0b : (e' == 0) = true := by rw [e0]; rfl
            have K5 := Aside0.mk (hkp.elim (fun h => h.2) (fun h => absurd e0 h.1))
            rw [← NL.out] at K5
            clear hkp e0
            go_wp2_with (first
              | (go_at_call 46; refine (K_Sync M4.out HK.out hj2 l' s' e' HX.out).mono ?_; rintro e w5 ⟨rfl, hM⟩; have M5 := Aside0.mk hM; clear hM M4 X4 z0 z1 z2 z3))
            go_roundw
            case rel => exact ⟨j + 1, p, n, n, c, l', s', _, S, A, ent, ep, rfl, rfl, rfl, rfl, by go_num, by omega, by omega, EP5, K5, M5⟩
            case measure => simp [intOf]; omega
          · have e0b : (e' == 0) = false := by simpa using e0
            have K5 := Aside0.mk (hkp.elim (fun h => absurd h.1 e0) (fun h => h.2))
            clear hkp e0
            go_wp2_with (first
              | (go_at_call 46; refine (K_Sync M4.out HK.out hj2 l' s' e' HX.out).mono ?_; rintro e w5 ⟨rfl, hM⟩; have M5 := Aside0.mk hM; clear hM M4 X4 z0 z1 z2 z3))
            go_roundw
            case rel => exact ⟨j + 1, p, sure, n, c, l', s', _, S, A, ent, ep, rfl, rfl, rfl, rfl, by go_num, by omega, by omega, EP5, K5, M5⟩
            case measure => simp [intOf]; omega
        by_cases t3 : x.f0 = 3
        · have t1b : (x.f0 == 1) = false := by rw [t3]; rfl
          have t2b : (x.f0 == 2) = false := by rw [t3]; rfl
          have t3b : (x.f0 == 3) = true := by rw [t3]; rfl
          clear t3
          obtain ⟨⟨l', e'⟩, hx⟩ : ∃ y, rex l (ep + 1) = y := ⟨_, rfl⟩
          have HX := Aside0.mk hx
          have hkp := Kp_reset (l' := l') (e := e') HK.out (by rw [EP.out]; exact hx)
          have EB := Aside0.mk (show 0 ≤ ep ∧ ep ≤ 1000 from by have h := HK.out.ep; rw [EP.out] at h; omega)
          have we := wrapU_one EB.out
          clear hx
          by_cases e0 : e' = 0
          · have e0b : (e' == 0) = true := by rw [e0]; rfl
            have K5 := Aside0.mk (hkp.elim (fun h => h.2) (fun h => absurd e0 h.1))
            clear hkp e0
            go_wp2_with (first
              | (go_at_call 47; refine (K_Reset M4.out (ep + 1) l' e' HX.out).mono ?_; rintro e w5 ⟨rfl, hM⟩; have M5 := Aside0.mk hM; clear hM M4 X4 z0 z1 z2 z3))
            go_roundw
            case rel => exact ⟨j + 1, p, 0, 0, 0, l', s, _, fun _ => False, none, [], ep + 1, rfl, rfl, rfl, rfl, by go_num, by omega, by omega, ⟨by rw [K5.out.2, EP.out]⟩, ⟨K5.out.1⟩, ⟨KM_nil M5.out⟩⟩
            case measure => simp [intOf]; omega
          · have e0b : (e' == 0) = false := by simpa using e0
            have K5 := Aside0.mk (hkp.elim (fun h => absurd h.1 e0) (fun h => h.2))
            clear hkp e0
            go_wp2_with (first
              | (go_at_call 47; refine (K_Reset M4.out (ep + 1) l' e' HX.out).mono ?_; rintro e w5 ⟨rfl, hM⟩; have M5 := Aside0.mk hM; clear hM M4 X4 z0 z1 z2 z3))
            go_roundw
            case rel => exact ⟨j + 1, p, sure, n, c, l, s, _, S, A, ent, ep, rfl, rfl, rfl, rfl, by go_num, by omega, by omega, EP, ⟨Kp_mono HK.out (Nat.le_succ j)⟩, ⟨by rw [← K5.out]; exact M5.out⟩⟩
            case measure => simp [intOf]; omega
        by_cases t4 : x.f0 = 4
        · have t1b : (x.f0 == 1) = false := by rw [t4]; rfl
          have t2b : (x.f0 == 2) = false := by rw [t4]; rfl
          have t3b : (x.f0 == 3) = false := by rw [t4]; rfl
          have t4b : (x.f0 == 4) = true := by rw [t4]; rfl
          clear t4
          obtain ⟨q1, q2, k, q3, q4, q5, q6⟩ := Kp_crash HK.out hj2 x.f3
          rw [EP.out] at q5 q6
          have QC := Aside0.mk (crash_sec HK.out.sx x.f3)
          have QN := Aside0.mk (show (crx s x.f3).nb = 10 from QC.out.2.1.trans HK.out.nb)
          have Q1 := Aside0.mk q1
          have Q2 := Aside0.mk q2
          have Q3 := Aside0.mk q3
          have Q4 := Aside0.mk q4
          have Q5 := Aside0.mk q5
          have Q6 := Aside0.mk q6
          have EL := Aside0.mk (show ent.length ≤ 40 from by have := HK.out.rl; omega)
          have RK := Aside0.mk (show k = ((ent.take k).map Prod.fst).length from by rw [List.length_map, List.length_take]; omega)
          have R6 := Aside0.mk (show ∀ r ∈ (ent.take k).map Prod.fst, r.length ≤ 600 from fun r hr => by
            obtain ⟨e, he, rfl⟩ := List.mem_map.1 hr
            exact HK.out.e6 e (List.mem_of_mem_take he))
          have RL := Aside0.mk (show ((ent.take k).map Prod.fst).length ≤ 1000 from by rw [← RK.out]; have := Q4.out; have := EL.out; omega)
          have RT := Aside0.mk (show (ent.map Prod.fst).take k = (ent.take k).map Prod.fst from (List.map_take ..).symm)
          have AL := Aside0.mk (show (ent.map Prod.fst).length = ent.length from List.length_map ..)
          have d3 : ¬ k < sure := by omega
          have d3b : decide (k < sure) = false := decide_eq_false d3
          clear q1 q2 q3 q4 q5 q6
          go_upto_region 29 with (first
            | (go_at_call 21; refine (K_Crash M4.out HK.out hj2 _ _ x.f3 C3.out).mono ?_; rintro e w5 ⟨rfl, hM⟩; have M5 := Aside0.mk hM; clear hM M4 X4 z0 z1 z2 z3)
            | (go_at_call 35; refine (K_Open M5.out Q1.out QC.out.2.2.2.1 QN.out ep Q2.out _ _ Q5.out).mono ?_; rintro e w6 ⟨p6, O6, rfl, hM⟩; have M6 := Aside0.mk hM; clear hM M5)
            | (go_at_call 35; refine (O_Open (LG_d M6.out.g) (fun _ => False) (fun _ hk => hk.elim) Q1.out QC.out.2.2.2.1 QN.out ep Q2.out _ _ Q5.out).mono ?_; rintro e w7 ⟨p7, rfl, hG, hle, hb⟩; have M7 := Aside0.mk (KM_step M6.out hb); have G7 := Aside0.mk hG; clear hG hle hb M6))
          go_upto_region 30 with (first
            | (go_at_call 39; refine (K_Records M7.out.g RK.out rfl RL.out R6.out).mono ?_; rintro e w8 ⟨A8, c8, rfl, hR, hb⟩; have M8 := Aside0.mk (KM_step M7.out hb); have G8 := Aside0.mk (LG_step G7.out hb); have R8 := Aside0.mk hR; clear hR hb M7 G7))
          go_upto_region 32 with (first
            | (go_at_call 48; refine (K_begins M8.out (k := k) (by rw [AL.out]; exact Q4.out) (by rw [AL.out]; have := EL.out; omega) (by rw [RT.out]; exact R8.out)).mono ?_; rintro e w9 ⟨rfl, hd⟩; have hb := drawn_below hd; have M9 := Aside0.mk (KM_step M8.out hb); have G9 := Aside0.mk (LG_step G8.out hb); have R9 := Aside0.mk (Kd.R_below R8.out hb); clear hd hb M8 G8 R8)
            | (go_at_call 39; refine (K_Records G9.out RK.out rfl RL.out R6.out).mono ?_; rintro e w10 ⟨A10, c10, rfl, hR, hb⟩; have M10 := Aside0.mk (KM_step M9.out hb); have R10 := Aside0.mk hR; have T10 := Aside0.mk (Kd.R_below R9.out hb); clear hR hb M9 G9 R9)
            | (go_at_call 38; refine (K_same RK.out RL.out T10.out R10.out).mono ?_; rintro e w11 ⟨rfl, hd⟩; have M11 := Aside0.mk (KM_step M10.out (drawn_below hd)); clear hd M10 T10 R10))
          clear d3 d3b
          obtain ⟨i, hi, _⟩ := Option.map_eq_some_iff.1 info27w
          have cm := cut_max Try.prog 46 27 .i64 .i64 Try.underlying46 hi A n c k (by have := Q4.out; have := AL.out; have := M11.out.hn; omega) (KM_C M11.out).1
          have M12 := Aside0.mk (show KM w p6 q _ _ _ A k k S ((ent.take k).map Prod.fst) w11.drew from by
            have h := KM_take (KM_step M11.out (below_drew (Below.refl _ _))) (k := k) (by rw [AL.out]; exact Q4.out)
            rw [RT.out] at h
            exact h)
          clear hi
          refine start_ (n := 12) (S := fun w' => True) (ds := []) #[false, false, false, false, false, false, false, false, false, false, false, false] (by kernel_rfl) rfl rfl trivial (fun hHeld => ?_)
          refine pure_ (i := 0) (N := some 134) (v := ?_) (a' := ?_) #[true, false, false, false, false, false, false, false, false, false, false, false] rfl rfl (by kernel_rfl) (fun _ _ _ h => h) (Or.inl ⟨by rfl, ?_⟩) ?_ ?_
          rotate_left
          · intro w'
            go_simp
            with_reducible rfl
          rotate_left
          · simp only [Act.put, List.setIfInBounds_toArray, List.set_cons_zero, List.set_cons_succ, i64_w, i32_w]
            rfl
          refine pure_ (i := 1) (N := some 135) (v := ?_) (a' := ?_) #[true, true, false, false, false, false, false, false, false, false, false, false] rfl rfl (by kernel_rfl) (fun _ _ _ h => h) (Or.inl ⟨by rfl, ?_⟩) ?_ ?_
          rotate_left
          · intro w'
            go_simp
            with_reducible rfl
          rotate_left
          · simp only [Act.put, List.setIfInBounds_toArray, List.set_cons_zero, List.set_cons_succ, i64_w, i32_w]
            rfl
          refine pure_ (i := 2) (N := some 136) (v := ?_) (a' := ?_) #[true, true, true, false, false, false, false, false, false, false, false, false] rfl rfl (by kernel_rfl) (fun _ _ _ h => h) (Or.inl ⟨by rfl, ?_⟩) ?_ ?_
          rotate_left
          · intro w'
            go_simp
            with_reducible rfl
          rotate_left
          · simp only [Act.put, List.setIfInBounds_toArray, List.set_cons_zero, List.set_cons_succ, i64_w, i32_w]
            rfl
          refine pure_ (i := 3) (N := some 137) (v := ?_) (a' := ?_) #[true, true, true, true, false, false, false, false, false, false, false, false] rfl rfl (by kernel_rfl) (fun _ _ _ h => h) (Or.inl ⟨by rfl, ?_⟩) ?_ ?_
          rotate_left
          · intro w'
            go_simp
            with_reducible rfl
          rotate_left
          · simp only [Act.put, List.setIfInBounds_toArray, List.set_cons_zero, List.set_cons_succ, i64_w, i32_w]
            rfl
          refine pure_ (i := 4) (N := some 138) (v := ?_) (a' := ?_) #[true, true, true, true, true, false, false, false, false, false, false, false] rfl rfl (by kernel_rfl) (fun _ _ _ h => h) (Or.inl ⟨by rfl, ?_⟩) ?_ ?_
          rotate_left
          · intro w'
            go_simp
            with_reducible rfl
          rotate_left
          · simp only [Act.put, List.setIfInBounds_toArray, List.set_cons_zero, List.set_cons_succ, i64_w, i32_w]
            rfl
          refine pure_ (i := 5) (N := some 139) (v := ?_) (a' := ?_) #[true, true, true, true, true, true, false, false, false, false, false, false] rfl rfl (by kernel_rfl) (fun _ _ _ h => h) (Or.inl ⟨by rfl, ?_⟩) ?_ ?_
          rotate_left
          · intro w'
            go_simp
            with_reducible rfl
          rotate_left
          · simp only [Act.put, List.setIfInBounds_toArray, List.set_cons_zero, List.set_cons_succ, i64_w, i32_w]
            rfl
          refine pure_ (i := 6) (N := some 140) (v := ?_) (a' := ?_) #[true, true, true, true, true, true, true, false, false, false, false, false] rfl rfl (by kernel_rfl) (fun _ _ _ h => h) (Or.inl ⟨by rfl, ?_⟩) ?_ ?_
          rotate_left
          · intro w'
            go_simp
            with_reducible rfl
          rotate_left
          · simp only [Act.put, List.setIfInBounds_toArray, List.set_cons_zero, List.set_cons_succ, i64_w, i32_w]
            rfl
          refine pure_ (i := 7) (N := some 141) (v := ?_) (a' := ?_) #[true, true, true, true, true, true, true, true, false, false, false, false] rfl rfl (by kernel_rfl) (fun _ _ _ h => h) (Or.inl ⟨by rfl, ?_⟩) ?_ ?_
          rotate_left
          · intro w'
            go_simp
            with_reducible rfl
          rotate_left
          · simp only [Act.put, List.setIfInBounds_toArray, List.set_cons_zero, List.set_cons_succ, i64_w, i32_w]
            rfl
          refine pure_ (i := 8) (N := some 142) (v := ?_) (a' := ?_) #[true, true, true, true, true, true, true, true, true, false, false, false] rfl rfl (by kernel_rfl) (fun _ _ _ h => h) (Or.inl ⟨by rfl, ?_⟩) ?_ ?_
          rotate_left
          · intro w'
            go_simp
            with_reducible rfl
          rotate_left
          · simp only [Act.put, List.setIfInBounds_toArray, List.set_cons_zero, List.set_cons_succ, i64_w, i32_w]
            rfl
          refine pure_ (i := 9) (N := some 5) (v := ?_) (a' := ?_) #[true, true, true, true, true, true, true, true, true, true, false, false] rfl rfl (by kernel_rfl) (fun _ _ _ h => h) (Or.inl ⟨by rfl, ?_⟩) ?_ ?_
          rotate_left
          · intro w'
            go_simp
            with_reducible rfl
          rotate_left
          · simp only [Act.put, List.setIfInBounds_toArray, List.set_cons_zero, List.set_cons_succ, i64_w, i32_w]
            rfl
          refine pure_ (i := 10) (N := some 7) (v := ?_) (a' := ?_) #[true, true, true, true, true, true, true, true, true, true, true, false] rfl rfl (by kernel_rfl) (fun _ _ _ h => h) (Or.inl ⟨by rfl, ?_⟩) ?_ ?_
          rotate_left
          · intro w'
            go_simp
            with_reducible rfl
          rotate_left
          · simp only [Act.put, List.setIfInBounds_toArray, List.set_cons_zero, List.set_cons_succ, i64_w, i32_w]
            rfl
          refine pure_ (i := 11) (N := some 8) (v := ?_) (a' := ?_) #[true, true, true, true, true, true, true, true, true, true, true, true] rfl rfl (by kernel_rfl) (fun _ _ _ h => h) (Or.inl ⟨by rfl, ?_⟩) ?_ ?_
          rotate_left
          · intro w'
            go_simp
            with_reducible rfl
          rotate_left
          · simp only [Act.put, List.setIfInBounds_toArray, List.set_cons_zero, List.set_cons_succ, i64_w, i32_w]
            rfl
          refine done_ (by kernel_rfl) ?_
          go_wp2
          go_roundw
          case rel => exact ⟨j + 1, p6, k, k, k, _, _, _, S, A, ent.take k, ep, rfl, rfl, rfl, rfl, by go_num, by omega, by omega, ⟨rfl⟩, ⟨Q6.out _⟩, M12⟩
          case measure => simp [intOf]; omega
        by_cases t5 : x.f0 = 5
        · have t1b : (x.f0 == 1) = false := by rw [t5]; rfl
          have t2b : (x.f0 == 2) = false := by rw [t5]; rfl
          have t3b : (x.f0 == 3) = false := by rw [t5]; rfl
          have t4b : (x.f0 == 4) = false := by rw [t5]; rfl
          have t5b : (x.f0 == 5) = true := by rw [t5]; rfl
          clear t5
          go_wp2_with (first
            | (go_at_call 26; refine (K_Fuse M4.out x.f1).mono ?_; rintro e w5 ⟨rfl, hM⟩; have M5 := Aside0.mk hM; clear hM M4 X4 z0 z1 z2 z3))
          go_roundw
          case rel => exact ⟨j + 1, p, sure, n, c, l, _, _, S, A, ent, ep, rfl, rfl, rfl, rfl, by go_num, by omega, by omega, EP, ⟨Kp_fuse HK.out x.f1⟩, M5⟩
          case measure => simp [intOf]; omega
        have t1b : (x.f0 == 1) = false := by simpa using t1
        have t2b : (x.f0 == 2) = false := by simpa using t2
        have t3b : (x.f0 == 3) = false := by simpa using t3
        have t4b : (x.f0 == 4) = false := by simpa using t4
        have t5b : (x.f0 == 5) = false := by simpa using t5
        clear t1 t2 t3 t4 t5
        go_wp2
        go_roundw
        case rel => exact ⟨j + 1, p, sure, n, c, l, s, _, S, A, ent, ep, rfl, rfl, rfl, rfl, by go_num, by omega, by omega, EP, ⟨Kp_mono HK.out (Nat.le_succ j)⟩, M4⟩
        case measure => simp [intOf]; omega
      · have EV := Aside0.mk (small17n e1)
        clear e1
        go_wp2_with (first | (go_at_call 44; refine (marginalialaw17_Act_small.calls _ _ _ _ _ _ _ _ false _ (Kd.C_below C2.out (LG_below M1.out.g)) L2.out (Kd.C_below C3.out (LG_below M1.out.g)) L3.out EV.out).mono ?_; rintro e w4 ⟨rfl, hb⟩; have M4 := Aside0.mk (KM_step M1.out hb); have X4 := Aside0.mk (blk_below X1.out hb); obtain ⟨z0, z1, z2, z3⟩ := bx4 X4.out; clear hb M1 X1))
        go_roundw
        case rel => exact ⟨j + 1, p, sure, n, c, l, s, _, S, A, ent, ep, rfl, rfl, rfl, rfl, by go_num, by omega, by omega, EP, ⟨Kp_mono HK.out (Nat.le_succ j)⟩, M4⟩
        case measure => simp [intOf]; omega
    · have EL := Aside0.mk (show ent.length ≤ 40 from by have := HK.out.rl; omega)
      have AL := Aside0.mk (show (ent.map Prod.fst).length = ent.length from List.length_map ..)
      have RN := Aside0.mk HM.out.hn
      have RR := Aside0.mk HK.out.rs
      have R6 := Aside0.mk (show ∀ r ∈ ent.map Prod.fst, r.length ≤ 600 from fun r hr => by
        obtain ⟨e, he, rfl⟩ := List.mem_map.1 hr
        exact HK.out.e6 e he)
      have dd : (decide (j < l0.length) && decide (j < 40)) = false := by
        cases h1 : decide (j < l0.length) with
        | false => rfl
        | true => cases h2 : decide (j < 40) with
          | false => rfl
          | true => exact absurd ⟨of_decide_eq_true h1, of_decide_eq_true h2⟩ d0
      clear d0
      by_cases d1 : j < l0.length
      · have d1b : decide (j < l0.length) = true := decide_eq_true d1
        have d2 : ¬ j < 40 := by rw [d1b] at dd; simpa using dd
        have d2b : decide (j < 40) = false := decide_eq_false d2
        clear dd
        go_wp2_with (first
          | (go_at_call 37; refine (L_alive _).mono ?_; rintro e w5 ⟨rfl, hb⟩; have M5 := Aside0.mk (KM_step HM.out hb); clear hb HM)
          | (go_at_call 39; refine (K_Records M5.out.g RN.out RR.out (by rw [AL.out]; have := EL.out; omega) R6.out).mono ?_; rintro e w6 ⟨A6, c6, rfl, hR, hb⟩; have M6 := Aside0.mk (KM_step M5.out hb); have R7 := Aside0.mk hR; clear hR hb M5)
          | (go_at_call 38; refine (K_sameM M6.out (by rw [AL.out]; have := EL.out; omega) R7.out).mono ?_; rintro e w7 ⟨rfl, hd⟩; have M7 := Aside0.mk (KM_step M6.out (drawn_below hd)); clear hd M6))
        go_ret
        exact ⟨rfl, LG_below M7.out.g⟩
      · have d1b : decide (j < l0.length) = false := decide_eq_false d1
        clear dd d1
        go_wp2_with (first
          | (go_at_call 37; refine (L_alive _).mono ?_; rintro e w5 ⟨rfl, hb⟩; have M5 := Aside0.mk (KM_step HM.out hb); clear hb HM)
          | (go_at_call 39; refine (K_Records M5.out.g RN.out RR.out (by rw [AL.out]; have := EL.out; omega) R6.out).mono ?_; rintro e w6 ⟨A6, c6, rfl, hR, hb⟩; have M6 := Aside0.mk (KM_step M5.out hb); have R7 := Aside0.mk hR; clear hR hb M5)
          | (go_at_call 38; refine (K_sameM M6.out (by rw [AL.out]; have := EL.out; omega) R7.out).mono ?_; rintro e w7 ⟨rfl, hd⟩; have M7 := Aside0.mk (KM_step M6.out (drawn_below hd)); clear hd M6))
        go_ret
        exact ⟨rfl, LG_below M7.out.g⟩
end Go.Proofs.Ytepipgneefcoiaa.D
