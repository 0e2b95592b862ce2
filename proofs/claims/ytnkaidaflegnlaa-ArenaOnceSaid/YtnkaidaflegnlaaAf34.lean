/- The functions of the program that these laws reach, each as a plain Lean function, and the proof that the machine's call comes to it; no condition beyond those that each theorem names. Made by wip/xprint.py. -/
import Derived.Test.YtnkaidaflegnlaaAx0
import Derived.Test.YtnkaidaflegnlaaAf13
import Derived.Test.YtnkaidaflegnlaaAf27
import Derived.Test.YtnkaidaflegnlaaAf33
import Derived.Test.YtnkaidaflegnlaaAf35
import Derived.Test.YtnkaidaflegnlaaAf43
import Derived.Test.YtnkaidaflegnlaaAf45
import Derived.Test.YtnkaidaflegnlaaAf64
import Derived.Test.YtnkaidaflegnlaaAf70
import Derived.Test.YtnkaidaflegnlaaAf71
import Derived.Test.YtnkaidaflegnlaaAf73
import Derived.Test.YtnkaidaflegnlaaAf74
import Derived.Test.YtnkaidaflegnlaaAf75
import Derived.Test.YtnkaidaflegnlaaAf76
import Derived.Test.YtnkaidaflegnlaaAf81
import Derived.Test.YtnkaidaflegnlaaAf89
import Derived.Test.YtnkaidaflegnlaaAf90
import Derived.Test.YtnkaidaflegnlaaAf91
import Derived.Test.YtnkaidaflegnlaaAf92
import Derived.Test.YtnkaidaflegnlaaAh
namespace Go.Proofs.Ytnkaidaflegnlaa.A
open Go.RowKit Go.Proofs.YtnkaidaflegnlaaW.PrintWords Go.Proofs.YtnkaidaflegnlaaW.PrintLast Go.Proofs.YtnkaidaflegnlaaW.PrintMore
attribute [local go_sem] max2_int min2_int max_two min_two max_three min_three max_four min_four   -- for this text's walks alone
set_option linter.unusedVariables false
set_option linter.unusedSimpArgs false

/-! ### marginalialaw05_do: function 34: by hand -/
/- All kids of a node go to another one, that is not within it. -/
theorem Fo_move {n : Nat} {pa : Nat → Int} {ki : Nat → List Int} (h : Fo n pa ki) (f q : Nat) (hf : f < n) (hq : q < n) (hs : ¬ Sub pa f q) : Fo n (fun k => if pa k = (f : Int) then (q : Int) else pa k) (upd (upd ki f []) q (ki q ++ ki f)) := by
  obtain ⟨rk, hrk⟩ := h.rk
  have hfq : f ≠ q := fun e => by subst e; exact hs .refl
  have ki_at : ∀ b, upd (upd ki f []) q (ki q ++ ki f) b = if b = q then ki q ++ ki f else if b = f then [] else ki b := fun b => rfl
  refine ⟨h.pos, ?_, fun b hb k hk => ?_, fun c hc => ?_, fun b hb => ?_, ?_⟩
  · skip
    rw [if_neg (by rw [h.root]; omega)]; exact h.root
  · rw [ki_at] at hk
    by_cases e : b = q
    · subst e
      rw [if_pos rfl] at hk
      rcases List.mem_append.1 hk with hk | hk
      · obtain ⟨c, rfl, hc, hp⟩ := h.kp b hb k hk
        refine ⟨c, rfl, hc, ?_⟩
        rw [if_neg (by rw [hp]; omega)]; exact hp
      · obtain ⟨c, rfl, hc, hp⟩ := h.kp f hf k hk
        refine ⟨c, rfl, hc, ?_⟩
        rw [if_pos hp]
    · rw [if_neg e] at hk
      by_cases e2 : b = f
      · rw [if_pos e2] at hk; cases hk
      · rw [if_neg e2] at hk
        obtain ⟨c, rfl, hc, hp⟩ := h.kp b hb k hk
        refine ⟨c, rfl, hc, ?_⟩
        rw [if_neg (by rw [hp]; omega)]; exact hp
  · skip
    by_cases e : pa c = (f : Int)
    · rw [if_pos e]
      refine .inr ⟨q, rfl, hq, ?_⟩
      rw [ki_at, if_pos rfl]
      rcases h.pk c hc with hp | ⟨b, hp, hb, hm⟩
      · omega
      · have : b = f := by omega
        subst this
        exact List.mem_append.2 (.inr hm)
    · rw [if_neg e]
      rcases h.pk c hc with hp | ⟨b, hp, hb, hm⟩
      · exact .inl hp
      · refine .inr ⟨b, hp, hb, ?_⟩
        rw [ki_at]
        split
        · rename_i e2
          subst e2
          exact List.mem_append.2 (.inl hm)
        · rw [if_neg (by rintro rfl; exact e hp)]; exact hm
  · rw [ki_at]
    split
    · refine List.nodup_append.2 ⟨h.nd q hq, h.nd f hf, fun a ha b' hb' e => ?_⟩
      subst e
      obtain ⟨c, rfl, _, h1⟩ := h.kp q hq a ha
      obtain ⟨c', e', _, h2⟩ := h.kp f hf _ hb'
      have : c = c' := by omega
      subst this
      omega
    · split
      · exact List.nodup_nil
      · exact h.nd b hb
  · classical
    have rle : ∀ x y, Sub pa x y → y < n → rk x ≤ rk y := by
      intro x y hxy
      induction hxy with
      | refl => intro _; exact Nat.le_refl _
      | @step c p hp _ ih =>
        intro hc
        have h1 := hrk c hc p hp
        have : p < n := by
          rcases h.pk c hc with hp' | ⟨b, hp', hb, _⟩
          · omega
          · have : b = p := by omega
            omega
        have := ih this
        omega
    refine ⟨fun x => if Sub pa f x ∧ x ≠ f then rk x + rk q + 1 else rk x, fun c hc b hp => ?_⟩
    show (if Sub pa f b ∧ b ≠ f then rk b + rk q + 1 else rk b) < (if Sub pa f c ∧ c ≠ f then rk c + rk q + 1 else rk c)

    by_cases e : pa c = (f : Int)
    · rw [if_pos e] at hp
      have : b = q := by omega
      subst this
      have := hrk c hc f e
      rw [if_neg (fun h => hs h.1), if_pos ⟨.step e .refl, by rintro rfl; omega⟩]
      omega
    · rw [if_neg e] at hp
      have hr := hrk c hc b hp
      have hb : b < n := by
        rcases h.pk c hc with hp' | ⟨b', hp', hb', _⟩
        · omega
        · have : b' = b := by omega
          omega
      by_cases e2 : Sub pa f b
      · have hbf : b ≠ f := by rintro rfl; exact e hp
        have hcf : c ≠ f := by
          rintro rfl
          have := rle c b e2 hb
          omega
        rw [if_pos ⟨e2, hbf⟩, if_pos ⟨.step hp e2, hcf⟩]; omega
      · have e3 : ¬ (Sub pa f c ∧ c ≠ f) := by
          rintro ⟨h3, h4⟩
          cases h3 with
          | refl => exact h4 rfl
          | @step _ p hq2 h5 =>
            rw [hp] at hq2
            have : b = p := by omega
            subst this
            exact e2 h5
        rw [if_neg (fun h => e2 h.1), if_neg e3]; exact hr
/- All kids of a node are moved. -/
def mvL : List S96 → Nat → List Int → List S96
  | T, _, [] => T
  | T, q, n :: l => mvL (putS T q (kiS T q).length n.toNat) q l
def moS (S : List S96) (f q : Int) : List S96 × Int := if (inZ S.length f && inZ S.length q) = true then (if (!hoB (faS S q.toNat).f0 || subB S f.toNat q.toNat) = true then (S, 1) else (mvL (setKi S f.toNat []) q.toNat (kiS S f.toNat), 0)) else (S, 2)
theorem mvL_app (q : Nat) : ∀ (l : List Int) (T : List S96) (n : Int), mvL T q (l ++ [n]) = putS (mvL T q l) q (kiS (mvL T q l) q).length n.toNat
  | [], T, n => rfl
  | x :: l, T, n => by
    rw [List.cons_append]
    unfold mvL
    exact mvL_app q l _ n
theorem len_mvL (q : Nat) : ∀ (l : List Int) (T : List S96), (mvL T q l).length = T.length
  | [], T => rfl
  | x :: l, T => by
    unfold mvL
    rw [len_mvL q l, len_putS]
theorem fa_mvL (q : Nat) : ∀ (l : List Int) (T : List S96), faS (mvL T q l) = faS T
  | [], T => rfl
  | x :: l, T => by
    unfold mvL
    rw [fa_mvL q l, fa_putS]
theorem ki_mvL (q : Nat) : ∀ (l : List Int) (T : List S96), q < T.length → (∀ x ∈ l, 0 ≤ x) → kiS (mvL T q l) = upd (kiS T) q (kiS T q ++ l)
  | [], T, _, _ => by
    unfold mvL
    funext k
    unfold upd
    split
    · rename_i e; rw [e, List.append_nil]
    · rfl
  | x :: l, T, hq, hl => by
    unfold mvL
    rw [ki_mvL q l _ (by rw [len_putS]; exact hq) (fun y hy => hl y (List.mem_cons_of_mem _ hy)), ki_putS hq, upd_self, List.take_of_length_le (Nat.le_refl _), List.drop_eq_nil_of_le (Nat.le_refl _), Int.toNat_of_nonneg (hl x List.mem_cons_self)]
    funext k
    unfold upd
    split
    · simp
    · rfl
theorem pa_mvL (q : Nat) : ∀ (l : List Int) (T : List S96), (∀ x ∈ l, 0 ≤ x ∧ x < (T.length : Int)) → ∀ k : Nat, paS (mvL T q l) k = if (k : Int) ∈ l then (q : Int) else paS T k
  | [], T, _, k => by rw [if_neg (by simp)]; rfl
  | x :: l, T, hl, k => by
    have h0 := hl x List.mem_cons_self
    unfold mvL
    rw [pa_mvL q l _ (fun y hy => by rw [len_putS]; exact hl y (List.mem_cons_of_mem _ hy)) k, pa_putS (by omega)]
    unfold upd
    by_cases e : (k : Int) ∈ l
    · rw [if_pos e, if_pos (List.mem_cons_of_mem _ e)]
    · rw [if_neg e]
      by_cases e2 : k = x.toNat
      · rw [if_pos e2, if_pos (List.mem_cons.2 (.inl (by omega)))]
      · rw [if_neg e2, if_neg (fun h => by rcases List.mem_cons.1 h with h | h; · omega
                                           · exact e h)]
theorem FoS_mo {S : List S96} (h : FoS S) (f q : Int) : FoS (moS S f q).1 := by
  unfold moS
  split
  · rename_i c
    obtain ⟨c1, c2⟩ := Bool.and_eq_true_iff.1 c
    obtain ⟨f, rfl, hf⟩ := inZ_nat c1
    obtain ⟨q, rfl, hq⟩ := inZ_nat c2
    rw [Int.toNat_natCast, Int.toNat_natCast]
    split
    · exact h
    · rename_i d
      have hs : ¬ Sub (paS S) f q := fun e => d (by rw [(subB_iff h hq).2 e, Bool.or_true])
      have hfq : q ≠ f := fun e => by subst e; exact hs .refl
      have hk : ∀ x ∈ kiS S f, 0 ≤ x ∧ x < (S.length : Int) := fun x hx => by
        obtain ⟨c, rfl, hc, _⟩ := h.kp f hf x hx
        omega
      have hm := Fo_move h f q hf hq hs
      show FoS (mvL (setKi S f []) q (kiS S f))
      unfold FoS
      rw [len_mvL, len_setKi, ki_mvL q _ _ (by rw [len_setKi]; exact hq) (fun x hx => (hk x hx).1), ki_setKi hf, upd_ne _ _ hfq, show paS (mvL (setKi S f []) q (kiS S f)) = fun k : Nat => if paS S k = (f : Int) then (q : Int) else paS S k from ?_]
      · exact hm
      · funext k
        rw [pa_mvL q _ _ (by rw [len_setKi]; exact hk) k, pa_setKi]
        by_cases e : (k : Int) ∈ kiS S f
        · obtain ⟨c, e1, _, hp⟩ := h.kp f hf _ e
          have : c = k := by omega
          subst this
          rw [if_pos e, if_pos hp]
        · rw [if_neg e]
          by_cases ek : k < S.length
          · rw [if_neg]
            intro hp
            rcases h.pk k ek with h1 | ⟨b, h1, _, h3⟩
            · omega
            · have : b = f := by omega
              subst this
              exact e h3
          · rw [if_neg]
            unfold paS
            rw [List.getElem?_eq_none (by omega)]
            dsimp only; omega
  · exact h
theorem len_mo (S : List S96) (f q : Int) : (moS S f q).1.length = S.length := by
  unfold moS
  split
  · split
    · rfl
    · dsimp only; rw [len_mvL, len_setKi]
  · rfl
theorem J_putG {w0 w : World} {p : Nat} {S : List S96} {O : Nat → Prop} (h : JA w0 w p S O) (i j a : Nat) (hi : i < S.length) (hj : j < S.length) (hij : i ≠ j) (ha : a ≤ (kiS S j).length) (hkl : (kiS S j).length ≤ 100000) :
    Calls Try.prog 69 #[.pointer (some ⟨p, 0, none⟩), .int .i64 (j : Int), .int .i64 (a : Int), .int .i64 (i : Int)] w fun e w' => e = .returned (.tuple #[]) ∧ JA w0 w' p (putS S j a i) O ∧ kO O w w' := by
  obtain ⟨v, Z, h1, hS, hB, hO⟩ := h
  obtain ⟨x, hx⟩ := ex_at hi
  obtain ⟨z, hz, rfl⟩ := fst_at hS hx
  obtain ⟨y, hy⟩ := ex_at hj
  obtain ⟨y, hyz, rfl⟩ := fst_at hS hy
  have hk : kiS S j = y.1.f2 := by unfold kiS; rw [hy]
  rw [hk] at hkl ha
  obtain ⟨g, cap, rfl, hcap, hg⟩ := am_hdr h1
  refine (ar_put h1 hB.size i j a z y hz hyz hij ha hkl).mono ?_
  rintro e' w' ⟨rfl, v', h2, hn, hc⟩
  refine ⟨rfl, JA_act h1 hB hO h2 ?_ hc (fun k hk' => ?_)⟩
  · rw [two_set hS hz hyz hij]
    unfold putS
    rw [hk]
  · rcases aF_set hk' with h3 | h3 | h3
    · rcases aF_set h3 with h4 | h4 | h4
      · exact .inl h4
      · exact .inl (.inr (.inr ⟨j, y, hyz, .inl h4⟩))
      · rcases hn with hn | ⟨b, hn, hb⟩
        · exact .inl (.inr (.inr ⟨j, y, hyz, .inr (h4.trans hn)⟩))
        · have e : some k = some b := h4.trans hn
          injection e with e
          exact .inr (by omega)
    · exact .inl (.inr (.inr ⟨i, z, hz, .inl h3⟩))
    · exact .inl (.inr (.inr ⟨i, z, hz, .inr h3⟩))
/- A node loses its kids; their row stays. -/
theorem JA_nil {w0 w : World} {p : Nat} {S : List S96} {O : Nat → Prop} (h : JA w0 w p S O) (i : Nat) (hi : i < S.length) : ∃ g cap A c, w.cell? ⟨p, 0, none⟩ = some (.slice (some ⟨g, 0, none⟩) S.length cap) ∧ S.length ≤ cap ∧ w.cell? ⟨g, i * 7 + 6, none⟩ = some (.slice A (kiS S i).length c) ∧ w.frozen? ⟨g, i * 7 + 6, none⟩ = false ∧
    JA w0 (w.setCell ⟨g, i * 7 + 6, none⟩ (.slice none 0 0)) p (setKi S i []) (fun k => O k ∨ some k = (Value.slice A (kiS S i).length c).ownBlock) ∧ kO O w (w.setCell ⟨g, i * 7 + 6, none⟩ (.slice none 0 0)) ∧ Kd.R (Kd.int .i64) 3 (w.setCell ⟨g, i * 7 + 6, none⟩ (.slice none 0 0)) w0.heap.size (fun k => some k = (Value.slice A (kiS S i).length c).ownBlock) (.slice A (kiS S i).length c) (kiS S i) := by
  obtain ⟨v, Z, h1, hS, hB, hO⟩ := h
  obtain ⟨x, hx⟩ := ex_at hi
  obtain ⟨z, hz, rfl⟩ := fst_at hS hx
  obtain ⟨g, cap, rfl, hcap, hg⟩ := am_hdr h1
  have hzl : Z.length = S.length := by rw [← hS, List.length_map]
  have e3 : kiS S i = z.1.f2 := by unfold kiS; rw [hx]
  have hk := h1.kis i z hz
  obtain ⟨A, c, hK⟩ := Kd.R_slice hk
  obtain ⟨hM, c6, f6⟩ := am_kids (v' := .slice none 0 0) (ki := []) h1 hz (Kd.R_nil _ _ _ _ _) (World.grownBy.refl w _) (.inl rfl)
  have hgn : ∀ k, some k = z.2.2.ownBlock → k ≠ g := fun k hk => (am_ne h1 hz (.inr hk)).2
  have far : ∀ k, k ≠ g → (w.setCell ⟨g, i * 7 + 6, none⟩ (.slice none 0 0)).heap[k]? = w.heap[k]? := fun k hk => Below.heap_setCell w ⟨g, i * 7 + 6, none⟩ _ k hk
  rw [← hzl, e3]
  rw [hK] at c6
  have hcz : (w.setCell ⟨g, i * 7 + 6, none⟩ (.slice none 0 0)).heap.size = w.heap.size := by simp only [World.setCell, Array.size_modify]
  refine ⟨g, cap, A, c, blk_cell h1.box 0, hcap, c6, f6, ⟨_, _, hM, ?_, below_set hB hg, fun k hk' => ?_⟩, ⟨by rw [hcz]; exact Nat.le_refl _, fun k hk' => far k (fun e => (hO k hk').2 (.inr (.inl (by rw [e]; rfl))))⟩, ?_⟩
  · rw [map_set_fst, hS]
    unfold setKi
    rw [hx]
  · rw [hcz]
    rcases hk' with hk' | hk'
    · refine ⟨(hO k hk').1, fun hf => ?_⟩
      rcases aF_set hf with h3 | h3 | h3
      · exact (hO k hk').2 h3
      · exact (hO k hk').2 (.inr (.inr ⟨i, z, hz, .inl h3⟩))
      · cases h3
    · rw [← hK] at hk'
      refine ⟨am_lt h1 (.inr (.inr ⟨i, z, hz, .inr hk'⟩)), fun hf => ?_⟩
      obtain ⟨q1, q2⟩ := am_ne h1 hz (.inr hk')
      obtain ⟨ck, hck⟩ := Kd.R_typed hk k hk'.symm
      rcases hf with h3 | h3 | ⟨j, y, hy, h3⟩
      · exact q1 h3
      · injection h3 with h3; exact q2 h3
      · by_cases e : j = i
        · subst e
          rw [List.getElem?_set_self (List.getElem?_eq_some_iff.1 hz).1] at hy
          have hy := Option.some.inj hy
          subst hy
          rcases h3 with h3 | h3
          · obtain ⟨c1, hc1⟩ := Kd.R_typed (h1.ats j z hz) k h3.symm
            exact blk_ne hck hc1 (by decide) rfl
          · cases h3
        · rw [List.getElem?_set_ne (Ne.symm e)] at hy
          rcases h3 with h3 | h3
          · obtain ⟨c1, hc1⟩ := Kd.R_typed (h1.ats j y hy) k h3.symm
            exact blk_ne hck hc1 (by decide) rfl
          · exact h1.sep i j z y k hz hy (Ne.symm e) hk'.symm h3.symm
  · rw [← hK]
    exact Kd.R_move hk (fun k hk' => far k (hgn k hk'))
set_option maxRecDepth 20000 in
set_option maxHeartbeats 8000000 in
theorem J_Move {w0 w : World} {p : Nat} {S : List S96} {O : Nat → Prop} (h : JA w0 w p S O) (hF : FoS S) (hl : S.length ≤ 2000) (f q : Int) (S' : List S96) (r : Int) (hr : moS S f q = (S', r)) :
    Calls Try.prog 48 #[.pointer (some ⟨p, 0, none⟩), .int .i64 f, .int .i64 q] w fun e w' => e = .returned (.int .i64 r) ∧ JA w0 w' p S' O ∧ kO O w w' := by
  have H := Aside0.mk h
  have HF := Aside0.mk hF
  unfold moS at hr
  cases cq : inZ S.length f with
  | false =>
    rw [cq] at hr
    have CQ := Aside0.mk cq
    rw [Bool.false_and, if_neg (by decide)] at hr
    injection hr with e1 e2
    subst e1 e2
    clear h hF cq hl
    go_enter Try.func48, Try.ntmps48
    go_wp2_with (go_at_call 65; refine (J_is H.out _ _ CQ.out).mono ?_; rintro e w1 ⟨rfl, rfl⟩)
    go_ret
    exact ⟨rfl, H.out, kO_refl _ _⟩
  | true =>
    rw [cq] at hr
    have CQ := Aside0.mk cq
    rw [Bool.true_and] at hr
    cases cc : inZ S.length q with
    | false =>
      rw [cc] at hr
      have CC := Aside0.mk cc
      rw [if_neg (by decide)] at hr
      injection hr with e1 e2
      subst e1 e2
      clear h hF cq cc hl
      go_enter Try.func48, Try.ntmps48
      go_wp2_with (first | (go_at_call 65; refine (J_is H.out _ _ (by first | exact CQ.out | exact CC.out)).mono ?_; rintro e w1 ⟨rfl, rfl⟩))
      go_ret
      exact ⟨rfl, H.out, kO_refl _ _⟩
    | true =>
      rw [cc] at hr
      have CC := Aside0.mk cc
      rw [if_pos rfl] at hr
      obtain ⟨f, rfl, hf⟩ := inZ_nat cq
      obtain ⟨q, rfl, hq⟩ := inZ_nat cc
      rw [Int.toNat_natCast, Int.toNat_natCast] at hr
      obtain ⟨g, cap, A0, cp, z0, hcap, y0, y5, y6, hk⟩ := JA_at h q hq
      obtain ⟨kd, hkd⟩ : ∃ kd, kd = (faS S q).f0 := ⟨_, rfl⟩
      rw [← hkd] at y0 hr
      have Y0 := Aside0.mk y0
      have HK := Aside0.mk (fun x hx => hF.kp f hf x hx : ∀ x ∈ kiS S f, ∃ c : Nat, x = (c : Int) ∧ c < S.length ∧ paS S c = (f : Int))
      have HKL := Aside0.mk (FoS_ki_len hF hf)
      have HQL := Aside0.mk (FoS_ki_len hF hq)
      obtain ⟨g', cap', A, c, z0', _, x6, f6, hJ, hO1, hR⟩ := JA_nil h f hf
      have hgg : g' = g := by
        rw [z0] at z0'
        injection z0' with e
        injection e with e
        injection e with e
        injection e with e
        exact e.symm
      subst hgg
      have JN := Aside0.mk hJ
      have KN := Aside0.mk hO1
      have RN := Aside0.mk hR
      obtain ⟨n, hn⟩ : ∃ n, n = S.length := ⟨_, rfl⟩
      have HN := Aside0.mk hn
      rw [← hn] at z0 hcap hq hf hl
      have q1 : (q : Int) < (n : Int) := by omega
      have f1 : (f : Int) < (n : Int) := by omega
      have HQ := Aside0.mk hq
      have HFF := Aside0.mk hf
      have HL := Aside0.mk hl
      obtain ⟨m, hm⟩ : ∃ m, m = (kiS S f).length := ⟨_, rfl⟩
      rw [← hm] at x6
      have HM := Aside0.mk hm
      clear h hF cq cc y5 y6 hk hkd hn hJ hO1 hR z0' hm
      cases ch : hoB kd with
      | false =>
        rw [ch] at hr
        have CH := Aside0.mk ch
        rw [Bool.not_false, Bool.true_or, if_pos rfl] at hr
        injection hr with e1 e2
        subst e1 e2
        clear ch
        go_enter Try.func48, Try.ntmps48
        go_wp2_with (first | (go_at_call 65; refine (J_is H.out _ _ (by first | exact CQ.out | exact CC.out)).mono ?_; rintro e w1 ⟨rfl, rfl⟩) | (go_at_call 66; refine (ar_holds Y0.out _ CH.out).mono ?_; rintro e w1 ⟨rfl, rfl⟩))
        go_ret
        exact ⟨rfl, H.out, kO_refl _ _⟩
      | true =>
        rw [ch] at hr
        have CH := Aside0.mk ch
        rw [Bool.not_true, Bool.false_or] at hr
        clear ch
        cases cs : subB S f q with
        | true =>
          rw [cs, if_pos rfl] at hr
          have CS := Aside0.mk ((subB_iff HF.out (by have := HN.out; have := HQ.out; omega)).1 cs)
          injection hr with e1 e2
          subst e1 e2
          clear cs
          go_enter Try.func48, Try.ntmps48
          go_wp2_with (first | (go_at_call 65; refine (J_is H.out _ _ (by first | exact CQ.out | exact CC.out)).mono ?_; rintro e w1 ⟨rfl, rfl⟩) | (go_at_call 66; refine (ar_holds Y0.out _ CH.out).mono ?_; rintro e w1 ⟨rfl, rfl⟩) | (go_at_call 67; refine (J_within H.out HF.out q f (by have := HN.out; have := HQ.out; omega) true ⟨fun _ => CS.out, fun _ => rfl⟩).mono ?_; rintro e w1 ⟨rfl, rfl⟩))
          go_ret
          exact ⟨rfl, H.out, kO_refl _ _⟩
        | false =>
          rw [cs, if_neg (by decide)] at hr
          have CS := Aside0.mk (show ¬ Sub (paS S) f q from fun e => by rw [(subB_iff HF.out (by have := HN.out; have := HQ.out; omega)).2 e] at cs; cases cs)
          have HR := Aside0.mk hr
          clear cs hr
          go_enter Try.func48, Try.ntmps48
          go_wp2_with (first | (go_at_call 65; refine (J_is H.out _ _ (by first | exact CQ.out | exact CC.out)).mono ?_; rintro e w1 ⟨rfl, rfl⟩) | (go_at_call 66; refine (ar_holds Y0.out _ CH.out).mono ?_; rintro e w1 ⟨rfl, rfl⟩) | (go_at_call 67; refine (J_within H.out HF.out q f (by have := HN.out; have := HQ.out; omega) false ⟨(fun e => by cases e), fun e => absurd e CS.out⟩).mono ?_; rintro e w1 ⟨rfl, rfl⟩))
          obtain ⟨w1, hw1⟩ : ∃ w1, w1 = w.setCell ⟨g', f * 7 + 6, none⟩ (.slice none 0 0) := ⟨_, rfl⟩
          have J1 := Aside0.mk (show JA w0 w1 p (mvL (setKi S f []) q ((kiS S f).take 0)) (fun k => O k ∨ some k = (Value.slice A (kiS S f).length c).ownBlock) by rw [hw1]; exact JN.out)
          have K1 := Aside0.mk (show kO O w w1 by rw [hw1]; exact KN.out)
          have R1 := Aside0.mk (show Kd.R (Kd.int .i64) 3 w1 w0.heap.size (fun k => some k = (Value.slice A m c).ownBlock) (.slice A m c) (kiS S f) by rw [hw1, HM.out]; exact RN.out)
          rw [← HM.out] at J1
          rw [← hw1]
          clear hw1 JN KN RN z0 y0 x6 f6
          go_loopw [54] (fun v54 wr => ∃ j : Nat, v54 = .int .i64 (j : Int) ∧ j ≤ m ∧ Aside0 (JA w0 wr p (mvL (setKi S f []) q ((kiS S f).take j)) (fun k => O k ∨ some k = (Value.slice A m c).ownBlock)) ∧ Aside0 (kO (fun k => O k ∨ some k = (Value.slice A m c).ownBlock) w1 wr)) (fun v54 _ => m - (intOf v54).toNat)
          case atStart => exact ⟨0, rfl, Nat.zero_le _, J1, ⟨kO_refl _ _⟩⟩
          case round =>
            obtain ⟨j, rfl, hj, HJ, HKO⟩ := hrel
            clear J1
            by_cases d : j < m
            · have db : decide (j < m) = true := decide_eq_true d
              have jb : j < 2001 := (by have h1 := HKL.out; have h2 := HM.out; have h3 := HL.out; have h4 := HN.out; omega)
              have DD := Aside0.mk (show j < m ∧ j < 2001 by have h1 := HKL.out; have h2 := HM.out; have h3 := HL.out; have h4 := HN.out; omega)
              have d1 : (j : Int) < (m : Int) := by omega
              have hRr := Kd.R_move R1.out (fun k hk => HKO.out.2 k (.inr hk))
              obtain ⟨gk, ck, ek, _, _, _, _⟩ := Kd.R_form hRr (by rw [← HM.out]; omega)
              injection ek with ek e2 e3
              clear e2 e3
              subst ek
              have x := (Kd.R_celln (0 : Int) hRr (j : Int) (by omega) d1).1
              rw [Int.toNat_natCast] at x
              have hjl : j < (kiS S f).length := by rw [← HM.out]; exact d
              obtain ⟨y, hy⟩ : ∃ y, y = (kiS S f)[j]'hjl := ⟨_, rfl⟩
              have ey : rdOf (0 : Int) (kiS S f) (j : Int) = y := by
                unfold rdOf
                rw [Int.toNat_natCast, List.getD_eq_getElem?_getD, List.getElem?_eq_getElem hjl, hy]; rfl
              rw [ey] at x
              obtain ⟨nn, hnn, hnl, hnp⟩ := HK.out y (by rw [hy]; exact List.getElem_mem _)
              subst hnn
              have TK := Aside0.mk (show (kiS S f).take (j + 1) = (kiS S f).take j ++ [(nn : Int)] by rw [List.take_succ_eq_append_getElem hjl, hy])
              have NL := Aside0.mk hnl
              have NQ := Aside0.mk (show nn ≠ q from fun e => by subst e; exact CS.out (.step hnp .refl))
              have KQ := Aside0.mk (show (kiS (mvL (setKi S f []) q ((kiS S f).take j)) q).length ≤ 100000 by
                rw [ki_mvL q _ _ (by rw [len_setKi]; have := HN.out; have := HQ.out; omega) (fun x hx => by obtain ⟨c, rfl, _⟩ := HK.out x (List.mem_of_mem_take hx); omega), upd_self, List.length_append, List.length_take, ki_setKi (by have := HN.out; have := HFF.out; omega)]
                have h1 := HKL.out
                have h2 := HQL.out
                have h3 := HL.out
                have h4 := HN.out
                unfold upd
                split <;> simp <;> omega)
              obtain ⟨T, hT⟩ : ∃ T, T = mvL (setKi S f []) q ((kiS S f).take j) := ⟨_, rfl⟩
              rw [← hT] at HJ KQ
              have LT := Aside0.mk (show T.length = S.length by rw [hT, len_mvL, len_setKi])
              have NX := Aside0.mk (show mvL (setKi S f []) q ((kiS S f).take (j + 1)) = putS T q (kiS T q).length nn by rw [TK.out, mvL_app, Int.toNat_natCast, ← hT])
              obtain ⟨g2, cap2, A2, cp2, z0, hcap2, y0, y5, y6, hk⟩ := JA_at HJ.out q (by rw [LT.out]; have := HN.out; have := HQ.out; omega)
              rw [LT.out, ← HN.out] at z0 hcap2
              obtain ⟨mk, hmk⟩ : ∃ mk, mk = (kiS T q).length := ⟨_, rfl⟩
              rw [← hmk] at y6
              have HMK := Aside0.mk hmk
              clear hT hRr hy ey hjl hnl hnp y0 y5 hk hmk TK
              go_wp2_with (go_at_call 69; refine (J_putG HJ.out nn q mk (by rw [LT.out]; exact NL.out) (by rw [LT.out]; have := HN.out; have := HQ.out; omega) NQ.out (by rw [HMK.out]; exact Nat.le_refl _) KQ.out).mono ?_; rintro e w3 ⟨rfl, hJ, hK⟩; have J3 := Aside0.mk hJ; have K3 := Aside0.mk hK; clear hJ hK)
              go_roundw
              case rel =>
                have dd := DD.out
                exact ⟨j + 1, by go_num, dd.1, ⟨by rw [NX.out, ← HMK.out]; exact J3.out⟩, ⟨kO_trans HKO.out K3.out⟩⟩
              case measure => have := DD.out; simp [intOf]; omega
            · have db : decide (j < m) = false := decide_eq_false d
              have d1 : ¬ (j : Int) < (m : Int) := by omega
              obtain rfl : j = m := by omega
              go_wp2
              go_ret
              have hr := HR.out
              injection hr with e1 e2
              rw [← e1]
              refine ⟨by rw [← e2]; rfl, JA_mono (S := mvL (setKi S f []) q (kiS S f)) (O := fun k => O k ∨ some k = (Value.slice A j c).ownBlock) ?_ (fun _ h => .inl h), kO_trans K1.out ⟨HKO.out.1, fun k hk => HKO.out.2 k (.inl hk)⟩⟩
              have := HJ.out
              rw [HM.out, List.take_length, ← HM.out] at this
              exact this
/- The value of a node. -/
def vaS (S : List S96) : Nat → Nat → S67
  | 0, _ => ⟨0, 0, ⟨#[]⟩, [], ⟨#[]⟩, []⟩
  | k + 1, i => ⟨(faS S i).f0, (faS S i).f1, (faS S i).f2, (faS S i).f3, (faS S i).f4, (kiS S i).map (fun c => vaS S k c.toNat)⟩
def VR (w w' : World) (x : S67) (e : Ending) : Prop := ∃ A3 c3 A5 c5, e = .returned (.agg #[.int .i64 x.f0, .int .i64 x.f1, .string x.f2, .slice A3 x.f3.length c3, .string x.f4, .slice A5 x.f5.length c5]) ∧ Kd.FK k67 w' (fun k => w.heap.size ≤ k) x [.int .i64 x.f0, .int .i64 x.f1, .string x.f2, .slice A3 x.f3.length c3, .string x.f4, .slice A5 x.f5.length c5] ∧ Below w.heap.size w w'
theorem JA_all {w0 w : World} {p : Nat} {S : List S96} {O : Nat → Prop} (h : JA w0 w p S O) (i : Nat) (hi : i < S.length) : ∃ g cap A c A' c', w.cell? ⟨p, 0, none⟩ = some (.slice (some ⟨g, 0, none⟩) S.length cap) ∧ S.length ≤ cap ∧ (w.cell? ⟨g, i * 7, none⟩ = some (.int .i64 (faS S i).f0) ∧ w.cell? ⟨g, i * 7 + 1, none⟩ = some (.int .i64 (faS S i).f1) ∧ w.cell? ⟨g, i * 7 + 2, none⟩ = some (.string (faS S i).f2) ∧ w.cell? ⟨g, i * 7 + 3, none⟩ = some (.slice A (faS S i).f3.length c) ∧ w.cell? ⟨g, i * 7 + 4, none⟩ = some (.string (faS S i).f4) ∧ w.cell? ⟨g, i * 7 + 5, none⟩ = some (.int .i64 (paS S i)) ∧ w.cell? ⟨g, i * 7 + 6, none⟩ = some (.slice A' (kiS S i).length c')) ∧ (faS S i).f3.length ≤ c ∧ Kd.C k103 w A (faS S i).f3.length (faS S i).f3 ∧ Kd.R (Kd.int .i64) 3 w w0.heap.size (fun k => some k = (Value.slice A' (kiS S i).length c').ownBlock) (.slice A' (kiS S i).length c') (kiS S i) := by
  obtain ⟨v, Z, h1, hS, _⟩ := h
  obtain ⟨x, hx⟩ := ex_at hi
  obtain ⟨z, hz, rfl⟩ := fst_at hS hx
  obtain ⟨g, cap, rfl, hcap, hg⟩ := am_hdr h1
  have hzl : Z.length = S.length := by rw [← hS, List.length_map]
  have e1 : faS S i = z.1.f0 := by unfold faS; rw [hx]
  have e2 : paS S i = z.1.f1 := by unfold paS; rw [hx]
  have e3 : kiS S i = z.1.f2 := by unfold kiS; rw [hx]
  have hk := h1.kis i z hz
  have ha := h1.ats i z hz
  obtain ⟨A', c', hK⟩ := Kd.R_slice hk
  obtain ⟨A, c, hA⟩ := Kd.R_slice ha
  have hc := (am_cells h1 i z hz).1
  have c3 := hc 3 _ rfl
  have c6 := hc 6 _ rfl
  rw [hK] at hk c6
  rw [hA] at ha c3
  rw [← hzl, e1, e2, e3]
  exact ⟨g, cap, A, c, A', c', blk_cell h1.box 0, hcap, ⟨hc 0 _ rfl, hc 1 _ rfl, hc 2 _ rfl, c3, hc 4 _ rfl, hc 5 _ rfl, c6⟩, (Kd.R_reads' ha).2.1, (Kd.R_reads' ha).2.2, Kd.R_mono hk (fun _ h => h)⟩
theorem bx7 {w : World} {g : Nat} {a b c d e f h : Value} {t : TypeId} (hb : w.heap[g]? = some (.cells #[a, b, c, d, e, f, h] t (0, 0))) : w.cell? ⟨g, 0, none⟩ = some a ∧ w.cell? ⟨g, 1, none⟩ = some b ∧ w.cell? ⟨g, 2, none⟩ = some c ∧ w.cell? ⟨g, 3, none⟩ = some d ∧ w.cell? ⟨g, 4, none⟩ = some e ∧ w.cell? ⟨g, 5, none⟩ = some f ∧ w.cell? ⟨g, 6, none⟩ = some h :=
  ⟨(blk_cell hb 0).trans rfl, (blk_cell hb 1).trans rfl, (blk_cell hb 2).trans rfl, (blk_cell hb 3).trans rfl, (blk_cell hb 4).trans rfl, (blk_cell hb 5).trans rfl, (blk_cell hb 6).trans rfl⟩
def z6c : Array Value := #[.int .i64 0, .int .i64 0, .string ⟨#[]⟩, .slice none 0 0, .string ⟨#[]⟩, .slice none 0 0]
def zc67 : Value := .agg #[.int .i64 0, .int .i64 0, .string ⟨#[]⟩, .slice none 0 0, .string ⟨#[]⟩, .slice none 0 0]
theorem info67b : (Try.prog.info? 67).map (fun i => (i.zero, i.size, i.bytes)) = some (some zc67, k67.sz, 96) := by kernel_rfl
/- What stays while a value is built: the result's block, the node's copy, the value's block, the attributes. -/
structure VG (w : World) (g4 g5 g6 : Nat) (c5 c6 : Array Value) (v3 : Value) (x3 : List S103) (w' : World) : Prop where
  bw : Below w.heap.size w w'
  b4 : w'.heap[g4]? = some (.cells z6c 67 (0, 0))
  b5 : w'.heap[g5]? = some (.cells c5 96 (0, 0))
  b6 : w'.heap[g6]? = some (.cells c6 67 (0, 0))
  l4 : w.heap.size ≤ g4
  l6 : w.heap.size ≤ g6
  ne : g4 ≠ g6
  at3 : Kd.R k103 103 w' w.heap.size (fun k => some k = v3.ownBlock) v3 x3
theorem VG_below {w w1 w2 : World} {g4 g5 g6 : Nat} {c5 c6 : Array Value} {v3 : Value} {x3 : List S103} (h : VG w g4 g5 g6 c5 c6 v3 x3 w1) (b : Below w1.heap.size w1 w2) : VG w g4 g5 g6 c5 c6 v3 x3 w2 :=
  ⟨below_step h.bw b, blk_below h.b4 b, blk_below h.b5 b, blk_below h.b6 b, h.l4, h.l6, h.ne, Kd.R_below h.at3 b⟩
theorem VG_set {w w1 : World} {g4 g5 g6 : Nat} {c5 c6 c6' : Array Value} {v3 : Value} {x3 : List S103} (h : VG w g4 g5 g6 c5 c6 v3 x3 w1) (j : Nat) (u : Value) (e : c6.setIfInBounds j u = c6') : VG w g4 g5 g6 c5 c6' v3 x3 (w1.setCell ⟨g6, j, none⟩ u) :=
  ⟨below_set h.bw h.l6, blk_far h.b4 h.ne u, blk_far h.b5 (blk_ne h.b5 h.b6 (by decide)) u, blk_put h.b6 j u e, h.l4, h.l6, h.ne, Kd.R_move h.at3 (fun k hk => by
    obtain ⟨c, hc⟩ := Kd.R_typed h.at3 k hk.symm
    exact Below.heap_setCell w1 ⟨g6, j, none⟩ u k (blk_ne hc h.b6 (by decide)))⟩
theorem VG_grown {w w1 w2 : World} {g4 g5 g6 : Nat} {c5 c6 : Array Value} {v3 v5 : Value} {x3 : List S103} (h : VG w g4 g5 g6 c5 c6 v3 x3 w1) (hb : Below w.heap.size w w2) (hg : w1.grownBy w2 v5.ownBlock) (h4 : some g4 ≠ v5.ownBlock) (h6 : some g6 ≠ v5.ownBlock) (ht : ∀ k, v5.ownBlock = some k → ∃ c, w1.heap[k]? = some (.cells c 67 (0, 0))) : VG w g4 g5 g6 c5 c6 v3 x3 w2 :=
  ⟨hb, blk_grown h.b4 hg h4, blk_grown h.b5 hg (fun e => by obtain ⟨c, hc⟩ := ht _ e.symm; exact blk_ne h.b5 hc (by decide) rfl), blk_grown h.b6 hg h6, h.l4, h.l6, h.ne, Kd.R_move h.at3 (fun k hk => by
    obtain ⟨c, hc⟩ := Kd.R_typed h.at3 k hk.symm
    refine hg.block k (blk_lt hc) (fun e => ?_)
    obtain ⟨c', hc'⟩ := ht k e.symm
    exact blk_ne hc hc' (by decide) rfl)⟩
theorem VR_mk {w w' : World} {x : S67} {g4 : Nat} {A3 A5 : Option Addr} {m3 c3 m5 c5 : Nat} (hB : Below w.heap.size w w') (h3 : Kd.R k103 103 w' w.heap.size (fun k => some k = (Value.slice A3 m3 c3).ownBlock) (.slice A3 m3 c3) x.f3) (ok5 : Nat → Prop) (h5 : Kd.N k67 67 w' w.heap.size ok5 (.slice A5 m5 c5) x.f5) (hok : ∀ k, ok5 k → w.heap.size ≤ k ∧ k ≠ g4) (b4 : ∃ cs, w'.heap[g4]? = some (.cells cs 67 (0, 0))) (l4 : w.heap.size ≤ g4) :
    ∀ W, Below w.heap.size w W → (∀ k, k ≠ g4 → W.heap[k]? = w'.heap[k]?) → VR w W x (.returned (.agg #[.int .i64 x.f0, .int .i64 x.f1, .string x.f2, .slice A3 m3 c3, .string x.f4, .slice A5 m5 c5])) := by
  intro W hW hk
  obtain ⟨cs, b4⟩ := b4
  obtain ⟨rfl, l3, _⟩ := Kd.R_reads' h3
  obtain ⟨rfl, l5, _⟩ := Kd.N_reads' h5
  refine ⟨A3, c3, A5, c5, rfl, k67_mkF W _ x l3 (Kd.F_mono (Kd.R_F (Kd.R_move h3 (fun k hk' => hk k ?_))) (fun k hk' => Kd.R_base h3 k hk'.symm)) l5 (Kd.F_mono (Kd.N_F (Kd.N_step h5 (fun k hk' _ => hk k (hok k hk').2))) (fun k hk' => (hok k hk').1)), hW⟩
  obtain ⟨c, hc⟩ := Kd.R_typed h3 k hk'.symm
  exact blk_ne hc b4 (by decide)
theorem clone_at {x3 : List S103} {m3 c : Nat} {A : Option Addr} {w : World} (e : m3 = x3.length) (hC : Kd.C k103 w A x3.length x3) (hc : x3.length ≤ c) (ha : x3.length ≤ 100000) :
    Calls Try.prog 64 #[.slice A m3 c] w fun e w' => ∃ A1 c1, e = .returned (.slice A1 m3 c1) ∧ Kd.R k103 103 w' w.heap.size (fun k => some k = (Value.slice A1 m3 c1).ownBlock) (.slice A1 m3 c1) x3 ∧ Below w.heap.size w w' := by
  subst e
  refine (api_Attr.calls A c x3 x3 w hC hc (Attr_ev x3 ha)).mono ?_
  rintro e w' ⟨v1, rfl, hR, hb⟩
  obtain ⟨A1, c1, rfl⟩ := Kd.R_slice hR
  exact ⟨A1, c1, rfl, Kd.R_tight rfl hR, hb⟩
def VC (S : List S96) (m : Nat) (i : Nat) : Prop := ∀ (w0 w : World) (p : Nat) (O : Nat → Prop), JA w0 w p S O → Calls Try.prog 38 #[.pointer (some ⟨p, 0, none⟩), .int .i64 (i : Int)] w fun e w' => VR w w' (vaS S m i) e
theorem VC_app {S : List S96} {m i : Nat} (h : VC S m i) {w0 w : World} {p : Nat} {O : Nat → Prop} (hj : JA w0 w p S O) : Calls Try.prog 38 #[.pointer (some ⟨p, 0, none⟩), .int .i64 (i : Int)] w fun e w' => VR w w' (vaS S m i) e := h w0 w p O hj
set_option maxRecDepth 100000 in
set_option maxHeartbeats 8000000 in
theorem value_step (S : List S96) (hF : FoS S) (hl : S.length ≤ 2000) (hat : ∀ i, (faS S i).f3.length ≤ 100000) (m i : Nat) (hi : i < S.length) (ih : ∀ c : Nat, (c : Int) ∈ kiS S i → c < S.length ∧ VC S m c) : VC S (m + 1) i := by
  intro w0 w p O h
  have HI := Aside0.mk ih
  have HJ := Aside0.mk h
  have IS := Aside0.mk (show inZ S.length (i : Int) = true by unfold inZ; rw [decide_eq_true (by omega), decide_eq_true (by omega)]; rfl)
  have H0 := Aside0.mk (JA_step h (below_alloc (Below.refl _ _) (.cells #[.int .i64 0, .int .i64 0, .string ⟨#[]⟩, .slice none 0 0, .string ⟨#[]⟩, .slice none 0 0] 67)))
  have HX := Aside0.mk (show vaS S (m + 1) i = ⟨(faS S i).f0, (faS S i).f1, (faS S i).f2, (faS S i).f3, (faS S i).f4, (kiS S i).map (fun c => vaS S m c.toNat)⟩ from rfl)
  have HF := Aside0.mk hF
  have HL := Aside0.mk hl
  have HAT := Aside0.mk (hat i)
  have HIL := Aside0.mk hi
  clear h ih hF hl hat hi
  go_enter Try.func38, Try.ntmps38
  go_upto_region 1 with (fail)
  obtain ⟨W0, hW0⟩ : ∃ W0, W0 = w.alloc (.cells #[.int .i64 0, .int .i64 0, .string ⟨#[]⟩, .slice none 0 0, .string ⟨#[]⟩, .slice none 0 0] 67) := ⟨_, rfl⟩
  obtain ⟨g4, hg4⟩ : ∃ g4, g4 = w.heap.size := ⟨_, rfl⟩
  rw [← hW0] at H0 ⊢
  rw [← hg4]
  have B0 := Aside0.mk (show Below w.heap.size w W0 by rw [hW0]; exact below_alloc (Below.refl _ _) _)
  have BK4 := Aside0.mk (show W0.heap[g4]? = some (.cells #[.int .i64 0, .int .i64 0, .string ⟨#[]⟩, .slice none 0 0, .string ⟨#[]⟩, .slice none 0 0] 67 (0, 0)) by rw [hW0, hg4]; exact blk_new w _)
  have G4 := Aside0.mk hg4
  have SZ := Aside0.mk (show W0.heap.size = w.heap.size + 1 by rw [hW0]; show (w.heap.push _).size = w.heap.size + 1; exact Array.size_push _)
  clear hW0 hg4
  obtain ⟨g, cap, A, c, A', c', z0, hcap, hcs, hc3, hC, hR⟩ := JA_all H0.out i HIL.out
  obtain ⟨F, hFe⟩ : ∃ F, F = faS S i := ⟨_, rfl⟩
  have ha := HAT.out
  rw [← hFe] at hcs hc3 hC HX ha
  obtain ⟨K0, hK0⟩ : ∃ K0, K0 = kiS S i := ⟨_, rfl⟩
  have HKL := Aside0.mk (show K0.length ≤ 2000 by rw [hK0]; exact Nat.le_trans (FoS_ki_len HF.out HIL.out) HL.out)
  have HKN := Aside0.mk (show ∀ x ∈ K0, ∃ c : Nat, x = (c : Int) ∧ c < S.length by rw [hK0]; intro x hx; obtain ⟨c, h1, h2, _⟩ := HF.out.kp i HIL.out x hx; exact ⟨c, h1, h2⟩)
  rw [← hK0] at hcs hR HX HI
  obtain ⟨x0, x1, x2, x3, x4⟩ := F
  dsimp only at hcs hc3 hC HX ha
  obtain ⟨q0, q1, q2, q3, q4, q5, q6⟩ := hcs
  obtain ⟨m3, hm3⟩ : ∃ m, m = x3.length := ⟨_, rfl⟩
  obtain ⟨m6, hm6⟩ : ∃ m, m = K0.length := ⟨_, rfl⟩
  rw [← hm3] at q3
  rw [← hm6] at q6
  have M3 := Aside0.mk hm3
  have M6 := Aside0.mk hm6
  obtain ⟨pp, hpp⟩ : ∃ pp, pp = paS S i := ⟨_, rfl⟩
  rw [← hpp] at q5
  have CC := Aside0.mk hC
  have CL := Aside0.mk hc3
  have RK := Aside0.mk hR
  have HA := Aside0.mk ha
  obtain ⟨n, hn⟩ : ∃ n, n = S.length := ⟨_, rfl⟩
  have HN := Aside0.mk hn
  have hi := HIL.out
  rw [← hn] at z0 hcap hi
  have i1 : (i : Int) < (n : Int) := by omega
  clear hFe hK0 hm3 hm6 hpp hC hc3 hR ha hn
  go_upto_region 4 with (go_at_call 65; refine (J_is H0.out _ _ IS.out).mono ?_; rintro e w1 ⟨rfl, rfl⟩)
  obtain ⟨g5, hg5⟩ : ∃ g5, g5 = W0.heap.size := ⟨_, rfl⟩
  rw [← hg5]
  have BB := below_step (below_alloc (Below.refl W0.heap.size W0) (.cells #[.int .i64 x0, .int .i64 x1, .string x2, .slice A m3 c, .string x4, .int .i64 pp, .slice A' m6 c'] 96)) (below_drew (Below.refl _ _))
  have B1 := Aside0.mk (show Below w.heap.size w (W0.alloc (.cells #[.int .i64 x0, .int .i64 x1, .string x2, .slice A m3 c, .string x4, .int .i64 pp, .slice A' m6 c'] 96)).drew from below_step B0.out BB)
  have K4 := Aside0.mk (show (W0.alloc (.cells #[.int .i64 x0, .int .i64 x1, .string x2, .slice A m3 c, .string x4, .int .i64 pp, .slice A' m6 c'] 96)).drew.heap[g4]? = some (.cells z6c 67 (0, 0)) from blk_below BK4.out BB)
  have K5 := Aside0.mk (show (W0.alloc (.cells #[.int .i64 x0, .int .i64 x1, .string x2, .slice A m3 c, .string x4, .int .i64 pp, .slice A' m6 c'] 96)).drew.heap[g5]? = some (.cells #[.int .i64 x0, .int .i64 x1, .string x2, .slice A m3 c, .string x4, .int .i64 pp, .slice A' m6 c'] 96 (0, 0)) by rw [hg5]; exact blk_new W0 _)
  have L4 := Aside0.mk (show w.heap.size ≤ g4 by rw [G4.out]; exact Nat.le_refl _)
  have CC' := Aside0.mk (show Kd.C k103 (W0.alloc (.cells #[.int .i64 x0, .int .i64 x1, .string x2, .slice A m3 c, .string x4, .int .i64 pp, .slice A' m6 c'] 96)).drew A x3.length x3 from Kd.C_below CC.out BB)
  clear CC BB hg5
  have CC := CC'
  clear CC'
  refine start_ (n := 19) (S := fun w' => w'.cell? ⟨g5, 0, none⟩ = some (.int .i64 x0) ∧ w'.cell? ⟨g5, 1, none⟩ = some (.int .i64 x1) ∧ w'.cell? ⟨g5, 2, none⟩ = some (.string x2) ∧ w'.cell? ⟨g5, 3, none⟩ = some (.slice A m3 c) ∧ w'.cell? ⟨g5, 4, none⟩ = some (.string x4)) (ds := [18]) #[false, false, false, false, false, false, false, false, false, false, false, false, false, false, false, false, false, false, false] (by kernel_rfl) rfl rfl ⟨(bx7 K5.out).1, (bx7 K5.out).2.1, (bx7 K5.out).2.2.1, (bx7 K5.out).2.2.2.1, (bx7 K5.out).2.2.2.2.1⟩ (fun hHeld => ?_)
  generalize (W0.alloc (Obj.cells #[.int .i64 x0, .int .i64 x1, .string x2, .slice A m3 c, .string x4, .int .i64 pp, .slice A' m6 c'] 96)).drew = W1 at hHeld B1 K4 K5 CC ⊢
  refine pure_ (i := 0) (N := some 21) (v := ?_) (a' := ?_) #[true, false, false, false, false, false, false, false, false, false, false, false, false, false, false, false, false, false, false] rfl rfl (by kernel_rfl) (fun _ _ _ h => h) (Or.inl ⟨by rfl, ?_⟩) ?_ ?_
  rotate_left
  · intro w'
    go_simp
    with_reducible rfl
  rotate_left
  · simp only [Act.put, List.setIfInBounds_toArray, List.set_cons_zero, List.set_cons_succ, i64_w, i32_w]
    rfl
  refine pure_ (i := 1) (N := some 22) (v := ?_) (a' := ?_) #[true, true, false, false, false, false, false, false, false, false, false, false, false, false, false, false, false, false, false] rfl rfl (by kernel_rfl) (fun _ _ _ h => h) (Or.inl ⟨by rfl, ?_⟩) ?_ ?_
  rotate_left
  · intro w'
    go_simp
    with_reducible rfl
  rotate_left
  · simp only [Act.put, List.setIfInBounds_toArray, List.set_cons_zero, List.set_cons_succ, i64_w, i32_w]
    rfl
  refine pure_ (i := 3) (N := some 24) (v := ?_) (a' := ?_) #[true, true, false, true, false, false, false, false, false, false, false, false, false, false, false, false, false, false, false] rfl rfl (by kernel_rfl) (fun _ _ _ h => h) (Or.inl ⟨by rfl, ?_⟩) ?_ ?_
  rotate_left
  · intro w'
    go_simp
    with_reducible rfl
  rotate_left
  · simp only [Act.put, List.setIfInBounds_toArray, List.set_cons_zero, List.set_cons_succ, i64_w, i32_w]
    rfl
  refine pure_ (i := 4) (N := some 25) (v := ?_) (a' := ?_) #[true, true, false, true, true, false, false, false, false, false, false, false, false, false, false, false, false, false, false] rfl rfl (by kernel_rfl) (fun _ _ _ h => h) (Or.inl ⟨by rfl, ?_⟩) ?_ ?_
  rotate_left
  · intro w'
    go_simp
    with_reducible rfl
  rotate_left
  · simp only [Act.put, List.setIfInBounds_toArray, List.set_cons_zero, List.set_cons_succ, i64_w, i32_w]
    rfl
  refine pure_ (i := 6) (N := some 27) (v := ?_) (a' := ?_) #[true, true, false, true, true, false, true, false, false, false, false, false, false, false, false, false, false, false, false] rfl rfl (by kernel_rfl) (fun _ _ _ h => h) (Or.inl ⟨by rfl, ?_⟩) ?_ ?_
  rotate_left
  · intro w'
    go_simp
    with_reducible rfl
  rotate_left
  · simp only [Act.put, List.setIfInBounds_toArray, List.set_cons_zero, List.set_cons_succ, i64_w, i32_w]
    rfl
  refine pure_ (i := 7) (N := some 28) (v := ?_) (a' := ?_) #[true, true, false, true, true, false, true, true, false, false, false, false, false, false, false, false, false, false, false] rfl rfl (by kernel_rfl) (fun _ _ _ h => h) (Or.inl ⟨by rfl, ?_⟩) ?_ ?_
  rotate_left
  · intro w'
    go_simp
    with_reducible rfl
  rotate_left
  · simp only [Act.put, List.setIfInBounds_toArray, List.set_cons_zero, List.set_cons_succ, i64_w, i32_w]
    rfl
  refine pure_ (i := 9) (N := some 30) (v := ?_) (a' := ?_) #[true, true, false, true, true, false, true, true, false, true, false, false, false, false, false, false, false, false, false] rfl rfl (by kernel_rfl) (fun _ _ _ h => h) (Or.inl ⟨by rfl, ?_⟩) ?_ ?_
  rotate_left
  · intro w'
    go_simp
    with_reducible rfl
  rotate_left
  · simp only [Act.put, List.setIfInBounds_toArray, List.set_cons_zero, List.set_cons_succ, i64_w, i32_w]
    rfl
  refine pure_ (i := 10) (N := some 31) (v := ?_) (a' := ?_) #[true, true, false, true, true, false, true, true, false, true, true, false, false, false, false, false, false, false, false] rfl rfl (by kernel_rfl) (fun _ _ _ h => h) (Or.inl ⟨by rfl, ?_⟩) ?_ ?_
  rotate_left
  · intro w'
    go_simp
    with_reducible rfl
  rotate_left
  · simp only [Act.put, List.setIfInBounds_toArray, List.set_cons_zero, List.set_cons_succ, i64_w, i32_w]
    rfl
  refine pure_ (i := 13) (N := some 34) (v := ?_) (a' := ?_) #[true, true, false, true, true, false, true, true, false, true, true, false, false, true, false, false, false, false, false] rfl rfl (by kernel_rfl) (fun _ _ _ h => h) (Or.inl ⟨by rfl, ?_⟩) ?_ ?_
  rotate_left
  · intro w'
    go_simp
    with_reducible rfl
  rotate_left
  · simp only [Act.put, List.setIfInBounds_toArray, List.set_cons_zero, List.set_cons_succ, i64_w, i32_w]
    rfl
  refine pure_ (i := 14) (N := some 35) (v := ?_) (a' := ?_) #[true, true, false, true, true, false, true, true, false, true, true, false, false, true, true, false, false, false, false] rfl rfl (by kernel_rfl) (fun _ _ _ h => h) (Or.inl ⟨by rfl, ?_⟩) ?_ ?_
  rotate_left
  · intro w'
    go_simp
    with_reducible rfl
  rotate_left
  · simp only [Act.put, List.setIfInBounds_toArray, List.set_cons_zero, List.set_cons_succ, i64_w, i32_w]
    rfl
  refine take_ (i := 2) (N := some 23) (v := ?_) (a' := ?_) #[true, true, true, true, true, false, true, true, false, true, true, false, false, true, true, false, false, false, false] rfl rfl (by kernel_rfl) (fun _ _ _ h => h) (Or.inl ⟨by rfl, ?_⟩) hHeld ?_ ?_
  rotate_left
  · rintro w' ⟨s0, s1, s2, s3, s4⟩
    go_simp
    with_reducible rfl
  rotate_left
  · simp only [Act.put, List.setIfInBounds_toArray, List.set_cons_zero, List.set_cons_succ, i64_w, i32_w]
    rfl
  refine take_ (i := 5) (N := some 26) (v := ?_) (a' := ?_) #[true, true, true, true, true, true, true, true, false, true, true, false, false, true, true, false, false, false, false] rfl rfl (by kernel_rfl) (fun _ _ _ h => h) (Or.inl ⟨by rfl, ?_⟩) hHeld ?_ ?_
  rotate_left
  · rintro w' ⟨s0, s1, s2, s3, s4⟩
    go_simp
    with_reducible rfl
  rotate_left
  · simp only [Act.put, List.setIfInBounds_toArray, List.set_cons_zero, List.set_cons_succ, i64_w, i32_w]
    rfl
  refine take_ (i := 8) (N := some 29) (v := ?_) (a' := ?_) #[true, true, true, true, true, true, true, true, true, true, true, false, false, true, true, false, false, false, false] rfl rfl (by kernel_rfl) (fun _ _ _ h => h) (Or.inl ⟨by rfl, ?_⟩) hHeld ?_ ?_
  rotate_left
  · rintro w' ⟨s0, s1, s2, s3, s4⟩
    go_simp
    with_reducible rfl
  rotate_left
  · simp only [Act.put, List.setIfInBounds_toArray, List.set_cons_zero, List.set_cons_succ, i64_w, i32_w]
    rfl
  refine take_ (i := 11) (N := some 32) (v := ?_) (a' := ?_) #[true, true, true, true, true, true, true, true, true, true, true, true, false, true, true, false, false, false, false] rfl rfl (by kernel_rfl) (fun _ _ _ h => h) (Or.inl ⟨by rfl, ?_⟩) hHeld ?_ ?_
  rotate_left
  · rintro w' ⟨s0, s1, s2, s3, s4⟩
    go_simp
    with_reducible rfl
  rotate_left
  · simp only [Act.put, List.setIfInBounds_toArray, List.set_cons_zero, List.set_cons_succ, i64_w, i32_w]
    rfl
  refine take_ (i := 15) (N := some 36) (v := ?_) (a' := ?_) #[true, true, true, true, true, true, true, true, true, true, true, true, false, true, true, true, false, false, false] rfl rfl (by kernel_rfl) (fun _ _ _ h => h) (Or.inl ⟨by rfl, ?_⟩) hHeld ?_ ?_
  rotate_left
  · rintro w' ⟨s0, s1, s2, s3, s4⟩
    go_simp
    with_reducible rfl
  rotate_left
  · simp only [Act.put, List.setIfInBounds_toArray, List.set_cons_zero, List.set_cons_succ, i64_w, i32_w]
    rfl
  refine join_ (σ := Nat × Option Addr × Nat) 1 #[true, true, true, true, true, true, true, true, true, true, true, true, true, true, true, true, true, true, false] (fun s => [(33, .slice s.2.1 m3 s.2.2), (37, .agg #[.int .i64 x0, .int .i64 x1, .string x2, .slice s.2.1 m3 s.2.2, .string x4, .slice none 0 0]), (6, .pointer (some ⟨s.1, 0, none⟩))]) (fun s w' => VG w g4 g5 s.1 #[.int .i64 x0, .int .i64 x1, .string x2, .slice A m3 c, .string x4, .int .i64 pp, .slice A' m6 c'] z6c (.slice s.2.1 m3 s.2.2) x3 w') ?_ ?_
  rotate_left
  · intro hCont
    refine two_ (i := 12) (j := 17) (Ni := some 33) (Nj := some 6) #[true, true, true, true, true, true, true, true, true, true, true, true, true, true, true, true, false, false, false] #[true, true, true, true, true, true, true, true, true, true, true, true, false, true, true, true, false, true, false] rfl rfl rfl rfl (by kernel_rfl) (by decide) (by decide) (fun K hK => ?_) (fun K hK => ?_)
    · skip
      refine goes_ Try.func64 (by kernel_rfl) rfl #[.slice A m3 c] (by rfl) rfl rfl (by simp only [List.map_toArray, List.map_cons, List.map_nil]; rfl) ?_
      with_reducible refine (clone_at M3.out (Kd.C_below CC.out (Below.refl _ _)) CL.out HA.out).mono ?_
      rintro e w2 ⟨A1, c1, rfl, hR, hb⟩
      refine ⟨_, rfl, ?_⟩
      have R3 := Aside0.mk hR
      have BX := Aside0.mk (below_step (Below.refl _ _) hb)
      have HB2 := Aside0.mk hb
      clear hR hb
      have B5 := Aside0.mk (blk_below K5.out BX.out)
      refine hK.out _ _ ⟨(bx7 B5.out).1, (bx7 B5.out).2.1, (bx7 B5.out).2.2.1, (bx7 B5.out).2.2.2.1, (bx7 B5.out).2.2.2.2.1⟩ (fun hHeld => ?_)
      clear hK K
      refine norm_ (a' := ?_) ?_ ?_
      rotate_left
      · show Act.put _ (some 33) _ = _
        simp only [Act.put, List.setIfInBounds_toArray, List.set_cons_zero, List.set_cons_succ, i64_w, i32_w]
        rfl
      refine pure_ (i := 16) (N := some 37) (v := ?_) (a' := ?_) #[true, true, true, true, true, true, true, true, true, true, true, true, true, true, true, true, true, false, false] rfl rfl (by kernel_rfl) (fun _ _ _ h => h) (Or.inl ⟨by rfl, ?_⟩) ?_ ?_
      rotate_left
      · intro w'
        go_simp
        with_reducible rfl
      rotate_left
      · simp only [Act.put, List.setIfInBounds_toArray, List.set_cons_zero, List.set_cons_succ, i64_w, i32_w]
        rfl
      refine one_ (i := 17) (N := some 6) #[true, true, true, true, true, true, true, true, true, true, true, true, true, true, true, true, true, true, false] rfl rfl (by kernel_rfl) (by decide) (fun K hK => ?_)
      refine value_ (w1 := w2.alloc (.cells z6c 67)) (v := .pointer (some ⟨w2.heap.size, 0, none⟩)) (by rfl) rfl ?_ ?_
      · (go_simp; rfl)
      refine hK.out _ _ ⟨(bx7 (blk_below B5.out (below_alloc (Below.refl _ _) (.cells z6c 67)))).1, (bx7 (blk_below B5.out (below_alloc (Below.refl _ _) (.cells z6c 67)))).2.1, (bx7 (blk_below B5.out (below_alloc (Below.refl _ _) (.cells z6c 67)))).2.2.1, (bx7 (blk_below B5.out (below_alloc (Below.refl _ _) (.cells z6c 67)))).2.2.2.1, (bx7 (blk_below B5.out (below_alloc (Below.refl _ _) (.cells z6c 67)))).2.2.2.2.1⟩ (fun hHeld => ?_)
      clear hK K
      refine norm_ (a' := ?_) ?_ ?_
      rotate_left
      · show Act.put _ (some 6) _ = _
        simp only [Act.put, List.setIfInBounds_toArray, List.set_cons_zero, List.set_cons_succ, i64_w, i32_w]
        rfl
      exact norm_ (by simp only [putAll, Act.put, List.setIfInBounds_toArray, List.set_cons_zero, List.set_cons_succ]) (hCont (w2.heap.size, A1, c1) _ ⟨below_step B1.out (below_step BX.out (below_alloc (Below.refl _ _) (.cells z6c 67))), blk_below K4.out (below_step BX.out (below_alloc (Below.refl _ _) (.cells z6c 67))), blk_below K5.out (below_step BX.out (below_alloc (Below.refl _ _) (.cells z6c 67))), blk_new w2 _, L4.out, Nat.le_trans B1.out.size BX.out.size, Nat.ne_of_lt (Nat.lt_of_lt_of_le (blk_lt K4.out) BX.out.size), Kd.R_lower (Kd.R_below R3.out (below_alloc (Below.refl _ _) (.cells z6c 67))) B1.out.size⟩)
    · skip
      refine value_ (w1 := W1.alloc (.cells z6c 67)) (v := .pointer (some ⟨W1.heap.size, 0, none⟩)) (by rfl) rfl ?_ ?_
      · (go_simp; rfl)
      refine hK.out _ _ ⟨(bx7 (blk_below K5.out (below_alloc (Below.refl _ _) (.cells z6c 67)))).1, (bx7 (blk_below K5.out (below_alloc (Below.refl _ _) (.cells z6c 67)))).2.1, (bx7 (blk_below K5.out (below_alloc (Below.refl _ _) (.cells z6c 67)))).2.2.1, (bx7 (blk_below K5.out (below_alloc (Below.refl _ _) (.cells z6c 67)))).2.2.2.1, (bx7 (blk_below K5.out (below_alloc (Below.refl _ _) (.cells z6c 67)))).2.2.2.2.1⟩ (fun hHeld => ?_)
      clear hK K
      refine norm_ (a' := ?_) ?_ ?_
      rotate_left
      · show Act.put _ (some 6) _ = _
        simp only [Act.put, List.setIfInBounds_toArray, List.set_cons_zero, List.set_cons_succ, i64_w, i32_w]
        rfl
      refine one_ (i := 12) (N := some 33) #[true, true, true, true, true, true, true, true, true, true, true, true, true, true, true, true, false, true, false] rfl rfl (by kernel_rfl) (by decide) (fun K hK => ?_)
      refine goes_ Try.func64 (by kernel_rfl) rfl #[.slice A m3 c] (by rfl) rfl rfl (by simp only [List.map_toArray, List.map_cons, List.map_nil]; rfl) ?_
      with_reducible refine (clone_at M3.out (Kd.C_below CC.out (below_alloc (Below.refl _ _) (.cells z6c 67))) CL.out HA.out).mono ?_
      rintro e w2 ⟨A1, c1, rfl, hR, hb⟩
      refine ⟨_, rfl, ?_⟩
      have R3 := Aside0.mk hR
      have BX := Aside0.mk (below_step (below_alloc (Below.refl _ _) (.cells z6c 67)) hb)
      have HB2 := Aside0.mk hb
      clear hR hb
      have B5 := Aside0.mk (blk_below K5.out BX.out)
      refine hK.out _ _ ⟨(bx7 B5.out).1, (bx7 B5.out).2.1, (bx7 B5.out).2.2.1, (bx7 B5.out).2.2.2.1, (bx7 B5.out).2.2.2.2.1⟩ (fun hHeld => ?_)
      clear hK K
      refine norm_ (a' := ?_) ?_ ?_
      rotate_left
      · show Act.put _ (some 33) _ = _
        simp only [Act.put, List.setIfInBounds_toArray, List.set_cons_zero, List.set_cons_succ, i64_w, i32_w]
        rfl
      refine pure_ (i := 16) (N := some 37) (v := ?_) (a' := ?_) #[true, true, true, true, true, true, true, true, true, true, true, true, true, true, true, true, true, true, false] rfl rfl (by kernel_rfl) (fun _ _ _ h => h) (Or.inl ⟨by rfl, ?_⟩) ?_ ?_
      rotate_left
      · intro w'
        go_simp
        with_reducible rfl
      rotate_left
      · simp only [Act.put, List.setIfInBounds_toArray, List.set_cons_zero, List.set_cons_succ, i64_w, i32_w]
        rfl
      exact norm_ (by simp only [putAll, Act.put, List.setIfInBounds_toArray, List.set_cons_zero, List.set_cons_succ]) (hCont (W1.heap.size, A1, c1) _ ⟨below_step B1.out BX.out, blk_below K4.out BX.out, blk_below K5.out BX.out, blk_below (blk_new W1 _) HB2.out, L4.out, B1.out.size, Nat.ne_of_lt (blk_lt K4.out), Kd.R_lower R3.out (Nat.le_trans B1.out.size (World.grownBy_alloc W1 _ none).size)⟩)
  rintro ⟨g6, A1, c1⟩ w3 hV
  have V3 := Aside0.mk (show VG w g4 g5 g6 #[.int .i64 x0, .int .i64 x1, .string x2, .slice A m3 c, .string x4, .int .i64 pp, .slice A' m6 c'] z6c (.slice A1 m3 c1) x3 w3 from hV)
  have hHeld : w3.cell? ⟨g5, 0, none⟩ = some (.int .i64 x0) ∧ w3.cell? ⟨g5, 1, none⟩ = some (.int .i64 x1) ∧ w3.cell? ⟨g5, 2, none⟩ = some (.string x2) ∧ w3.cell? ⟨g5, 3, none⟩ = some (.slice A m3 c) ∧ w3.cell? ⟨g5, 4, none⟩ = some (.string x4) := ⟨(bx7 V3.out.b5).1, (bx7 V3.out.b5).2.1, (bx7 V3.out.b5).2.2.1, (bx7 V3.out.b5).2.2.2.1, (bx7 V3.out.b5).2.2.2.2.1⟩
  obtain ⟨y0, y1, y2, y3, y4, y5⟩ := bx6 (show w3.heap[g6]? = some (.cells #[.int .i64 0, .int .i64 0, .string ⟨#[]⟩, .slice none 0 0, .string ⟨#[]⟩, .slice none 0 0] 67 (0, 0)) from V3.out.b6)
  have fz := fun i => blk_frozen V3.out.b6 i
  clear hV
  refine norm_ (a' := ?_) ?_ ?_
  rotate_left
  · simp only [putAll, Act.put, List.setIfInBounds_toArray, List.set_cons_zero, List.set_cons_succ]
    rfl
  refine last_ (i := 18) (N := none) #[true, true, true, true, true, true, true, true, true, true, true, true, true, true, true, true, true, true, true] rfl rfl (by kernel_rfl) (by decide) (fun K hK => ?_)
  refine skip_ (w1 := ?_) (by rfl) rfl ?_ ?_
  rotate_left
  · go_simp
    rfl
  refine hK.out _ _ ?_
  clear hK K
  refine done_ (by kernel_rfl) ?_
  clear hHeld
  have V6 := Aside0.mk (show VG w g4 g5 g6 #[.int .i64 x0, .int .i64 x1, .string x2, .slice A m3 c, .string x4, .int .i64 pp, .slice A' m6 c'] #[.int .i64 x0, .int .i64 x1, .string x2, .slice A1 m3 c1, .string x4, .slice none 0 0] (.slice A1 m3 c1) x3 (((((((w3.setCell ⟨g6, 0, none⟩ (.int .i64 x0)).setCell ⟨g6, 1, none⟩ (.int .i64 x1)).setCell ⟨g6, 2, none⟩ (.string x2)).setCell ⟨g6, 3, none⟩ (.slice A1 m3 c1)).setCell ⟨g6, 4, none⟩ (.string x4)).setCell ⟨g6, 5, none⟩ (.slice none 0 0))) from VG_set (VG_set (VG_set (VG_set (VG_set (VG_set V3.out 0 _ rfl) 1 _ rfl) 2 _ rfl) 3 _ rfl) 4 _ rfl) 5 _ rfl)
  generalize (((((((w3.setCell ⟨g6, 0, none⟩ (.int .i64 x0)).setCell ⟨g6, 1, none⟩ (.int .i64 x1)).setCell ⟨g6, 2, none⟩ (.string x2)).setCell ⟨g6, 3, none⟩ (.slice A1 m3 c1)).setCell ⟨g6, 4, none⟩ (.string x4)).setCell ⟨g6, 5, none⟩ (.slice none 0 0))) = W4 at V6 ⊢
  clear V3 fz y0 y1 y2 y3 y4 y5 K4 K5 B1 CC
  have z6 := (bx7 V6.out.b5).2.2.2.2.2.2
  go_wp2
  go_loopw [41] (fun v41 wr => ∃ (j : Nat) (A5 : Option Addr) (l5 c5 : Nat), v41 = .int .i64 (j : Int) ∧ j ≤ m6 ∧ Aside0 (VG w g4 g5 g6 #[.int .i64 x0, .int .i64 x1, .string x2, .slice A m3 c, .string x4, .int .i64 pp, .slice A' m6 c'] #[.int .i64 x0, .int .i64 x1, .string x2, .slice A1 m3 c1, .string x4, .slice A5 l5 c5] (.slice A1 m3 c1) x3 wr) ∧ Aside0 (Kd.N k67 67 wr w.heap.size (fun k => w.heap.size ≤ k ∧ k ≠ g4 ∧ k ≠ g6) (.slice A5 l5 c5) ((K0.take j).map (fun c => vaS S m c.toNat)))) (fun v41 _ => m6 - (intOf v41).toNat)
  case atStart => exact ⟨0, none, 0, 0, rfl, Nat.zero_le _, V6, ⟨Kd.N_nil _ _ _ _ _⟩⟩
  case round =>
    obtain ⟨j, A5, l5, c5, rfl, hj, V1, N1⟩ := hrel
    clear V6 z6
    by_cases d : j < m6
    · have db : decide (j < m6) = true := decide_eq_true d
      have d1 : (j : Int) < (m6 : Int) := by omega
      have jb : j < 2000 := (by have h1 := HKL.out; have h2 := M6.out; omega)
      have DD := Aside0.mk d
      have HR := (show Kd.R (Kd.int .i64) 3 wr w0.heap.size (fun k => some k = (Value.slice A' K0.length c').ownBlock) (.slice A' K0.length c') K0 from Kd.R_move RK.out (fun k hk => by
        have h1 := Kd.R_lt RK.out k hk.symm
        obtain ⟨cc, hcc⟩ := Kd.R_typed RK.out k hk.symm
        have h2 : k ≠ g4 := blk_ne hcc BK4.out (by decide)
        have h3 : k < w.heap.size := by have e1 := SZ.out; have e2 := G4.out; omega
        exact (V1.out.bw.block k h3).trans (B0.out.block k h3).symm))
      obtain ⟨gk, ck, ek, _, _, _, _⟩ := Kd.R_form HR (by rw [← M6.out]; omega)
      injection ek with ek e2 e3
      clear e2 e3
      subst ek
      have hjl : j < K0.length := by rw [← M6.out]; exact d
      have x := (Kd.R_celln (0 : Int) HR (j : Int) (by omega) (by rw [← M6.out]; exact d1)).1
      rw [Int.toNat_natCast] at x
      obtain ⟨y, hy⟩ : ∃ y, y = K0[j]'hjl := ⟨_, rfl⟩
      have ey : rdOf (0 : Int) K0 (j : Int) = y := by
        unfold rdOf
        rw [Int.toNat_natCast, List.getD_eq_getElem?_getD, List.getElem?_eq_getElem hjl, hy]; rfl
      rw [ey] at x
      have hmem : y ∈ K0 := by rw [hy]; exact List.getElem_mem _
      obtain ⟨nn, hnn, hnl⟩ := HKN.out y hmem
      subst hnn
      have HC := Aside0.mk (HI.out nn hmem).2
      obtain ⟨xs, hxs⟩ : ∃ xs, xs = (K0.take j).map (fun c => vaS S m c.toNat) := ⟨_, rfl⟩
      have NX := Aside0.mk (show (K0.take (j + 1)).map (fun c => vaS S m c.toNat) = xs ++ [vaS S m nn] by rw [List.take_succ_eq_append_getElem hjl, List.map_append, ← hxs, ← hy]; rfl)
      have LX := Aside0.mk (show (xs.length + 1) * 96 ≤ 140737488355328 by rw [hxs, List.length_map, List.length_take]; omega)
      rw [← hxs] at N1
      have VD := Aside0.mk (show VG w g4 g5 g6 _ _ _ _ wr.drew from VG_below V1.out (below_drew (Below.refl _ _)))
      have ND := Aside0.mk (show Kd.N k67 67 wr.drew w.heap.size (fun k => w.heap.size ≤ k ∧ k ≠ g4 ∧ k ≠ g6) (.slice A5 l5 c5) xs from Kd.N_below N1.out (below_drew (Below.refl _ _)))
      clear HR hy ey hmem hnl hxs hjl
      go_upto_region 8 with (fail)
      refine start_ (n := 9) (S := fun w' => w'.cell? ⟨g6, 5, none⟩ = some (.slice A5 l5 c5)) (ds := [8]) #[false, false, false, false, false, false, false, false, false] (by kernel_rfl) rfl rfl ((blk_cell VD.out.b6 5)) (fun hHeld => ?_)
      refine pure_ (i := 0) (N := some 45) (v := ?_) (a' := ?_) #[true, false, false, false, false, false, false, false, false] rfl rfl (by kernel_rfl) (fun _ _ _ h => h) (Or.inl ⟨by rfl, ?_⟩) ?_ ?_
      rotate_left
      · intro w'
        go_simp
        with_reducible rfl
      rotate_left
      · simp only [Act.put, List.setIfInBounds_toArray, List.set_cons_zero, List.set_cons_succ, i64_w, i32_w]
        rfl
      refine pure_ (i := 2) (N := some 47) (v := ?_) (a' := ?_) #[true, false, true, false, false, false, false, false, false] rfl rfl (by kernel_rfl) (fun _ _ _ h => h) (Or.inl ⟨by rfl, ?_⟩) ?_ ?_
      rotate_left
      · intro w'
        go_simp
        with_reducible rfl
      rotate_left
      · simp only [Act.put, List.setIfInBounds_toArray, List.set_cons_zero, List.set_cons_succ, i64_w, i32_w]
        rfl
      refine pure_ (i := 3) (N := some 48) (v := ?_) (a' := ?_) #[true, false, true, true, false, false, false, false, false] rfl rfl (by kernel_rfl) (fun _ _ _ h => h) (Or.inl ⟨by rfl, ?_⟩) ?_ ?_
      rotate_left
      · intro w'
        go_simp
        with_reducible rfl
      rotate_left
      · simp only [Act.put, List.setIfInBounds_toArray, List.set_cons_zero, List.set_cons_succ, i64_w, i32_w]
        rfl
      refine take_ (i := 1) (N := some 46) (v := ?_) (a' := ?_) #[true, true, true, true, false, false, false, false, false] rfl rfl (by kernel_rfl) (fun _ _ _ h => h) (Or.inl ⟨by rfl, ?_⟩) hHeld ?_ ?_
      rotate_left
      · intro w' s0
        go_simp
        with_reducible rfl
      rotate_left
      · simp only [Act.put, List.setIfInBounds_toArray, List.set_cons_zero, List.set_cons_succ, i64_w, i32_w]
        rfl
      refine one_ (i := 4) (N := some 49) #[true, true, true, true, true, false, false, false, false] rfl rfl (by kernel_rfl) (by decide) (fun K hK => ?_)
      refine goes_ Try.func38 (by kernel_rfl) rfl #[.pointer (some ⟨p, 0, none⟩), .int .i64 (nn : Int)] (by rfl) rfl rfl (by simp only [List.map_toArray, List.map_cons, List.map_nil]; rfl) ?_
      with_reducible refine (VC_app HC.out (JA_step HJ.out VD.out.bw)).mono ?_
      rintro e w4 ⟨A7, c7, A8, c8, rfl, hf, hb⟩
      refine ⟨_, rfl, ?_⟩
      have FV := Aside0.mk hf
      have V4 := Aside0.mk (VG_below VD.out hb)
      have N4 := Aside0.mk (Kd.N_below ND.out hb)
      have H4 := Aside0.mk hb.size
      clear hf hb
      refine hK.out _ _ ((blk_cell V4.out.b6 5)) (fun hHeld => ?_)
      clear hK K
      refine norm_ (a' := ?_) ?_ ?_
      rotate_left
      · show Act.put _ (some 49) _ = _
        simp only [Act.put, List.setIfInBounds_toArray, List.set_cons_zero, List.set_cons_succ, i64_w, i32_w]
        rfl
      refine one_ (i := 5) (N := some 50) #[true, true, true, true, true, true, false, false, false] rfl rfl (by kernel_rfl) (by decide) (fun K hK => ?_)
      refine value_ (w1 := w4.alloc (.cells #[Value.int .i64 (vaS S m nn).f0, Value.int .i64 (vaS S m nn).f1, Value.string (vaS S m nn).f2, Value.slice A7 (vaS S m nn).f3.length c7, Value.string (vaS S m nn).f4, Value.slice A8 (vaS S m nn).f5.length c8] 67)) (v := .slice (some ⟨w4.heap.size, 0, none⟩) 1 1) (by rfl) rfl ?_ ?_
      · go_simp
      refine hK.out _ _ ((blk_cell (VG_below V4.out (below_alloc (Below.refl _ _) (.cells #[Value.int .i64 (vaS S m nn).f0, Value.int .i64 (vaS S m nn).f1, Value.string (vaS S m nn).f2, Value.slice A7 (vaS S m nn).f3.length c7, Value.string (vaS S m nn).f4, Value.slice A8 (vaS S m nn).f5.length c8] 67))).b6 5)) (fun hHeld => ?_)
      clear hK K
      refine norm_ (a' := ?_) ?_ ?_
      rotate_left
      · show Act.put _ (some 50) _ = _
        simp only [Act.put, List.setIfInBounds_toArray, List.set_cons_zero, List.set_cons_succ, i64_w, i32_w]
        rfl
      refine one_ (i := 6) (N := some 51) #[true, true, true, true, true, true, true, false, false] rfl rfl (by kernel_rfl) (by decide) (fun K hK => ?_)
      refine Kd.N_append_step k67 (w0 := w) (W := w4) w.heap.size (by rfl) (.tmp 46) (.tmp 50) 65 67 zc67 96 rfl Try.underlying65 info67b rfl (by decide) (by decide) (.slice A5 l5 c5) xs (vaS S m nn) [Value.int .i64 (vaS S m nn).f0, Value.int .i64 (vaS S m nn).f1, Value.string (vaS S m nn).f2, Value.slice A7 (vaS S m nn).f3.length c7, Value.string (vaS S m nn).f4, Value.slice A8 (vaS S m nn).f5.length c8] (fun k => w.heap.size ≤ k ∧ k ≠ g4 ∧ k ≠ g6) (fun k => wr.heap.size ≤ k) rfl rfl FV.out ?_ ?_ N4.out V4.out.bw V4.out.bw.size LX.out ?_
      · intro k hk; exact ⟨⟨Nat.le_trans V1.out.bw.size hk, Nat.ne_of_gt (Nat.lt_of_lt_of_le (blk_lt V1.out.b4) hk), Nat.ne_of_gt (Nat.lt_of_lt_of_le (blk_lt V1.out.b6) hk)⟩, fun e => by have h1 := Kd.N_lt N1.out k e.symm; have h2 : wr.heap.size ≤ k := hk; omega⟩
      · intro k hk; exact ⟨Nat.le_trans V4.out.bw.size hk, Nat.ne_of_gt (Nat.lt_of_lt_of_le (blk_lt V4.out.b4) hk), Nat.ne_of_gt (Nat.lt_of_lt_of_le (blk_lt V4.out.b6) hk)⟩
      intro v9 w5 hN hb hg hat
      have V5 := Aside0.mk (VG_grown V4.out hb hg (fun e => (N4.out.1 g4 e.symm).2.1 rfl) (fun e => (N4.out.1 g6 e.symm).2.2 rfl) (fun k hk => Kd.N_typed N4.out k hk))
      obtain ⟨A9, c9, e9⟩ := Kd.N_slice hN
      obtain ⟨l9, hl9⟩ : ∃ l, l = (xs ++ [vaS S m nn]).length := ⟨_, rfl⟩
      rw [← hl9] at e9
      subst e9
      have N5 := Aside0.mk hN
      have z5 := blk_cell V5.out.b6 5
      have fz := blk_frozen V5.out.b6 5
      clear hN hb hg hat hl9
      refine hK.out _ _ ((blk_cell V5.out.b6 5)) (fun hHeld => ?_)
      clear hK K
      refine norm_ (a' := ?_) ?_ ?_
      rotate_left
      · show Act.put _ (some 51) _ = _
        simp only [Act.put, List.setIfInBounds_toArray, List.set_cons_zero, List.set_cons_succ, i64_w, i32_w]
        rfl
      refine pure_ (i := 7) (N := some 52) (v := ?_) (a' := ?_) #[true, true, true, true, true, true, true, true, false] rfl rfl (by kernel_rfl) (fun _ _ _ h => h) (Or.inl ⟨by rfl, ?_⟩) ?_ ?_
      rotate_left
      · intro w'
        go_simp
        with_reducible rfl
      rotate_left
      · simp only [Act.put, List.setIfInBounds_toArray, List.set_cons_zero, List.set_cons_succ, i64_w, i32_w]
        rfl
      refine last_ (i := 8) (N := none) #[true, true, true, true, true, true, true, true, true] rfl rfl (by kernel_rfl) (by decide) (fun K hK => ?_)
      refine skip_ (w1 := ?_) (by rfl) rfl ?_ ?_
      rotate_left
      · go_simp
        rfl
      refine hK.out _ _ ?_
      clear hK K
      refine done_ (by kernel_rfl) ?_
      clear hHeld z5 fz x
      have V7 := Aside0.mk (show VG w g4 g5 g6 _ #[.int .i64 x0, .int .i64 x1, .string x2, .slice A1 m3 c1, .string x4, .slice A9 l9 c9] (.slice A1 m3 c1) x3 (w5.setCell ⟨g6, 5, none⟩ (.slice A9 l9 c9)) from VG_set V5.out 5 _ rfl)
      have N7 := Aside0.mk (Kd.N_far (p := ⟨g6, 5, none⟩) N5.out (fun k hk => hk.2.2) (.slice A9 l9 c9))
      generalize w5.setCell ⟨g6, 5, none⟩ (.slice A9 l9 c9) = W5 at V7 N7 ⊢
      go_wp2
      go_roundw
      case rel => exact ⟨j + 1, A9, l9, c9, by go_num, DD.out, V7, ⟨by rw [NX.out]; exact N7.out⟩⟩
      case measure => have := DD.out; simp [intOf]; omega
    · have db : decide (j < m6) = false := decide_eq_false d
      have d1 : ¬ (j : Int) < (m6 : Int) := by omega
      obtain rfl : j = m6 := by omega
      obtain ⟨y0, y1, y2, y3, y4, y5⟩ := bx6 V1.out.b6
      obtain ⟨u0, u1, u2, u3, u4, u5⟩ := bx6 (show wr.heap[g4]? = some (.cells #[.int .i64 0, .int .i64 0, .string ⟨#[]⟩, .slice none 0 0, .string ⟨#[]⟩, .slice none 0 0] 67 (0, 0)) from V1.out.b4)
      have fz := fun i => blk_frozen V1.out.b4 i
      go_wp2
      have hU := (show (((((((wr.setCell ⟨g4, 0, none⟩ (.int .i64 x0)).setCell ⟨g4, 1, none⟩ (.int .i64 x1)).setCell ⟨g4, 2, none⟩ (.string x2)).setCell ⟨g4, 3, none⟩ (.slice A1 m3 c1)).setCell ⟨g4, 4, none⟩ (.string x4)).setCell ⟨g4, 5, none⟩ (.slice A5 l5 c5)).heap[g4]? = some (.cells #[.int .i64 x0, .int .i64 x1, .string x2, .slice A1 m3 c1, .string x4, .slice A5 l5 c5] 67 (0, 0))) from blk_put (blk_put (blk_put (blk_put (blk_put (blk_put V1.out.b4 0 _ rfl) 1 _ rfl) 2 _ rfl) 3 _ rfl) 4 _ rfl) 5 _ rfl)
      have hB := below_set (j := 5) (v := .slice A5 l5 c5) (below_set (j := 4) (v := .string x4) (below_set (j := 3) (v := .slice A1 m3 c1) (below_set (j := 2) (v := .string x2) (below_set (j := 1) (v := .int .i64 x1) (below_set (j := 0) (v := .int .i64 x0) V1.out.bw V1.out.l4) V1.out.l4) V1.out.l4) V1.out.l4) V1.out.l4) V1.out.l4
      have hK := fun k (hk : k ≠ g4) => ((((((Below.heap_setCell _ ⟨g4, 5, none⟩ (.slice A5 l5 c5) k hk).trans (Below.heap_setCell _ ⟨g4, 4, none⟩ (.string x4) k hk)).trans (Below.heap_setCell _ ⟨g4, 3, none⟩ (.slice A1 m3 c1) k hk)).trans (Below.heap_setCell _ ⟨g4, 2, none⟩ (.string x2) k hk)).trans (Below.heap_setCell _ ⟨g4, 1, none⟩ (.int .i64 x1) k hk)).trans (Below.heap_setCell wr ⟨g4, 0, none⟩ (.int .i64 x0) k hk))
      refine bodyPost_ret (results_cell_row rfl _ _ g4 67 _ (0, 0) _ rfl hU Try.underlying67 rfl (by kernel_rfl)) rfl ?_
      rw [HX.out]
      have e6 : (K0.take j).map (fun c => vaS S m c.toNat) = K0.map (fun c => vaS S m c.toNat) := by rw [M6.out, List.take_length]
      have N9 := N1.out
      rw [e6] at N9
      exact VR_mk (x := ⟨x0, x1, x2, x3, x4, K0.map (fun c => vaS S m c.toNat)⟩) (g4 := g4) V1.out.bw V1.out.at3 _ N9 (fun k hk => ⟨hk.1, hk.2.1⟩) ⟨_, V1.out.b4⟩ V1.out.l4 _ hB hK
theorem value_all (S : List S96) (hF : FoS S) (hl : S.length ≤ 2000) (hat : ∀ i, (faS S i).f3.length ≤ 100000) (rk : Nat → Nat) (hrk : ∀ c, c < S.length → ∀ i : Nat, paS S c = (i : Int) → i < S.length ∧ rk c = rk i + 1) (hlt : ∀ c, c < S.length → rk c < S.length) : ∀ (m i : Nat), i < S.length → S.length ≤ m + rk i → VC S m i
  | 0, i, hi, hm => absurd (hlt i hi) (by omega)
  | m + 1, i, hi, hm => value_step S hF hl hat m i hi (fun c hc => by
      obtain ⟨c', e, hc', hp⟩ := hF.kp i hi _ hc
      obtain rfl : c = c' := by omega
      have := (hrk c hc' i hp).2
      exact ⟨hc', value_all S hF hl hat rk hrk hlt m c hc' (by omega)⟩)
def vaI (S : List S96) (i : Int) : S67 := if inZ S.length i = true then vaS S S.length i.toNat else ⟨0, 0, ⟨#[]⟩, [], ⟨#[]⟩, []⟩
theorem J_Value {w0 w : World} {p : Nat} {S : List S96} {O : Nat → Prop} (h : JA w0 w p S O) (hF : FoS S) (hl : S.length ≤ 2000) (hat : ∀ i, (faS S i).f3.length ≤ 100000) (i : Int) :
    Calls Try.prog 38 #[.pointer (some ⟨p, 0, none⟩), .int .i64 i] w fun e w' => VR w w' (vaI S i) e := by
  unfold vaI
  by_cases c : inZ S.length i = true
  · rw [if_pos c]
    obtain ⟨k, rfl, hk⟩ := inZ_nat c
    rw [Int.toNat_natCast]
    obtain ⟨rk, h1, h2⟩ := Fo_bound hF
    exact VC_app (value_all S hF hl hat rk h2 h1 S.length k hk (by omega)) h
  · rw [if_neg c]
    have c' : inZ S.length i = false := by simpa using c
    have H := Aside0.mk h
    have C := Aside0.mk c'
    clear h c c' hF hl hat
    go_enter Try.func38, Try.ntmps38
    go_wp2_with (go_at_call 65; refine (J_is (JA_step H.out (below_alloc (Below.refl _ _) _)) _ _ C.out).mono ?_; rintro e w1 ⟨rfl, rfl⟩)
    refine bodyPost_ret (results_cell_row rfl _ _ w.heap.size 67 _ (0, 0) _ rfl (blk_new _ (.cells #[.int .i64 0, .int .i64 0, .string ⟨#[]⟩, .slice none 0 0, .string ⟨#[]⟩, .slice none 0 0] 67)) Try.underlying67 rfl (by kernel_rfl)) rfl ?_
    exact ⟨none, 0, none, 0, rfl, k67_mkF _ _ ⟨0, 0, ⟨#[]⟩, [], ⟨#[]⟩, []⟩ (Nat.le_refl _) (Kd.F_nil _ _ _) (Nat.le_refl _) (Kd.F_nil _ _ _), below_alloc (Below.refl _ _) _⟩
/- The document's tree beside the arena's nodes; its values. -/
def riN (z : S96) : S116 := ⟨⟨z.f0.f0, z.f0.f1, z.f0.f2, z.f0.f3, z.f0.f4, []⟩, z.f2⟩
def riS (S : List S96) : List S116 := S.map riN
theorem len_riS (S : List S96) : (riS S).length = S.length := by simp [riS]
theorem riS_at (S : List S96) (i : Nat) (hi : i < S.length) : rd_T116 (riS S) (i : Int) = ⟨⟨(faS S i).f0, (faS S i).f1, (faS S i).f2, (faS S i).f3, (faS S i).f4, []⟩, kiS S i⟩ := by
  obtain ⟨x, hx⟩ := ex_at hi
  unfold rd_T116 riS faS kiS
  rw [Int.toNat_natCast, List.getD_eq_getElem?_getD, List.getElem?_map, hx]
  rfl
theorem at_ri {w : World} {A : Option Addr} {n : Nat} {S : List S96} (h : Kd.C k116 w A n (riS S)) (i : Nat) (hi : i < S.length) : ∃ ad A3 c3 A6 c6, A = some ad ∧ w.cell? (ad.add (i * 7)) = some (.int .i64 (faS S i).f0) ∧ w.cell? ⟨(ad.add (i * 7)).block, (ad.add (i * 7)).off + 1, none⟩ = some (.int .i64 (faS S i).f1) ∧ w.cell? ⟨(ad.add (i * 7)).block, (ad.add (i * 7)).off + 2, none⟩ = some (.string (faS S i).f2) ∧ w.cell? ⟨(ad.add (i * 7)).block, (ad.add (i * 7)).off + 3, none⟩ = some (.slice A3 (faS S i).f3.length c3) ∧ w.cell? ⟨(ad.add (i * 7)).block, (ad.add (i * 7)).off + 4, none⟩ = some (.string (faS S i).f4) ∧ w.cell? ⟨(ad.add (i * 7)).block, (ad.add (i * 7)).off + 5, none⟩ = some (.slice none 0 0) ∧ w.cell? ⟨(ad.add (i * 7)).block, (ad.add (i * 7)).off + 6, none⟩ = some (.slice A6 (kiS S i).length c6) ∧ (faS S i).f3.length ≤ c3 ∧ Kd.C k103 w A3 (faS S i).f3.length (faS S i).f3 ∧ (kiS S i).length ≤ c6 ∧ Kd.C (Kd.int .i64) w A6 (kiS S i).length (kiS S i) := by
  have hn : n = S.length := by rw [← h.1, len_riS]
  obtain ⟨ad, c, e, _, hK, hc0⟩ := Kd.C_get h z116 (i : Int) (by omega) (by omega)
  have hr := riS_at S i hi
  unfold rd_T116 at hr
  rw [hr] at hK
  rw [Int.toNat_natCast] at hc0
  have hc : ∀ j u, c[j]? = some u → w.cell? (ad.add (i * 7 + j)) = some u := hc0
  obtain ⟨A3, c3, A6, c6, rfl, _, l3, g3, l6, g6⟩ := k116_openN hK
  exact ⟨ad, A3, c3, A6, c6, e, hc 0 _ rfl, by rw [← add_field _ _ 1 (by omega)]; exact hc 1 _ rfl, by rw [← add_field _ _ 2 (by omega)]; exact hc 2 _ rfl, by rw [← add_field _ _ 3 (by omega)]; exact hc 3 _ rfl, by rw [← add_field _ _ 4 (by omega)]; exact hc 4 _ rfl, by rw [← add_field _ _ 5 (by omega)]; exact hc 5 _ rfl, by rw [← add_field _ _ 6 (by omega)]; exact hc 6 _ rfl, l3, g3, l6, g6⟩
structure VH (w : World) (g2 g4 g5 : Nat) (cT c5 : Array Value) (v3 : Value) (x3 : List S103) (w' : World) : Prop where
  bw : Below w.heap.size w w'
  b2 : w'.heap[g2]? = some (.cells cT 57 (0, 0))
  b4 : w'.heap[g4]? = some (.cells z6c 67 (0, 0))
  b5 : w'.heap[g5]? = some (.cells c5 67 (0, 0))
  l4 : w.heap.size ≤ g4
  l5 : w.heap.size ≤ g5
  ne : g4 ≠ g5
  at3 : Kd.R k103 103 w' w.heap.size (fun k => some k = v3.ownBlock) v3 x3
theorem VH_below {w w1 w2 : World} {g2 g4 g5 : Nat} {cT c5 : Array Value} {v3 : Value} {x3 : List S103} (h : VH w g2 g4 g5 cT c5 v3 x3 w1) (b : Below w1.heap.size w1 w2) : VH w g2 g4 g5 cT c5 v3 x3 w2 :=
  ⟨below_step h.bw b, blk_below h.b2 b, blk_below h.b4 b, blk_below h.b5 b, h.l4, h.l5, h.ne, Kd.R_below h.at3 b⟩
theorem VH_set {w w1 : World} {g2 g4 g5 : Nat} {cT c5 c5' : Array Value} {v3 : Value} {x3 : List S103} (h : VH w g2 g4 g5 cT c5 v3 x3 w1) (j : Nat) (u : Value) (e : c5.setIfInBounds j u = c5') : VH w g2 g4 g5 cT c5' v3 x3 (w1.setCell ⟨g5, j, none⟩ u) :=
  ⟨below_set h.bw h.l5, blk_far h.b2 (blk_ne h.b2 h.b5 (by decide)) u, blk_far h.b4 h.ne u, blk_put h.b5 j u e, h.l4, h.l5, h.ne, Kd.R_move h.at3 (fun k hk => by
    obtain ⟨c, hc⟩ := Kd.R_typed h.at3 k hk.symm
    exact Below.heap_setCell w1 ⟨g5, j, none⟩ u k (blk_ne hc h.b5 (by decide)))⟩
/- A write into another block of type 67. -/
theorem VH_far {w w1 : World} {g2 g4 g5 g7 : Nat} {cT c5 : Array Value} {v3 : Value} {x3 : List S103} (h : VH w g2 g4 g5 cT c5 v3 x3 w1) (j : Nat) (u : Value) {c7 : Array Value} (b7 : w1.heap[g7]? = some (.cells c7 67 (0, 0))) (l7 : w.heap.size ≤ g7) (n4 : g4 ≠ g7) (n5 : g5 ≠ g7) : VH w g2 g4 g5 cT c5 v3 x3 (w1.setCell ⟨g7, j, none⟩ u) :=
  ⟨below_set h.bw l7, blk_far h.b2 (blk_ne h.b2 b7 (by decide)) u, blk_far h.b4 n4 u, blk_far h.b5 n5 u, h.l4, h.l5, h.ne, Kd.R_move h.at3 (fun k hk => by
    obtain ⟨c, hc⟩ := Kd.R_typed h.at3 k hk.symm
    exact Below.heap_setCell w1 ⟨g7, j, none⟩ u k (blk_ne hc b7 (by decide)))⟩
theorem VH_grown {w w1 w2 : World} {g2 g4 g5 : Nat} {cT c5 : Array Value} {v3 v5 : Value} {x3 : List S103} (h : VH w g2 g4 g5 cT c5 v3 x3 w1) (hb : Below w.heap.size w w2) (hg : w1.grownBy w2 v5.ownBlock) (h4 : some g4 ≠ v5.ownBlock) (h5 : some g5 ≠ v5.ownBlock) (ht : ∀ k, v5.ownBlock = some k → ∃ c, w1.heap[k]? = some (.cells c 67 (0, 0))) : VH w g2 g4 g5 cT c5 v3 x3 w2 :=
  ⟨hb, blk_grown h.b2 hg (fun e => by obtain ⟨c, hc⟩ := ht _ e.symm; exact blk_ne h.b2 hc (by decide) rfl), blk_grown h.b4 hg h4, blk_grown h.b5 hg h5, h.l4, h.l5, h.ne, Kd.R_move h.at3 (fun k hk => by
    obtain ⟨c, hc⟩ := Kd.R_typed h.at3 k hk.symm
    refine hg.block k (blk_lt hc) (fun e => ?_)
    obtain ⟨c', hc'⟩ := ht k e.symm
    exact blk_ne hc hc' (by decide) rfl)⟩
theorem Is_at {S : List S96} {n c : Nat} {A : Option Addr} {i : Int} {r : Bool} {w : World} (e : n = S.length) (hC : Kd.C k116 w A S.length (riS S)) (hc : S.length ≤ c) (h : marginaliaref05_Is.f (riS S) i = some r) : Calls Try.prog 81 #[.agg #[.slice A n c], .int .i64 i] w fun e w' => e = .returned (.bool r) ∧ Below w.heap.size w w' := by
  subst e
  have := marginaliaref05_Is.calls A c (riS S) i r w (by rw [len_riS]; exact hC) (by rw [len_riS]; exact hc) h
  rw [len_riS] at this
  exact this
def RC (S : List S96) (m : Nat) (i : Nat) : Prop := ∀ (w : World) (A : Option Addr) (c : Nat), Kd.C k116 w A S.length (riS S) → S.length ≤ c → Calls Try.prog 42 #[.agg #[.slice A S.length c], .int .i64 (i : Int)] w fun e w' => VR w w' (vaS S m i) e
theorem RC_app {S : List S96} {m i : Nat} (h : RC S m i) {w : World} {A : Option Addr} {n c : Nat} (e : n = S.length) (hC : Kd.C k116 w A n (riS S)) (hc : n ≤ c) : Calls Try.prog 42 #[.agg #[.slice A n c], .int .i64 (i : Int)] w fun e w' => VR w w' (vaS S m i) e := by
  subst e
  exact h w A c hC hc
set_option maxRecDepth 100000 in
set_option maxHeartbeats 8000000 in
theorem rvalue_step (S : List S96) (hF : FoS S) (hl : S.length ≤ 2000) (hat : ∀ i, (faS S i).f3.length ≤ 100000) (m i : Nat) (hi : i < S.length) (ih : ∀ c : Nat, (c : Int) ∈ kiS S i → c < S.length ∧ RC S m c) : RC S (m + 1) i := by
  intro w A cap hC hcap
  have HI := Aside0.mk ih
  have HCT := Aside0.mk hC
  have HX := Aside0.mk (show vaS S (m + 1) i = ⟨(faS S i).f0, (faS S i).f1, (faS S i).f2, (faS S i).f3, (faS S i).f4, (kiS S i).map (fun c => vaS S m c.toNat)⟩ from rfl)
  have HKL := Aside0.mk (show (kiS S i).length ≤ 2000 from Nat.le_trans (FoS_ki_len hF hi) hl)
  have HKN := Aside0.mk (show ∀ x ∈ kiS S i, ∃ c : Nat, x = (c : Int) ∧ c < S.length by intro x hx; obtain ⟨c, h1, h2, _⟩ := hF.kp i hi x hx; exact ⟨c, h1, h2⟩)
  have HA := Aside0.mk (hat i)
  have HIL := Aside0.mk hi
  have CAP := Aside0.mk hcap
  have EI := Aside0.mk (show marginaliaref05_Is.f (riS S) (i : Int) = some true by
    unfold marginaliaref05_Is.f
    rw [len_riS]
    simp; omega)
  obtain ⟨n, hn⟩ : ∃ n, n = S.length := ⟨_, rfl⟩
  have HN := Aside0.mk hn
  rw [← hn] at hi hcap hC ⊢
  have i1 : (i : Int) < (n : Int) := by omega
  clear hC ih hF hl hat hn
  go_enter Try.func42, Try.ntmps42
  go_upto_region 1 with (fail)
  obtain ⟨W0, hW0⟩ : ∃ W0, W0 = ((w.alloc (.cells #[.slice A n cap] 57)).alloc (.cells #[.int .i64 0, .int .i64 0, .string ⟨#[]⟩, .slice none 0 0, .string ⟨#[]⟩, .slice none 0 0] 67)) := ⟨_, rfl⟩
  obtain ⟨g2, hg2⟩ : ∃ g2, g2 = w.heap.size := ⟨_, rfl⟩
  obtain ⟨g4, hg4⟩ : ∃ g4, g4 = w.heap.size + 1 := ⟨_, rfl⟩
  have SZ : (w.alloc (.cells #[.slice A n cap] 57)).heap.size = w.heap.size + 1 := (by show (w.heap.push _).size = w.heap.size + 1; exact Array.size_push _)
  rw [← hW0, ← hg4, ← hg2]
  have B0 := Aside0.mk (show Below w.heap.size w W0 by rw [hW0]; exact below_step (below_alloc (Below.refl _ _) _) (below_alloc (Below.refl _ _) _))
  have BK2 := Aside0.mk (show W0.heap[g2]? = some (.cells #[.slice A n cap] 57 (0, 0)) by rw [hW0, hg2]; exact blk_below (blk_new w _) (below_alloc (Below.refl _ _) _))
  have BK4 := Aside0.mk (show W0.heap[g4]? = some (.cells z6c 67 (0, 0)) by rw [hW0, hg4, ← SZ]; exact blk_new _ _)
  have L4 := Aside0.mk (show w.heap.size ≤ g4 by rw [hg4]; omega)
  have z2 := (blk_cell BK2.out 0).trans (rfl : #[Value.slice A n cap][0]? = some (.slice A n cap))
  clear hW0 hg2 hg4 SZ
  go_upto_region 3 with (go_at_call 81; refine (Is_at HN.out (Kd.C_below HCT.out B0.out) CAP.out EI.out).mono ?_; rintro e w1 ⟨rfl, hb⟩; have HB1 := Aside0.mk hb; clear hb)
  have B1 := Aside0.mk (below_step B0.out HB1.out)
  have D2 := Aside0.mk (blk_below BK2.out HB1.out)
  have D4 := Aside0.mk (blk_below BK4.out HB1.out)
  have CT := Aside0.mk (show Kd.C k116 w A n (riS S) by rw [HN.out]; exact HCT.out)
  obtain ⟨ad, A3, c3, A6, c6, eA, q0, q1, q2, q3, q4, q5, q6, l3, C3, l6, C6⟩ := at_ri CT.out i HIL.out
  subst eA
  have z2' := (blk_cell D2.out 0).trans (rfl : #[Value.slice (some ad) n cap][0]? = some (.slice (some ad) n cap))
  obtain ⟨F, hFe⟩ : ∃ F, F = faS S i := ⟨_, rfl⟩
  have ha := HA.out
  rw [← hFe] at q0 q1 q2 q3 q4 l3 C3 HX ha
  obtain ⟨K0, hK0⟩ : ∃ K0, K0 = kiS S i := ⟨_, rfl⟩
  rw [← hK0] at q6 l6 C6 HX HI HKL HKN
  obtain ⟨x0, x1, x2, x3, x4⟩ := F
  dsimp only at q0 q1 q2 q3 q4 l3 C3 HX ha
  obtain ⟨m3, hm3⟩ : ∃ m, m = x3.length := ⟨_, rfl⟩
  obtain ⟨m6, hm6⟩ : ∃ m, m = K0.length := ⟨_, rfl⟩
  rw [← hm3] at q3 ha
  rw [← hm6] at q6
  have M3 := Aside0.mk hm3
  have M6 := Aside0.mk hm6
  have CC := Aside0.mk C3
  have CL := Aside0.mk l3
  have HA := Aside0.mk ha
  have Q6 := Aside0.mk q6
  have CK := Aside0.mk C6
  replace q0 := pw_cell_below B1.out q0
  replace q1 := pw_cell_below B1.out q1
  replace q2 := pw_cell_below B1.out q2
  replace q3 := pw_cell_below B1.out q3
  replace q4 := pw_cell_below B1.out q4
  replace q5 := pw_cell_below B1.out q5
  replace q6 := pw_cell_below B1.out q6
  clear hFe hK0 hm3 hm6 C3 l3 ha z2 BK2 BK4 B0 HB1 C6 l6 CAP HCT
  go_upto_region 4 with (fail)
  obtain ⟨W2, hW2⟩ : ∃ W2, W2 = (w1.alloc (.cells #[.int .i64 x0, .int .i64 x1, .string x2, .slice A3 m3 c3, .string x4, .slice none 0 0] 67)) := ⟨_, rfl⟩
  obtain ⟨g5, hg5⟩ : ∃ g5, g5 = w1.heap.size := ⟨_, rfl⟩
  rw [← hW2, ← hg5]
  have BB := (show Below w1.heap.size w1 W2 by rw [hW2]; exact below_alloc (Below.refl _ _) _)
  have B2 := Aside0.mk (below_step B1.out BB)
  have E2 := Aside0.mk (blk_below D2.out BB)
  have E4 := Aside0.mk (blk_below D4.out BB)
  have E5 := Aside0.mk (show W2.heap[g5]? = some (.cells #[.int .i64 x0, .int .i64 x1, .string x2, .slice A3 m3 c3, .string x4, .slice none 0 0] 67 (0, 0)) by rw [hW2, hg5]; exact blk_new w1 _)
  have L5 := Aside0.mk (show w.heap.size ≤ g5 by rw [hg5]; exact B1.out.size)
  have N45 := Aside0.mk (show g4 ≠ g5 by rw [hg5]; exact Nat.ne_of_lt (blk_lt D4.out))
  have C2 := Aside0.mk (Kd.C_below CC.out B2.out)
  have LX3 := Aside0.mk (show (([] : List S103).length + m3) * 32 ≤ 140737488355328 by have := HA.out; rw [List.length_nil]; omega)
  clear hW2 hg5 BB q0 q1 q2 q3 q4 q5 q6 z2'
  obtain ⟨y0, y1, y2, y3, y4, y5⟩ := bx6 E5.out
  clear y0 y1 y2 y4 y5
  go_wp2_with (first | ((with_reducible refine gate_dst (N := 19) rfl ?_); refine Kd.R_lit k103 (w0 := W2) W2.heap.size 103 ?hg (N := 19) ?hd (xs := ([] : List S103)) (inner := []) (ok := fun _ => True) (okp := fun _ => True) ?hr ?hp (fun _ hk => hk) trivial (Below.refl _ _) (Nat.le_refl _) (by simp) ?_; (case hd => rfl); (case hg => rfl); (case hr => first | (go_simp; done) | (go_simp; rfl)); (case hp => exact (Reps.none _ _)); intro v5 W3 hR hb hg_ hnew_; have R5 := Aside0.mk hR; have B3 := Aside0.mk hb; have CX3 := Aside0.mk (show Kd.C k103 W3 A3 m3 x3 by rw [M3.out]; exact Kd.C_below C2.out hb); have y3 := (bx6 (blk_below E5.out hb)).2.2.2.1; clear hR hb hg_ hnew_) | ((with_reducible refine gate_dst (N := 22) rfl ?_); refine Kd.R_append_rows k103 (w0 := W2) W2.heap.size rfl (.tmp 19) (.tmp 21) 52 103 (.agg #[(.string ⟨#[]⟩), (.string ⟨#[]⟩)]) 32 rfl Try.underlying52 info103 rfl (by decide) (by omega) v5 [] x3 _ _ _ (fun _ => True) (fun _ => False) rfl rfl R5.out CX3.out (fun _ _ h => h) (fun _ h => h.elim) (fun _ _ => trivial) B3.out B3.out.size LX3.out ?_; intro v6 W4 hR hb hg_ hat_; obtain ⟨A7, c7, e7⟩ := Kd.R_slice hR; obtain ⟨l7, hl7⟩ : ∃ l, l = (([] : List S103) ++ x3).length := ⟨_, rfl⟩; rw [← hl7] at e7; have LV := Aside0.mk hl7; clear hl7; subst e7; have R6 := Aside0.mk hR; have B4 := Aside0.mk hb; have y3 := (bx6 (blk_below E5.out hb)).2.2.2.1; have f3 := blk_frozen (blk_below E5.out hb) 3; clear hR hb hg_ hat_))
  have V6 := Aside0.mk (show VH w g2 g4 g5 #[.slice (some ad) n cap] #[.int .i64 x0, .int .i64 x1, .string x2, .slice A7 l7 c7, .string x4, .slice none 0 0] (.slice A7 l7 c7) x3 (W4.setCell ⟨g5, 3, none⟩ (.slice A7 l7 c7)) from
    VH_set (j := 3) (c5 := #[.int .i64 x0, .int .i64 x1, .string x2, .slice A3 m3 c3, .string x4, .slice none 0 0]) ⟨below_step B2.out B4.out, blk_below E2.out B4.out, blk_below E4.out B4.out, blk_below E5.out B4.out, L4.out, L5.out, N45.out, Kd.R_lower (Kd.R_tight rfl R6.out) B2.out.size⟩ (.slice A7 l7 c7) rfl)
  generalize W4.setCell ⟨g5, 3, none⟩ (.slice A7 l7 c7) = W5 at V6 ⊢
  clear y3 f3 B1 D2 D4 HA C2 R5 B3 CX3 E2 E4 E5 L4 L5 N45 R6 B4 B2 LX3
  have hjm : m6 ≤ 2000 := (by have h1 := HKL.out; have h2 := M6.out; omega)
  go_loopw [6] (fun v6 wr => ∃ (j : Nat) (A5 : Option Addr) (l5 c5 : Nat), v6 = .int .i64 (j : Int) ∧ j ≤ m6 ∧ Aside0 (VH w g2 g4 g5 #[.slice (some ad) n cap] #[.int .i64 x0, .int .i64 x1, .string x2, .slice A7 l7 c7, .string x4, .slice A5 l5 c5] (.slice A7 l7 c7) x3 wr) ∧ Aside0 (Kd.N k67 67 wr w.heap.size (fun k => w.heap.size ≤ k ∧ k ≠ g4 ∧ k ≠ g5) (.slice A5 l5 c5) ((K0.take j).map (fun c => vaS S m c.toNat)))) (fun v6 _ => m6 - (intOf v6).toNat)
  case atStart => exact ⟨0, none, 0, 0, rfl, Nat.zero_le _, V6, ⟨Kd.N_nil _ _ _ _ _⟩⟩
  case round =>
    obtain ⟨j, A5, l5, c5, rfl, hj, V1, N1⟩ := hrel
    clear V6
    have z2 := (blk_cell V1.out.b2 0).trans (rfl : #[Value.slice (some ad) n cap][0]? = some (.slice (some ad) n cap))
    have q6 := pw_cell_below V1.out.bw Q6.out
    by_cases d : j < m6
    · have db : decide (j < m6) = true := decide_eq_true d
      have d1 : (j : Int) < (m6 : Int) := by omega
      have DD := Aside0.mk d
      have hjl : j < K0.length := by rw [← M6.out]; exact d
      obtain ⟨y, hy⟩ : ∃ y, y = K0[j]'hjl := ⟨_, rfl⟩
      obtain ⟨ad6, e6, x⟩ := Kd.at_int CK.out (j : Int) (by omega) (by rw [← M6.out]; exact d1)
      subst e6
      have ey : rd K0 (j : Int) = y := by
        unfold rd
        rw [Int.toNat_natCast, List.getD_eq_getElem?_getD, List.getElem?_eq_getElem hjl, hy]; rfl
      rw [ey, Int.toNat_natCast] at x
      have hmem : y ∈ K0 := by rw [hy]; exact List.getElem_mem _
      obtain ⟨nn, hnn, hnl⟩ := HKN.out y hmem
      subst hnn
      have HC := Aside0.mk (HI.out nn hmem).2
      obtain ⟨xs, hxs⟩ : ∃ xs, xs = (K0.take j).map (fun c => vaS S m c.toNat) := ⟨_, rfl⟩
      have NX := Aside0.mk (show (K0.take (j + 1)).map (fun c => vaS S m c.toNat) = xs ++ [vaS S m nn] by rw [List.take_succ_eq_append_getElem hjl, List.map_append, ← hxs, ← hy]; rfl)
      have LX := Aside0.mk (show (xs.length + 1) * 96 ≤ 140737488355328 by rw [hxs, List.length_map, List.length_take]; omega)
      rw [← hxs] at N1
      have X6 := Aside0.mk x
      have Q6' := Aside0.mk Q6.out
      have x := pw_cell_below V1.out.bw X6.out
      clear hy ey hmem hnl hxs hjl
      go_upto_region 8 with (fail)
      have VD0 := Aside0.mk (show VH w g2 g4 g5 #[.slice (some ad) n cap] #[.int .i64 x0, .int .i64 x1, .string x2, .slice A7 l7 c7, .string x4, .slice A5 l5 c5] (.slice A7 l7 c7) x3 wr.drew from VH_below V1.out (below_drew (Below.refl _ _)))
      have ND0 := Aside0.mk (show Kd.N k67 67 wr.drew w.heap.size (fun k => w.heap.size ≤ k ∧ k ≠ g4 ∧ k ≠ g5) (.slice A5 l5 c5) xs from Kd.N_below N1.out (below_drew (Below.refl _ _)))
      refine start_ (n := 13) (S := fun w' => w'.cell? ⟨g2, 0, none⟩ = some (.slice (some ad) n cap) ∧ w'.cell? ⟨(ad.add (i * 7)).block, (ad.add (i * 7)).off + 6, none⟩ = some (.slice (some ad6) m6 c6) ∧ w'.cell? (ad6.add j) = some (.int .i64 (nn : Int))) (ds := [12]) #[false, false, false, false, false, false, false, false, false, false, false, false, false] (by kernel_rfl) rfl rfl ⟨((blk_cell VD0.out.b2 0).trans rfl), (pw_cell_below VD0.out.bw Q6.out), (pw_cell_below VD0.out.bw X6.out)⟩ (fun hHeld => ?_)
      generalize wr.drew = WD at hHeld VD0 ND0 ⊢
      have VD := VD0
      have ND := ND0
      clear VD0 ND0
      refine pure_ (i := 1) (N := some 36) (v := ?_) (a' := ?_) #[false, true, false, false, false, false, false, false, false, false, false, false, false] rfl rfl (by kernel_rfl) (fun _ _ _ h => h) (Or.inl ⟨by rfl, ?_⟩) ?_ ?_
      rotate_left
      · intro w'
        go_simp
        with_reducible rfl
      rotate_left
      · simp only [Act.put, List.setIfInBounds_toArray, List.set_cons_zero, List.set_cons_succ, i64_w, i32_w]
        rfl
      refine pure_ (i := 3) (N := some 38) (v := ?_) (a' := ?_) #[false, true, false, true, false, false, false, false, false, false, false, false, false] rfl rfl (by kernel_rfl) (fun _ _ _ h => h) (Or.inl ⟨by rfl, ?_⟩) ?_ ?_
      rotate_left
      · intro w'
        go_simp
        with_reducible rfl
      rotate_left
      · simp only [Act.put, List.setIfInBounds_toArray, List.set_cons_zero, List.set_cons_succ, i64_w, i32_w]
        rfl
      refine pure_ (i := 7) (N := some 42) (v := ?_) (a' := ?_) #[false, true, false, true, false, false, false, true, false, false, false, false, false] rfl rfl (by kernel_rfl) (fun _ _ _ h => h) (Or.inl ⟨by rfl, ?_⟩) ?_ ?_
      rotate_left
      · intro w'
        go_simp
        with_reducible rfl
      rotate_left
      · simp only [Act.put, List.setIfInBounds_toArray, List.set_cons_zero, List.set_cons_succ, i64_w, i32_w]
        rfl
      refine take_ (i := 0) (N := some 35) (v := ?_) (a' := ?_) #[true, true, false, true, false, false, false, true, false, false, false, false, false] rfl rfl (by kernel_rfl) (fun _ _ _ h => h) (Or.inl ⟨by rfl, ?_⟩) hHeld ?_ ?_
      rotate_left
      · rintro w' ⟨s0, s1, s2⟩
        go_simp
        with_reducible rfl
      rotate_left
      · simp only [Act.put, List.setIfInBounds_toArray, List.set_cons_zero, List.set_cons_succ, i64_w, i32_w]
        rfl
      refine take_ (i := 2) (N := some 37) (v := ?_) (a' := ?_) #[true, true, true, true, false, false, false, true, false, false, false, false, false] rfl rfl (by kernel_rfl) (fun _ _ _ h => h) (Or.inl ⟨by rfl, ?_⟩) hHeld ?_ ?_
      rotate_left
      · rintro w' ⟨s0, s1, s2⟩
        go_simp
        with_reducible rfl
      rotate_left
      · simp only [Act.put, List.setIfInBounds_toArray, List.set_cons_zero, List.set_cons_succ, i64_w, i32_w]
        rfl
      refine pure_ (i := 4) (N := some 39) (v := ?_) (a' := ?_) #[true, true, true, true, true, false, false, true, false, false, false, false, false] rfl rfl (by kernel_rfl) (fun _ _ _ h => h) (Or.inl ⟨by rfl, ?_⟩) ?_ ?_
      rotate_left
      · intro w'
        go_simp
        with_reducible rfl
      rotate_left
      · simp only [Act.put, List.setIfInBounds_toArray, List.set_cons_zero, List.set_cons_succ, i64_w, i32_w]
        rfl
      refine pure_ (i := 5) (N := some 40) (v := ?_) (a' := ?_) #[true, true, true, true, true, true, false, true, false, false, false, false, false] rfl rfl (by kernel_rfl) (fun _ _ _ h => h) (Or.inl ⟨by rfl, ?_⟩) ?_ ?_
      rotate_left
      · intro w'
        go_simp
        with_reducible rfl
      rotate_left
      · simp only [Act.put, List.setIfInBounds_toArray, List.set_cons_zero, List.set_cons_succ, i64_w, i32_w]
        rfl
      refine take_ (i := 6) (N := some 41) (v := ?_) (a' := ?_) #[true, true, true, true, true, true, true, true, false, false, false, false, false] rfl rfl (by kernel_rfl) (fun _ _ _ h => h) (Or.inl ⟨by rfl, ?_⟩) hHeld ?_ ?_
      rotate_left
      · rintro w' ⟨s0, s1, s2⟩
        go_simp
        with_reducible rfl
      rotate_left
      · simp only [Act.put, List.setIfInBounds_toArray, List.set_cons_zero, List.set_cons_succ, i64_w, i32_w]
        rfl
      refine pure_ (i := 8) (N := some 43) (v := ?_) (a' := ?_) #[true, true, true, true, true, true, true, true, true, false, false, false, false] rfl rfl (by kernel_rfl) (fun _ _ _ h => h) (Or.inl ⟨by rfl, ?_⟩) ?_ ?_
      rotate_left
      · intro w'
        go_simp
        with_reducible rfl
      rotate_left
      · simp only [Act.put, List.setIfInBounds_toArray, List.set_cons_zero, List.set_cons_succ, i64_w, i32_w]
        rfl
      refine take_ (i := 9) (N := some 44) (v := ?_) (a' := ?_) #[true, true, true, true, true, true, true, true, true, true, false, false, false] rfl rfl (by kernel_rfl) (fun _ _ _ h => h) (Or.inl ⟨by rfl, ?_⟩) hHeld ?_ ?_
      rotate_left
      · rintro w' ⟨s0, s1, s2⟩
        go_simp
        with_reducible rfl
      rotate_left
      · simp only [Act.put, List.setIfInBounds_toArray, List.set_cons_zero, List.set_cons_succ, i64_w, i32_w]
        rfl
      refine join_ (σ := Nat × Option Addr × Nat × Option Addr × Nat) 1 #[true, true, true, true, true, true, true, true, true, true, true, true, false] (fun s => [(45, .agg #[.int .i64 (vaS S m nn).f0, .int .i64 (vaS S m nn).f1, .string (vaS S m nn).f2, .slice s.2.1 (vaS S m nn).f3.length s.2.2.1, .string (vaS S m nn).f4, .slice s.2.2.2.1 (vaS S m nn).f5.length s.2.2.2.2]), (7, .pointer (some ⟨s.1, 0, none⟩))]) (fun s w' => VH w g2 g4 g5 #[.slice (some ad) n cap] #[.int .i64 x0, .int .i64 x1, .string x2, .slice A7 l7 c7, .string x4, .slice A5 l5 c5] (.slice A7 l7 c7) x3 w' ∧ Below WD.heap.size WD w' ∧ Kd.FK k67 w' (fun k => WD.heap.size ≤ k ∧ k ≠ s.1) (vaS S m nn) [.int .i64 (vaS S m nn).f0, .int .i64 (vaS S m nn).f1, .string (vaS S m nn).f2, .slice s.2.1 (vaS S m nn).f3.length s.2.2.1, .string (vaS S m nn).f4, .slice s.2.2.2.1 (vaS S m nn).f5.length s.2.2.2.2] ∧ w'.heap[s.1]? = some (.cells z6c 67 (0, 0)) ∧ WD.heap.size ≤ s.1) ?_ ?_
      rotate_left
      · intro hCont
        refine two_ (i := 10) (j := 11) (Ni := some 45) (Nj := some 7) #[true, true, true, true, true, true, true, true, true, true, true, false, false] #[true, true, true, true, true, true, true, true, true, true, false, true, false] rfl rfl rfl rfl (by kernel_rfl) (by decide) (by decide) (fun K hK => ?_) (fun K hK => ?_)
        · skip
          refine goes_ Try.func42 (by kernel_rfl) rfl #[.agg #[.slice (some ad) n cap], .int .i64 (nn : Int)] (by rfl) rfl rfl (by simp only [List.map_toArray, List.map_cons, List.map_nil]; rfl) ?_
          with_reducible refine (RC_app HC.out HN.out (Kd.C_below CT.out VD.out.bw) hcap).mono ?_
          rintro e w4 ⟨A8, c8, A9, c9, rfl, hf, hb⟩
          refine ⟨_, rfl, ?_⟩
          have FV := Aside0.mk hf
          have HB4 := Aside0.mk hb
          have V4 := Aside0.mk (VH_below VD.out hb)
          clear hf hb
          refine hK.out _ _ ⟨((blk_cell V4.out.b2 0).trans rfl), (pw_cell_below V4.out.bw Q6.out), (pw_cell_below V4.out.bw X6.out)⟩ (fun hHeld => ?_)
          clear hK K
          refine norm_ (a' := ?_) ?_ ?_
          rotate_left
          · show Act.put _ (some 45) _ = _
            simp only [Act.put, List.setIfInBounds_toArray, List.set_cons_zero, List.set_cons_succ, i64_w, i32_w]
            rfl
          refine one_ (i := 11) (N := some 7) #[true, true, true, true, true, true, true, true, true, true, true, true, false] rfl rfl (by kernel_rfl) (by decide) (fun K hK => ?_)
          refine value_ (w1 := w4.alloc (.cells z6c 67)) (v := .pointer (some ⟨w4.heap.size, 0, none⟩)) (by rfl) rfl ?_ ?_
          · (go_simp; rfl)
          refine hK.out _ _ ⟨((blk_cell (VH_below V4.out (below_alloc (Below.refl _ _) (.cells z6c 67))).b2 0).trans rfl), (pw_cell_below (VH_below V4.out (below_alloc (Below.refl _ _) (.cells z6c 67))).bw Q6.out), (pw_cell_below (VH_below V4.out (below_alloc (Below.refl _ _) (.cells z6c 67))).bw X6.out)⟩ (fun hHeld => ?_)
          clear hK K
          refine norm_ (a' := ?_) ?_ ?_
          rotate_left
          · show Act.put _ (some 7) _ = _
            simp only [Act.put, List.setIfInBounds_toArray, List.set_cons_zero, List.set_cons_succ, i64_w, i32_w]
            rfl
          exact norm_ (by simp only [putAll, Act.put, List.setIfInBounds_toArray, List.set_cons_zero, List.set_cons_succ]) (hCont (w4.heap.size, A8, c8, A9, c9) _ ⟨VH_below V4.out (below_alloc (Below.refl _ _) (.cells z6c 67)), below_step HB4.out (below_alloc (Below.refl _ _) (.cells z6c 67)), Kd.FK_mono (Kd.FK_step (Kd.FK_bound FV.out) (fun k hk _ => (below_alloc (Below.refl _ _) (.cells z6c 67)).block k hk.2)) (fun k hk => ⟨hk.1, Nat.ne_of_lt hk.2⟩), blk_new w4 _, HB4.out.size⟩)
        · skip
          refine value_ (w1 := WD.alloc (.cells z6c 67)) (v := .pointer (some ⟨WD.heap.size, 0, none⟩)) (by rfl) rfl ?_ ?_
          · (go_simp; rfl)
          refine hK.out _ _ ⟨((blk_cell (VH_below VD.out (below_alloc (Below.refl _ _) (.cells z6c 67))).b2 0).trans rfl), (pw_cell_below (VH_below VD.out (below_alloc (Below.refl _ _) (.cells z6c 67))).bw Q6.out), (pw_cell_below (VH_below VD.out (below_alloc (Below.refl _ _) (.cells z6c 67))).bw X6.out)⟩ (fun hHeld => ?_)
          clear hK K
          refine norm_ (a' := ?_) ?_ ?_
          rotate_left
          · show Act.put _ (some 7) _ = _
            simp only [Act.put, List.setIfInBounds_toArray, List.set_cons_zero, List.set_cons_succ, i64_w, i32_w]
            rfl
          refine one_ (i := 10) (N := some 45) #[true, true, true, true, true, true, true, true, true, true, true, true, false] rfl rfl (by kernel_rfl) (by decide) (fun K hK => ?_)
          refine goes_ Try.func42 (by kernel_rfl) rfl #[.agg #[.slice (some ad) n cap], .int .i64 (nn : Int)] (by rfl) rfl rfl (by simp only [List.map_toArray, List.map_cons, List.map_nil]; rfl) ?_
          with_reducible refine (RC_app HC.out HN.out (Kd.C_below CT.out (VH_below VD.out (below_alloc (Below.refl _ _) (.cells z6c 67))).bw) hcap).mono ?_
          rintro e w4 ⟨A8, c8, A9, c9, rfl, hf, hb⟩
          refine ⟨_, rfl, ?_⟩
          have FV := Aside0.mk hf
          have HB4 := Aside0.mk hb
          have V4 := Aside0.mk (VH_below (VH_below VD.out (below_alloc (Below.refl _ _) (.cells z6c 67))) hb)
          clear hf hb
          refine hK.out _ _ ⟨((blk_cell V4.out.b2 0).trans rfl), (pw_cell_below V4.out.bw Q6.out), (pw_cell_below V4.out.bw X6.out)⟩ (fun hHeld => ?_)
          clear hK K
          refine norm_ (a' := ?_) ?_ ?_
          rotate_left
          · show Act.put _ (some 45) _ = _
            simp only [Act.put, List.setIfInBounds_toArray, List.set_cons_zero, List.set_cons_succ, i64_w, i32_w]
            rfl
          exact norm_ (by simp only [putAll, Act.put, List.setIfInBounds_toArray, List.set_cons_zero, List.set_cons_succ]) (hCont (WD.heap.size, A8, c8, A9, c9) _ ⟨V4.out, below_step (below_alloc (Below.refl _ _) (.cells z6c 67)) HB4.out, Kd.FK_mono FV.out (fun k hk => by rw [show (WD.alloc (.cells z6c 67)).heap.size = WD.heap.size + 1 from Array.size_push _] at hk; exact ⟨Nat.le_of_succ_le hk, Nat.ne_of_gt hk⟩), blk_below (blk_new WD _) HB4.out, Nat.le_refl _⟩)
      rintro ⟨g7, A8, c8, A9, c9⟩ w5 ⟨hV, hN, hF, hg, hle⟩
      have V5 := Aside0.mk (show VH w g2 g4 g5 #[.slice (some ad) n cap] #[.int .i64 x0, .int .i64 x1, .string x2, .slice A7 l7 c7, .string x4, .slice A5 l5 c5] (.slice A7 l7 c7) x3 w5 from hV)
      have N5 := Aside0.mk (show Below WD.heap.size WD w5 from hN)
      have F5 := Aside0.mk (show Kd.FK k67 w5 (fun k => WD.heap.size ≤ k ∧ k ≠ g7) (vaS S m nn) [.int .i64 (vaS S m nn).f0, .int .i64 (vaS S m nn).f1, .string (vaS S m nn).f2, .slice A8 (vaS S m nn).f3.length c8, .string (vaS S m nn).f4, .slice A9 (vaS S m nn).f5.length c9] from hF)
      have G5 := Aside0.mk (show w5.heap[g7]? = some (.cells z6c 67 (0, 0)) from hg)
      have LE := Aside0.mk (show WD.heap.size ≤ g7 from hle)
      have hHeld : w5.cell? ⟨g2, 0, none⟩ = some (.slice (some ad) n cap) ∧ w5.cell? ⟨(ad.add (i * 7)).block, (ad.add (i * 7)).off + 6, none⟩ = some (.slice (some ad6) m6 c6) ∧ w5.cell? (ad6.add j) = some (.int .i64 (nn : Int)) := ⟨((blk_cell V5.out.b2 0).trans rfl), (pw_cell_below V5.out.bw Q6.out), (pw_cell_below V5.out.bw X6.out)⟩
      obtain ⟨y0, y1, y2, y3, y4, y5⟩ := bx6 (show w5.heap[g7]? = some (.cells #[.int .i64 0, .int .i64 0, .string ⟨#[]⟩, .slice none 0 0, .string ⟨#[]⟩, .slice none 0 0] 67 (0, 0)) from hg)
      have fz := fun i => blk_frozen G5.out i
      clear hV hN hF hg hle
      refine norm_ (a' := ?_) ?_ ?_
      rotate_left
      · simp only [putAll, Act.put, List.setIfInBounds_toArray, List.set_cons_zero, List.set_cons_succ]
        rfl
      refine last_ (i := 12) (N := none) #[true, true, true, true, true, true, true, true, true, true, true, true, true] rfl rfl (by kernel_rfl) (by decide) (fun K hK => ?_)
      refine skip_ (w1 := ?_) (by rfl) rfl ?_ ?_
      rotate_left
      · go_simp
        rfl
      refine hK.out _ _ ?_
      clear hK K
      refine done_ (by kernel_rfl) ?_
      clear hHeld y0 y1 y2 y3 y4 y5 fz
      have BB := (show Below WD.heap.size WD ((((((w5.setCell ⟨g7, 0, none⟩ (.int .i64 (vaS S m nn).f0)).setCell ⟨g7, 1, none⟩ (.int .i64 (vaS S m nn).f1)).setCell ⟨g7, 2, none⟩ (.string (vaS S m nn).f2)).setCell ⟨g7, 3, none⟩ (.slice A8 (vaS S m nn).f3.length c8)).setCell ⟨g7, 4, none⟩ (.string (vaS S m nn).f4)).setCell ⟨g7, 5, none⟩ (.slice A9 (vaS S m nn).f5.length c9)) from below_set (below_set (below_set (below_set (below_set (below_set N5.out LE.out) LE.out) LE.out) LE.out) LE.out) LE.out)
      have V6 := Aside0.mk (VH_below VD.out BB)
      have N6 := Aside0.mk (Kd.N_below ND.out BB)
      have K7 := Aside0.mk (show ((((((w5.setCell ⟨g7, 0, none⟩ (.int .i64 (vaS S m nn).f0)).setCell ⟨g7, 1, none⟩ (.int .i64 (vaS S m nn).f1)).setCell ⟨g7, 2, none⟩ (.string (vaS S m nn).f2)).setCell ⟨g7, 3, none⟩ (.slice A8 (vaS S m nn).f3.length c8)).setCell ⟨g7, 4, none⟩ (.string (vaS S m nn).f4)).setCell ⟨g7, 5, none⟩ (.slice A9 (vaS S m nn).f5.length c9)).heap[g7]? = some (.cells #[.int .i64 (vaS S m nn).f0, .int .i64 (vaS S m nn).f1, .string (vaS S m nn).f2, .slice A8 (vaS S m nn).f3.length c8, .string (vaS S m nn).f4, .slice A9 (vaS S m nn).f5.length c9] 67 (0, 0)) from blk_put (blk_put (blk_put (blk_put (blk_put (blk_put G5.out 0 _ rfl) 1 _ rfl) 2 _ rfl) 3 _ rfl) 4 _ rfl) 5 _ rfl)
      have F6 := Aside0.mk (show Kd.FK k67 ((((((w5.setCell ⟨g7, 0, none⟩ (.int .i64 (vaS S m nn).f0)).setCell ⟨g7, 1, none⟩ (.int .i64 (vaS S m nn).f1)).setCell ⟨g7, 2, none⟩ (.string (vaS S m nn).f2)).setCell ⟨g7, 3, none⟩ (.slice A8 (vaS S m nn).f3.length c8)).setCell ⟨g7, 4, none⟩ (.string (vaS S m nn).f4)).setCell ⟨g7, 5, none⟩ (.slice A9 (vaS S m nn).f5.length c9)) (fun k => WD.heap.size ≤ k ∧ k ≠ g7) (vaS S m nn) [.int .i64 (vaS S m nn).f0, .int .i64 (vaS S m nn).f1, .string (vaS S m nn).f2, .slice A8 (vaS S m nn).f3.length c8, .string (vaS S m nn).f4, .slice A9 (vaS S m nn).f5.length c9] from Kd.FK_step F5.out (fun k hk _ => ((((((Below.heap_setCell _ ⟨g7, 5, none⟩ _ k hk.2).trans (Below.heap_setCell _ ⟨g7, 4, none⟩ _ k hk.2)).trans (Below.heap_setCell _ ⟨g7, 3, none⟩ _ k hk.2)).trans (Below.heap_setCell _ ⟨g7, 2, none⟩ _ k hk.2)).trans (Below.heap_setCell _ ⟨g7, 1, none⟩ _ k hk.2)).trans (Below.heap_setCell w5 ⟨g7, 0, none⟩ _ k hk.2))))
      have ZL := Aside0.mk (show WD.heap.size ≤ ((((((w5.setCell ⟨g7, 0, none⟩ (.int .i64 (vaS S m nn).f0)).setCell ⟨g7, 1, none⟩ (.int .i64 (vaS S m nn).f1)).setCell ⟨g7, 2, none⟩ (.string (vaS S m nn).f2)).setCell ⟨g7, 3, none⟩ (.slice A8 (vaS S m nn).f3.length c8)).setCell ⟨g7, 4, none⟩ (.string (vaS S m nn).f4)).setCell ⟨g7, 5, none⟩ (.slice A9 (vaS S m nn).f5.length c9)).heap.size from BB.size)
      generalize ((((((w5.setCell ⟨g7, 0, none⟩ (.int .i64 (vaS S m nn).f0)).setCell ⟨g7, 1, none⟩ (.int .i64 (vaS S m nn).f1)).setCell ⟨g7, 2, none⟩ (.string (vaS S m nn).f2)).setCell ⟨g7, 3, none⟩ (.slice A8 (vaS S m nn).f3.length c8)).setCell ⟨g7, 4, none⟩ (.string (vaS S m nn).f4)).setCell ⟨g7, 5, none⟩ (.slice A9 (vaS S m nn).f5.length c9)) = W6 at V6 N6 K7 F6 ZL ⊢
      obtain ⟨xx, hxx⟩ : ∃ xx, xx = vaS S m nn := ⟨_, rfl⟩
      rw [← hxx] at K7 F6 NX ⊢
      clear BB hxx V5 F5 G5
      have z5 := (bx6 V6.out.b5).2.2.2.2.2
      obtain ⟨y0, y1, y2, y3, y4, y5⟩ := bx6 K7.out
      go_wp2_with ((with_reducible refine gate_dst (N := 50) rfl ?_); refine Kd.N_append k67 (w0 := w) w.heap.size rfl (.tmp 47) (.tmp 49) 65 67 zc67 96 rfl Try.underlying65 info67b rfl (by decide) (by decide) (.slice A5 l5 c5) xs xx [.int .i64 xx.f0, .int .i64 xx.f1, .string xx.f2, .slice A8 xx.f3.length c8, .string xx.f4, .slice A9 xx.f5.length c9] (fun k => w.heap.size ≤ k ∧ k ≠ g4 ∧ k ≠ g5) (fun k => WD.heap.size ≤ k ∧ k ≠ g7) rfl rfl F6.out (fun k hk => ⟨⟨Nat.le_trans VD.out.bw.size hk.1, Nat.ne_of_gt (Nat.lt_of_lt_of_le (blk_lt VD.out.b4) hk.1), Nat.ne_of_gt (Nat.lt_of_lt_of_le (blk_lt VD.out.b5) hk.1)⟩, fun e => Nat.lt_irrefl _ (Nat.lt_of_lt_of_le (Kd.N_lt ND.out k e.symm) hk.1)⟩) (fun k hk => ⟨Nat.le_trans V6.out.bw.size hk, Nat.ne_of_gt (Nat.lt_of_lt_of_le (blk_lt V6.out.b4) hk), Nat.ne_of_gt (Nat.lt_of_lt_of_le (blk_lt V6.out.b5) hk)⟩) N6.out V6.out.bw V6.out.bw.size LX.out ?_; intro v9 w7 hN hb hg hat; have V7 := Aside0.mk (VH_grown V6.out hb hg (fun e => (N6.out.1 g4 e.symm).2.1 rfl) (fun e => (N6.out.1 g5 e.symm).2.2 rfl) (fun k hk => Kd.N_typed N6.out k hk)); obtain ⟨A10, c10, e10⟩ := Kd.N_slice hN; obtain ⟨l10, hl10⟩ : ∃ l, l = (xs ++ [xx]).length := ⟨_, rfl⟩; rw [← hl10] at e10; subst e10; have N7 := Aside0.mk hN; have z7 := (bx6 V7.out.b5).2.2.2.2.2; have f7 := blk_frozen V7.out.b5 5; clear hN hb hg hat hl10)
      have V8 := Aside0.mk (show VH w g2 g4 g5 _ #[.int .i64 x0, .int .i64 x1, .string x2, .slice A7 l7 c7, .string x4, .slice A10 l10 c10] (.slice A7 l7 c7) x3 (w7.setCell ⟨g5, 5, none⟩ (.slice A10 l10 c10)) from VH_set V7.out 5 _ rfl)
      have N8 := Aside0.mk (Kd.N_far (p := ⟨g5, 5, none⟩) N7.out (fun k hk => hk.2.2) (.slice A10 l10 c10))
      go_roundw
      case rel => exact ⟨j + 1, A10, l10, c10, by go_num, DD.out, V8, ⟨by rw [NX.out]; exact N8.out⟩⟩
      case measure => have := DD.out; simp [intOf]; omega
    · have db : decide (j < m6) = false := decide_eq_false d
      have d1 : ¬ (j : Int) < (m6 : Int) := by omega
      obtain rfl : j = m6 := by omega
      obtain ⟨y0, y1, y2, y3, y4, y5⟩ := bx6 V1.out.b5
      obtain ⟨u0, u1, u2, u3, u4, u5⟩ := bx6 (show wr.heap[g4]? = some (.cells #[.int .i64 0, .int .i64 0, .string ⟨#[]⟩, .slice none 0 0, .string ⟨#[]⟩, .slice none 0 0] 67 (0, 0)) from V1.out.b4)
      have fz := fun i => blk_frozen V1.out.b4 i
      go_wp2
      have hU := (show (((((((wr.setCell ⟨g4, 0, none⟩ (.int .i64 x0)).setCell ⟨g4, 1, none⟩ (.int .i64 x1)).setCell ⟨g4, 2, none⟩ (.string x2)).setCell ⟨g4, 3, none⟩ (.slice A7 l7 c7)).setCell ⟨g4, 4, none⟩ (.string x4)).setCell ⟨g4, 5, none⟩ (.slice A5 l5 c5)).heap[g4]? = some (.cells #[.int .i64 x0, .int .i64 x1, .string x2, .slice A7 l7 c7, .string x4, .slice A5 l5 c5] 67 (0, 0))) from blk_put (blk_put (blk_put (blk_put (blk_put (blk_put V1.out.b4 0 _ rfl) 1 _ rfl) 2 _ rfl) 3 _ rfl) 4 _ rfl) 5 _ rfl)
      have hB := below_set (j := 5) (v := .slice A5 l5 c5) (below_set (j := 4) (v := .string x4) (below_set (j := 3) (v := .slice A7 l7 c7) (below_set (j := 2) (v := .string x2) (below_set (j := 1) (v := .int .i64 x1) (below_set (j := 0) (v := .int .i64 x0) V1.out.bw V1.out.l4) V1.out.l4) V1.out.l4) V1.out.l4) V1.out.l4) V1.out.l4
      have hK := fun k (hk : k ≠ g4) => ((((((Below.heap_setCell _ ⟨g4, 5, none⟩ (.slice A5 l5 c5) k hk).trans (Below.heap_setCell _ ⟨g4, 4, none⟩ (.string x4) k hk)).trans (Below.heap_setCell _ ⟨g4, 3, none⟩ (.slice A7 l7 c7) k hk)).trans (Below.heap_setCell _ ⟨g4, 2, none⟩ (.string x2) k hk)).trans (Below.heap_setCell _ ⟨g4, 1, none⟩ (.int .i64 x1) k hk)).trans (Below.heap_setCell wr ⟨g4, 0, none⟩ (.int .i64 x0) k hk))
      refine bodyPost_ret (results_cell_row rfl _ _ g4 67 _ (0, 0) _ rfl hU Try.underlying67 rfl (by kernel_rfl)) rfl ?_
      rw [HX.out]
      have e6 : (K0.take j).map (fun c => vaS S m c.toNat) = K0.map (fun c => vaS S m c.toNat) := by rw [M6.out, List.take_length]
      have N9 := N1.out
      rw [e6] at N9
      exact VR_mk (x := ⟨x0, x1, x2, x3, x4, K0.map (fun c => vaS S m c.toNat)⟩) (g4 := g4) V1.out.bw V1.out.at3 _ N9 (fun k hk => ⟨hk.1, hk.2.1⟩) ⟨_, V1.out.b4⟩ V1.out.l4 _ hB hK
theorem rvalue_all (S : List S96) (hF : FoS S) (hl : S.length ≤ 2000) (hat : ∀ i, (faS S i).f3.length ≤ 100000) (rk : Nat → Nat) (hrk : ∀ c, c < S.length → ∀ i : Nat, paS S c = (i : Int) → i < S.length ∧ rk c = rk i + 1) (hlt : ∀ c, c < S.length → rk c < S.length) : ∀ (m i : Nat), i < S.length → S.length ≤ m + rk i → RC S m i
  | 0, i, hi, hm => absurd (hlt i hi) (by omega)
  | m + 1, i, hi, hm => rvalue_step S hF hl hat m i hi (fun c hc => by
      obtain ⟨c', e, hc', hp⟩ := hF.kp i hi _ hc
      obtain rfl : c = c' := by omega
      have := (hrk c hc' i hp).2
      exact ⟨hc', rvalue_all S hF hl hat rk hrk hlt m c hc' (by omega)⟩)
theorem R_Value {w : World} {A : Option Addr} {n cap : Nat} {S : List S96} (hn : n = S.length) (hC : Kd.C k116 w A n (riS S)) (hcap : n ≤ cap) (hF : FoS S) (hl : S.length ≤ 2000) (hat : ∀ i, (faS S i).f3.length ≤ 100000) (i : Int) :
    Calls Try.prog 42 #[.agg #[.slice A n cap], .int .i64 i] w fun e w' => VR w w' (vaI S i) e := by
  unfold vaI
  by_cases c : inZ S.length i = true
  · rw [if_pos c]
    obtain ⟨k, rfl, hk⟩ := inZ_nat c
    rw [Int.toNat_natCast]
    obtain ⟨rk, h1, h2⟩ := Fo_bound hF
    exact RC_app (rvalue_all S hF hl hat rk h2 h1 S.length k hk (by omega)) hn hC hcap
  · rw [if_neg c]
    have EI := Aside0.mk (show marginaliaref05_Is.f (riS S) i = some false by
      unfold marginaliaref05_Is.f
      unfold inZ at c
      simp only [Bool.and_eq_true, decide_eq_true_eq] at c
      rw [len_riS]
      split
      · simp; omega
      · rfl)
    have CT := Aside0.mk (show Kd.C k116 w A S.length (riS S) by rw [← hn]; exact hC)
    have HN := Aside0.mk hn
    have CAP := Aside0.mk (show S.length ≤ cap by omega)
    clear c hF hl hat hC hcap hn
    go_enter Try.func42, Try.ntmps42
    go_upto_region 1 with (fail)
    obtain ⟨W0, hW0⟩ : ∃ W0, W0 = ((w.alloc (.cells #[.slice A n cap] 57)).alloc (.cells #[.int .i64 0, .int .i64 0, .string ⟨#[]⟩, .slice none 0 0, .string ⟨#[]⟩, .slice none 0 0] 67)) := ⟨_, rfl⟩
    obtain ⟨g2, hg2⟩ : ∃ g2, g2 = w.heap.size := ⟨_, rfl⟩
    obtain ⟨g4, hg4⟩ : ∃ g4, g4 = w.heap.size + 1 := ⟨_, rfl⟩
    have SZ : (w.alloc (.cells #[.slice A n cap] 57)).heap.size = w.heap.size + 1 := (by show (w.heap.push _).size = w.heap.size + 1; exact Array.size_push _)
    rw [← hW0, ← hg4, ← hg2]
    have B0 := Aside0.mk (show Below w.heap.size w W0 by rw [hW0]; exact below_step (below_alloc (Below.refl _ _) _) (below_alloc (Below.refl _ _) _))
    have BK2 := Aside0.mk (show W0.heap[g2]? = some (.cells #[.slice A n cap] 57 (0, 0)) by rw [hW0, hg2]; exact blk_below (blk_new w _) (below_alloc (Below.refl _ _) _))
    have BK4 := Aside0.mk (show W0.heap[g4]? = some (.cells z6c 67 (0, 0)) by rw [hW0, hg4, ← SZ]; exact blk_new _ _)
    have L4 := Aside0.mk (show w.heap.size ≤ g4 by rw [hg4]; omega)
    have z2 := (blk_cell BK2.out 0).trans (rfl : #[Value.slice A n cap][0]? = some (.slice A n cap))
    clear hW0 hg2 hg4 SZ
    go_upto_region 2 with (go_at_call 81; refine (Is_at HN.out (Kd.C_below CT.out B0.out) CAP.out EI.out).mono ?_; rintro e w1 ⟨rfl, hb⟩; have HB1 := Aside0.mk hb; clear hb)
    have D4 := Aside0.mk (blk_below BK4.out HB1.out)
    have B1 := Aside0.mk (below_step B0.out HB1.out)
    obtain ⟨u0, u1, u2, u3, u4, u5⟩ := bx6 (show w1.heap[g4]? = some (.cells #[.int .i64 0, .int .i64 0, .string ⟨#[]⟩, .slice none 0 0, .string ⟨#[]⟩, .slice none 0 0] 67 (0, 0)) from D4.out)
    have fz := fun i => blk_frozen D4.out i
    go_wp2
    have hU := (show (((((((w1.setCell ⟨g4, 0, none⟩ (.int .i64 0)).setCell ⟨g4, 1, none⟩ (.int .i64 0)).setCell ⟨g4, 2, none⟩ (.string ⟨#[]⟩)).setCell ⟨g4, 3, none⟩ (.slice none 0 0)).setCell ⟨g4, 4, none⟩ (.string ⟨#[]⟩)).setCell ⟨g4, 5, none⟩ (.slice none 0 0)).heap[g4]? = some (.cells #[.int .i64 0, .int .i64 0, .string ⟨#[]⟩, .slice none 0 0, .string ⟨#[]⟩, .slice none 0 0] 67 (0, 0))) from blk_put (blk_put (blk_put (blk_put (blk_put (blk_put D4.out 0 _ rfl) 1 _ rfl) 2 _ rfl) 3 _ rfl) 4 _ rfl) 5 _ rfl)
    have hB := below_set (j := 5) (v := .slice none 0 0) (below_set (j := 4) (v := .string ⟨#[]⟩) (below_set (j := 3) (v := .slice none 0 0) (below_set (j := 2) (v := .string ⟨#[]⟩) (below_set (j := 1) (v := .int .i64 0) (below_set (j := 0) (v := .int .i64 0) B1.out L4.out) L4.out) L4.out) L4.out) L4.out) L4.out
    refine bodyPost_ret (results_cell_row rfl _ _ g4 67 _ (0, 0) _ rfl hU Try.underlying67 rfl (by kernel_rfl)) rfl ?_
    exact ⟨none, 0, none, 0, rfl, k67_mkF _ _ ⟨0, 0, ⟨#[]⟩, [], ⟨#[]⟩, []⟩ (Nat.le_refl _) (Kd.F_nil _ _ _) (Nat.le_refl _) (Kd.F_nil _ _ _), hB⟩
/- What the document's functions say of an arena's nodes. -/
def EvS {α : Type} (g : Nat → Option α) (r : α) : Prop := ∃ k0, ∀ k, k0 ≤ k → g k = some r
theorem EV_of {α : Type} {g : Nat → Option α} (hm : ∀ k, LeO (g k) (g (k + 1))) {r : α} (h : ∃ k, g k = some r) : EvS g r := by
  obtain ⟨k, hk⟩ := h
  exact ⟨k, fun k' hk' => at_rounds hm hk' hk⟩
theorem ri_ext {S T : List S96} (hl : S.length = T.length) (h1 : ∀ i, i < S.length → faS S i = faS T i) (h3 : ∀ i, i < S.length → kiS S i = kiS T i) : riS S = riS T := by
  apply List.ext_getElem?
  intro i
  unfold riS
  rw [List.getElem?_map, List.getElem?_map]
  by_cases c : i < S.length
  · obtain ⟨x, hx⟩ := ex_at c
    obtain ⟨y, hy⟩ := ex_at (S := T) (i := i) (by omega)
    have e1 := h1 i c
    have e3 := h3 i c
    unfold faS at e1
    unfold kiS at e3
    rw [hx, hy] at e1 e3
    rw [hx, hy]
    simp only at e1 e3
    simp only [Option.map_some, riN, e1, e3]
  · rw [List.getElem?_eq_none (by omega), List.getElem?_eq_none (by omega)]
theorem ri_setPa (S : List S96) (i : Nat) (x : Int) : riS (setPa S i x) = riS S :=
  ri_ext (len_setPa S i x) (fun j _ => by rw [fa_setPa]) (fun j _ => by rw [ki_setPa])
theorem ri_setKi (S : List S96) (i : Nat) (hi : i < S.length) (l : List Int) : riS (setKi S i l) = (riS S).set i ⟨⟨(faS S i).f0, (faS S i).f1, (faS S i).f2, (faS S i).f3, (faS S i).f4, []⟩, l⟩ := by
  obtain ⟨x, hx⟩ := ex_at hi
  unfold riS setKi faS
  rw [hx]
  dsimp only
  rw [List.map_set]
  rfl
theorem ev_set (S : List S96) (hl : S.length ≤ 2000) (i : Nat) (hi : i < S.length) (l : List Int) : marginaliaref05_set.f (riS S) (i : Int) l = some (riS (setKi S i l)) := by
  unfold marginaliaref05_set.f
  rw [Option.bind_some, List.length_nil, len_riS, if_pos (by omega), Option.bind_some, List.nil_append, len_riS, if_pos (by omega), if_pos (by omega), riS_at S i hi, Int.toNat_natCast, ri_setKi S i hi]
theorem ev_Is (S : List S96) (i : Int) : marginaliaref05_Is.f (riS S) i = some (inZ S.length i) := by
  unfold marginaliaref05_Is.f inZ
  rw [len_riS]
  by_cases c : i ≥ 0
  · rw [if_pos c, decide_eq_true (show 0 ≤ i from c), Bool.true_and]
  · rw [if_neg c, decide_eq_false (show ¬ 0 ≤ i from c), Bool.false_and]
theorem ev_holds (S : List S96) (i : Nat) (hi : i < S.length) : marginaliaref05_holds.f (riS S) (i : Int) = some (hoB (faS S i).f0) := by
  unfold marginaliaref05_holds.f hoB
  rw [len_riS, if_pos (by omega), if_pos (by omega), riS_at S i hi]
  dsimp only
  by_cases c : (faS S i).f0 = 0
  · rw [if_pos c, c]; rfl
  · rw [if_neg c]
    have : ((faS S i).f0 == 0) = false := by simp [c]
    rw [this, Bool.false_or]
theorem ev_Kids (S : List S96) (i : Int) : marginaliaref05_Kids.f (riS S) i = some (kiI S i) := by
  unfold marginaliaref05_Kids.f kiI
  rw [ev_Is, Option.bind_some]
  by_cases c : inZ S.length i = true
  · rw [if_pos c, if_pos c]
    obtain ⟨k, rfl, hk⟩ := inZ_nat c
    rw [len_riS, if_pos (by omega), if_pos (by omega), riS_at S k hk, Int.toNat_natCast]
  · rw [if_neg c, if_neg c]
theorem ev_Make (S : List S96) (hl : S.length ≤ 2000) (x : S94) (hx : x.f3.length ≤ 100000) (l5 : List S67) : marginaliaref05_Make.f (riS S) x.f0 x.f1 x.f2 x.f3 x.f4 l5 = some (riS (mkS S x).1, (mkS S x).2) := by
  unfold marginaliaref05_Make.f mkS
  rw [len_riS]
  by_cases c : 2000 ≤ S.length
  · rw [if_pos (by omega), if_pos c]
  · rw [if_neg (by omega), if_neg c, Option.bind_some, List.length_nil, if_pos (by omega), Option.bind_some, List.length_nil, if_pos (by omega), Option.bind_some, List.nil_append, len_riS, if_pos (by omega), Option.bind_some, List.length_append, List.length_singleton, len_riS]
    have h1 : riS (S ++ [(⟨x, -1, []⟩ : S96)]) = riS S ++ [⟨⟨x.f0, x.f1, x.f2, [] ++ x.f3, x.f4, []⟩, []⟩] := by
      unfold riS; rw [List.map_append]; rfl
    rw [h1, show wrap64 (((S.length + 1 : Nat) : Int) - 1) = (S.length : Int) by unfold wrap64; omega]
theorem mem_pa {S : List S96} (h : FoS S) (x : Int) (j : Nat) (hj : j < S.length) : x ∈ kiS S j ↔ paI S x = (j : Int) := by
  constructor
  · intro hx
    obtain ⟨c, rfl, hc, hp⟩ := h.kp j hj x hx
    unfold paI
    rw [if_pos (by unfold inZ; rw [decide_eq_true (by omega), decide_eq_true (by omega)]; rfl), Int.toNat_natCast, hp]
  · intro hp
    unfold paI at hp
    split at hp
    · rename_i c
      obtain ⟨k, rfl, hk⟩ := inZ_nat c
      rw [Int.toNat_natCast] at hp
      rcases h.pk k hk with h1 | ⟨b, h1, _, h3⟩
      · omega
      · have : b = j := by omega
        subst this
        exact h3
    · omega
theorem rd_at {l : List Int} {j : Nat} (hj : j < l.length) : rd l (j : Int) = l[j] := by
  unfold rd
  rw [Int.toNat_natCast, List.getD_eq_getElem?_getD, List.getElem?_eq_getElem hj]; rfl
theorem Parent_l1 (S : List S96) (hl : S.length ≤ 2000) (x : Int) (j : Nat) (hj : j < S.length) (hk : (kiS S j).length ≤ 2000) (r : Int) (h : (x ∈ kiS S j ∧ r = (j : Int)) ∨ (x ∉ kiS S j ∧ ∃ k, marginaliaref05_Parent.l0 k x ((j + 1 : Nat) : Int) (riS S) = some r)) : ∀ (m b : Nat), b + m = (kiS S j).length → (∀ a, a < b → (kiS S j)[a]? ≠ some x) → ∃ k, marginaliaref05_Parent.l1 k x (j : Int) (b : Int) (riS S) = some r
  | 0, b, hb, hn => by
    rcases h with ⟨hx, _⟩ | ⟨_, k, hk'⟩
    · obtain ⟨a, ha, e⟩ := List.getElem_of_mem hx
      exact absurd (by rw [List.getElem?_eq_getElem ha, e]) (hn a (by omega))
    · refine ⟨k + 1, ?_⟩
      unfold marginaliaref05_Parent.l1
      rw [len_riS, if_pos (by omega), if_pos (by omega), riS_at S j hj]
      dsimp only
      rw [if_neg (by omega), show wrap64 ((j : Int) + 1) = ((j + 1 : Nat) : Int) by unfold wrap64; omega]
      exact hk'
  | m + 1, b, hb, hn => by
    have hbl : b < (kiS S j).length := by omega
    by_cases e : (kiS S j)[b] = x
    · rcases h with ⟨_, hr⟩ | ⟨hx, _⟩
      · refine ⟨1, ?_⟩
        unfold marginaliaref05_Parent.l1
        rw [len_riS, if_pos (by omega), if_pos (by omega), riS_at S j hj]
        dsimp only
        rw [if_pos (by omega), if_pos (by omega), rd_at hbl, if_pos e, hr]
      · exact absurd (by rw [← e]; exact List.getElem_mem _) hx
    · obtain ⟨k, hk'⟩ := Parent_l1 S hl x j hj hk r h m (b + 1) (by omega) (fun a ha => by
        by_cases e2 : a = b
        · subst e2; rw [List.getElem?_eq_getElem hbl]; intro e3; exact e (Option.some.inj e3)
        · exact hn a (by omega))
      refine ⟨k + 1, ?_⟩
      unfold marginaliaref05_Parent.l1
      rw [len_riS, if_pos (by omega), if_pos (by omega), riS_at S j hj]
      dsimp only
      rw [if_pos (by omega), if_pos (by omega), rd_at hbl, if_neg e, show wrap64 ((b : Int) + 1) = ((b + 1 : Nat) : Int) by unfold wrap64; omega]
      exact hk'
theorem Parent_l0 (S : List S96) (hF : FoS S) (hl : S.length ≤ 2000) (x : Int) : ∀ (d j : Nat), j + d = S.length → (paI S x = -1 ∨ (j : Int) ≤ paI S x) → ∃ k, marginaliaref05_Parent.l0 k x (j : Int) (riS S) = some (paI S x)
  | 0, j, hj, hp => by
    refine ⟨1, ?_⟩
    unfold marginaliaref05_Parent.l0
    rw [len_riS, if_neg (by omega)]
    rcases hp with hp | hp
    · rw [hp]
    · exfalso
      unfold paI at hp
      split at hp
      · rename_i c
        obtain ⟨k, rfl, hk⟩ := inZ_nat c
        rw [Int.toNat_natCast] at hp
        rcases hF.pk k hk with h1 | ⟨b, h1, h2, _⟩
        · omega
        · omega
      · omega
  | d + 1, j, hj, hp => by
    have hjl : j < S.length := by omega
    have hk := Nat.le_trans (FoS_ki_len hF hjl) hl
    have h : (x ∈ kiS S j ∧ paI S x = (j : Int)) ∨ (x ∉ kiS S j ∧ ∃ k, marginaliaref05_Parent.l0 k x ((j + 1 : Nat) : Int) (riS S) = some (paI S x)) := by
      by_cases c : x ∈ kiS S j
      · exact .inl ⟨c, (mem_pa hF x j hjl).1 c⟩
      · refine .inr ⟨c, Parent_l0 S hF hl x d (j + 1) (by omega) ?_⟩
        rcases hp with hp | hp
        · exact .inl hp
        · refine .inr ?_
          have : paI S x ≠ (j : Int) := fun e => c ((mem_pa hF x j hjl).2 e)
          omega
    obtain ⟨k, hk'⟩ := Parent_l1 S hl x j hjl hk _ h (kiS S j).length 0 (by omega) (fun a ha => by omega)
    refine ⟨k + 1, ?_⟩
    unfold marginaliaref05_Parent.l0
    rw [len_riS, if_pos (by omega)]
    exact hk'
theorem pa_ge {S : List S96} (hF : FoS S) (x : Int) : paI S x = -1 ∨ 0 ≤ paI S x := by
  unfold paI
  split
  · rename_i c
    obtain ⟨k, rfl, hk⟩ := inZ_nat c
    rw [Int.toNat_natCast]
    rcases hF.pk k hk with h1 | ⟨b, h1, _⟩
    · exact .inl h1
    · exact .inr (by omega)
  · exact .inl rfl
theorem ev_Parent (S : List S96) (hF : FoS S) (hl : S.length ≤ 2000) (x : Int) : EvS (fun k => marginaliaref05_Parent.f k (riS S) x) (paI S x) :=
  EV_of (marginaliaref05_Parent.mono _ _) (Parent_l0 S hF hl x S.length 0 (by omega) (pa_ge hF x))
theorem paI_nat {S : List S96} {i : Nat} (hi : i < S.length) : paI S (i : Int) = paS S i := by
  unfold paI
  rw [if_pos (by unfold inZ; rw [decide_eq_true (by omega), decide_eq_true (by omega)]; rfl), Int.toNat_natCast]
theorem EV_bind {α β : Type} {g : Nat → Option α} {f : Nat → α → Option β} {r : α} {q : β} (hg : EvS g r) (hf : EvS (fun k => f k r) q) : EvS (fun k => (g k).bind (f k)) q := by
  obtain ⟨k1, h1⟩ := hg
  obtain ⟨k2, h2⟩ := hf
  refine ⟨max k1 k2, fun k hk => ?_⟩
  dsimp only
  rw [h1 k (by omega), Option.bind_some]
  exact h2 k (by omega)
theorem EV_succ {α : Type} {g h : Nat → Option α} {r : α} (e : ∀ k, h (k + 1) = g k) (hg : EvS g r) : EvS h r := by
  obtain ⟨k0, h0⟩ := hg
  refine ⟨k0 + 1, fun k hk => ?_⟩
  obtain ⟨k, rfl⟩ : ∃ q, k = q + 1 := ⟨k - 1, by omega⟩
  rw [e]
  exact h0 k (by omega)
theorem EV_some {α : Type} (r : α) : EvS (fun _ => some r) r := ⟨0, fun _ _ => rfl⟩
theorem within_no (S : List S96) (c : Nat) (x7 : Int) : EvS (fun k => marginaliaref05_within.l0 k (-1) (c : Int) x7 (riS S)) false := by
  refine EV_succ (g := fun k => marginaliaref05_within.j1 k (-1) (c : Int) x7 false (riS S)) (fun k => ?_) ?_
  · show marginaliaref05_within.l0 (k + 1) _ _ _ _ = _
    rw [marginaliaref05_within.l0]
    split
    · rw [decide_eq_false (by decide)]
    · rfl
  · refine EV_succ (g := fun _ => some false) (fun k => ?_) (EV_some _)
    show marginaliaref05_within.j1 (k + 1) _ _ _ _ _ = _
    rw [marginaliaref05_within.j1, if_neg (by decide)]
theorem within_at (S : List S96) (hF : FoS S) (hl : S.length ≤ 2000) (rk : Nat → Nat) (hrk : ∀ c, c < S.length → ∀ i : Nat, paS S c = (i : Int) → i < S.length ∧ rk c = rk i + 1) (c : Nat) : ∀ (m q x7 : Nat), q < S.length → rk q ≤ m → x7 + rk q ≤ S.length → EvS (fun k => marginaliaref05_within.l0 k (q : Int) (c : Int) (x7 : Int) (riS S)) (upS (paS S) m q c) := by
  intro m
  induction m with
  | zero =>
    intro q x7 hq hm hx
    refine EV_succ (g := fun k => marginaliaref05_within.j1 k (q : Int) (c : Int) (x7 : Int) true (riS S)) (fun k => ?_) ?_
    · show marginaliaref05_within.l0 (k + 1) _ _ _ _ = _
      rw [marginaliaref05_within.l0, len_riS, if_pos (by omega), decide_eq_true (by omega)]
    · by_cases e : q = c
      · refine EV_succ (g := fun _ => some true) (fun k => ?_) ?_
        · show marginaliaref05_within.j1 (k + 1) _ _ _ _ _ = _
          rw [marginaliaref05_within.j1, if_pos rfl, if_pos (by omega)]
        · rw [show upS (paS S) 0 q c = true by unfold upS; simp [e]]; exact EV_some _
      · refine EV_succ (g := fun k => (marginaliaref05_Parent.f k (riS S) (q : Int)).bind fun t203 => marginaliaref05_within.l0 k t203 (c : Int) (wrap64 ((x7 : Int) + 1)) (riS S)) (fun k => ?_) ?_
        · show marginaliaref05_within.j1 (k + 1) _ _ _ _ _ = _
          rw [marginaliaref05_within.j1, if_pos rfl, if_neg (by omega)]
        · refine EV_bind (ev_Parent S hF hl (q : Int)) ?_
          have hp : paS S q = -1 := by
            rcases FoS_pa hF hq with h1 | ⟨j, h1, _⟩
            · exact h1
            · have := (hrk q hq j h1).2; omega
          rw [paI_nat hq, hp, show upS (paS S) 0 q c = false by unfold upS; simp [e]]
          exact within_no S c _
  | succ m ih =>
    intro q x7 hq hm hx
    refine EV_succ (g := fun k => marginaliaref05_within.j1 k (q : Int) (c : Int) (x7 : Int) true (riS S)) (fun k => ?_) ?_
    · show marginaliaref05_within.l0 (k + 1) _ _ _ _ = _
      rw [marginaliaref05_within.l0, len_riS, if_pos (by omega), decide_eq_true (by omega)]
    · unfold upS
      by_cases e : q = c
      · rw [if_pos e]
        refine EV_succ (g := fun _ => some true) (fun k => ?_) (EV_some _)
        show marginaliaref05_within.j1 (k + 1) _ _ _ _ _ = _
        rw [marginaliaref05_within.j1, if_pos rfl, if_pos (by omega)]
      · rw [if_neg e]
        refine EV_succ (g := fun k => (marginaliaref05_Parent.f k (riS S) (q : Int)).bind fun t203 => marginaliaref05_within.l0 k t203 (c : Int) (wrap64 ((x7 : Int) + 1)) (riS S)) (fun k => ?_) ?_
        · show marginaliaref05_within.j1 (k + 1) _ _ _ _ _ = _
          rw [marginaliaref05_within.j1, if_pos rfl, if_neg (by omega)]
        · refine EV_bind (ev_Parent S hF hl (q : Int)) ?_
          rw [paI_nat hq]
          rcases FoS_pa hF hq with h1 | ⟨j, h1, h2, _⟩
          · rw [h1, if_pos (by decide)]
            exact within_no S c _
          · have hr := (hrk q hq j h1).2
            rw [h1, if_neg (by omega), Int.toNat_natCast, show wrap64 ((x7 : Int) + 1) = ((x7 + 1 : Nat) : Int) by unfold wrap64; omega]
            exact ih j (x7 + 1) h2 (by omega) (by omega)
theorem ev_within (S : List S96) (hF : FoS S) (hl : S.length ≤ 2000) (q c : Nat) (hq : q < S.length) : EvS (fun k => marginaliaref05_within.f k (riS S) (q : Int) (c : Int)) (subB S c q) := by
  obtain ⟨rk, h1, h2⟩ := Fo_bound hF
  exact within_at S hF hl rk h2 c S.length q 0 hq (by have := h1 q hq; omega) (by have := h1 q hq; omega)
theorem EV_ifp {α : Type} {c : Prop} [Decidable c] (hc : c) {g f : Nat → Option α} {r : α} (h : EvS g r) : EvS (fun k => if c then g k else f k) r := by
  simp only [if_pos hc]; exact h
theorem EV_ifn {α : Type} {c : Prop} [Decidable c] (hc : ¬ c) {g f : Nat → Option α} {r : α} (h : EvS f r) : EvS (fun k => if c then g k else f k) r := by
  simp only [if_neg hc]; exact h
theorem rd_116 (S : List S96) (i : Nat) (hi : i < S.length) : (rd_T116 (riS S) (i : Int)).f1 = kiS S i := by rw [riS_at S i hi]
theorem out_l0 (S : List S96) (hl : S.length ≤ 2000) (x : Int) (p : Nat) (hp : p < S.length) (hk : (kiS S p).length ≤ 2000) : ∀ (m b : Nat) (acc : List Int), b + m = (kiS S p).length → acc.length ≤ b → ∃ k, marginaliaref05_out.l0 k x (p : Int) acc (b : Int) (riS S) = some (riS (setKi S p (acc ++ ((kiS S p).drop b).filter (fun y => decide (y ≠ x)))))
  | 0, b, acc, hb, ha => by
    refine ⟨1, ?_⟩
    unfold marginaliaref05_out.l0
    rw [len_riS, if_pos (by omega), if_pos (by omega), rd_116 S p hp, if_neg (by omega), ev_set S hl p hp, List.drop_eq_nil_of_le (by omega), List.filter_nil, List.append_nil]
    rfl
  | m + 1, b, acc, hb, ha => by
    have hbl : b < (kiS S p).length := by omega
    have hd : (kiS S p).drop b = (kiS S p)[b] :: (kiS S p).drop (b + 1) := List.drop_eq_getElem_cons hbl
    by_cases e : (kiS S p)[b] = x
    · obtain ⟨k, hk'⟩ := out_l0 S hl x p hp hk m (b + 1) acc (by omega) (by omega)
      refine ⟨k + 1, ?_⟩
      unfold marginaliaref05_out.l0
      rw [len_riS, if_pos (by omega), if_pos (by omega), rd_116 S p hp, if_pos (by omega), if_pos (by omega), rd_at hbl, if_pos e, show wrap64 ((b : Int) + 1) = ((b + 1 : Nat) : Int) by unfold wrap64; omega, hk', hd, List.filter_cons_of_neg (by simp [e])]
    · obtain ⟨k, hk'⟩ := out_l0 S hl x p hp hk m (b + 1) (acc ++ [(kiS S p)[b]]) (by omega) (by rw [List.length_append, List.length_singleton]; omega)
      refine ⟨k + 1, ?_⟩
      unfold marginaliaref05_out.l0
      rw [len_riS, if_pos (by omega), if_pos (by omega), rd_116 S p hp, if_pos (by omega), if_pos (by omega), rd_at hbl, if_neg e, if_pos (by omega), show wrap64 ((b : Int) + 1) = ((b + 1 : Nat) : Int) by unfold wrap64; omega, hk', hd, List.filter_cons_of_pos (by simp [e]), List.append_assoc]
      rfl
theorem out_mono_l (k : Nat) (y0 y1 : Int) (y2 : List Int) (y3 : Int) (y4 : List S116) : LeO (marginaliaref05_out.l0 k y0 y1 y2 y3 y4) (marginaliaref05_out.l0 (k + 1) y0 y1 y2 y3 y4) := marginaliaref05_out.mono_l k y0 y1 y2 y3 y4
theorem ev_out (S : List S96) (hF : FoS S) (hl : S.length ≤ 2000) (c : Nat) (hc : c < S.length) : EvS (fun k => marginaliaref05_out.f k (riS S) (c : Int)) (riS (outS S c)) := by
  unfold marginaliaref05_out.f
  refine EV_bind (ev_Parent S hF hl (c : Int)) ?_
  rw [paI_nat hc]
  unfold outS
  rcases FoS_pa hF hc with h1 | ⟨j, h1, h2, _⟩
  · rw [h1, if_pos (show (-1 : Int) < 0 by decide)]
    exact EV_ifp (by decide) (EV_some _)
  · rw [h1, if_neg (show ¬ ((j : Int) < 0) by omega), Int.toNat_natCast, ri_setPa]
    refine EV_ifn (by omega) ?_
    obtain ⟨k, hk⟩ := out_l0 S hl (c : Int) j h2 (Nat.le_trans (FoS_ki_len hF h2) hl) (kiS S j).length 0 [] (by omega) (Nat.le_refl _)
    refine EV_of (fun k => out_mono_l k _ _ _ _ _) ⟨k, ?_⟩
    rw [List.drop_zero, List.nil_append] at hk
    exact hk
theorem ev_Remove (S : List S96) (hF : FoS S) (hl : S.length ≤ 2000) (n : Int) : EvS (fun k => marginaliaref05_Remove.f k (riS S) n) (riS (reS S n).1, (reS S n).2) := by
  unfold marginaliaref05_Remove.f reS
  rw [ev_Is]
  by_cases c : inZ S.length n = true
  · obtain ⟨q, rfl, hq⟩ := inZ_nat c
    rw [c, if_pos rfl, Int.toNat_natCast]
    simp only [Option.bind_some, if_true]
    refine EV_bind (ev_Parent S hF hl (q : Int)) ?_
    rw [paI_nat hq]
    by_cases d : paS S q < 0
    · rw [if_pos d]
      exact EV_ifp d (EV_some _)
    · rw [if_neg d]
      exact EV_ifn d (EV_bind (ev_out S hF hl q hq) (EV_some _))
  · rw [if_neg c]
    simp only [Option.bind_some]
    exact EV_ifn c (EV_some _)
theorem ri_put {T : List S96} {q : Nat} (hq : q < T.length) (a c : Nat) : riS (putS T q a c) = riS (setKi T q ((kiS T q).take a ++ (c : Int) :: (kiS T q).drop a)) := by
  unfold putS
  rw [ri_setPa]
theorem ev_Append (S : List S96) (hF : FoS S) (hl : S.length ≤ 2000) (q c : Int) : EvS (fun k => marginaliaref05_Append.f k (riS S) q c) (riS (apS S q c).1, (apS S q c).2) := by
  have j2 : ∀ x2 x18 : Int, EvS (fun k => marginaliaref05_Append.j0 k x2 x18 true (riS S)) (riS S, 2) := fun _ _ => EV_succ (g := fun _ => some (riS S, 2)) (fun k => by show marginaliaref05_Append.j0 (k + 1) _ _ _ _ = _; rw [marginaliaref05_Append.j0, if_pos rfl]) (EV_some _)
  have j1t : ∀ x1 x2 : Int, EvS (fun k => marginaliaref05_Append.j1 k x1 x2 true (riS S)) (riS S, 1) := fun _ _ => EV_succ (g := fun _ => some (riS S, 1)) (fun k => by show marginaliaref05_Append.j1 (k + 1) _ _ _ _ = _; rw [marginaliaref05_Append.j1, if_pos rfl]) (EV_some _)
  unfold marginaliaref05_Append.f apS
  rw [ev_Is, ev_Is]
  simp only [Option.bind_some]
  cases cq : inZ S.length q with
  | false => simp only [Bool.false_and, Bool.false_eq_true, if_false]; exact j2 _ _
  | true =>
    cases cc : inZ S.length c with
    | false => simp only [Bool.and_false, Bool.false_eq_true, if_false, if_true, Bool.not_false]; exact j2 _ _
    | true =>
      obtain ⟨q, rfl, hq⟩ := inZ_nat cq
      obtain ⟨c, rfl, hc⟩ := inZ_nat cc
      simp only [Bool.and_true, if_true, Bool.not_true, Int.toNat_natCast]
      refine EV_succ (g := fun k => (marginaliaref05_holds.f (riS S) (q : Int)).bind fun t234 => (if t234 = true then (if (c : Int) = 0 then (marginaliaref05_Append.j1 k (q : Int) (c : Int) true (riS S)) else ((marginaliaref05_within.f k (riS S) (q : Int) (c : Int)).bind fun t235 => (marginaliaref05_Append.j1 k (q : Int) (c : Int) t235 (riS S)))) else (marginaliaref05_Append.j1 k (q : Int) (c : Int) true (riS S)))) (fun k => ?_) ?_
      · show marginaliaref05_Append.j0 (k + 1) _ _ _ _ = _
        rw [marginaliaref05_Append.j0, if_neg (by decide)]
      · rw [ev_holds S q hq]
        simp only [Option.bind_some]
        cases ch : hoB (faS S q).f0 with
        | false => simp only [Bool.false_eq_true, if_false, Bool.not_false, Bool.true_or, if_true]; exact j1t _ _
        | true =>
          simp only [if_true, Bool.not_true, Bool.false_or]
          by_cases c0 : (c : Int) = 0
          · have c0b : ((c : Int) == 0) = true := beq_iff_eq.2 c0
            simp only [c0b, Bool.true_or, if_true]
            exact EV_ifp c0 (j1t _ _)
          · have c0b : ((c : Int) == 0) = false := beq_eq_false_iff_ne.2 c0
            simp only [c0b, Bool.false_or]
            refine EV_ifn c0 ?_
            refine EV_bind (ev_within S hF hl q c hq) ?_
            cases cs : subB S c q with
            | true => simp only [if_true]; exact j1t _ _
            | false =>
              simp only [Bool.false_eq_true, if_false]
              have hT : (outS S c).length = S.length := len_outS S c
              have hFT := FoS_out hF hc
              have hk := FoS_ki_len hFT (show q < (outS S c).length by omega)
              refine EV_succ (g := fun k => (marginaliaref05_out.f k (riS S) (c : Int)).bind fun t236 => ((some (([] : List Int) : List Int)).bind fun y239 => (if 0 ≤ (q : Int) then (if (q : Int) < (t236.length : Int) then (if y239.length + ((rd_T116 t236 (q : Int)).f1).length < 17592186044416 then ((some (y239 ++ ((rd_T116 t236 (q : Int)).f1) : List Int)).bind fun y243 => (if y243.length < 17592186044416 then ((marginaliaref05_set.f t236 (q : Int) (y243 ++ [(c : Int)])).bind fun t249 => (some (t249, (0 : Int)))) else (none))) else (none)) else (none)) else (none)))) (fun k => ?_) ?_
              · show marginaliaref05_Append.j1 (k + 1) _ _ _ _ = _
                rw [marginaliaref05_Append.j1, if_neg (by decide)]
              · refine EV_bind (ev_out S hF hl c hc) ?_
                rw [Option.bind_some, len_riS, if_pos (by omega), if_pos (by omega), rd_116 _ q (by omega), List.length_nil, if_pos (by omega), Option.bind_some, List.nil_append, if_pos (by omega), ev_set _ (by omega) q (by omega), Option.bind_some, ri_put (by omega), List.take_of_length_le (Nat.le_refl _), List.drop_eq_nil_of_le (Nat.le_refl _)]
                exact EV_some _
theorem before_l0 (T : List S96) (hl : T.length ≤ 2000) (x c : Int) (p : Nat) (hp : p < T.length) (hk : (kiS T p).length ≤ 2000) (a : Nat) (ha : (kiS T p)[a]? = some x) (hu : ∀ b, (kiS T p)[b]? = some x → b = a) : ∀ (m b : Nat), b + m = (kiS T p).length → ∃ k, marginaliaref05_Before.l0 k x c (p : Int) (if b ≤ a then (kiS T p).take b else (kiS T p).take a ++ c :: ((kiS T p).drop a).take (b - a)) (b : Int) (riS T) = some (riS (setKi T p ((kiS T p).take a ++ c :: (kiS T p).drop a)), 0)
  | 0, b, hb => by
    refine ⟨1, ?_⟩
    have hal := (List.getElem?_eq_some_iff.1 ha).1
    unfold marginaliaref05_Before.l0
    rw [len_riS, if_pos (by omega), if_pos (by omega), rd_116 T p hp, if_neg (by omega), ev_set T hl p hp, if_neg (by omega), List.take_of_length_le (show ((kiS T p).drop a).length ≤ b - a by rw [List.length_drop]; omega)]
    rfl
  | m + 1, b, hb => by
    have hbl : b < (kiS T p).length := by omega
    have hal := (List.getElem?_eq_some_iff.1 ha).1
    obtain ⟨k, hk'⟩ := before_l0 T hl x c p hp hk a ha hu m (b + 1) (by omega)
    refine ⟨k + 1, ?_⟩
    have hlen : (if b ≤ a then (kiS T p).take b else (kiS T p).take a ++ c :: ((kiS T p).drop a).take (b - a)).length ≤ 3000 := by
      split
      · rw [List.length_take]; omega
      · rw [List.length_append, List.length_cons, List.length_take, List.length_take]; omega
    unfold marginaliaref05_Before.l0
    rw [len_riS, if_pos (by omega), if_pos (by omega), rd_116 T p hp, if_pos (by omega), if_pos (by omega), rd_at hbl]
    by_cases e : (kiS T p)[b] = x
    · have hba : b = a := hu b (by rw [List.getElem?_eq_getElem hbl, e])
      subst hba
      rw [if_neg (by omega), Nat.add_sub_cancel_left] at hk'
      rw [if_pos e, if_pos (by omega), Option.bind_some, if_pos (by rw [List.length_append, List.length_singleton]; omega), if_pos (Nat.le_refl _), show wrap64 ((b : Int) + 1) = ((b + 1 : Nat) : Int) by unfold wrap64; omega, ← hk', List.append_assoc]
      congr 2
      rw [List.drop_eq_getElem_cons hbl]; rfl
    · have hba : b ≠ a := fun h => by
        subst h
        rw [List.getElem?_eq_getElem hbl] at ha
        exact e (Option.some.inj ha)
      rw [if_neg e, if_pos (by omega), show wrap64 ((b : Int) + 1) = ((b + 1 : Nat) : Int) by unfold wrap64; omega, ← hk']
      congr 1
      by_cases d : b ≤ a
      · rw [if_pos d, if_pos (by omega), List.take_succ_eq_append_getElem hbl]
      · rw [if_neg d, if_neg (by omega), List.append_assoc, List.cons_append, show b + 1 - a = (b - a) + 1 by omega, List.take_succ_eq_append_getElem (show b - a < ((kiS T p).drop a).length by rw [List.length_drop]; omega), List.getElem_drop]
        congr 4
        simp only [show a + (b - a) = b by omega]
theorem nodup_idx {l : List Int} (hn : l.Nodup) {x : Int} {a : Nat} (ha : l[a]? = some x) : ∀ b, l[b]? = some x → b = a := by
  intro b hb
  obtain ⟨h1, e1⟩ := List.getElem?_eq_some_iff.1 ha
  obtain ⟨h2, e2⟩ := List.getElem?_eq_some_iff.1 hb
  have hp := List.pairwise_iff_getElem.1 hn
  rcases Nat.lt_trichotomy a b with h | h | h
  · exact absurd (e1.trans e2.symm) (hp a b h1 h2 h)
  · exact h.symm
  · exact absurd (e2.trans e1.symm) (hp b a h2 h1 h)
theorem Before_mono_l (k : Nat) (y0 y1 y2 : Int) (y3 : List Int) (y4 : Int) (y5 : List S116) : LeO (marginaliaref05_Before.l0 k y0 y1 y2 y3 y4 y5) (marginaliaref05_Before.l0 (k + 1) y0 y1 y2 y3 y4 y5) := (marginaliaref05_Before.mono_l k).2.2 y0 y1 y2 y3 y4 y5
theorem ev_Before (S : List S96) (hF : FoS S) (hl : S.length ≤ 2000) (q c : Int) : EvS (fun k => marginaliaref05_Before.f k (riS S) q c) (riS (beS S q c).1, (beS S q c).2) := by
  have j2 : ∀ x2 x18 : Int, EvS (fun k => marginaliaref05_Before.j0 k x2 x18 true (riS S)) (riS S, 2) := fun _ _ => EV_succ (g := fun _ => some (riS S, 2)) (fun k => by show marginaliaref05_Before.j0 (k + 1) _ _ _ _ = _; rw [marginaliaref05_Before.j0, if_pos rfl]) (EV_some _)
  have j1t : ∀ x1 x2 x3 : Int, EvS (fun k => marginaliaref05_Before.j1 k x1 x2 x3 true (riS S)) (riS S, 1) := fun _ _ _ => EV_succ (g := fun _ => some (riS S, 1)) (fun k => by show marginaliaref05_Before.j1 (k + 1) _ _ _ _ _ = _; rw [marginaliaref05_Before.j1, if_pos rfl]) (EV_some _)
  unfold marginaliaref05_Before.f beS
  rw [ev_Is, ev_Is]
  simp only [Option.bind_some]
  cases cq : inZ S.length q with
  | false => simp only [Bool.false_and, Bool.false_eq_true, if_false]; exact j2 _ _
  | true =>
    cases cc : inZ S.length c with
    | false => simp only [Bool.and_false, Bool.false_eq_true, if_false, if_true, Bool.not_false]; exact j2 _ _
    | true =>
      obtain ⟨q, rfl, hq⟩ := inZ_nat cq
      obtain ⟨c, rfl, hc⟩ := inZ_nat cc
      simp only [Bool.and_true, if_true, Bool.not_true, Int.toNat_natCast]
      refine EV_succ (g := fun k => (marginaliaref05_Parent.f k (riS S) (q : Int)).bind fun t256 => (if t256 < 0 then (marginaliaref05_Before.j1 k (q : Int) (c : Int) t256 true (riS S)) else (if (c : Int) = 0 then (marginaliaref05_Before.j1 k (q : Int) (c : Int) t256 true (riS S)) else ((marginaliaref05_within.f k (riS S) (q : Int) (c : Int)).bind fun t257 => (marginaliaref05_Before.j1 k (q : Int) (c : Int) t256 t257 (riS S)))))) (fun k => ?_) ?_
      · show marginaliaref05_Before.j0 (k + 1) _ _ _ _ = _
        rw [marginaliaref05_Before.j0, if_neg (by decide)]
      · refine EV_bind (ev_Parent S hF hl (q : Int)) ?_
        rw [paI_nat hq]
        rcases FoS_pa hF hq with h1 | ⟨p, h1, h2, hm, hqp⟩
        · simp only [h1, show decide ((-1 : Int) < 0) = true from rfl, Bool.true_or, if_true]
          exact EV_ifp (by decide) (j1t _ _ _)
        · have p0 : decide ((p : Int) < 0) = false := decide_eq_false (by omega)
          simp only [h1, p0, Bool.false_or, Int.toNat_natCast]
          refine EV_ifn (by omega) ?_
          by_cases c0 : (c : Int) = 0
          · have c0b : ((c : Int) == 0) = true := beq_iff_eq.2 c0
            simp only [c0b, Bool.true_or, if_true]
            exact EV_ifp c0 (j1t _ _ _)
          · have c0b : ((c : Int) == 0) = false := beq_eq_false_iff_ne.2 c0
            simp only [c0b, Bool.false_or]
            refine EV_ifn c0 ?_
            refine EV_bind (ev_within S hF hl q c hq) ?_
            cases cs : subB S c q with
            | true => simp only [if_true]; exact j1t _ _ _
            | false =>
              simp only [Bool.false_eq_true, if_false]
              have hT : (outS S c).length = S.length := len_outS S c
              have hFT := FoS_out hF hc
              have hpT : p < (outS S c).length := by omega
              have hk := Nat.le_trans (FoS_ki_len hFT hpT) (show (outS S c).length ≤ 2000 by omega)
              have hqc : q ≠ c := fun e => by
                subst e
                rw [(subB_iff hF hq).2 .refl] at cs; cases cs
              have hmT : (q : Int) ∈ kiS (outS S c) p := by
                rw [ki_outS hF hc]
                dsimp only
                split
                · exact List.mem_filter.2 ⟨hm, by simp; omega⟩
                · exact hm
              obtain ⟨i1, i2⟩ := idx_at _ _ hmT
              refine EV_succ (g := fun k => (marginaliaref05_out.f k (riS S) (c : Int)).bind fun t258 => (marginaliaref05_Before.l0 k (q : Int) (c : Int) (p : Int) (([] : List Int)) 0 t258)) (fun k => ?_) ?_
              · show marginaliaref05_Before.j1 (k + 1) _ _ _ _ _ = _
                rw [marginaliaref05_Before.j1, if_neg (by decide)]
              · refine EV_bind (ev_out S hF hl c hc) ?_
                obtain ⟨k, hk'⟩ := before_l0 (outS S c) (by omega) (q : Int) (c : Int) p hpT hk _ i1 (nodup_idx (hFT.nd p hpT) i1) (kiS (outS S c) p).length 0 (by omega)
                rw [if_pos (Nat.zero_le _), List.take_zero] at hk'
                rw [ri_put hpT]
                exact EV_of (fun k => Before_mono_l k _ _ _ _ _ _) ⟨k, hk'⟩
theorem ri_mvL (S : List S96) (hF : FoS S) (f q : Nat) (hf : f < S.length) (hq : q < S.length) (hqf : q ≠ f) : riS (mvL (setKi S f []) q (kiS S f)) = riS (setKi (setKi S f []) q (kiS S q ++ kiS S f)) := by
  have hk : ∀ x ∈ kiS S f, 0 ≤ x := fun x hx => by
    obtain ⟨c, rfl, hc, _⟩ := hF.kp f hf x hx
    omega
  have hl : (setKi S f []).length = S.length := len_setKi S f []
  refine ri_ext ?_ (fun i _ => ?_) (fun i _ => ?_)
  · rw [len_mvL, len_setKi (setKi S f [])]
  · rw [fa_mvL, fa_setKi (setKi S f [])]
  · rw [ki_mvL q _ _ (by rw [hl]; exact hq) hk, ki_setKi (S := setKi S f []) (by rw [hl]; exact hq), ki_setKi hf, upd_ne _ _ hqf]
theorem ev_Move (S : List S96) (hF : FoS S) (hl : S.length ≤ 2000) (f q : Int) : EvS (fun k => marginaliaref05_Move.f k (riS S) f q) (riS (moS S f q).1, (moS S f q).2) := by
  have j2 : ∀ x2 x18 : Int, EvS (fun k => marginaliaref05_Move.j0 k x2 x18 true (riS S)) (riS S, 2) := fun _ _ => EV_succ (g := fun _ => some (riS S, 2)) (fun k => by show marginaliaref05_Move.j0 (k + 1) _ _ _ _ = _; rw [marginaliaref05_Move.j0, if_pos rfl]) (EV_some _)
  have j1t : ∀ x1 x2 : Int, EvS (fun k => marginaliaref05_Move.j1 k x1 x2 true (riS S)) (riS S, 1) := fun _ _ => EV_succ (g := fun _ => some (riS S, 1)) (fun k => by show marginaliaref05_Move.j1 (k + 1) _ _ _ _ = _; rw [marginaliaref05_Move.j1, if_pos rfl]) (EV_some _)
  unfold marginaliaref05_Move.f moS
  rw [ev_Is, ev_Is]
  simp only [Option.bind_some]
  cases cq : inZ S.length f with
  | false => simp only [Bool.false_and, Bool.false_eq_true, if_false]; exact j2 _ _
  | true =>
    cases cc : inZ S.length q with
    | false => simp only [Bool.and_false, Bool.false_eq_true, if_false, if_true, Bool.not_false]; exact j2 _ _
    | true =>
      obtain ⟨f, rfl, hf⟩ := inZ_nat cq
      obtain ⟨q, rfl, hq⟩ := inZ_nat cc
      simp only [Bool.and_true, if_true, Bool.not_true, Int.toNat_natCast]
      refine EV_succ (g := fun k => (marginaliaref05_holds.f (riS S) (q : Int)).bind fun t294 => (if t294 = true then ((marginaliaref05_within.f k (riS S) (q : Int) (f : Int)).bind fun t295 => (marginaliaref05_Move.j1 k (f : Int) (q : Int) t295 (riS S))) else (marginaliaref05_Move.j1 k (f : Int) (q : Int) true (riS S)))) (fun k => ?_) ?_
      · show marginaliaref05_Move.j0 (k + 1) _ _ _ _ = _
        rw [marginaliaref05_Move.j0, if_neg (by decide)]
      · rw [ev_holds S q hq]
        simp only [Option.bind_some]
        cases ch : hoB (faS S q).f0 with
        | false => simp only [Bool.false_eq_true, if_false, Bool.not_false, Bool.true_or, if_true]; exact j1t _ _
        | true =>
          simp only [if_true, Bool.not_true, Bool.false_or]
          refine EV_bind (ev_within S hF hl q f hq) ?_
          cases cs : subB S f q with
          | true => simp only [if_true]; exact j1t _ _
          | false =>
            simp only [Bool.false_eq_true, if_false]
            have hqf : q ≠ f := fun e => by
              subst e
              rw [(subB_iff hF hq).2 .refl] at cs; cases cs
            have h1 := FoS_ki_len hF hq
            have h2 := FoS_ki_len hF hf
            refine EV_succ (g := fun _ => some (riS (mvL (setKi S f []) q (kiS S f)), 0)) (fun k => ?_) (EV_some _)
            show marginaliaref05_Move.j1 (k + 1) _ _ _ _ = _
            rw [marginaliaref05_Move.j1, if_neg (by decide), Option.bind_some, len_riS, if_pos (by omega), if_pos (by omega), rd_116 S q hq, rd_116 S f hf, List.length_nil, if_pos (by omega), Option.bind_some, List.nil_append, if_pos (by omega), if_pos (by omega), if_pos (by omega), ev_set S hl f hf, Option.bind_some, ev_set _ (by rw [len_setKi]; exact hl) q (by rw [len_setKi]; exact hq), Option.bind_some, ri_mvL S hF f q hf hq hqf]
theorem ev_Copy (S : List S96) (hl : S.length ≤ 2000) (ha : ∀ i, (faS S i).f3.length ≤ 100000) (ht : ∀ i, (faS S i).f0 = 1 → (faS S i).f4 = ⟨#[]⟩) (n : Int) : marginaliaref05_Copy.f (riS S) n = some (riS (cpS S n).1, (cpS S n).2) := by
  unfold marginaliaref05_Copy.f cpS
  rw [ev_Is, Option.bind_some]
  by_cases c : inZ S.length n = true
  · obtain ⟨i, rfl, hi⟩ := inZ_nat c
    rw [if_pos c, if_pos c, len_riS, if_pos (by omega), if_pos (by omega), riS_at S i hi, Int.toNat_natCast]
    dsimp only
    by_cases d : (faS S i).f0 = 1
    · rw [if_pos d, if_pos d]
      have := ev_Make S hl ⟨(faS S i).f0, (faS S i).f1, (faS S i).f2, (faS S i).f3, (faS S i).f4⟩ (ha i) []
      dsimp only at this
      rw [this, Option.bind_some, ht i d, d]
    · rw [if_neg d, if_neg d]
  · rw [if_neg c, if_neg c]
/- The document's Add. -/
theorem VRi {w : World} {A : Option Addr} {n cap : Nat} {S : List S96} {P : Nat → Prop} (hn : n = S.length) (hV : Kd.V k116 116 w w.heap.size P (.slice A n cap) (riS S)) : n ≤ cap ∧ Kd.C k116 w A n (riS S) := by
  obtain ⟨A', c', e, hl, hF⟩ := hV
  injection e with e1 e2 e3
  subst e1 e3
  rw [len_riS] at hl hF
  subst hn
  exact ⟨hl, Kd.F_now hF⟩
theorem ri_setFa (S : List S96) (i : Nat) (hi : i < S.length) (x : S94) : riS (setFa S i x) = (riS S).set i ⟨⟨x.f0, x.f1, x.f2, x.f3, x.f4, []⟩, kiS S i⟩ := by
  obtain ⟨z, hz⟩ := ex_at hi
  unfold riS setFa kiS
  rw [hz]
  dsimp only
  rw [List.map_set]
  rfl
theorem VF_at {w W : World} {A : Option Addr} {n cap : Nat} {S : List S96} {P ok : Nat → Prop} (hn : n = S.length) (hV : Kd.V k116 116 w w.heap.size P (.slice A n cap) (riS S)) (hb : Below w.heap.size w W) (hok : ∀ k, P k → k < w.heap.size → ok k) : Kd.F k116 W ok A n (riS S) := by
  obtain ⟨A', c', e, hl, hF⟩ := hV
  injection e with e1 e2 e3
  subst e1 e3
  rw [len_riS] at hF
  subst hn
  exact Kd.F_mono (Kd.F_step (Kd.F_bound hF) (fun k hk _ => hb.block k hk.2)) (fun k hk => hok k hk.1 hk.2)
set_option maxRecDepth 100000 in
set_option maxHeartbeats 8000000 in
theorem R_Add {w : World} {A : Option Addr} {n cap : Nat} {S : List S96} {P : Nat → Prop} (hn : n = S.length) (hV : Kd.V k116 116 w w.heap.size P (.slice A n cap) (riS S)) (hl : S.length ≤ 2000) (i : Int) (s : ByteArray) (hsz : ∀ i, (faS S i).f4.size + s.size ≤ 1000000) (S' : List S96) (r : Int) (hr : adS S i s = (S', r)) :
    Calls Try.prog 72 #[.agg #[.slice A n cap], .int .i64 i, .string s] w fun e w' => ∃ v0, e = .returned (.tuple #[.agg #[v0], .int .i64 r]) ∧ Kd.V k116 116 w' w.heap.size (fun k => P k ∨ w.heap.size ≤ k) v0 (riS S') ∧ Below w.heap.size w w' := by
  have HV := Aside0.mk hV
  obtain ⟨hcap, hC⟩ := VRi hn hV
  have CAP := Aside0.mk (show S.length ≤ cap by omega)
  have HC := Aside0.mk (show Kd.C k116 w A S.length (riS S) by rw [← hn]; exact hC)
  have HN := Aside0.mk hn
  have HL := Aside0.mk hl
  have EI := Aside0.mk (ev_Is S i)
  have HSZ := Aside0.mk hsz
  unfold adS at hr
  have HR := Aside0.mk hr
  clear hr hsz hl hn hC hV
  go_enter Try.func72, Try.ntmps72
  go_upto_region 1 with (fail)
  obtain ⟨W0, hW0⟩ : ∃ W0, W0 = ((w.alloc (.cells #[.slice A n cap] 57)).alloc (.cells #[.slice none 0 0] 57)) := ⟨_, rfl⟩
  obtain ⟨g3, hg3⟩ : ∃ g3, g3 = w.heap.size := ⟨_, rfl⟩
  obtain ⟨g6, hg6⟩ : ∃ g6, g6 = w.heap.size + 1 := ⟨_, rfl⟩
  have SZ : (w.alloc (.cells #[.slice A n cap] 57)).heap.size = w.heap.size + 1 := (by show (w.heap.push _).size = w.heap.size + 1; exact Array.size_push _)
  rw [← hW0, ← hg6, ← hg3]
  have B0 := Aside0.mk (show Below w.heap.size w W0 by rw [hW0]; exact below_step (below_alloc (Below.refl _ _) _) (below_alloc (Below.refl _ _) _))
  have BK3 := Aside0.mk (show W0.heap[g3]? = some (.cells #[.slice A n cap] 57 (0, 0)) by rw [hW0, hg3]; exact blk_below (blk_new w _) (below_alloc (Below.refl _ _) _))
  have BK6 := Aside0.mk (show W0.heap[g6]? = some (.cells #[.slice none 0 0] 57 (0, 0)) by rw [hW0, hg6, ← SZ]; exact blk_new _ _)
  have L3 := Aside0.mk (show w.heap.size ≤ g3 by omega)
  have L6 := Aside0.mk (show w.heap.size ≤ g6 by omega)
  have N36 := Aside0.mk (show g3 ≠ g6 by omega)
  have z3 := (blk_cell BK3.out 0).trans (rfl : #[Value.slice A n cap][0]? = some (.slice A n cap))
  clear hW0 hg3 hg6 SZ
  cases cq : inZ S.length i with
  | false =>
    rw [cq] at EI
    go_upto_region 2 with (go_at_call 81; refine (Is_at HN.out (Kd.C_below HC.out B0.out) CAP.out EI.out).mono ?_; rintro e w1 ⟨rfl, hb⟩; have HB1 := Aside0.mk hb; clear hb)
    have D3 := Aside0.mk (blk_below BK3.out HB1.out)
    have D6 := Aside0.mk (blk_below BK6.out HB1.out)
    have B1 := Aside0.mk (below_step B0.out HB1.out)
    have u3 := (blk_cell D3.out 0).trans (rfl : #[Value.slice A n cap][0]? = some (.slice A n cap))
    have u6 := (blk_cell D6.out 0).trans (rfl : #[Value.slice none 0 0][0]? = some (.slice none 0 0))
    have fz := blk_frozen D6.out 0
    go_wp2
    refine bodyPost_ret (results_ct rfl _ _ g6 57 #[.slice A n cap] (0, 0) _ rfl (blk_put (cs := #[.slice none 0 0]) D6.out 0 _ rfl) Try.underlying57 rfl (by kernel_rfl)) rfl ?_
    have hr := HR.out
    rw [cq, if_neg (by decide)] at hr
    injection hr with e1 e2
    refine ⟨_, by rw [← e2]; rfl, ?_, below_set B1.out L6.out⟩
    rw [← e1]
    exact Kd.V_mono (Kd.V_below HV.out (below_set B1.out L6.out)) (fun k hk => .inl hk)
  | true =>
    rw [cq] at EI
    obtain ⟨i, rfl, hi⟩ := inZ_nat cq
    have HI := Aside0.mk hi
    have hr := HR.out
    rw [cq, if_pos rfl, Int.toNat_natCast] at hr
    have HR := Aside0.mk hr
    clear hr cq
    rw [← HN.out] at hi
    have i1 : (i : Int) < (n : Int) := by omega
    go_upto_region 3 with (go_at_call 81; refine (Is_at HN.out (Kd.C_below HC.out B0.out) CAP.out EI.out).mono ?_; rintro e w1 ⟨rfl, hb⟩; have HB1 := Aside0.mk hb; clear hb)
    have D3 := Aside0.mk (blk_below BK3.out HB1.out)
    have D6 := Aside0.mk (blk_below BK6.out HB1.out)
    have B1 := Aside0.mk (below_step B0.out HB1.out)
    obtain ⟨ad, A3, c3, A6, c6, eA, q0, q1, q2, q3, q4, q5, q6, l3, C3, l6, C6⟩ := at_ri HC.out i HI.out
    subst eA
    clear q1 q2 q3 q4 q5 q6 l3 C3 l6 C6 z3
    have u3 := (blk_cell D3.out 0).trans (rfl : #[Value.slice (some ad) n cap][0]? = some (.slice (some ad) n cap))
    replace q0 := pw_cell_below B1.out q0
    obtain ⟨kd, hkd⟩ : ∃ kd, kd = (faS S i).f0 := ⟨_, rfl⟩
    rw [← hkd] at q0 HR
    have HK := Aside0.mk hkd
    clear hkd
    by_cases ck : kd = 2
    · subst ck
      have VO := Aside0.mk (show Kd.V k116 116 w w.heap.size (fun k => (P k ∨ w.heap.size ≤ k) ∧ k ≠ g3 ∧ k ≠ g6) (.slice (some ad) n cap) (riS S) from Kd.V_mono (Kd.V_bound HV.out) (fun k hk => ⟨.inl hk.1, by have := L3.out; omega, by have := L6.out; omega⟩))
      have FO := Aside0.mk (fun k (hk : w1.heap.size ≤ k) => (⟨.inr (Nat.le_trans B1.out.size hk), Nat.ne_of_gt (Nat.lt_of_lt_of_le (blk_lt D3.out) hk), Nat.ne_of_gt (Nat.lt_of_lt_of_le (blk_lt D6.out) hk)⟩ : (P k ∨ w.heap.size ≤ k) ∧ k ≠ g3 ∧ k ≠ g6))
      have LMX := Aside0.mk (show (([] : List S116).length + n) * 120 ≤ 140737488355328 by have h1 := HN.out; have h2 := HL.out; rw [List.length_nil]; omega)
      go_upto_region 6 with (first | ((with_reducible refine gate_dst (N := 23) rfl ?_); refine Kd.N_lit k116 (w0 := w) w.heap.size 116 ?hg (N' := 23) ?hd (xs := ([] : List S116)) (inner := []) (ok := (fun k => (P k ∨ w.heap.size ≤ k) ∧ k ≠ g3 ∧ k ≠ g6)) (okp := (fun k => (P k ∨ w.heap.size ≤ k) ∧ k ≠ g3 ∧ k ≠ g6)) ?hr ?hp (fun _ hk => hk) (FO.out _ (Nat.le_refl _)) B1.out B1.out.size (by simp) ?_; (case hd => rfl); (case hg => rfl); (case hr => first | (go_simp; done) | (go_simp; rfl)); (case hp => exact (Reps.none _ _)); intro v5 w2 hN hb hg hat; have N2 := Aside0.mk hN; have B2 := Aside0.mk hb; have G2 := Aside0.mk (hg.size); have AT2 := Aside0.mk hat; have D3' := Aside0.mk (blk_grown D3.out hg (by simp)); have u3 := (blk_cell D3'.out 0).trans (rfl : #[Value.slice (some ad) n cap][0]? = some (.slice (some ad) n cap)); have D6' := Aside0.mk (blk_grown D6.out hg (by simp)); clear hN hb hg hat) | ((with_reducible refine gate_dst (N := 26) rfl ?_); refine Kd.N_append_rows k116 (w0 := w) w.heap.size rfl (.tmp 23) (.tmp 25) 55 116 (.agg #[(.int .i64 0), (.int .i64 0), (.string ⟨#[]⟩), (.slice none 0 0), (.string ⟨#[]⟩), (.slice none 0 0), (.slice none 0 0)]) 120 rfl Try.underlying55 info116 rfl (by decide) (by omega) v5 [] (riS S) _ _ _ (fun k => (P k ∨ w.heap.size ≤ k) ∧ k ≠ g3 ∧ k ≠ g6) (fun k => ((P k ∨ w.heap.size ≤ k) ∧ k ≠ g3 ∧ k ≠ g6) ∧ some k ≠ v5.ownBlock) rfl rfl N2.out ?aR (fun _ hk => hk) ?aF B2.out B2.out.size LMX.out ?_; (case aR => exact VF_at HN.out HV.out B2.out (fun k hk hlt => ⟨⟨.inl hk, (by have := L3.out; omega), (by have := L6.out; omega)⟩, fun e => (by obtain ⟨b, hb1, hb2⟩ := AT2.out; have h1 := e.trans hb1; injection h1 with h1; have := B1.out.size; omega)⟩)); (case aF => exact fun k hk => FO.out k (Nat.le_trans G2.out hk)); intro v6 w3 hN hb hg hat; have N3 := Aside0.mk hN; have B3 := Aside0.mk hb; have E3 := Aside0.mk (blk_grown D3'.out hg (fun e => (N2.out.1 g3 e.symm).2.1 rfl)); have E6 := Aside0.mk (blk_grown D6'.out hg (fun e => (N2.out.1 g6 e.symm).2.2 rfl)); clear hN hb hg hat))
      have N4 := N3.out
      rw [List.nil_append] at N4
      obtain ⟨g, cg, e6, _, _, _, _⟩ := Kd.N_form N4 (by rw [len_riS]; have := HI.out; omega)
      rw [len_riS, ← HN.out] at e6
      subst e6
      obtain ⟨cs, hcl, hM, hcc, hfr⟩ := Kd.N_elem N4 z116 (i : Int) (by omega) i1
      have hre := riS_at S i HI.out
      unfold rd_T116 at hre
      rw [hre] at hM
      rw [Int.toNat_natCast] at hcc hfr
      obtain ⟨B3', d3, B5', d5, B6', d6, rfl, m3, F3, m5, F5, m6, F6⟩ := k116_openF hM
      obtain ⟨z5, z5', _⟩ := k116_nil5 hM
      have x4 := hcc 4 _ rfl
      have f4 := hfr 4
      change w3.cell? ⟨g, i * 7 + 4, none⟩ = _ at x4
      change w3.frozen? ⟨g, i * 7 + 4, none⟩ = _ at f4
      have NS := Aside0.mk (Kd.N_seg N4 (i : Int) (by omega) i1 (seg := [.string ((faS S i).f4 ++ s)]) (j := 4) hcl (by rw [Int.toNat_natCast]; exact hcc) (show 5 ≤ 7 by decide) (x' := ⟨⟨(faS S i).f0, (faS S i).f1, (faS S i).f2, (faS S i).f3, (faS S i).f4 ++ s, []⟩, kiS S i⟩) (k116_mkF _ _ ⟨⟨(faS S i).f0, (faS S i).f1, (faS S i).f2, (faS S i).f3, (faS S i).f4 ++ s, []⟩, kiS S i⟩ m3 F3 m5 F5 m6 F6 ⟨z5, z5', rfl⟩) (fun _ h => h)).1
      rw [Int.toNat_natCast] at NS
      obtain ⟨t4, ht4⟩ : ∃ t4, t4 = (faS S i).f4 := ⟨_, rfl⟩
      have hs4 := HSZ.out i
      have T4 := Aside0.mk ht4
      dsimp only at x4
      rw [← ht4] at x4 NS hs4
      clear hre hM hcc hfr F3 F5 F6 m3 m5 m6 z5 z5' hcl ht4 N4
      have u6 := (blk_cell E6.out 0).trans (rfl : #[Value.slice none 0 0][0]? = some (.slice none 0 0))
      have fz := blk_frozen E6.out 0
      have gne := (show g6 ≠ g from fun e => (N3.out.1 g6 (by rw [e]; rfl)).2.2 rfl)
      go_wp2
      have hgb := (show w.heap.size ≤ g from Kd.N_base N3.out g rfl)
      have BF := below_set (j := 0) (v := .slice (some ⟨g, 0, none⟩) n cg) (below_set (j := i * 7 + 4) (v := .string (t4 ++ s)) B3.out hgb) L6.out
      refine bodyPost_ret (results_ct rfl _ _ g6 57 #[.slice (some ⟨g, 0, none⟩) n cg] (0, 0) _ rfl (blk_put (cs := #[.slice none 0 0]) (blk_far E6.out gne _) 0 _ rfl) Try.underlying57 rfl (by kernel_rfl)) rfl ?_
      have hr := HR.out
      simp only [if_true] at hr
      injection hr with e1 e2
      refine ⟨_, by rw [← e2]; rfl, ?_, BF⟩
      have NS' := NS.out
      rw [← HK.out] at NS'
      rw [← e1, ri_setFa S i HI.out, ← T4.out]
      exact Kd.V_mono (Kd.N_V (base' := w.heap.size) (Kd.N_far (p := ⟨g6, 0, none⟩) NS' (fun k hk => hk.2.2) (.slice (some ⟨g, 0, none⟩) n cg))) (fun k hk => hk.1)
    · have ck1 : (kd != 2) = true := by simp [ck]
      have u6 := (blk_cell D6.out 0).trans (rfl : #[Value.slice none 0 0][0]? = some (.slice none 0 0))
      have fz := blk_frozen D6.out 0
      go_wp2
      refine bodyPost_ret (results_ct rfl _ _ g6 57 #[.slice (some ad) n cap] (0, 0) _ rfl (blk_put (cs := #[.slice none 0 0]) D6.out 0 _ rfl) Try.underlying57 rfl (by kernel_rfl)) rfl ?_
      have hr := HR.out
      rw [if_neg ck] at hr
      injection hr with e1 e2
      refine ⟨_, by rw [← e2]; rfl, ?_, below_set B1.out L6.out⟩
      rw [← e1]
      exact Kd.V_mono (Kd.V_below HV.out (below_set B1.out L6.out)) (fun k hk => .inl hk)
/- An act on an arena and on the document's tree: what is held while it is done. -/
structure DW (w0 : World) (p : Nat) (S T : List S96) (O OV : Nat → Prop) (g4 g5 g6 : Nat) (vT : Value) (c5 : Array Value) (vA : Value) (m : Nat) (w : World) : Prop where
  ja : JA w0 w p S O
  vt : Kd.V k116 116 w 0 OV vT (riS T)
  b4 : w.heap[g4]? = some (.cells #[vT] 57 (0, 0))
  b5 : w.heap[g5]? = some (.cells c5 54 (0, 0))
  b6 : w.heap[g6]? = some (.cells #[.slice none 0 0] 57 (0, 0))
  ra : ∃ l : List S103, l.length = m ∧ Kd.R k103 103 w w0.heap.size (fun k => some k = vA.ownBlock) vA l
  oo : ∀ k, OV k → O k ∧ k ≠ g4 ∧ k ≠ g6 ∧ some k ≠ vA.ownBlock
  o4 : O g4
  o5 : O g5
  o6 : O g6
  oa : ∀ k, some k = vA.ownBlock → O k
  l4 : w0.heap.size ≤ g4
  l6 : w0.heap.size ≤ g6
  ne : g4 ≠ g6
theorem DW_arena {w0 : World} {p : Nat} {S S' T : List S96} {O OV : Nat → Prop} {g4 g5 g6 : Nat} {vT : Value} {c5 : Array Value} {vA : Value} {m : Nat} {w w' : World} (h : DW w0 p S T O OV g4 g5 g6 vT c5 vA m w) (hj : JA w0 w' p S' O) (hk : kO O w w') : DW w0 p S' T O OV g4 g5 g6 vT c5 vA m w' := by
  obtain ⟨l, hl, hR⟩ := h.ra
  exact ⟨hj, Kd.V_step h.vt (fun k hv _ => hk.2 k (h.oo k hv).1), (hk.2 g4 h.o4).trans h.b4, (hk.2 g5 h.o5).trans h.b5, (hk.2 g6 h.o6).trans h.b6, ⟨l, hl, Kd.R_move hR (fun k hv => hk.2 k (h.oa k hv))⟩, h.oo, h.o4, h.o5, h.o6, h.oa, h.l4, h.l6, h.ne⟩
theorem DW_ref {w0 : World} {p : Nat} {S T T' : List S96} {O OV : Nat → Prop} {g4 g5 g6 : Nat} {vT v : Value} {c5 : Array Value} {vA : Value} {m b : Nat} {w w' : World} (h : DW w0 p S T O OV g4 g5 g6 vT c5 vA m w) (hb : Below w.heap.size w w') (hv : Kd.V k116 116 w' b (fun k => OV k ∨ w.heap.size ≤ k) v (riS T')) :
    DW w0 p S T' (fun k => O k ∨ (w.heap.size ≤ k ∧ k < w'.heap.size)) (fun k => OV k ∨ (w.heap.size ≤ k ∧ k < w'.heap.size)) g4 g5 g6 v c5 vA m (w'.setCell ⟨g4, 0, none⟩ v) := by
  obtain ⟨l, hl, hR⟩ := h.ra
  have hJ := JA_deep h.ja hb
  have old : ∀ k, O k → k < w.heap.size := fun k hk => JA_O h.ja hk
  have B4 := blk_below h.b4 hb
  have ne4 : ∀ k, OV k ∨ (w.heap.size ≤ k ∧ k < w'.heap.size) → k ≠ g4 := fun k hk => by
    rcases hk with hk | hk
    · exact (h.oo k hk).2.1
    · have := old g4 h.o4; omega
  have hV : Kd.V k116 116 w' 0 (fun k => OV k ∨ (w.heap.size ≤ k ∧ k < w'.heap.size)) v (riS T') := Kd.V_mono (Kd.V_bound hv) (fun k hk => by
    rcases hk.1 with h1 | h1
    · exact .inl h1
    · exact .inr ⟨h1, hk.2⟩)
  refine ⟨JA_write hJ (.inl h.o4) h.l4 v, Kd.V_step hV (fun k hk _ => Below.heap_setCell w' ⟨g4, 0, none⟩ v k (ne4 k hk)), blk_put B4 0 v rfl, blk_far (blk_below h.b5 hb) (blk_ne (blk_below h.b5 hb) B4 (by decide)) v, blk_far (blk_below h.b6 hb) (Ne.symm h.ne) v, ⟨l, hl, Kd.R_move hR (fun k hk => ?_)⟩, fun k hk => ⟨?_, ne4 k hk, ?_, ?_⟩, .inl h.o4, .inl h.o5, .inl h.o6, fun k hk => .inl (h.oa k hk), h.l4, h.l6, h.ne⟩
  · obtain ⟨cc, hc⟩ := Kd.R_typed hR k hk.symm
    exact (Below.heap_setCell w' ⟨g4, 0, none⟩ v k (blk_ne hc h.b4 (by decide))).trans (hb.block k (blk_lt hc))
  · rcases hk with hk | hk
    · exact .inl (h.oo k hk).1
    · exact .inr hk
  · rcases hk with hk | hk
    · exact (h.oo k hk).2.2.1
    · have := old g6 h.o6; omega
  · rcases hk with hk | hk
    · exact (h.oo k hk).2.2.2
    · intro e
      have := old k (h.oa k e); omega
theorem DW_below {w0 : World} {p : Nat} {S T : List S96} {O OV : Nat → Prop} {g4 g5 g6 : Nat} {vT : Value} {c5 : Array Value} {vA : Value} {m : Nat} {w w' : World} (h : DW w0 p S T O OV g4 g5 g6 vT c5 vA m w) (hb : Below w.heap.size w w') : DW w0 p S T O OV g4 g5 g6 vT c5 vA m w' := DW_arena h (JA_step h.ja hb) (kO_below h.ja hb)
/- An attribute is spoilt. -/
theorem DW_spoil {w0 : World} {p : Nat} {S T : List S96} {O OV : Nat → Prop} {g4 g5 g6 gA c : Nat} {vT : Value} {c5 : Array Value} {m : Nat} {w : World} (h : DW w0 p S T O OV g4 g5 g6 vT c5 (.slice (some ⟨gA, 0, none⟩) m c) m w) (j : Nat) (hj : j < m) (s : ByteArray) :
    (∃ u, w.cell? ⟨gA, j * 2 + 1, none⟩ = some (.string u)) ∧ w.frozen? ⟨gA, j * 2 + 1, none⟩ = false ∧ DW w0 p S T O OV g4 g5 g6 vT c5 (.slice (some ⟨gA, 0, none⟩) m c) m (w.setCell ⟨gA, j * 2 + 1, none⟩ (.string s)) := by
  obtain ⟨l, hl, hR⟩ := h.ra
  have hO := h.oa gA rfl
  have hb := Kd.R_base hR gA rfl
  obtain ⟨cA, hcA⟩ := Kd.R_typed hR gA rfl
  obtain ⟨c, hcl, hM, hcc, hf⟩ := Kd.R_elem hR z103 (j : Int) (by omega) (by omega)
  rw [Int.toNat_natCast] at hM hcc hf
  obtain ⟨c0, c1, rfl, e0, e1⟩ := hM
  have e0 : c0 = [.string (l.getD j z103).f0] := e0
  have e1 : c1 = [.string (l.getD j z103).f1] := e1
  subst e0 e1
  have hs := (Kd.R_seg (okp := fun _ => False) hR (j : Int) (by omega) (by omega) (seg := [.string s]) (j := 1) hcl (by rw [Int.toNat_natCast]; exact hcc) (show 2 ≤ 2 by decide) (x' := ⟨(l.getD j z103).f0, s⟩) ⟨[.string (l.getD j z103).f0], [.string s], rfl, rfl, rfl⟩ (fun _ h => h.elim)).1
  rw [Int.toNat_natCast] at hs
  have far : ∀ k, k ≠ gA → (w.setCell ⟨gA, j * 2 + 1, none⟩ (.string s)).heap[k]? = w.heap[k]? := fun k hk => Below.heap_setCell w ⟨gA, j * 2 + 1, none⟩ _ k hk
  refine ⟨⟨_, hcc 1 _ rfl⟩, hf 1, JA_write h.ja hO hb _, Kd.V_step h.vt (fun k hk _ => far k (fun e => (h.oo k hk).2.2.2 (by rw [e]; rfl))), (far g4 (blk_ne h.b4 hcA (by decide))).trans h.b4, (far g5 (blk_ne h.b5 hcA (by decide))).trans h.b5, (far g6 (blk_ne h.b6 hcA (by decide))).trans h.b6, ⟨_, ?_, hs⟩, h.oo, h.o4, h.o5, h.o6, h.oa, h.l4, h.l6, h.ne⟩
  rw [List.length_set]; exact hl
/- The document's functions, with the tree as a slice of any letters. -/
theorem Vn {w : World} {b b' : Nat} {A : Option Addr} {n c : Nat} {T : List S96} {OV : Nat → Prop} (hn : n = T.length) (hV : Kd.V k116 116 w b OV (.slice A n c) (riS T)) : Kd.V k116 116 w b' OV (.slice A (riS T).length c) (riS T) := by
  rw [len_riS, ← hn]
  exact hV
def RoS (w : World) (OV : Nat → Prop) (T' : List S96) (r : Int) (e : Ending) (w2 : World) : Prop := ∃ A' n' c', e = .returned (.tuple #[.agg #[.slice A' n' c'], .int .i64 r]) ∧ n' = T'.length ∧ Kd.V k116 116 w2 w.heap.size (fun k => OV k ∨ w.heap.size ≤ k) (.slice A' n' c') (riS T') ∧ Below w.heap.size w w2
theorem RO_of {w w2 : World} {OV : Nat → Prop} {T' : List S96} {r : Int} {e : Ending} (h : ∃ v0 : Value, e = .returned (.tuple #[.agg #[v0], .int .i64 r]) ∧ Kd.V k116 116 w2 w.heap.size (fun k => OV k ∨ w.heap.size ≤ k) v0 (riS T') ∧ Below w.heap.size w w2) : RoS w OV T' r e w2 := by
  obtain ⟨v0, rfl, hV, hb⟩ := h
  obtain ⟨A', c', rfl⟩ := Kd.V_slice hV
  exact ⟨A', _, c', rfl, len_riS T', hV, hb⟩
theorem R_Make {w : World} {b n c : Nat} {A : Option Addr} {T : List S96} {OV : Nat → Prop} (hn : n = T.length) (hV : Kd.V k116 116 w b OV (.slice A n c) (riS T)) (hl : T.length ≤ 2000) (x : S94) (hx : x.f3.length ≤ 100000) {L : Option Addr} {m q : Nat} (hm : m = x.f3.length) (hC : Kd.C k103 w L x.f3.length x.f3) (hq : x.f3.length ≤ q) (T' : List S96) (r : Int) (hr : mkS T x = (T', r)) :
    Calls Try.prog 70 #[.agg #[.slice A n c], .agg #[.int .i64 x.f0, .int .i64 x.f1, .string x.f2, .slice L m q, .string x.f4, .slice none 0 0]] w (RoS w OV T' r) := by
  have he := ev_Make T hl x hx []
  rw [hr] at he
  rw [hn, hm, ← len_riS T]
  refine (marginaliaref05_Make.calls OV A c (riS T) x.f0 x.f1 x.f2 L q x.f3 x.f4 none 0 [] _ _ w (Vn hn hV) hC hq (Kd.C_nil _ _) (Nat.le_refl _) he).mono ?_
  exact fun e w' h => RO_of h
theorem R_Copy {w : World} {b n c : Nat} {A : Option Addr} {T : List S96} {OV : Nat → Prop} (hn : n = T.length) (hV : Kd.V k116 116 w b OV (.slice A n c) (riS T)) (hl : T.length ≤ 2000) (ha : ∀ i, (faS T i).f3.length ≤ 100000) (ht : ∀ i, (faS T i).f0 = 1 → (faS T i).f4 = ⟨#[]⟩) (i : Int) (T' : List S96) (r : Int) (hr : cpS T i = (T', r)) :
    Calls Try.prog 71 #[.agg #[.slice A n c], .int .i64 i] w (RoS w OV T' r) := by
  have he := ev_Copy T hl ha ht i
  rw [hr] at he
  rw [hn, ← len_riS T]
  refine (marginaliaref05_Copy.calls OV A c (riS T) i _ _ w (Vn hn hV) he).mono ?_
  exact fun e w' h => RO_of h
theorem R_AddO {w : World} {b n c : Nat} {A : Option Addr} {T : List S96} {OV : Nat → Prop} (hn : n = T.length) (hV : Kd.V k116 116 w b OV (.slice A n c) (riS T)) (hl : T.length ≤ 2000) (i : Int) (s : ByteArray) (hsz : ∀ i, (faS T i).f4.size + s.size ≤ 1000000) (T' : List S96) (r : Int) (hr : adS T i s = (T', r)) :
    Calls Try.prog 72 #[.agg #[.slice A n c], .int .i64 i, .string s] w (RoS w OV T' r) := by
  refine (R_Add hn (show Kd.V k116 116 w w.heap.size OV (.slice A n c) (riS T) from hV) hl i s hsz T' r hr).mono ?_
  exact fun e w' h => RO_of h
theorem R_Append {w : World} {b n c : Nat} {A : Option Addr} {T : List S96} {OV : Nat → Prop} (hn : n = T.length) (hV : Kd.V k116 116 w b OV (.slice A n c) (riS T)) (hF : FoS T) (hl : T.length ≤ 2000) (i j : Int) (T' : List S96) (r : Int) (hr : apS T i j = (T', r)) :
    Calls Try.prog 73 #[.agg #[.slice A n c], .int .i64 i, .int .i64 j] w (RoS w OV T' r) := by
  obtain ⟨k, he⟩ := ev_Append T hF hl i j
  have he := he k (Nat.le_refl _)
  rw [hr] at he
  rw [hn, ← len_riS T]
  refine (marginaliaref05_Append.calls k OV A c (riS T) i j _ _ w (Vn hn hV) he).mono ?_
  exact fun e w' h => RO_of h
theorem R_Before {w : World} {b n c : Nat} {A : Option Addr} {T : List S96} {OV : Nat → Prop} (hn : n = T.length) (hV : Kd.V k116 116 w b OV (.slice A n c) (riS T)) (hF : FoS T) (hl : T.length ≤ 2000) (i j : Int) (T' : List S96) (r : Int) (hr : beS T i j = (T', r)) :
    Calls Try.prog 74 #[.agg #[.slice A n c], .int .i64 i, .int .i64 j] w (RoS w OV T' r) := by
  obtain ⟨k, he⟩ := ev_Before T hF hl i j
  have he := he k (Nat.le_refl _)
  rw [hr] at he
  rw [hn, ← len_riS T]
  refine (marginaliaref05_Before.calls k OV A c (riS T) i j _ _ w (Vn hn hV) he).mono ?_
  exact fun e w' h => RO_of h
theorem R_Remove {w : World} {b n c : Nat} {A : Option Addr} {T : List S96} {OV : Nat → Prop} (hn : n = T.length) (hV : Kd.V k116 116 w b OV (.slice A n c) (riS T)) (hF : FoS T) (hl : T.length ≤ 2000) (i : Int) (T' : List S96) (r : Int) (hr : reS T i = (T', r)) :
    Calls Try.prog 75 #[.agg #[.slice A n c], .int .i64 i] w (RoS w OV T' r) := by
  obtain ⟨k, he⟩ := ev_Remove T hF hl i
  have he := he k (Nat.le_refl _)
  rw [hr] at he
  rw [hn, ← len_riS T]
  refine (marginaliaref05_Remove.calls k OV A c (riS T) i _ _ w (Vn hn hV) he).mono ?_
  exact fun e w' h => RO_of h
theorem R_Move {w : World} {b n c : Nat} {A : Option Addr} {T : List S96} {OV : Nat → Prop} (hn : n = T.length) (hV : Kd.V k116 116 w b OV (.slice A n c) (riS T)) (hF : FoS T) (hl : T.length ≤ 2000) (i j : Int) (T' : List S96) (r : Int) (hr : moS T i j = (T', r)) :
    Calls Try.prog 76 #[.agg #[.slice A n c], .int .i64 i, .int .i64 j] w (RoS w OV T' r) := by
  obtain ⟨k, he⟩ := ev_Move T hF hl i j
  have he := he k (Nat.le_refl _)
  rw [hr] at he
  rw [hn, ← len_riS T]
  refine (marginaliaref05_Move.calls k OV A c (riS T) i j _ _ w (Vn hn hV) he).mono ?_
  exact fun e w' h => RO_of h
/- An act, as the arena's state has it; what holds of a state behind some acts. -/
def acS (a : S54) (S : List S96) : List S96 × Int × Int :=
  if a.f0 = 1 then ((mkS S ⟨1, a.f3, a.f4, a.f5, ⟨#[]⟩⟩).1, (mkS S ⟨1, a.f3, a.f4, a.f5, ⟨#[]⟩⟩).2, 0)
  else if a.f0 = 2 then ((mkS S ⟨2, 0, ⟨#[]⟩, [], a.f4⟩).1, (mkS S ⟨2, 0, ⟨#[]⟩, [], a.f4⟩).2, 0)
  else if a.f0 = 3 then ((mkS S ⟨3, 0, ⟨#[]⟩, [], a.f4⟩).1, (mkS S ⟨3, 0, ⟨#[]⟩, [], a.f4⟩).2, 0)
  else if a.f0 = 4 then ((cpS S a.f1).1, (cpS S a.f1).2, 0)
  else if a.f0 = 5 then ((adS S a.f1 a.f4).1, 0, (adS S a.f1 a.f4).2)
  else if a.f0 = 6 then ((apS S a.f1 a.f2).1, 0, (apS S a.f1 a.f2).2)
  else if a.f0 = 7 then ((beS S a.f1 a.f2).1, 0, (beS S a.f1 a.f2).2)
  else if a.f0 = 8 then ((reS S a.f1).1, 0, (reS S a.f1).2)
  else if a.f0 = 9 then ((moS S a.f1 a.f2).1, 0, (moS S a.f1 a.f2).2)
  else (S, 0, 0)
structure OkS (j : Nat) (S : List S96) : Prop where
  fo : FoS S
  len : S.length ≤ j + 1
  att : ∀ i, (faS S i).f3.length ≤ 6
  tx : ∀ i, (faS S i).f4.size ≤ 60 * j
  el : ∀ i, (faS S i).f0 = 1 → (faS S i).f4 = ⟨#[]⟩
theorem DW_y {w0 w : World} {p : Nat} {S T : List S96} {O OV : Nat → Prop} {g4 g5 g6 : Nat} {vT u0 u1 u2 u3 u4 u5 : Value} {vA : Value} {m : Nat} (h : DW w0 p S T O OV g4 g5 g6 vT #[u0, u1, u2, u3, u4, u5] vA m w) : w.cell? ⟨g4, 0, none⟩ = some vT ∧ w.frozen? ⟨g4, 0, none⟩ = false ∧ w.cell? ⟨g5, 0, none⟩ = some u0 ∧ w.cell? ⟨g5, 1, none⟩ = some u1 ∧ w.cell? ⟨g5, 2, none⟩ = some u2 ∧ w.cell? ⟨g5, 3, none⟩ = some u3 ∧ w.cell? ⟨g5, 4, none⟩ = some u4 ∧ w.cell? ⟨g5, 5, none⟩ = some u5 :=
  ⟨(blk_cell h.b4 0).trans rfl, blk_frozen h.b4 0, (blk_cell h.b5 0).trans rfl, (blk_cell h.b5 1).trans rfl, (blk_cell h.b5 2).trans rfl, (blk_cell h.b5 3).trans rfl, (blk_cell h.b5 4).trans rfl, (blk_cell h.b5 5).trans rfl⟩
theorem DW_C {w0 w : World} {p : Nat} {S T : List S96} {O OV : Nat → Prop} {g4 g5 g6 : Nat} {vT : Value} {c5 : Array Value} {A : Option Addr} {c m : Nat} {l : List S103} (h : DW w0 p S T O OV g4 g5 g6 vT c5 (.slice A m c) m w) (hl : l.length = m) (hR : Kd.R k103 103 w w0.heap.size (fun k => some k = (Value.slice A m c).ownBlock) (.slice A m c) l) : Kd.C k103 w A l.length l ∧ l.length ≤ c := by
  subst hl
  obtain ⟨_, q1, q2⟩ := Kd.R_reads' hR
  exact ⟨q2, q1⟩
structure DX (w0 w : World) (p : Nat) (S T : List S96) (O OV : Nat → Prop) (g4 g5 g6 : Nat) (vT : Value) (c5 : Array Value) (vA : Value) (m : Nat) (l : List S103) (O' OV' : Nat → Prop) (w' : World) : Prop where
  dw : DW w0 p S T O' OV' g4 g5 g6 vT c5 vA m w'
  rr : Kd.R k103 103 w' w0.heap.size (fun k => some k = vA.ownBlock) vA l
  ko : kO O w w'
  oo : ∀ k, O k → O' k
  ov : ∀ k, OV' k → OV k ∨ w.heap.size ≤ k
theorem DX_arena {w0 w w1 w2 : World} {p : Nat} {S S' T : List S96} {O OV : Nat → Prop} {g4 g5 g6 : Nat} {vT : Value} {c5 : Array Value} {vA : Value} {m : Nat} {l : List S103} {O' OV' : Nat → Prop} (h : DX w0 w p S T O OV g4 g5 g6 vT c5 vA m l O' OV' w1) (hj : JA w0 w2 p S' O') (hk : kO O' w1 w2) : DX w0 w p S' T O OV g4 g5 g6 vT c5 vA m l O' OV' w2 :=
  ⟨DW_arena h.dw hj hk, Kd.R_move h.rr (fun k hv => hk.2 k (h.dw.oa k hv)), kO_trans h.ko ⟨hk.1, fun k hv => hk.2 k (h.oo k hv)⟩, h.oo, h.ov⟩
theorem DX_ref {w0 w w1 w2 : World} {p : Nat} {S T T' : List S96} {O OV : Nat → Prop} {g4 g5 g6 : Nat} {vT v : Value} {c5 : Array Value} {vA : Value} {m b : Nat} {l : List S103} {O' OV' : Nat → Prop} (h4 : w.heap.size ≤ g4) (h : DX w0 w p S T O OV g4 g5 g6 vT c5 vA m l O' OV' w1) (hsz : ∀ k, O k → k < w.heap.size) (hb : Below w1.heap.size w1 w2) (hv : Kd.V k116 116 w2 b (fun k => OV' k ∨ w1.heap.size ≤ k) v (riS T')) :
    DX w0 w p S T' O OV g4 g5 g6 v c5 vA m l (fun k => O' k ∨ (w1.heap.size ≤ k ∧ k < w2.heap.size)) (fun k => OV' k ∨ (w1.heap.size ≤ k ∧ k < w2.heap.size)) (w2.setCell ⟨g4, 0, none⟩ v) := by
  have hd := DW_ref h.dw hb hv
  refine ⟨hd, Kd.R_move h.rr (fun k hk => ?_), kO_trans h.ko (kO_trans (kO_below (JA_mono h.dw.ja h.oo) hb) ⟨Nat.le_of_eq (by simp), fun k hk => ?_⟩), fun k hk => .inl (h.oo k hk), fun k hk => ?_⟩
  · obtain ⟨cc, hc⟩ := Kd.R_typed h.rr k hk.symm
    exact (Below.heap_setCell w2 ⟨g4, 0, none⟩ v k (blk_ne hc h.dw.b4 (by decide))).trans (hb.block k (blk_lt hc))
  · have := hsz k hk
    exact Below.heap_setCell w2 ⟨g4, 0, none⟩ v k (Nat.ne_of_lt (Nat.lt_of_lt_of_le this h4))
  · rcases hk with hk | hk
    · exact h.ov k hk
    · exact .inr (Nat.le_trans h.ko.1 hk.1)
theorem DX_spoil {w0 w w1 : World} {p : Nat} {S T : List S96} {O OV : Nat → Prop} {g4 g5 g6 gA c : Nat} {vT : Value} {c5 : Array Value} {m : Nat} {l : List S103} {O' OV' : Nat → Prop} (h : DX w0 w p S T O OV g4 g5 g6 vT c5 (.slice (some ⟨gA, 0, none⟩) m c) m l O' OV' w1) (hsz : ∀ k, O k → k < w.heap.size) (hg : w.heap.size ≤ gA) (j : Nat) (hj : j < m) (s : ByteArray) :
    (∃ u, w1.cell? ⟨gA, j * 2 + 1, none⟩ = some (.string u)) ∧ w1.frozen? ⟨gA, j * 2 + 1, none⟩ = false ∧ ∃ l', DX w0 w p S T O OV g4 g5 g6 vT c5 (.slice (some ⟨gA, 0, none⟩) m c) m l' O' OV' (w1.setCell ⟨gA, j * 2 + 1, none⟩ (.string s)) := by
  obtain ⟨h1, h2, h3⟩ := DW_spoil h.dw j hj s
  obtain ⟨l', _, hR⟩ := h3.ra
  refine ⟨h1, h2, l', h3, hR, kO_trans h.ko ⟨Nat.le_of_eq (by simp), fun k hk => ?_⟩, h.oo, h.ov⟩
  have := hsz k hk
  exact Below.heap_setCell w1 ⟨gA, j * 2 + 1, none⟩ _ k (Nat.ne_of_lt (Nat.lt_of_lt_of_le this hg))
/- What do leaves. -/
def DO (w0 w : World) (p : Nat) (S' T' : List S96) (O OV : Nat → Prop) (ok : Bool) (e : Ending) (w' : World) : Prop := ∃ (A' : Option Addr) (n' c' : Nat) (OV' : Nat → Prop), e = .returned (.tuple #[.agg #[.slice A' n' c'], .bool ok]) ∧ n' = T'.length ∧ Kd.V k116 116 w' 0 OV' (.slice A' n' c') (riS T') ∧ JA w0 w' p S' (fun k => O k ∨ OV' k) ∧ kO O w w' ∧ (∀ k, OV' k → OV k ∨ w.heap.size ≤ k)
set_option maxRecDepth 100000 in
set_option maxHeartbeats 40000000 in
theorem J_do {w0 w : World} {p : Nat} {S T : List S96} {O OV : Nat → Prop} {A : Option Addr} {n c b : Nat} (hj : JA w0 w p S O) (hn : n = T.length) (hV : Kd.V k116 116 w b OV (.slice A n c) (riS T)) (hOV : ∀ k, OV k → O k) (a : S54) {L : Option Addr} {m q : Nat} (hm : m = a.f5.length) (hC : Kd.C k103 w0 L m a.f5) (hq : m ≤ q) {js jt : Nat} (oS : OkS js S) (oT : OkS jt T) (ljs : js ≤ 40) (ljt : jt ≤ 40) (sm : a.f4.size ≤ 60 ∧ a.f5.length ≤ 6) (S' T' : List S96) (r1 r2 e1 e2 : Int) (h1 : acS a S = (S', r1, e1)) (h2 : acS a T = (T', r2, e2)) (ok : Bool) (hok : decide (r1 = r2 ∧ e1 = e2) = ok) :
    Calls Try.prog 34 #[.pointer (some ⟨p, 0, none⟩), .agg #[.slice A n c], .agg #[.int .i64 a.f0, .int .i64 a.f1, .int .i64 a.f2, .int .i64 a.f3, .string a.f4, .slice L m q]] w (DO w0 w p S' T' O OV ok) := by
  have HJ := Aside0.mk hj
  have HN := Aside0.mk hn
  have HV := Aside0.mk hV
  have HOV := Aside0.mk hOV
  have HM := Aside0.mk hm
  have HC := Aside0.mk hC
  have HQ := Aside0.mk hq
  have OS := Aside0.mk oS
  have OT := Aside0.mk oT
  have LS := Aside0.mk ljs
  have LT := Aside0.mk ljt
  have SM := Aside0.mk sm
  have H1 := Aside0.mk h1
  have H2 := Aside0.mk h2
  have HOK := Aside0.mk hok
  have OSZ := Aside0.mk (fun k (hk : O k) => JA_O hj hk)
  clear hj hn hV hOV hm hC hq oS oT ljs ljt sm h1 h2 hok
  go_enter Try.func34, Try.ntmps34
  go_upto_region 1 with (fail)
  obtain ⟨W0, hW0⟩ : ∃ W0, W0 = (((w.alloc (.cells #[.slice A n c] 57)).alloc (.cells #[.int .i64 a.f0, .int .i64 a.f1, .int .i64 a.f2, .int .i64 a.f3, .string a.f4, .slice L m q] 54)).alloc (.cells #[.slice none 0 0] 57)) := ⟨_, rfl⟩
  obtain ⟨g4, hg4⟩ : ∃ g4, g4 = w.heap.size := ⟨_, rfl⟩
  obtain ⟨g5, hg5⟩ : ∃ g5, g5 = w.heap.size + 1 := ⟨_, rfl⟩
  obtain ⟨g6, hg6⟩ : ∃ g6, g6 = w.heap.size + 2 := ⟨_, rfl⟩
  have SZ : (w.alloc (.cells #[.slice A n c] 57)).heap.size = w.heap.size + 1 := (by show (w.heap.push _).size = w.heap.size + 1; exact Array.size_push _)
  have SZ2 : ((w.alloc (.cells #[.slice A n c] 57)).alloc (.cells #[.int .i64 a.f0, .int .i64 a.f1, .int .i64 a.f2, .int .i64 a.f3, .string a.f4, .slice L m q] 54)).heap.size = w.heap.size + 2 := (by show ((w.heap.push _).push _).size = w.heap.size + 2; rw [Array.size_push, Array.size_push])
  rw [← hW0, ← hg6, ← hg5, ← hg4]
  have B0 := Aside0.mk (show Below w.heap.size w W0 by rw [hW0]; exact below_step (below_step (below_alloc (Below.refl _ _) _) (below_alloc (Below.refl _ _) _)) (below_alloc (Below.refl _ _) _))
  have K4 := Aside0.mk (show W0.heap[g4]? = some (.cells #[.slice A n c] 57 (0, 0)) by rw [hW0, hg4]; exact blk_below (blk_below (blk_new w _) (below_alloc (Below.refl _ _) _)) (below_alloc (Below.refl _ _) _))
  have K5 := Aside0.mk (show W0.heap[g5]? = some (.cells #[.int .i64 a.f0, .int .i64 a.f1, .int .i64 a.f2, .int .i64 a.f3, .string a.f4, .slice L m q] 54 (0, 0)) by rw [hW0, hg5, ← SZ]; exact blk_below (blk_new _ _) (below_alloc (Below.refl _ _) _))
  have K6 := Aside0.mk (show W0.heap[g6]? = some (.cells #[.slice none 0 0] 57 (0, 0)) by rw [hW0, hg6, ← SZ2]; exact blk_new _ _)
  have L4 := Aside0.mk (show w.heap.size ≤ g4 by omega)
  have L5 := Aside0.mk (show w.heap.size ≤ g5 by omega)
  have L6 := Aside0.mk (show w.heap.size ≤ g6 by omega)
  have NE := Aside0.mk (show g4 ≠ g6 by omega)
  have z4 := (blk_cell K4.out 0).trans (rfl : #[Value.slice A n c][0]? = some (.slice A n c))
  have z5 := (blk_cell K5.out 5).trans (rfl : (#[.int .i64 a.f0, .int .i64 a.f1, .int .i64 a.f2, .int .i64 a.f3, .string a.f4, .slice L m q] : Array Value)[5]? = some (.slice L m q))
  clear hW0 hg4 hg5 hg6 SZ SZ2
  have CW := Aside0.mk (Kd.C_below (Kd.C_below HC.out (JA_below HJ.out)) B0.out)
  have LMX := Aside0.mk (show (([] : List S103).length + m) * 32 ≤ 140737488355328 by have h1 := HM.out; have h2 := SM.out.2; rw [List.length_nil]; omega)
  go_upto_region 4 with (first | ((with_reducible refine gate_dst (N := 14) rfl ?_); refine Kd.R_lit k103 (w0 := w) w.heap.size 103 ?hg (N := 14) ?hd (xs := ([] : List S103)) (inner := []) (ok := fun _ => True) (okp := fun _ => True) ?hr ?hp (fun _ hk => hk) trivial B0.out B0.out.size (by simp) ?_; (case hd => rfl); (case hg => rfl); (case hr => first | (go_simp; done) | (go_simp; rfl)); (case hp => exact (Reps.none _ _)); intro v5 w2 hR hb hg hat; have R2 := Aside0.mk hR; have B2 := Aside0.mk hb; have AT2 := Aside0.mk hat; have D4 := Aside0.mk (blk_grown K4.out hg (by simp)); have D5 := Aside0.mk (blk_grown K5.out hg (by simp)); have D6 := Aside0.mk (blk_grown K6.out hg (by simp)); have x5 := (blk_cell D5.out 5).trans (rfl : (#[.int .i64 a.f0, .int .i64 a.f1, .int .i64 a.f2, .int .i64 a.f3, .string a.f4, .slice L m q] : Array Value)[5]? = some (.slice L m q)); clear hR hb hg hat) | ((with_reducible refine gate_builtin (b := .append) (xs := #[.tmp 14, .tmp 16]) rfl ?_); at_builtin; refine Kd.R_append_rows k103 (w0 := w) w.heap.size rfl (.tmp 14) (.tmp 16) 52 103 (.agg #[(.string ⟨#[]⟩), (.string ⟨#[]⟩)]) 32 rfl Try.underlying52 info103 rfl (by decide) (by omega) v5 [] a.f5 _ _ _ (fun _ => True) (fun _ => False) rfl rfl R2.out ?aR (fun _ _ h => h) (fun _ h => h.elim) (fun _ _ => trivial) B2.out B2.out.size LMX.out ?_; (case aR => exact (Kd.C_below (Kd.C_below HC.out (JA_below HJ.out)) B2.out)); intro v6 w3 hR hb hg hat; have R3 := Aside0.mk hR; have B3 := Aside0.mk hb; have E4 := Aside0.mk (blk_grown D4.out hg (fun e => (by obtain ⟨b1, hb1, hb2⟩ := AT2.out; have h2 := e.trans hb1; injection h2 with h2; have := blk_lt K4.out; omega))); have E5 := Aside0.mk (blk_grown D5.out hg (fun e => (by obtain ⟨b1, hb1, hb2⟩ := AT2.out; have h2 := e.trans hb1; injection h2 with h2; have := blk_lt K5.out; omega))); have E6 := Aside0.mk (blk_grown D6.out hg (fun e => (by obtain ⟨b1, hb1, hb2⟩ := AT2.out; have h2 := e.trans hb1; injection h2 with h2; have := blk_lt K6.out; omega))); clear hR hb hg hat))
  obtain ⟨AA, cA, hvA⟩ := Kd.R_slice R3.out
  rw [List.nil_append] at hvA
  replace hvA : v6 = .slice AA m cA := by rw [hvA, HM.out]
  subst hvA
  have RR := Aside0.mk (Kd.R_lower (Kd.R_tight rfl R3.out) (JA_below HJ.out).size)
  have LA := Aside0.mk (fun k (hk : some k = (Value.slice AA m cA).ownBlock) => Kd.R_base R3.out k hk.symm)
  have D0 := Aside0.mk (show DX w0 w p S T O OV g4 g5 g6 (.slice A n c) #[.int .i64 a.f0, .int .i64 a.f1, .int .i64 a.f2, .int .i64 a.f3, .string a.f4, .slice L m q] (.slice AA m cA) m a.f5 (fun k => O k ∨ (w.heap.size ≤ k ∧ k < w3.heap.size)) OV w3 from by
    have old := OSZ.out
    refine ⟨⟨JA_deep HJ.out B3.out, Kd.V_step (Kd.V_lower HV.out (Nat.zero_le _) : Kd.V k116 116 w 0 OV (.slice A n c) (riS T)) (fun k hk _ => B3.out.block k (old k (HOV.out k hk))), E4.out, E5.out, E6.out, ⟨a.f5, HM.out.symm, RR.out⟩, fun k hk => ?_, .inr ⟨L4.out, blk_lt E4.out⟩, .inr ⟨?_, blk_lt E5.out⟩, .inr ⟨L6.out, blk_lt E6.out⟩, fun k hk => .inr ⟨LA.out k hk, ?_⟩, Nat.le_trans (JA_below HJ.out).size L4.out, Nat.le_trans (JA_below HJ.out).size L6.out, NE.out⟩, RR.out, kO_below HJ.out B3.out, fun k hk => .inl hk, fun k hk => .inl hk⟩
    · have h1 := old k (HOV.out k hk)
      have h2 := L4.out
      have h3 := L6.out
      exact ⟨.inl (HOV.out k hk), by omega, by omega, fun e => by have := LA.out k e; omega⟩
    · exact L5.out
    · obtain ⟨cc, hc⟩ := Kd.R_typed RR.out k hk.symm
      exact blk_lt hc)
  obtain ⟨y4, f4, y50, y51, y52, y53, y54, y55⟩ := DW_y D0.out.dw
  clear z4 z5 x5
  clear R2 B2 AT2 D4 D5 D6 B0 K4 K5 K6 R3 B3 E4 E5 E6 RR CW
  have HC2 := Aside0.mk (show Kd.C k103 w0 L a.f5.length a.f5 by rw [← HM.out]; exact HC.out)
  have HQ2 := Aside0.mk (show a.f5.length ≤ q by rw [← HM.out]; exact HQ.out)
  go_upto_block 0 with (fail)
  go_cut [8, 9, 10, 11, 12] from 8 to 162 (fun v8 v9 v10 v11 v12 wc => ∃ (A' : Option Addr) (n' c' : Nat) (O' OV' : Nat → Prop), v8 = .int .i64 r1 ∧ v9 = .int .i64 r2 ∧ v10 = .int .i64 e1 ∧ v11 = .int .i64 e2 ∧ v12 = .slice AA m cA ∧ Aside0 (n' = T'.length) ∧ Aside0 (DX w0 w p S' T' O OV g4 g5 g6 (.slice A' n' c') #[.int .i64 a.f0, .int .i64 a.f1, .int .i64 a.f2, .int .i64 a.f3, .string a.f4, .slice L m q] (.slice AA m cA) m a.f5 O' OV' wc))
  case first =>
    by_cases c1 : a.f0 = 1
    · have k1 : (a.f0 == 1) = true := by simp [c1]
      have h1 := H1.out
      have h2 := H2.out
      unfold acS at h1 h2
      rw [if_pos c1] at h1 h2
      simp only [Prod.mk.injEq] at h1 h2
      obtain ⟨a1, a2, a3⟩ := h1
      obtain ⟨b1, b2, b3⟩ := h2
      have M1 := Aside0.mk (show mkS S ⟨1, a.f3, a.f4, a.f5, ⟨#[]⟩⟩ = (S', r1) by rw [← a1, ← a2])
      have M2 := Aside0.mk (show mkS T ⟨1, a.f3, a.f4, a.f5, ⟨#[]⟩⟩ = (T', r2) by rw [← b1, ← b2])
      clear a1 a2 b1 b2 H1 H2
      subst a3
      subst b3
      clear c1
      go_wp2_with (first | (go_at_call 28; refine (J_Elem1 D0.out.dw.ja a.f3 a.f4 AA cA a.f5 m HM.out (by have := SM.out.2; omega) (DW_C D0.out.dw HM.out.symm D0.out.rr).1 (DW_C D0.out.dw HM.out.symm D0.out.rr).2 _ _ M1.out w3 (Below.refl _ _)).mono ?_; rintro e w4 ⟨rfl, hJ, hK⟩; have D1 := Aside0.mk (DX_arena D0.out hJ hK); obtain ⟨x4, fx, x50, x51, x52, x53, x54, x55⟩ := DW_y D1.out.dw; clear hJ hK D0 y4 f4 y50 y51 y52 y53 y54 y55) | (go_at_call 70; refine (R_Make HN.out D1.out.dw.vt (by have h1 := OT.out.len; have h2 := LT.out; omega) ⟨1, a.f3, a.f4, a.f5, ⟨#[]⟩⟩ (by have := SM.out.2; show a.f5.length ≤ 100000; omega) HM.out (Kd.C_below HC2.out (JA_below D1.out.dw.ja)) HQ2.out _ _ M2.out).mono ?_; rintro e w5 ⟨A', n', c', rfl, hn', hV', hb⟩; have D2 := Aside0.mk (DX_ref L4.out D1.out OSZ.out hb hV'); have HN2 := Aside0.mk hn'; have z4 := (blk_cell (blk_below D1.out.dw.b4 hb) 0).trans (rfl : #[Value.slice A n c][0]? = some (.slice A n c)); have fz := blk_frozen (blk_below D1.out.dw.b4 hb) 0; clear hn' hV' hb x4 fx x50 x51 x52 x53 x54 x55))
      go_meet
      case rel => exact ⟨A', n', c', _, _, rfl, rfl, rfl, rfl, rfl, HN2, D2⟩
    · have k1 : (a.f0 == 1) = false := by simp [c1]
      by_cases c2 : a.f0 = 2
      · have k2 : (a.f0 == 2) = true := by simp [c2]
        have h1 := H1.out
        have h2 := H2.out
        unfold acS at h1 h2
        rw [if_neg c1, if_pos c2] at h1 h2
        simp only [Prod.mk.injEq] at h1 h2
        obtain ⟨a1, a2, a3⟩ := h1
        obtain ⟨b1, b2, b3⟩ := h2
        have M1 := Aside0.mk (show mkS S ⟨2, 0, ⟨#[]⟩, [], a.f4⟩ = (S', r1) by rw [← a1, ← a2])
        have M2 := Aside0.mk (show mkS T ⟨2, 0, ⟨#[]⟩, [], a.f4⟩ = (T', r2) by rw [← b1, ← b2])
        clear a1 a2 b1 b2 H1 H2
        subst a3
        subst b3
        clear c1 c2
        go_wp2_with (first | (go_at_call 26; refine (J_Text D0.out.dw.ja a.f4 _ _ M1.out).mono ?_; rintro e w4 ⟨rfl, hJ, hK⟩; have D1 := Aside0.mk (DX_arena D0.out hJ hK); obtain ⟨x4, fx, x50, x51, x52, x53, x54, x55⟩ := DW_y D1.out.dw; clear hJ hK D0 y4 f4 y50 y51 y52 y53 y54 y55) | (go_at_call 70; refine (R_Make (L := none) (m := 0) (q := 0) HN.out D1.out.dw.vt (by have h1 := OT.out.len; have h2 := LT.out; omega) ⟨2, 0, ⟨#[]⟩, [], a.f4⟩ (Nat.zero_le _) rfl (Kd.C_nil _ _) (Nat.le_refl _) _ _ M2.out).mono ?_; rintro e w5 ⟨A', n', c', rfl, hn', hV', hb⟩; have D2 := Aside0.mk (DX_ref L4.out D1.out OSZ.out hb hV'); have HN2 := Aside0.mk hn'; have z4 := (blk_cell (blk_below D1.out.dw.b4 hb) 0).trans (rfl : #[Value.slice A n c][0]? = some (.slice A n c)); have fz := blk_frozen (blk_below D1.out.dw.b4 hb) 0; clear hn' hV' hb x4 fx x50 x51 x52 x53 x54 x55))
        go_meet
        case rel => exact ⟨A', n', c', _, _, rfl, rfl, rfl, rfl, rfl, HN2, D2⟩
      · have k2 : (a.f0 == 2) = false := by simp [c2]
        by_cases c3 : a.f0 = 3
        · have k3 : (a.f0 == 3) = true := by simp [c3]
          have h1 := H1.out
          have h2 := H2.out
          unfold acS at h1 h2
          rw [if_neg c1, if_neg c2, if_pos c3] at h1 h2
          simp only [Prod.mk.injEq] at h1 h2
          obtain ⟨a1, a2, a3⟩ := h1
          obtain ⟨b1, b2, b3⟩ := h2
          have M1 := Aside0.mk (show mkS S ⟨3, 0, ⟨#[]⟩, [], a.f4⟩ = (S', r1) by rw [← a1, ← a2])
          have M2 := Aside0.mk (show mkS T ⟨3, 0, ⟨#[]⟩, [], a.f4⟩ = (T', r2) by rw [← b1, ← b2])
          clear a1 a2 b1 b2 H1 H2
          subst a3
          subst b3
          clear c1 c2 c3
          go_wp2_with (first | (go_at_call 29; refine (J_Comment D0.out.dw.ja a.f4 _ _ M1.out).mono ?_; rintro e w4 ⟨rfl, hJ, hK⟩; have D1 := Aside0.mk (DX_arena D0.out hJ hK); obtain ⟨x4, fx, x50, x51, x52, x53, x54, x55⟩ := DW_y D1.out.dw; clear hJ hK D0 y4 f4 y50 y51 y52 y53 y54 y55) | (go_at_call 70; refine (R_Make (L := none) (m := 0) (q := 0) HN.out D1.out.dw.vt (by have h1 := OT.out.len; have h2 := LT.out; omega) ⟨3, 0, ⟨#[]⟩, [], a.f4⟩ (Nat.zero_le _) rfl (Kd.C_nil _ _) (Nat.le_refl _) _ _ M2.out).mono ?_; rintro e w5 ⟨A', n', c', rfl, hn', hV', hb⟩; have D2 := Aside0.mk (DX_ref L4.out D1.out OSZ.out hb hV'); have HN2 := Aside0.mk hn'; have z4 := (blk_cell (blk_below D1.out.dw.b4 hb) 0).trans (rfl : #[Value.slice A n c][0]? = some (.slice A n c)); have fz := blk_frozen (blk_below D1.out.dw.b4 hb) 0; clear hn' hV' hb x4 fx x50 x51 x52 x53 x54 x55))
          go_meet
          case rel => exact ⟨A', n', c', _, _, rfl, rfl, rfl, rfl, rfl, HN2, D2⟩
        · have k3 : (a.f0 == 3) = false := by simp [c3]
          by_cases c4 : a.f0 = 4
          · have k4 : (a.f0 == 4) = true := by simp [c4]
            have h1 := H1.out
            have h2 := H2.out
            unfold acS at h1 h2
            rw [if_neg c1, if_neg c2, if_neg c3, if_pos c4] at h1 h2
            simp only [Prod.mk.injEq] at h1 h2
            obtain ⟨a1, a2, a3⟩ := h1
            obtain ⟨b1, b2, b3⟩ := h2
            have M1 := Aside0.mk (show cpS S a.f1 = (S', r1) by rw [← a1, ← a2])
            have M2 := Aside0.mk (show cpS T a.f1 = (T', r2) by rw [← b1, ← b2])
            clear a1 a2 b1 b2 H1 H2
            subst a3
            subst b3
            clear c1 c2 c3 c4
            go_wp2_with (first | (go_at_call 31; refine (J_Copy D0.out.dw.ja (fun i => by have := OS.out.att i; omega) a.f1 _ _ M1.out).mono ?_; rintro e w4 ⟨rfl, hJ, hK⟩; have D1 := Aside0.mk (DX_arena D0.out hJ hK); obtain ⟨x4, fx, x50, x51, x52, x53, x54, x55⟩ := DW_y D1.out.dw; clear hJ hK D0 y4 f4 y50 y51 y52 y53 y54 y55) | (go_at_call 71; refine (R_Copy HN.out D1.out.dw.vt (by have h1 := OT.out.len; have h2 := LT.out; omega) (fun i => by have := OT.out.att i; omega) OT.out.el a.f1 _ _ M2.out).mono ?_; rintro e w5 ⟨A', n', c', rfl, hn', hV', hb⟩; have D2 := Aside0.mk (DX_ref L4.out D1.out OSZ.out hb hV'); have HN2 := Aside0.mk hn'; have z4 := (blk_cell (blk_below D1.out.dw.b4 hb) 0).trans (rfl : #[Value.slice A n c][0]? = some (.slice A n c)); have fz := blk_frozen (blk_below D1.out.dw.b4 hb) 0; clear hn' hV' hb x4 fx x50 x51 x52 x53 x54 x55))
            go_meet
            case rel => exact ⟨A', n', c', _, _, rfl, rfl, rfl, rfl, rfl, HN2, D2⟩
          · have k4 : (a.f0 == 4) = false := by simp [c4]
            by_cases c5 : a.f0 = 5
            · have k5 : (a.f0 == 5) = true := by simp [c5]
              have h1 := H1.out
              have h2 := H2.out
              unfold acS at h1 h2
              rw [if_neg c1, if_neg c2, if_neg c3, if_neg c4, if_pos c5] at h1 h2
              simp only [Prod.mk.injEq] at h1 h2
              obtain ⟨a1, a2, a3⟩ := h1
              obtain ⟨b1, b2, b3⟩ := h2
              have M1 := Aside0.mk (show adS S a.f1 a.f4 = (S', e1) by rw [← a1, ← a3])
              have M2 := Aside0.mk (show adS T a.f1 a.f4 = (T', e2) by rw [← b1, ← b3])
              clear a1 a3 b1 b3 H1 H2
              subst a2
              subst b2
              clear c1 c2 c3 c4 c5
              go_wp2_with (first | (go_at_call 47; refine (J_Add D0.out.dw.ja a.f1 a.f4 (fun i => by have h1 := OS.out.tx i; have h2 := LS.out; have h3 := SM.out.1; omega) _ _ M1.out).mono ?_; rintro e w4 ⟨rfl, hJ, hK⟩; have D1 := Aside0.mk (DX_arena D0.out hJ hK); obtain ⟨x4, fx, x50, x51, x52, x53, x54, x55⟩ := DW_y D1.out.dw; clear hJ hK D0 y4 f4 y50 y51 y52 y53 y54 y55) | (go_at_call 72; refine (R_AddO HN.out D1.out.dw.vt (by have h1 := OT.out.len; have h2 := LT.out; omega) a.f1 a.f4 (fun i => by have h1 := OT.out.tx i; have h2 := LT.out; have h3 := SM.out.1; omega) _ _ M2.out).mono ?_; rintro e w5 ⟨A', n', c', rfl, hn', hV', hb⟩; have D2 := Aside0.mk (DX_ref L4.out D1.out OSZ.out hb hV'); have HN2 := Aside0.mk hn'; have z4 := (blk_cell (blk_below D1.out.dw.b4 hb) 0).trans (rfl : #[Value.slice A n c][0]? = some (.slice A n c)); have fz := blk_frozen (blk_below D1.out.dw.b4 hb) 0; clear hn' hV' hb x4 fx x50 x51 x52 x53 x54 x55))
              go_meet
              case rel => exact ⟨A', n', c', _, _, rfl, rfl, rfl, rfl, rfl, HN2, D2⟩
            · have k5 : (a.f0 == 5) = false := by simp [c5]
              by_cases c6 : a.f0 = 6
              · have k6 : (a.f0 == 6) = true := by simp [c6]
                have h1 := H1.out
                have h2 := H2.out
                unfold acS at h1 h2
                rw [if_neg c1, if_neg c2, if_neg c3, if_neg c4, if_neg c5, if_pos c6] at h1 h2
                simp only [Prod.mk.injEq] at h1 h2
                obtain ⟨a1, a2, a3⟩ := h1
                obtain ⟨b1, b2, b3⟩ := h2
                have M1 := Aside0.mk (show apS S a.f1 a.f2 = (S', e1) by rw [← a1, ← a3])
                have M2 := Aside0.mk (show apS T a.f1 a.f2 = (T', e2) by rw [← b1, ← b3])
                clear a1 a3 b1 b3 H1 H2
                subst a2
                subst b2
                clear c1 c2 c3 c4 c5 c6
                go_wp2_with (first | (go_at_call 32; refine (J_Append D0.out.dw.ja OS.out.fo (by have h1 := OS.out.len; have h2 := LS.out; omega) a.f1 a.f2 _ _ M1.out).mono ?_; rintro e w4 ⟨rfl, hJ, hK⟩; have D1 := Aside0.mk (DX_arena D0.out hJ hK); obtain ⟨x4, fx, x50, x51, x52, x53, x54, x55⟩ := DW_y D1.out.dw; clear hJ hK D0 y4 f4 y50 y51 y52 y53 y54 y55) | (go_at_call 73; refine (R_Append HN.out D1.out.dw.vt OT.out.fo (by have h1 := OT.out.len; have h2 := LT.out; omega) a.f1 a.f2 _ _ M2.out).mono ?_; rintro e w5 ⟨A', n', c', rfl, hn', hV', hb⟩; have D2 := Aside0.mk (DX_ref L4.out D1.out OSZ.out hb hV'); have HN2 := Aside0.mk hn'; have z4 := (blk_cell (blk_below D1.out.dw.b4 hb) 0).trans (rfl : #[Value.slice A n c][0]? = some (.slice A n c)); have fz := blk_frozen (blk_below D1.out.dw.b4 hb) 0; clear hn' hV' hb x4 fx x50 x51 x52 x53 x54 x55))
                go_meet
                case rel => exact ⟨A', n', c', _, _, rfl, rfl, rfl, rfl, rfl, HN2, D2⟩
              · have k6 : (a.f0 == 6) = false := by simp [c6]
                by_cases c7 : a.f0 = 7
                · have k7 : (a.f0 == 7) = true := by simp [c7]
                  have h1 := H1.out
                  have h2 := H2.out
                  unfold acS at h1 h2
                  rw [if_neg c1, if_neg c2, if_neg c3, if_neg c4, if_neg c5, if_neg c6, if_pos c7] at h1 h2
                  simp only [Prod.mk.injEq] at h1 h2
                  obtain ⟨a1, a2, a3⟩ := h1
                  obtain ⟨b1, b2, b3⟩ := h2
                  have M1 := Aside0.mk (show beS S a.f1 a.f2 = (S', e1) by rw [← a1, ← a3])
                  have M2 := Aside0.mk (show beS T a.f1 a.f2 = (T', e2) by rw [← b1, ← b3])
                  clear a1 a3 b1 b3 H1 H2
                  subst a2
                  subst b2
                  clear c1 c2 c3 c4 c5 c6 c7
                  go_wp2_with (first | (go_at_call 41; refine (J_Before D0.out.dw.ja OS.out.fo (by have h1 := OS.out.len; have h2 := LS.out; omega) a.f1 a.f2 _ _ M1.out).mono ?_; rintro e w4 ⟨rfl, hJ, hK⟩; have D1 := Aside0.mk (DX_arena D0.out hJ hK); obtain ⟨x4, fx, x50, x51, x52, x53, x54, x55⟩ := DW_y D1.out.dw; clear hJ hK D0 y4 f4 y50 y51 y52 y53 y54 y55) | (go_at_call 74; refine (R_Before HN.out D1.out.dw.vt OT.out.fo (by have h1 := OT.out.len; have h2 := LT.out; omega) a.f1 a.f2 _ _ M2.out).mono ?_; rintro e w5 ⟨A', n', c', rfl, hn', hV', hb⟩; have D2 := Aside0.mk (DX_ref L4.out D1.out OSZ.out hb hV'); have HN2 := Aside0.mk hn'; have z4 := (blk_cell (blk_below D1.out.dw.b4 hb) 0).trans (rfl : #[Value.slice A n c][0]? = some (.slice A n c)); have fz := blk_frozen (blk_below D1.out.dw.b4 hb) 0; clear hn' hV' hb x4 fx x50 x51 x52 x53 x54 x55))
                  go_meet
                  case rel => exact ⟨A', n', c', _, _, rfl, rfl, rfl, rfl, rfl, HN2, D2⟩
                · have k7 : (a.f0 == 7) = false := by simp [c7]
                  by_cases c8 : a.f0 = 8
                  · have k8 : (a.f0 == 8) = true := by simp [c8]
                    have h1 := H1.out
                    have h2 := H2.out
                    unfold acS at h1 h2
                    rw [if_neg c1, if_neg c2, if_neg c3, if_neg c4, if_neg c5, if_neg c6, if_neg c7, if_pos c8] at h1 h2
                    simp only [Prod.mk.injEq] at h1 h2
                    obtain ⟨a1, a2, a3⟩ := h1
                    obtain ⟨b1, b2, b3⟩ := h2
                    have M1 := Aside0.mk (show reS S a.f1 = (S', e1) by rw [← a1, ← a3])
                    have M2 := Aside0.mk (show reS T a.f1 = (T', e2) by rw [← b1, ← b3])
                    clear a1 a3 b1 b3 H1 H2
                    subst a2
                    subst b2
                    clear c1 c2 c3 c4 c5 c6 c7 c8
                    go_wp2_with (first | (go_at_call 39; refine (J_Remove D0.out.dw.ja OS.out.fo (by have h1 := OS.out.len; have h2 := LS.out; omega) a.f1 _ _ M1.out).mono ?_; rintro e w4 ⟨rfl, hJ, hK⟩; have D1 := Aside0.mk (DX_arena D0.out hJ hK); obtain ⟨x4, fx, x50, x51, x52, x53, x54, x55⟩ := DW_y D1.out.dw; clear hJ hK D0 y4 f4 y50 y51 y52 y53 y54 y55) | (go_at_call 75; refine (R_Remove HN.out D1.out.dw.vt OT.out.fo (by have h1 := OT.out.len; have h2 := LT.out; omega) a.f1 _ _ M2.out).mono ?_; rintro e w5 ⟨A', n', c', rfl, hn', hV', hb⟩; have D2 := Aside0.mk (DX_ref L4.out D1.out OSZ.out hb hV'); have HN2 := Aside0.mk hn'; have z4 := (blk_cell (blk_below D1.out.dw.b4 hb) 0).trans (rfl : #[Value.slice A n c][0]? = some (.slice A n c)); have fz := blk_frozen (blk_below D1.out.dw.b4 hb) 0; clear hn' hV' hb x4 fx x50 x51 x52 x53 x54 x55))
                    go_meet
                    case rel => exact ⟨A', n', c', _, _, rfl, rfl, rfl, rfl, rfl, HN2, D2⟩
                  · have k8 : (a.f0 == 8) = false := by simp [c8]
                    by_cases c9 : a.f0 = 9
                    · have k9 : (a.f0 == 9) = true := by simp [c9]
                      have h1 := H1.out
                      have h2 := H2.out
                      unfold acS at h1 h2
                      rw [if_neg c1, if_neg c2, if_neg c3, if_neg c4, if_neg c5, if_neg c6, if_neg c7, if_neg c8, if_pos c9] at h1 h2
                      simp only [Prod.mk.injEq] at h1 h2
                      obtain ⟨a1, a2, a3⟩ := h1
                      obtain ⟨b1, b2, b3⟩ := h2
                      have M1 := Aside0.mk (show moS S a.f1 a.f2 = (S', e1) by rw [← a1, ← a3])
                      have M2 := Aside0.mk (show moS T a.f1 a.f2 = (T', e2) by rw [← b1, ← b3])
                      clear a1 a3 b1 b3 H1 H2
                      subst a2
                      subst b2
                      clear c1 c2 c3 c4 c5 c6 c7 c8 c9
                      go_wp2_with (first | (go_at_call 48; refine (J_Move D0.out.dw.ja OS.out.fo (by have h1 := OS.out.len; have h2 := LS.out; omega) a.f1 a.f2 _ _ M1.out).mono ?_; rintro e w4 ⟨rfl, hJ, hK⟩; have D1 := Aside0.mk (DX_arena D0.out hJ hK); obtain ⟨x4, fx, x50, x51, x52, x53, x54, x55⟩ := DW_y D1.out.dw; clear hJ hK D0 y4 f4 y50 y51 y52 y53 y54 y55) | (go_at_call 76; refine (R_Move HN.out D1.out.dw.vt OT.out.fo (by have h1 := OT.out.len; have h2 := LT.out; omega) a.f1 a.f2 _ _ M2.out).mono ?_; rintro e w5 ⟨A', n', c', rfl, hn', hV', hb⟩; have D2 := Aside0.mk (DX_ref L4.out D1.out OSZ.out hb hV'); have HN2 := Aside0.mk hn'; have z4 := (blk_cell (blk_below D1.out.dw.b4 hb) 0).trans (rfl : #[Value.slice A n c][0]? = some (.slice A n c)); have fz := blk_frozen (blk_below D1.out.dw.b4 hb) 0; clear hn' hV' hb x4 fx x50 x51 x52 x53 x54 x55))
                      go_meet
                      case rel => exact ⟨A', n', c', _, _, rfl, rfl, rfl, rfl, rfl, HN2, D2⟩
                    · have k9 : (a.f0 == 9) = false := by simp [c9]
                      have h1 := H1.out
                      have h2 := H2.out
                      unfold acS at h1 h2
                      rw [if_neg c1, if_neg c2, if_neg c3, if_neg c4, if_neg c5, if_neg c6, if_neg c7, if_neg c8, if_neg c9] at h1 h2
                      simp only [Prod.mk.injEq] at h1 h2
                      obtain ⟨a1, a2, a3⟩ := h1
                      obtain ⟨b1, b2, b3⟩ := h2
                      subst a1 a2 a3 b1 b2 b3
                      clear H1 H2 c1 c2 c3 c4 c5 c6 c7 c8 c9
                      go_wp2
                      go_meet
                      case rel => exact ⟨A, n, c, _, _, rfl, rfl, rfl, rfl, rfl, HN, D0⟩
  case rest =>
    obtain ⟨A', n', c', O', OV', rfl, rfl, rfl, rfl, rfl, HN', HD⟩ := hcut
    clear y4 f4 y50 y51 y52 y53 y54 y55 D0
    go_wp2
    go_loopw [13] (fun v13 wr => ∃ (j : Nat) (l : List S103), v13 = .int .i64 (j : Int) ∧ j ≤ m ∧ Aside0 (DX w0 w p S' T' O OV g4 g5 g6 (.slice A' n' c') #[.int .i64 a.f0, .int .i64 a.f1, .int .i64 a.f2, .int .i64 a.f3, .string a.f4, .slice L m q] (.slice AA m cA) m l O' OV' wr)) (fun v13 _ => m - (intOf v13).toNat)
    case atStart => exact ⟨0, _, rfl, Nat.zero_le _, HD⟩
    case round =>
      obtain ⟨j, l, rfl, hj, HE⟩ := hrel
      clear HD
      by_cases d : j < m
      · have d1 : (j : Int) < (m : Int) := by omega
        have db : decide (j < m) = true := decide_eq_true d
        have DD := Aside0.mk d
        have jb : j < 100000 := by have h1 := HM.out; have h2 := SM.out.2; omega
        obtain ⟨gA, hgA⟩ : ∃ gA, AA = some ⟨gA, 0, none⟩ := by
          obtain ⟨gk, ck, ek, _⟩ := Kd.R_form HE.out.rr (by have h1 := HE.out.dw.ra; obtain ⟨l1, h1, h2⟩ := h1; have h3 := (Kd.R_reads' HE.out.rr).1; omega)
          injection ek with ek e2 e3
          exact ⟨gk, ek⟩
        subst hgA
        obtain ⟨⟨u, hu⟩, hf, l', hX⟩ := DX_spoil HE.out OSZ.out (LA.out gA rfl) j d ⟨#[115, 112, 111, 105, 108, 116]⟩
        have HX := Aside0.mk hX
        clear hX d
        go_wp2
        go_roundw
        case rel => exact ⟨j + 1, l', by go_num, DD.out, HX⟩
        case measure => have := DD.out; simp [intOf]; omega
      · have d1 : ¬ (j : Int) < (m : Int) := by omega
        have db : decide (j < m) = false := decide_eq_false d
        have y4 := (blk_cell HE.out.dw.b4 0).trans (rfl : #[Value.slice A' n' c'][0]? = some (.slice A' n' c'))
        have y6 := (blk_cell HE.out.dw.b6 0).trans (rfl : #[Value.slice none 0 0][0]? = some (.slice none 0 0))
        have fz := blk_frozen HE.out.dw.b6 0
        have FIN := Aside0.mk (show ∀ ok', decide (r1 = r2 ∧ e1 = e2) = ok' → DO w0 w p S' T' O OV ok (.returned (.tuple #[.agg #[.slice A' n' c'], .bool ok'])) (wr.setCell ⟨g6, 0, none⟩ (.slice A' n' c')) from by
          intro ok' hok
          rw [HOK.out] at hok
          have hd := HE.out
          have hw := JA_write (j := 0) hd.dw.ja hd.dw.o6 hd.dw.l6 (.slice A' n' c')
          refine ⟨A', n', c', OV', by rw [hok], HN'.out, Kd.V_step hd.dw.vt (fun k hk _ => Below.heap_setCell wr ⟨g6, 0, none⟩ _ k (hd.dw.oo k hk).2.2.1), JA_mono hw (fun k hk => by rcases hk with hk | hk; exact hd.oo k hk; exact (hd.dw.oo k hk).1), kO_trans hd.ko ⟨Nat.le_of_eq (by simp), fun k hk => Below.heap_setCell wr ⟨g6, 0, none⟩ _ k (by have h1 := OSZ.out k hk; have h2 := L6.out; exact Nat.ne_of_lt (Nat.lt_of_lt_of_le h1 h2))⟩, hd.ov⟩)
        have B6 := Aside0.mk HE.out.dw.b6
        clear d hj
        by_cases q1 : r1 = r2
        · have k1 : (r1 == r2) = true := by simp [q1]
          by_cases q2 : e1 = e2
          · have k2 : (e1 == e2) = true := by simp [q2]
            have OK := Aside0.mk (show decide (r1 = r2 ∧ e1 = e2) = true by simp [q1, q2])
            clear q1 q2
            go_wp2
            refine bodyPost_ret (results_ct rfl _ _ g6 57 #[.slice A' n' c'] (0, 0) _ rfl (blk_put (cs := #[.slice none 0 0]) B6.out 0 _ rfl) Try.underlying57 rfl (by kernel_rfl)) rfl ?_
            exact FIN.out _ OK.out
          · have k2 : (e1 == e2) = false := by simp [q2]
            have OK := Aside0.mk (show decide (r1 = r2 ∧ e1 = e2) = false by simp [q2])
            clear q1 q2
            go_wp2
            refine bodyPost_ret (results_ct rfl _ _ g6 57 #[.slice A' n' c'] (0, 0) _ rfl (blk_put (cs := #[.slice none 0 0]) B6.out 0 _ rfl) Try.underlying57 rfl (by kernel_rfl)) rfl ?_
            exact FIN.out _ OK.out
        · have k1 : (r1 == r2) = false := by simp [q1]
          have OK := Aside0.mk (show decide (r1 = r2 ∧ e1 = e2) = false by simp [q1])
          clear q1
          go_wp2
          refine bodyPost_ret (results_ct rfl _ _ g6 57 #[.slice A' n' c'] (0, 0) _ rfl (blk_put (cs := #[.slice none 0 0]) B6.out 0 _ rfl) Try.underlying57 rfl (by kernel_rfl)) rfl ?_
          exact FIN.out _ OK.out
/- What holds of a state stays, whatever is done. -/
theorem fa_none {S : List S96} {i : Nat} (h : S.length ≤ i) : faS S i = ⟨0, 0, ⟨#[]⟩, [], ⟨#[]⟩⟩ := by unfold faS; rw [List.getElem?_eq_none h]
theorem OkS_root : OkS 0 [root96] := by
  refine ⟨FoS_root, Nat.le_refl _, fun i => ?_, fun i => ?_, fun i => ?_⟩ <;>
  · cases i with
    | zero => intros; first | exact Nat.zero_le _ | rfl
    | succ i => rw [fa_none (by simp [root96])]; intros; first | exact Nat.zero_le _ | rfl
theorem OkS_more {j k : Nat} {S : List S96} (h : OkS j S) (hk : j ≤ k) : OkS k S := ⟨h.fo, by have := h.len; omega, h.att, fun i => by have := h.tx i; omega, h.el⟩
theorem OkS_same {j : Nat} {S T : List S96} (h : OkS j S) (hF : FoS T) (hl : T.length = S.length) (hf : faS T = faS S) : OkS j T :=
  ⟨hF, by have := h.len; omega, by rw [hf]; exact h.att, by rw [hf]; exact h.tx, by rw [hf]; exact h.el⟩
theorem OkS_mk {j : Nat} {S : List S96} (h : OkS j S) (x : S94) (h3 : x.f3.length ≤ 6) (h4 : x.f4.size ≤ 60 * (j + 1)) (h5 : x.f0 = 1 → x.f4 = ⟨#[]⟩) : OkS (j + 1) (mkS S x).1 := by
  have hF := FoS_mk h.fo x
  unfold mkS at hF ⊢
  split
  · exact OkS_more h (by omega)
  · rename_i c
    rw [if_neg c] at hF
    have hfa : ∀ i, faS (S ++ [(⟨x, -1, []⟩ : S96)]) i = faS S i ∨ faS (S ++ [(⟨x, -1, []⟩ : S96)]) i = x := by
      intro i
      by_cases c1 : i < S.length
      · exact .inl (fa_app S _ i c1)
      · by_cases c2 : i = S.length
        · subst c2; exact .inr (fa_new S x)
        · left; rw [fa_none (by simp; omega), fa_none (by omega)]
    refine ⟨hF, by have := h.len; simp; omega, fun i => ?_, fun i => ?_, fun i => ?_⟩
    · rcases hfa i with e | e <;> rw [e]
      · exact h.att i
      · exact h3
    · rcases hfa i with e | e <;> rw [e]
      · have := h.tx i; omega
      · exact h4
    · rcases hfa i with e | e <;> rw [e]
      · exact h.el i
      · exact h5
theorem fa_ap (S : List S96) (q c : Int) : faS (apS S q c).1 = faS S := by
  unfold apS
  split
  · split
    · rfl
    · rw [fa_putS, fa_outS]
  · rfl
theorem fa_be (S : List S96) (q c : Int) : faS (beS S q c).1 = faS S := by
  unfold beS
  split
  · split
    · rfl
    · rw [fa_putS, fa_outS]
  · rfl
theorem fa_re (S : List S96) (q : Int) : faS (reS S q).1 = faS S := by
  unfold reS
  split
  · split
    · rfl
    · rw [fa_outS]
  · rfl
theorem fa_mo (S : List S96) (f q : Int) : faS (moS S f q).1 = faS S := by
  unfold moS
  split
  · split
    · rfl
    · rw [fa_mvL, fa_setKi]
  · rfl
theorem OkS_ad {j : Nat} {S : List S96} (h : OkS j S) (n : Int) (s : ByteArray) (hs : s.size ≤ 60) : OkS (j + 1) (adS S n s).1 := by
  have hF := FoS_ad h.fo n s
  unfold adS at hF ⊢
  split
  · rename_i c
    rw [if_pos c] at hF
    split
    · rename_i d
      rw [if_pos d] at hF
      obtain ⟨k, rfl, hk⟩ := inZ_nat c
      rw [Int.toNat_natCast] at d hF ⊢
      have hfa := fa_setFa hk {faS S k with f4 := (faS S k).f4 ++ s}
      have hat : ∀ i, faS (setFa S k {faS S k with f4 := (faS S k).f4 ++ s}) i = faS S i ∨ (i = k ∧ faS (setFa S k {faS S k with f4 := (faS S k).f4 ++ s}) i = {faS S k with f4 := (faS S k).f4 ++ s}) := by
        intro i
        rw [hfa]
        unfold upd
        by_cases e : i = k
        · right; exact ⟨e, if_pos e⟩
        · left; exact if_neg e
      refine ⟨hF, by rw [len_setFa]; have := h.len; omega, fun i => ?_, fun i => ?_, fun i => ?_⟩
      · rcases hat i with e | ⟨_, e⟩ <;> rw [e]
        · exact h.att i
        · exact h.att k
      · rcases hat i with e | ⟨_, e⟩ <;> rw [e]
        · have := h.tx i; omega
        · have := h.tx k
          show ((faS S k).f4 ++ s).size ≤ _
          rw [ByteArray.size_append]; omega
      · rcases hat i with e | ⟨_, e⟩ <;> rw [e]
        · exact h.el i
        · intro h1
          have h1 : (faS S k).f0 = 1 := h1
          omega
    · exact OkS_more h (by omega)
  · exact OkS_more h (by omega)
theorem OkS_ac {j : Nat} {S : List S96} (h : OkS j S) (a : S54) (h4 : a.f4.size ≤ 60) (h5 : a.f5.length ≤ 6) : OkS (j + 1) (acS a S).1 := by
  have hm := OkS_more h (Nat.le_succ j)
  unfold acS
  by_cases c1 : a.f0 = 1
  · rw [if_pos c1]; exact OkS_mk h _ h5 (Nat.zero_le _) (fun _ => rfl)
  rw [if_neg c1]
  by_cases c2 : a.f0 = 2
  · rw [if_pos c2]; exact OkS_mk h _ (Nat.zero_le _) (by show a.f4.size ≤ _; omega) (fun e => by have e : (2 : Int) = 1 := e; omega)
  rw [if_neg c2]
  by_cases c3 : a.f0 = 3
  · rw [if_pos c3]; exact OkS_mk h _ (Nat.zero_le _) (by show a.f4.size ≤ _; omega) (fun e => by have e : (3 : Int) = 1 := e; omega)
  rw [if_neg c3]
  by_cases c4 : a.f0 = 4
  · rw [if_pos c4]
    show OkS (j + 1) (cpS S a.f1).1
    unfold cpS
    split
    · split
      · exact OkS_mk h _ (h.att _) (Nat.zero_le _) (fun _ => rfl)
      · exact hm
    · exact hm
  rw [if_neg c4]
  by_cases c5 : a.f0 = 5
  · rw [if_pos c5]; exact OkS_ad h _ _ h4
  rw [if_neg c5]
  by_cases c6 : a.f0 = 6
  · rw [if_pos c6]; exact OkS_same hm (FoS_ap h.fo _ _) (len_ap _ _ _) (fa_ap _ _ _)
  rw [if_neg c6]
  by_cases c7 : a.f0 = 7
  · rw [if_pos c7]; exact OkS_same hm (FoS_be h.fo _ _) (len_be _ _ _) (fa_be _ _ _)
  rw [if_neg c7]
  by_cases c8 : a.f0 = 8
  · rw [if_pos c8]; exact OkS_same hm (FoS_re h.fo _) (len_re _ _) (fa_re _ _)
  rw [if_neg c8]
  by_cases c9 : a.f0 = 9
  · rw [if_pos c9]; exact OkS_same hm (FoS_mo h.fo _ _) (len_mo _ _ _) (fa_mo _ _ _)
  rw [if_neg c9]
  exact hm
/- All kids of all nodes are all nodes that have a parent. -/
def kSum (S : List S96) (n : Nat) : Nat := ((List.range n).map (fun i => (kiS S i).length)).sum
def aSum (S : List S96) (n : Nat) : Nat := ((List.range n).filter (fun i => decide (paS S i < 0))).length
theorem kSum_succ (S : List S96) (n : Nat) : kSum S (n + 1) = kSum S n + (kiS S n).length := by
  unfold kSum; rw [List.range_succ, List.map_append, List.sum_append]; simp
theorem aSum_succ (S : List S96) (n : Nat) : aSum S (n + 1) = aSum S n + (if paS S n < 0 then 1 else 0) := by
  unfold aSum; rw [List.range_succ, List.filter_append, List.length_append]
  congr 1
  by_cases c : paS S n < 0
  · rw [if_pos c]; simp [c]
  · rw [if_neg c]; simp [c]
theorem flat_nodup {S : List S96} (h : FoS S) : ∀ n, n ≤ S.length → ((List.range n).flatMap (kiS S)).Nodup
  | 0, _ => by simp
  | n + 1, hn => by
    rw [List.range_succ, List.flatMap_append, List.flatMap_singleton]
    refine List.nodup_append.2 ⟨flat_nodup h n (by omega), h.nd n (by omega), fun x hx y hy e => ?_⟩
    subst e
    obtain ⟨i, hi, hx⟩ := List.mem_flatMap.1 hx
    rw [List.mem_range] at hi
    obtain ⟨c, rfl, _, h1⟩ := h.kp i (by omega) x hx
    obtain ⟨d, e, _, h2⟩ := h.kp n (by omega) (c : Int) hy
    have : c = d := by omega
    subst this
    omega
theorem ki_perm {S : List S96} (h : FoS S) : ((List.range S.length).flatMap (kiS S)).Perm (((List.range S.length).filter (fun i => !decide (paS S i < 0))).map Int.ofNat) := by
  rw [List.perm_ext_iff_of_nodup (flat_nodup h _ (Nat.le_refl _))]
  · intro x
    constructor
    · intro hx
      obtain ⟨i, hi, hx⟩ := List.mem_flatMap.1 hx
      rw [List.mem_range] at hi
      obtain ⟨c, rfl, hc, h1⟩ := h.kp i hi x hx
      refine List.mem_map.2 ⟨c, List.mem_filter.2 ⟨List.mem_range.2 hc, ?_⟩, rfl⟩
      have : ¬ paS S c < 0 := by omega
      simp [this]
    · intro hx
      obtain ⟨c, hc, rfl⟩ := List.mem_map.1 hx
      obtain ⟨hc, h1⟩ := List.mem_filter.1 hc
      rw [List.mem_range] at hc
      simp only [Bool.not_eq_true', decide_eq_false_iff_not] at h1
      rcases h.pk c hc with h2 | ⟨i, h2, hi, h3⟩
      · omega
      · exact List.mem_flatMap.2 ⟨i, List.mem_range.2 hi, h3⟩
  · have hn : ((List.range S.length).filter (fun i => !decide (paS S i < 0))).Nodup := List.Pairwise.filter _ List.nodup_range
    rw [List.Nodup, List.pairwise_map]
    exact List.Pairwise.imp (fun hab e => hab (Int.ofNat.inj e)) hn
theorem sum_split (p : Nat → Bool) (f : Nat → Nat) : ∀ l : List Nat, (l.map f).sum = ((l.filter p).map f).sum + ((l.filter (fun i => !p i)).map f).sum
  | [] => rfl
  | x :: l => by
    rw [List.map_cons, List.sum_cons, sum_split p f l]
    cases c : p x
    · rw [List.filter_cons_of_neg (by simp [c]), List.filter_cons_of_pos (by simp [c]), List.map_cons, List.sum_cons]; omega
    · rw [List.filter_cons_of_pos (by simp [c]), List.filter_cons_of_neg (by simp [c]), List.map_cons, List.sum_cons]; omega
theorem sum_flat (g : Int → Nat) (k : Nat → List Int) : ∀ l : List Nat, ((l.flatMap k).map g).sum = (l.map (fun i => ((k i).map g).sum)).sum
  | [] => rfl
  | x :: l => by rw [List.flatMap_cons, List.map_append, List.sum_append, sum_flat g k l, List.map_cons, List.sum_cons]
theorem roots_sum {S : List S96} (h : FoS S) (g : Nat → Nat) (hg : ∀ i, i < S.length → g i = 1 + ((kiS S i).map (fun k => g k.toNat)).sum) : (((List.range S.length).filter (fun i => decide (paS S i < 0))).map g).sum = S.length := by
  have h1 := sum_split (fun i => decide (paS S i < 0)) g (List.range S.length)
  have h2 : ((List.range S.length).map g).sum = S.length + ((List.range S.length).map (fun i => ((kiS S i).map (fun k => g k.toNat)).sum)).sum := by
    have : ∀ l : List Nat, (∀ i ∈ l, i < S.length) → (l.map g).sum = l.length + (l.map (fun i => ((kiS S i).map (fun k => g k.toNat)).sum)).sum := by
      intro l
      induction l with
      | nil => intro _; rfl
      | cons x l ih =>
        intro hl
        rw [List.map_cons, List.sum_cons, List.map_cons, List.sum_cons, List.length_cons, ih (fun i hi => hl i (List.mem_cons_of_mem _ hi)), hg x (hl x List.mem_cons_self)]
        omega
    rw [this _ (fun i hi => List.mem_range.1 hi), List.length_range]
  have h3 := List.Perm.sum_nat ((ki_perm h).map (fun k : Int => g k.toNat))
  rw [sum_flat, List.map_map] at h3
  have h4 : (fun k : Int => g k.toNat) ∘ Int.ofNat = g := by funext c; show g (Int.ofNat c).toNat = g c; rfl
  rw [h4] at h3
  rw [h2, h3] at h1
  have h5 : ∀ a b c d : Nat, a + b = c + d → b = d → c = a := by omega
  exact h5 _ _ _ _ h1 rfl
theorem once_eq {S : List S96} (h : FoS S) : kSum S S.length + aSum S S.length = S.length := by
  have h1 := (ki_perm h).length_eq
  rw [List.length_map, List.length_flatMap] at h1
  have h2 : ∀ (p : Nat → Bool) (l : List Nat), (l.filter p).length + (l.filter (fun i => !p i)).length = l.length := by
    intro p l
    induction l with
    | nil => rfl
    | cons x l ih =>
      cases c : p x
      · rw [List.filter_cons_of_neg (by simp [c]), List.filter_cons_of_pos (by simp [c]), List.length_cons, List.length_cons]; omega
      · rw [List.filter_cons_of_pos (by simp [c]), List.filter_cons_of_neg (by simp [c]), List.length_cons, List.length_cons]; omega
  have h3 := h2 (fun i => decide (paS S i < 0)) (List.range S.length)
  rw [List.length_range] at h3
  unfold kSum aSum
  omega
/- The acts of a script in memory. -/
theorem small_ev (a : S54) (h1 : a.f4.size ≤ 60) (h2 : a.f5.length ≤ 6) : marginalialaw05_small.f a.f0 a.f1 a.f2 a.f3 a.f4 a.f5 = some true := by
  unfold marginalialaw05_small.f
  rw [if_pos (by omega)]
  have : (a.f5.length : Int) ≤ 6 := by omega
  simp [this]
theorem small_no (a : S54) (h : ¬ (a.f4.size ≤ 60 ∧ a.f5.length ≤ 6)) : marginalialaw05_small.f a.f0 a.f1 a.f2 a.f3 a.f4 a.f5 = some false := by
  unfold marginalialaw05_small.f
  split
  · have : ¬ (a.f5.length : Int) ≤ 6 := by omega
    simp [this]
  · rfl
theorem act_at {w0 : World} {A : Option Addr} {l : List S54} (h : Kd.C k54 w0 A l.length l) (j : Nat) (hj : j < l.length) : ∃ (ad : Addr) (L : Option Addr) (m q : Nat) (a : S54), A = some ad ∧ l[j]? = some a ∧ (∀ w, Below w0.heap.size w0 w → w.cell? (ad.add (j * 6)) = some (.int .i64 a.f0) ∧ w.cell? ⟨(ad.add (j * 6)).block, (ad.add (j * 6)).off + 1, none⟩ = some (.int .i64 a.f1) ∧ w.cell? ⟨(ad.add (j * 6)).block, (ad.add (j * 6)).off + 2, none⟩ = some (.int .i64 a.f2) ∧ w.cell? ⟨(ad.add (j * 6)).block, (ad.add (j * 6)).off + 3, none⟩ = some (.int .i64 a.f3) ∧ w.cell? ⟨(ad.add (j * 6)).block, (ad.add (j * 6)).off + 4, none⟩ = some (.string a.f4) ∧ w.cell? ⟨(ad.add (j * 6)).block, (ad.add (j * 6)).off + 5, none⟩ = some (.slice L m q)) ∧ m = a.f5.length ∧ m ≤ q ∧ Kd.C k103 w0 L m a.f5 := by
  obtain ⟨ad, L, q, ea, y0, y1, y2, y3, y4, y5, l5, C5⟩ := at_T54 h (j : Int) (by omega) (by omega)
  simp only [Int.toNat_natCast] at y0 y1 y2 y3 y4 y5
  refine ⟨ad, L, _, q, rd_T54 l j, ea, ?_, fun w hb => ⟨pw_cell_below hb y0, pw_cell_below hb y1, pw_cell_below hb y2, pw_cell_below hb y3, pw_cell_below hb y4, pw_cell_below hb y5⟩, rfl, l5, C5⟩
  unfold rd_T54
  rw [Int.toNat_natCast, List.getD_eq_getElem?_getD, List.getElem?_eq_getElem hj]; rfl
theorem small_c {w' : World} {L : Option Addr} {m q : Nat} {a : S54} {r : Bool} (hm : m = a.f5.length) (hq : m ≤ q) (hC : Kd.C k103 w' L m a.f5) (h : marginalialaw05_small.f a.f0 a.f1 a.f2 a.f3 a.f4 a.f5 = some r) :
    Calls Try.prog 33 #[.agg #[.int .i64 a.f0, .int .i64 a.f1, .int .i64 a.f2, .int .i64 a.f3, .string a.f4, .slice L m q]] w' fun e w2 => e = .returned (.bool r) ∧ Below w'.heap.size w' w2 := by
  subst hm
  exact marginalialaw05_small.calls _ _ _ _ _ _ _ a.f5 r _ hC hq h
theorem R_New (w : World) : Calls Try.prog 35 #[] w fun e w' => ∃ (A : Option Addr) (n c : Nat), e = .returned (.agg #[.slice A n c]) ∧ n = 1 ∧ Kd.V k116 116 w' w.heap.size (fun k => w.heap.size ≤ k ∧ k < w'.heap.size) (.slice A n c) (riS [root96]) ∧ Below w.heap.size w w' := by
  refine (marginaliaref05_New.calls (riS [root96]) w rfl).mono ?_
  rintro e w' ⟨v, rfl, hR, hb⟩
  obtain ⟨A, c, rfl⟩ := Kd.R_slice hR
  refine ⟨A, _, c, rfl, rfl, ?_, hb⟩
  exact Kd.V_mono (Kd.R_V (Kd.R_bound hR)) (fun k hk => ⟨hk.2.1, hk.2.2.1⟩)
theorem ac_eta (a : S54) (S : List S96) : acS a S = ((acS a S).1, (acS a S).2.1, (acS a S).2.2) := rfl
theorem below_step' {w0 w w' : World} (h : Below w0.heap.size w0 w) (k : Below w.heap.size w w') : Below w0.heap.size w0 w' := below_step h k
theorem J_LenN {w0 w : World} {p : Nat} {S : List S96} {O : Nat → Prop} {nn : Nat} (h : JA w0 w p S O) (hn : nn = S.length) :
    Calls Try.prog 30 #[.pointer (some ⟨p, 0, none⟩)] w fun e w' => e = .returned (.int .i64 (nn : Int)) ∧ w = w' := by
  subst hn; exact J_Len h
theorem J_KidsM {w0 w : World} {p : Nat} {S : List S96} {O : Nat → Prop} (h : JA w0 w p S O) (i : Int) (r : List Int) (m : Nat) (hm : m = r.length) (hl : r.length ≤ 100000) (hr : kiI S i = r) :
    Calls Try.prog 36 #[.pointer (some ⟨p, 0, none⟩), .int .i64 i] w fun e w' => ∃ (A : Option Addr) (c : Nat), e = .returned (.slice A m c) ∧ Kd.R (Kd.int .i64) 3 w' w0.heap.size (fun _ => True) (.slice A m c) r ∧ Below w.heap.size w w' := by
  subst hm
  refine (J_Kids h i r hl hr).mono ?_
  rintro e w' ⟨v, rfl, hR, hb⟩
  obtain ⟨A, c, rfl⟩ := Kd.R_slice hR
  exact ⟨A, c, rfl, Kd.R_lower hR (JA_below h).size, hb⟩
theorem paI_at {S : List S96} {c : Nat} (h : c < S.length) : paI S (c : Int) = paS S c := by
  unfold paI
  rw [if_pos (by unfold inZ; rw [decide_eq_true (by omega), decide_eq_true (by omega)]; rfl), Int.toNat_natCast]
theorem kiI_at {S : List S96} {c : Nat} (h : c < S.length) : kiI S (c : Int) = kiS S c := by
  unfold kiI
  rw [if_pos (by unfold inZ; rw [decide_eq_true (by omega), decide_eq_true (by omega)]; rfl), Int.toNat_natCast]
theorem rdOf_at {l : List Int} {j : Nat} (hj : j < l.length) : rdOf (0 : Int) l (j : Int) = l[j] := by
  unfold rdOf
  rw [Int.toNat_natCast, List.getD_eq_getElem?_getD, List.getElem?_eq_getElem hj]; rfl
theorem kids_at {S : List S96} (h : FoS S) {n : Nat} (hn : n < S.length) (j : Nat) (hj : j < (kiS S n).length) : ∃ c : Nat, rdOf (0 : Int) (kiS S n) (j : Int) = (c : Int) ∧ c < S.length ∧ 0 < c ∧ paI S (c : Int) = (n : Int) := by
  obtain ⟨c, e, hc, hp⟩ := h.kp n hn ((kiS S n)[j]) (List.getElem_mem _)
  refine ⟨c, by rw [rdOf_at hj, e], hc, Fo_c0 h hp, by rw [paI_at hc, hp]⟩
theorem kids_ne {S : List S96} (h : FoS S) {n : Nat} (hn : n < S.length) (i j : Nat) (hij : i < j) (hj : j < (kiS S n).length) : rdOf (0 : Int) (kiS S n) (i : Int) ≠ rdOf (0 : Int) (kiS S n) (j : Int) := by
  rw [rdOf_at hj, rdOf_at (by omega)]
  exact (List.pairwise_iff_getElem.1 (h.nd n hn)) i j (by omega) hj hij
theorem kSum_mono (S : List S96) {a b : Nat} (h : a ≤ b) : kSum S a ≤ kSum S b := by
  induction b with
  | zero => obtain rfl : a = 0 := by omega
            exact Nat.le_refl _
  | succ b ih =>
    by_cases e : a = b + 1
    · subst e; exact Nat.le_refl _
    · rw [kSum_succ]; have := ih (by omega); omega
theorem kSum_le {S : List S96} (h : FoS S) {n : Nat} (hn : n ≤ S.length) : kSum S n ≤ S.length := by
  have h1 := once_eq h
  have h2 := kSum_mono S hn
  omega
theorem aSum_le (S : List S96) (n : Nat) : aSum S n ≤ n := by
  induction n with
  | zero => exact Nat.le_refl _
  | succ n ih => rw [aSum_succ]; split <;> omega
theorem V_open {W : World} {ok : Nat → Prop} {x : S67} {u0 u1 u2 u4 : Value} {A3 A5 : Option Addr} {c3 c5 : Nat} (h : Kd.FK k67 W ok x [u0, u1, u2, .slice A3 x.f3.length c3, u4, .slice A5 x.f5.length c5]) : x.f3.length ≤ c3 ∧ Kd.C k103 W A3 x.f3.length x.f3 ∧ x.f5.length ≤ c5 ∧ Kd.C k67 W A5 x.f5.length x.f5 := by
  obtain ⟨B3, d3, B5, d5, e, l3, C3, l5, C5⟩ := k67_open (Kd.FK_now h)
  have e3 : Value.slice A3 x.f3.length c3 = .slice B3 x.f3.length d3 := Option.some.inj (congrArg (fun l : List Value => l[3]?) e)
  have e5 : Value.slice A5 x.f5.length c5 = .slice B5 x.f5.length d5 := Option.some.inj (congrArg (fun l : List Value => l[5]?) e)
  injection e3 with a1 a2 a3
  injection e5 with b1 b2 b3
  subst a1 a3 b1 b3
  exact ⟨l3, C3, l5, C5⟩
theorem J_ValueX {w0 w : World} {p : Nat} {S : List S96} {O : Nat → Prop} (h : JA w0 w p S O) (hF : FoS S) (hl : S.length ≤ 2000) (hat : ∀ i, (faS S i).f3.length ≤ 100000) (i : Int) {x : S67} (hx : x = vaI S i) :
    Calls Try.prog 38 #[.pointer (some ⟨p, 0, none⟩), .int .i64 i] w fun e w' => VR w w' x e := by
  subst hx; exact J_Value h hF hl hat i
theorem J_KidsB {w0 w : World} {p : Nat} {S : List S96} {O : Nat → Prop} (h : JA w0 w p S O) (i : Int) (r : List Int) (m : Nat) (hm : m = r.length) (hl : r.length ≤ 100000) (hr : kiI S i = r) :
    Calls Try.prog 36 #[.pointer (some ⟨p, 0, none⟩), .int .i64 i] w fun e w' => ∃ (A : Option Addr) (c : Nat), e = .returned (.slice A m c) ∧ Kd.R (Kd.int .i64) 3 w' w.heap.size (fun _ => True) (.slice A m c) r ∧ Below w.heap.size w w' := by
  subst hm
  refine (J_Kids h i r hl hr).mono ?_
  rintro e w' ⟨v, rfl, hR, hb⟩
  obtain ⟨A, c, rfl⟩ := Kd.R_slice hR
  exact ⟨A, c, rfl, hR, hb⟩
theorem ok_same (a b : Int) : decide (a = a ∧ b = b) = true := by simp

end Go.Proofs.Ytnkaidaflegnlaa.A
