/- The cells' bytes: what the program and the document encode and decode, as lists of numbers; no condition beyond those that each theorem names. -/
import Derived.Test.YtepipgneefcoiaaDf64
import Derived.Test.YtepipgneefcoiaaDf72
import Derived.Test.YtepipgneefcoiaaDf76
import Derived.Test.YtepipgneefcoiaaDf77
import Derived.Test.YtepipgneefcoiaaDf78
import Derived.Test.YtepipgneefcoiaaDf79
import Derived.Test.YtepipgneefcoiaaDf81
import Derived.Test.YtepipgneefcoiaaDf86
import Derived.Test.YtepipgneefcoiaaDf87
import Derived.Test.YtepipgneefcoiaaDf88
import Derived.Test.YtepipgneefcoiaaMCrc
import Derived.Test.YtepipgneefcoiaaDx0
namespace Go.Proofs.Ytepipgneefcoiaa.CellLaws
open Go.RowKit Go.Proofs.Ytepipgneefcoiaa Go.Proofs.Ytepipgneefcoiaa.D Go.Proofs.YtepipgneefcoiaaW.PrintWords Go.Proofs.YtepipgneefcoiaaW.PrintLast Go.Proofs.YtepipgneefcoiaaW.PrintMore
open Go.Proofs.Ytepipgneefcoiaa.CrcK (Bytes u32 more sum_ev refsum_ev bytes_rd u32_lt bytes_wf)
set_option linter.unusedVariables false
theorem ba_loop (b : ByteArray) (n : Nat) : ∀ (i : Nat) (r : List UInt8), b.size - i = n → ByteArray.toList.loop b i r = r.reverse ++ b.data.toList.drop i := by
  have hs : b.size = b.data.toList.length := by rw [Array.length_toList]; rfl
  induction n with
  | zero =>
    intro i r h
    rw [ByteArray.toList.loop, if_neg (by omega), List.drop_of_length_le (by omega), List.append_nil]
  | succ n ih =>
    intro i r h
    have hi : i < b.data.toList.length := by omega
    rw [ByteArray.toList.loop, if_pos (by omega), ih (i + 1) _ (by omega), List.drop_eq_getElem_cons hi, List.reverse_cons, List.append_assoc]
    have hg : b.get! i = b.data.toList[i] := by
      have hi' : i < b.data.size := by simpa using hi
      unfold ByteArray.get!
      simp only [Array.getElem_toList]
      exact getElem!_pos b.data i hi'
    rw [hg]
    rfl
theorem ba_toList (b : ByteArray) : b.toList = b.data.toList := by
  unfold ByteArray.toList
  rw [ba_loop b _ 0 [] rfl]
  simp
/-- A number's last n bytes, the highest first. -/
def be : Nat → Int → List Int
  | 0, _ => []
  | n + 1, x => (x / 256 ^ n) % 256 :: be n x
theorem be_length (n : Nat) (x : Int) : (be n x).length = n := by
  induction n with
  | zero => rfl
  | succ n ih => simp [be, ih]
theorem by_nil : Bytes [] := fun x hx => by cases hx
theorem by_cons {x : Int} {l : List Int} (hx : 0 ≤ x ∧ x ≤ 255) (h : Bytes l) : Bytes (x :: l) := fun y hy => by
  rcases List.mem_cons.1 hy with rfl | hy
  · exact hx
  · exact h y hy
theorem by_app {a b : List Int} (ha : Bytes a) (hb : Bytes b) : Bytes (a ++ b) := fun y hy => by
  rcases List.mem_append.1 hy with h | h
  · exact ha y h
  · exact hb y h
theorem by_take {a : List Int} (ha : Bytes a) (n : Nat) : Bytes (a.take n) := fun y hy => ha y (List.mem_of_mem_take hy)
theorem by_drop {a : List Int} (ha : Bytes a) (n : Nat) : Bytes (a.drop n) := fun y hy => ha y (List.mem_of_mem_drop hy)
theorem by_zeros (n : Nat) : Bytes (List.replicate n 0) := fun y hy => by
  have := (List.mem_replicate.1 hy).2
  omega
theorem be_bytes (n : Nat) (x : Int) : Bytes (be n x) := by
  induction n with
  | zero => exact by_nil
  | succ n ih => exact by_cons (by omega) ih
theorem snoc_ind {P : List Int → Prop} (h0 : P []) (h1 : ∀ l b, P l → P (l ++ [b])) (l : List Int) : P l := by
  have h : ∀ r : List Int, P r.reverse := fun r => by
    induction r with
    | nil => exact h0
    | cons b r ih => rw [List.reverse_cons]; exact h1 _ _ ih
  rw [← List.reverse_reverse l]
  exact h _
/-- The number that bytes are, the highest first. -/
def num (l : List Int) : Int := l.foldl (fun n b => n * 256 + b) 0
theorem num_snoc (l : List Int) (b : Int) : num (l ++ [b]) = num l * 256 + b := by simp [num]
theorem num_range (l : List Int) : Bytes l → 0 ≤ num l ∧ num l < 256 ^ l.length := by
  refine snoc_ind (P := fun l => Bytes l → 0 ≤ num l ∧ num l < 256 ^ l.length) (fun _ => by simp [num]) (fun l b ih h => ?_) l
  · have h1 := ih (fun x hx => h x (List.mem_append_left _ hx))
    have h2 := h b (by simp)
    rw [num_snoc, List.length_append, List.length_singleton, Int.pow_succ]
    omega
theorem be_snoc (n : Nat) (x : Int) : be (n + 1) x = be n (x / 256) ++ [x % 256] := by
  induction n generalizing x with
  | zero => simp [be]
  | succ n ih =>
    rw [be, ih]
    simp only [be, List.cons_append]
    congr 1
    rw [Int.pow_succ, Int.mul_comm, ← Int.ediv_ediv_of_nonneg (by decide)]
theorem be_num (l : List Int) : Bytes l → be l.length (num l) = l := by
  refine snoc_ind (P := fun l => Bytes l → be l.length (num l) = l) (fun _ => rfl) (fun l b ih h => ?_) l
  · have h1 := ih (fun x hx => h x (List.mem_append_left _ hx))
    have h2 := h b (by simp)
    rw [num_snoc, List.length_append, List.length_singleton, be_snoc]
    have e1 : (num l * 256 + b) / 256 = num l := by omega
    have e2 : (num l * 256 + b) % 256 = b := by omega
    rw [e1, e2, h1]
theorem num_be (n : Nat) : ∀ (x : Int), 0 ≤ x → x < 256 ^ n → num (be n x) = x := by
  induction n with
  | zero => intro x h0 h1; simp [be, num] at *; omega
  | succ n ih =>
    intro x h0 h1
    rw [be_snoc, num_snoc, ih _ (by omega) (by rw [Int.pow_succ] at h1; omega)]
    omega

theorem strs_eq {a b : List Int} (ha : Bytes a) (hb : Bytes b) (h : (strOfNums a).toList = (strOfNums b).toList) : a = b := by
  rw [ba_toList, ba_toList] at h
  have h : a.map (fun n => UInt8.ofNat n.toNat) = b.map (fun n => UInt8.ofNat n.toNat) := h
  have e : ∀ (l : List Int), Bytes l → (l.map (fun n => UInt8.ofNat n.toNat)).map (fun c => (c.toNat : Int)) = l := fun l hl => by
    rw [List.map_map]
    conv => rhs; rw [← List.map_id l]
    refine List.map_congr_left fun x hx => ?_
    have := hl x hx
    simp only [Function.comp, id, UInt8.toNat_ofNat']
    omega
  rw [← e a ha, ← e b hb, h]
theorem strs_iff {a b : List Int} (ha : Bytes a) (hb : Bytes b) : (strOfNums a).toList = (strOfNums b).toList ↔ a = b := ⟨strs_eq ha hb, fun h => by rw [h]⟩
theorem u64w {n : Int} (h0 : 0 ≤ n) (h1 : n < 18446744073709551616) : IntKind.u64.wrap n = n := by
  rw [IntKind.wrap_u64]; omega
theorem w64 {n : Int} (h0 : -9223372036854775808 ≤ n) (h1 : n < 9223372036854775808) : wrap64 n = n := by unfold wrap64; omega
theorem rd_at {l : List Int} {j : Nat} (h : j < l.length) : rd l (j : Int) = l[j] := by simp [rd, List.getD_eq_getElem?_getD, h]
theorem num_take_succ {l : List Int} {j : Nat} (h : j < l.length) : num (l.take (j + 1)) = num (l.take j) * 256 + rd l (j : Int) := by
  rw [List.take_succ_eq_append_getElem h, num_snoc, rd_at h]
theorem pow_le {j : Nat} (h : j < 8) : (256 : Int) ^ j * 256 ≤ 18446744073709551616 := by
  have : j = 0 ∨ j = 1 ∨ j = 2 ∨ j = 3 ∨ j = 4 ∨ j = 5 ∨ j = 6 ∨ j = 7 := by omega
  rcases this with rfl | rfl | rfl | rfl | rfl | rfl | rfl | rfl <;> decide
theorem num_step {l : List Int} (hb : Bytes l) (hl : l.length ≤ 8) {j : Nat} (hj : j < l.length) : 0 ≤ num (l.take j) ∧ num (l.take j) * 256 + 256 ≤ 18446744073709551616 ∧ 0 ≤ rd l (j : Int) ∧ rd l (j : Int) ≤ 255 := by
  have h1 := num_range _ (by_take hb j)
  have h2 := bytes_rd hb (j : Int) (by omega) (by omega)
  rw [List.length_take, Nat.min_eq_left (by omega)] at h1
  have h3 := pow_le (j := j) (by omega)
  omega
theorem or_u64 {x b : Int} (h0 : 0 ≤ x) (h1 : x * 256 + 256 ≤ 18446744073709551616) (h2 : 0 ≤ b) (h3 : b ≤ 255) : Go.bits .or .u64 (IntKind.u64.wrap (x * 256)) (IntKind.u64.wrap b) = x * 256 + b := by
  rw [u64w (by omega) (by omega), u64w h2 (by omega)]
  exact bits_join .u64 64 (by decide) (fun n a c => u64w a (by simpa using c)) 8 _ _ (by omega) (by omega) (by simpa using (by omega : x * 256 < 18446744073709551616)) h2 (by omega) (by simpa using (by omega : b < 18446744073709551616))
theorem number_ev {l : List Int} (hb : Bytes l) (hl : l.length ≤ 8) : Ev (fun k => cell_number.f k l) (num l) := by
  have h : ∀ n j : Nat, j + n = l.length → Ev (fun k => cell_number.l0 k (num (l.take j)) l (l.length : Int) (j : Int)) (num l) := by
    intro n
    induction n with
    | zero =>
      intro j hj
      refine Ev.step (f := fun _ => some _) (fun k => ?_) (Ev.now _)
      rw [cell_number.l0, if_neg (by omega), List.take_of_length_le (by omega)]
    | succ n ih =>
      intro j hj
      obtain ⟨a1, a2, a3, a4⟩ := num_step hb hl (j := j) (by omega)
      refine Ev.step (fun k => ?_) (ih (j + 1) (by omega))
      rw [cell_number.l0, if_pos (by omega), if_pos (by omega), if_pos (by omega), or_u64 a1 a2 a3 a4, ← num_take_succ (by omega), w64 (by omega) (by omega)]
      rfl
  exact Ev.congr (fun k => rfl) (h l.length 0 (by omega))
theorem refNumber_ev {l : List Int} (hb : Bytes l) (hl : l.length ≤ 8) : Ev (fun k => marginaliaref16_Number.f k l) (num l) := by
  have h : ∀ n j : Nat, j + n = l.length → Ev (fun k => marginaliaref16_Number.l0 k l (num (l.take j)) (j : Int)) (num l) := by
    intro n
    induction n with
    | zero =>
      intro j hj
      refine Ev.step (f := fun _ => some _) (fun k => ?_) (Ev.now _)
      rw [marginaliaref16_Number.l0, if_neg (by omega), List.take_of_length_le (by omega)]
    | succ n ih =>
      intro j hj
      obtain ⟨a1, a2, a3, a4⟩ := num_step hb hl (j := j) (by omega)
      refine Ev.step (fun k => ?_) (ih (j + 1) (by omega))
      rw [marginaliaref16_Number.l0, if_pos (by omega), if_pos (by omega), u64w (n := num (l.take j) * 256) (by omega) (by omega), u64w (n := rd l (j : Int)) (by omega) (by omega), u64w (by omega) (by omega), ← num_take_succ (by omega), w64 (by omega) (by omega)]
      rfl
  exact Ev.congr (fun k => rfl) (h l.length 0 (by omega))

theorem shr_be {x : Int} {j : Nat} (h : j ≤ 7) : shr .u64 x (IntKind.u64.wrap (wrap64 (8 * (j : Int)))) = x / 256 ^ j := by
  rw [w64 (by omega) (by omega), u64w (by omega) (by omega)]
  unfold shr
  have e : min (8 * (j : Int)).toNat IntKind.u64.bits = 8 * j := by
    have : IntKind.u64.bits = 64 := rfl
    omega
  rw [e, Int.pow_mul]
  rfl
theorem put_ev {x : Int} (n : Nat) (hn : n ≤ 8) : ∀ (l : List Int), l.length + n ≤ 1000 → Ev (fun k => marginaliaref16_Put.f k l x (n : Int)) (l ++ be n x) := by
  have h : ∀ (n : Nat), n ≤ 8 → ∀ (l : List Int), l.length + n ≤ 1000 → Ev (fun k => marginaliaref16_Put.l0 k l x ((n : Int) - 1)) (l ++ be n x) := by
    intro n
    induction n with
    | zero =>
      intro _ l _
      refine Ev.step (f := fun _ => some _) (fun k => ?_) (Ev.now _)
      rw [marginaliaref16_Put.l0, if_neg (by omega)]
      simp [be]
    | succ n ih =>
      intro hn l hl
      have := ih (by omega) (l ++ [(x / 256 ^ n) % 256]) (by simp; omega)
      rw [List.append_assoc] at this
      refine Ev.step (fun k => ?_) this
      have e : ((n + 1 : Nat) : Int) - 1 = (n : Int) := by omega
      rw [e, marginaliaref16_Put.l0, if_pos (by omega), if_pos (by rw [w64 (by omega) (by omega), u64w (by omega) (by omega)]; omega), if_pos (by omega), shr_be (by omega), w64 (by omega) (by omega)]
  intro l hl
  refine Ev.congr (fun k => ?_) (h n hn l hl)
  rw [marginaliaref16_Put.f, w64 (by omega) (by omega)]
/-- The sum of bytes. -/
def sumv (l : List Int) : Int := u32 (more 0#32 l)
theorem sumv_range (l : List Int) : 0 ≤ sumv l ∧ sumv l < 4294967296 := u32_lt _
/-- A cell's bytes ahead of the sum. -/
def hd (a0 a1 a2 a3 : Int) (l : List Int) : List Int := be 8 a0 ++ (be 8 a1 ++ (be 2 a2 ++ (be 2 a3 ++ ((l.length : Int) :: (l ++ List.replicate (39 - l.length) 0)))))
theorem hd_length {a0 a1 a2 a3 : Int} {l : List Int} (h : l.length ≤ 39) : (hd a0 a1 a2 a3 l).length = 60 := by
  simp [hd, be_length]; omega
theorem hd_bytes {a0 a1 a2 a3 : Int} {l : List Int} (h : l.length ≤ 39) (hb : Bytes l) : Bytes (hd a0 a1 a2 a3 l) :=
  by_app (be_bytes _ _) (by_app (be_bytes _ _) (by_app (be_bytes _ _) (by_app (be_bytes _ _) (by_cons (by omega) (by_app hb (by_zeros _))))))
def enc (a0 a1 a2 a3 : Int) (l : List Int) : List Int := hd a0 a1 a2 a3 l ++ be 4 (sumv (hd a0 a1 a2 a3 l))
theorem enc_bytes {a0 a1 a2 a3 : Int} {l : List Int} (h : l.length ≤ 39) (hb : Bytes l) : Bytes (enc a0 a1 a2 a3 l) := by_app (hd_bytes h hb) (be_bytes _ _)
theorem enc_length {a0 a1 a2 a3 : Int} {l : List Int} (h : l.length ≤ 39) : (enc a0 a1 a2 a3 l).length = 64 := by
  rw [enc, List.length_append, hd_length h, be_length]
def May (a2 a3 : Int) (l : List Int) : Prop := 0 ≤ a2 ∧ a2 < a3 ∧ a3 ≤ 65535 ∧ l.length ≤ 39
theorem refEncode_ev {a0 a1 a2 a3 : Int} {l : List Int} (hb : Bytes l) (hm : May a2 a3 l) : Ev (fun k => marginaliaref16_Encode.f k a0 a1 a2 a3 l) (enc a0 a1 a2 a3 l, 0) := by
  obtain ⟨m1, m2, m3, m4⟩ := hm
  have hz : ∀ (n : Nat) (x : List Int), x.length + n = 60 → Bytes x → Ev (fun k => marginaliaref16_Encode.l0 k x) ((x ++ List.replicate n 0) ++ be 4 (sumv (x ++ List.replicate n 0)), 0) := by
    intro n
    induction n with
    | zero =>
      intro x hx hbx
      have hs := refsum_ev hbx (by omega)
      have hp := put_ev (x := sumv x) 4 (by omega) x (by omega)
      have hr := sumv_range x
      refine Ev.step (f := fun k => (marginaliaref15_Sum.f k x).bind fun t => (marginaliaref16_Put.f k x (IntKind.u64.wrap t) 4).bind fun t => some (t, 0)) (fun k => ?_) (Ev.bind hs (Ev.bind ?_ (Ev.now _)))
      · rw [marginaliaref16_Encode.l0, if_neg (by omega)]
      · rw [List.replicate_zero, List.append_nil]
        show Ev (fun n => marginaliaref16_Put.f n x (IntKind.u64.wrap (sumv x)) 4) _
        rw [u64w hr.1 (by omega)]
        exact hp
    | succ n ih =>
      intro x hx hbx
      have := ih (x ++ [0]) (by simp; omega) (by_app hbx (by_cons (by omega) by_nil))
      have e : x ++ [0] ++ List.replicate n 0 = x ++ List.replicate (n + 1) 0 := by rw [List.append_assoc]; rfl
      rw [e] at this
      refine Ev.step (fun k => ?_) this
      rw [marginaliaref16_Encode.l0, if_pos (by omega), if_pos (by omega)]
  have p1 := put_ev (x := a0) 8 (by omega) [] (by simp)
  rw [List.nil_append] at p1
  have p2 := put_ev (x := a1) 8 (by omega) (be 8 a0) (by simp [be_length])
  have p3 := put_ev (x := a2) 2 (by omega) (be 8 a0 ++ be 8 a1) (by simp [be_length])
  have p4 := put_ev (x := a3) 2 (by omega) (be 8 a0 ++ be 8 a1 ++ be 2 a2) (by simp [be_length])
  have p5 := put_ev (x := (l.length : Int)) 1 (by omega) (be 8 a0 ++ be 8 a1 ++ be 2 a2 ++ be 2 a3) (by simp [be_length])
  have e1 : be 1 (l.length : Int) = [(l.length : Int)] := by simp [be]; omega
  rw [e1] at p5
  have hfin := hz (39 - l.length) (be 8 a0 ++ be 8 a1 ++ be 2 a2 ++ be 2 a3 ++ [(l.length : Int)] ++ l) (by simp [be_length]; omega) (by_app (by_app (by_app (by_app (by_app (be_bytes _ _) (be_bytes _ _)) (be_bytes _ _)) (be_bytes _ _)) (by_cons (by omega) by_nil)) hb)
  have e2 : be 8 a0 ++ be 8 a1 ++ be 2 a2 ++ be 2 a3 ++ [(l.length : Int)] ++ l ++ List.replicate (39 - l.length) 0 = hd a0 a1 a2 a3 l := by simp [hd]
  rw [e2] at hfin
  have hmay : marginaliaref16_May.f a0 a1 a2 a3 l = some true := by
    rw [marginaliaref16_May.f, if_pos (by omega), if_pos (by omega), if_pos (by omega), decide_eq_true (by omega)]
  obtain ⟨K1, q1⟩ := p1
  obtain ⟨K2, q2⟩ := p2
  obtain ⟨K3, q3⟩ := p3
  obtain ⟨K4, q4⟩ := p4
  obtain ⟨K5, q5⟩ := p5
  obtain ⟨K6, q6⟩ := hfin
  refine ⟨K1 + K2 + K3 + K4 + K5 + K6, fun k hk => ?_⟩
  show marginaliaref16_Encode.f k a0 a1 a2 a3 l = _
  rw [marginaliaref16_Encode.f, hmay, Option.bind_some, if_pos rfl, u64w m1 (by omega), u64w (n := a3) (by omega) (by omega), u64w (n := (l.length : Int)) (by omega) (by omega)]
  have r1 : marginaliaref16_Put.f k [] a0 8 = some (be 8 a0) := q1 k (by omega)
  have r2 : marginaliaref16_Put.f k (be 8 a0) a1 8 = some (be 8 a0 ++ be 8 a1) := q2 k (by omega)
  have r3 : marginaliaref16_Put.f k (be 8 a0 ++ be 8 a1) a2 2 = some (be 8 a0 ++ be 8 a1 ++ be 2 a2) := q3 k (by omega)
  have r4 : marginaliaref16_Put.f k (be 8 a0 ++ be 8 a1 ++ be 2 a2) a3 2 = some (be 8 a0 ++ be 8 a1 ++ be 2 a2 ++ be 2 a3) := q4 k (by omega)
  have r5 : marginaliaref16_Put.f k (be 8 a0 ++ be 8 a1 ++ be 2 a2 ++ be 2 a3) (l.length : Int) 1 = some (be 8 a0 ++ be 8 a1 ++ be 2 a2 ++ be 2 a3 ++ [(l.length : Int)]) := q5 k (by omega)
  rw [r1, Option.bind_some, r2, Option.bind_some, r3, Option.bind_some, r4, Option.bind_some, r5, Option.bind_some, if_pos (by simp [be_length]; omega)]
  exact q6 k (by omega)
theorem refEncode_bad {a0 a1 a2 a3 : Int} {l : List Int} (hm : ¬ May a2 a3 l) (k : Nat) : marginaliaref16_Encode.f k a0 a1 a2 a3 l = some ([], 1) := by
  have hmay : marginaliaref16_May.f a0 a1 a2 a3 l = some false := by
    unfold marginaliaref16_May.f May at *
    by_cases c1 : a2 ≥ 0
    · by_cases c2 : a2 < a3
      · by_cases c3 : a3 ≤ 65535
        · rw [if_pos c1, if_pos c2, if_pos c3, decide_eq_false (by omega)]
        · rw [if_pos c1, if_pos c2, if_neg c3]
      · rw [if_pos c1, if_neg c2]
    · rw [if_neg c1]
  rw [marginaliaref16_Encode.f, hmay, Option.bind_some]
  simp
/-! the cell of bytes -/
def e0 (l : List Int) : Int := num (l.take 8)
def e1 (l : List Int) : Int := num ((l.take 16).drop 8)
def pt (l : List Int) : Int := num ((l.take 18).drop 16)
def ofs (l : List Int) : Int := num ((l.take 20).drop 18)
def nn (l : List Int) : Nat := (rd l 20).toNat
def dat (l : List Int) : List Int := (l.take (21 + nn l)).drop 21
def tail (l : List Int) : List Int := (l.take 60).drop (21 + nn l)
theorem nn_at {l : List Int} (hb : Bytes l) (hl : l.length = 64) : 0 ≤ rd l 20 ∧ rd l 20 ≤ 255 ∧ (nn l : Int) = rd l 20 := by
  have := bytes_rd hb 20 (by omega) (by omega)
  unfold nn
  omega
theorem dat_length {l : List Int} (hl : l.length = 64) (hn : nn l ≤ 39) : (dat l).length = nn l := by
  unfold dat; simp; omega
theorem tail_length {l : List Int} (hl : l.length = 64) (hn : nn l ≤ 39) : (tail l).length = 39 - nn l := by
  unfold tail; simp; omega
theorem cut_take (l : List Int) (a b : Nat) (h : a ≤ b) : l.take b = l.take a ++ (l.take b).drop a := by
  conv => lhs; rw [← List.take_append_drop a (l.take b)]
  rw [List.take_take, Nat.min_eq_left h]
theorem be_piece {l : List Int} (hb : Bytes l) (n : Nat) (h : l.length = n) : be n (num l) = l := by
  subst h; exact be_num l hb
/-- What the first 60 bytes are. -/
theorem take60 {l : List Int} (hb : Bytes l) (hl : l.length = 64) (hn : nn l ≤ 39) : l.take 60 = be 8 (e0 l) ++ (be 8 (e1 l) ++ (be 2 (pt l) ++ (be 2 (ofs l) ++ (((dat l).length : Int) :: (dat l ++ tail l))))) := by
  have h20 := nn_at hb hl
  unfold e0 e1 pt ofs
  rw [be_piece (by_take hb _) 8 (by simp; omega), be_piece (by_drop (by_take hb _) _) 8 (by simp; omega), be_piece (by_drop (by_take hb _) _) 2 (by simp; omega), be_piece (by_drop (by_take hb _) _) 2 (by simp; omega), dat_length hl hn]
  have s1 := (cut_take l 8 16 (by omega)).symm
  have s2 := (cut_take l 16 18 (by omega)).symm
  have s3 := (cut_take l 18 20 (by omega)).symm
  have s4 : l.take 20 ++ [(nn l : Int)] = l.take 21 := by
    have h := List.take_succ_eq_append_getElem (l := l) (i := 20) (by omega)
    rw [← rd_at (l := l) (j := 20) (by omega)] at h
    rw [h20.2.2, show (21 : Nat) = 20 + 1 from rfl, h]
    rfl
  have s5 : l.take 21 ++ dat l = l.take (21 + nn l) := (cut_take l 21 (21 + nn l) (by omega)).symm
  have s6 : l.take (21 + nn l) ++ tail l = l.take 60 := (cut_take l (21 + nn l) 60 (by omega)).symm
  have h : ((((((l.take 8 ++ (l.take 16).drop 8) ++ (l.take 18).drop 16) ++ (l.take 20).drop 18) ++ [(nn l : Int)]) ++ dat l) ++ tail l) = l.take 60 := by
    rw [s1, s2, s3, s4, s5, s6]
  rw [← h]
  simp only [List.append_assoc, List.cons_append, List.nil_append]
def Good (l : List Int) : Prop := l.length = 64 ∧ nn l ≤ 39 ∧ pt l < ofs l ∧ tail l = List.replicate (39 - nn l) 0 ∧ num (l.drop 60) = sumv (l.take 60)
theorem ofs_le {l : List Int} (hb : Bytes l) (hl : l.length = 64) : 0 ≤ pt l ∧ pt l ≤ 65535 ∧ 0 ≤ ofs l ∧ ofs l ≤ 65535 := by
  have h1 := num_range ((l.take 18).drop 16) (by_drop (by_take hb _) _)
  have h2 := num_range ((l.take 20).drop 18) (by_drop (by_take hb _) _)
  have g1 : ((l.take 18).drop 16).length = 2 := by simp; omega
  have g2 : ((l.take 20).drop 18).length = 2 := by simp; omega
  rw [g1] at h1
  rw [g2] at h2
  unfold pt ofs
  omega
theorem dat_bytes {l : List Int} (hb : Bytes l) : Bytes (dat l) := by_drop (by_take hb _) _
theorem good_iff {l : List Int} (hb : Bytes l) (hl : l.length = 64) (hn : nn l ≤ 39) : (enc (e0 l) (e1 l) (pt l) (ofs l) (dat l) = l) ↔ (tail l = List.replicate (39 - nn l) 0 ∧ num (l.drop 60) = sumv (l.take 60)) := by
  have hd60 : (hd (e0 l) (e1 l) (pt l) (ofs l) (dat l)).length = 60 := hd_length (by rw [dat_length hl hn]; omega)
  have ht : (tail l = List.replicate (39 - nn l) 0) ↔ hd (e0 l) (e1 l) (pt l) (ofs l) (dat l) = l.take 60 := by
    rw [take60 hb hl hn]
    unfold hd
    rw [dat_length hl hn]
    constructor
    · intro h; rw [h]
    · intro h
      have h := List.append_cancel_left h
      have h := List.append_cancel_left h
      have h := List.append_cancel_left h
      have h := List.append_cancel_left h
      have h := List.append_cancel_left (List.cons.inj h).2
      exact h.symm
  have hdr : (l.drop 60).length = 4 := by simp; omega
  constructor
  · intro h
    have h1 : hd (e0 l) (e1 l) (pt l) (ofs l) (dat l) = l.take 60 := by
      have := congrArg (List.take 60) h
      rwa [enc, List.take_left' hd60] at this
    have h2 : be 4 (sumv (hd (e0 l) (e1 l) (pt l) (ofs l) (dat l))) = l.drop 60 := by
      have := congrArg (List.drop 60) h
      rwa [enc, List.drop_left' hd60] at this
    refine ⟨ht.2 h1, ?_⟩
    have hr := sumv_range (l.take 60)
    rw [← h2, h1, num_be 4 _ hr.1 (by omega)]
  · rintro ⟨h1, h2⟩
    rw [enc, ht.1 h1, ← h2, be_piece (by_drop hb _) 4 hdr, List.take_append_drop]

theorem rd20_nn {l : List Int} (hb : Bytes l) (hl : l.length = 64) : wrap64 (rd l 20) = (nn l : Int) := by
  have h := nn_at hb hl
  rw [w64 (by omega) (by omega)]; omega
theorem tail_any {l : List Int} (hl : l.length = 64) (hn : nn l ≤ 39) : (tail l).any (fun x => x != 0) = false ↔ tail l = List.replicate (39 - nn l) 0 := by
  rw [← tail_length hl hn, List.any_eq_false, List.eq_replicate_iff]
  constructor
  · intro h; exact ⟨rfl, fun b hb => by have := h b hb; simpa using this⟩
  · rintro ⟨_, h⟩ b hb; simp [h b hb]
/-- What the program decodes where the first test is passed. -/
theorem decode_numbers {l : List Int} (hb : Bytes l) (hl : l.length = 64) : ∃ K, ∀ k, K ≤ k → cell_number.f k (l.take 8) = some (e0 l) ∧ cell_number.f k ((l.take 16).drop 8) = some (e1 l) ∧ cell_number.f k ((l.take 18).drop 16) = some (pt l) ∧ cell_number.f k ((l.take 20).drop 18) = some (ofs l) ∧ cell_number.f k (l.drop 60) = some (num (l.drop 60)) ∧ crc_Sum.f k (l.take 60) = some (sumv (l.take 60)) := by
  obtain ⟨K1, q1⟩ := number_ev (l := l.take 8) (by_take hb _) (by simp; omega)
  obtain ⟨K2, q2⟩ := number_ev (l := (l.take 16).drop 8) (by_drop (by_take hb _) _) (by simp; omega)
  obtain ⟨K3, q3⟩ := number_ev (l := (l.take 18).drop 16) (by_drop (by_take hb _) _) (by simp; omega)
  obtain ⟨K4, q4⟩ := number_ev (l := (l.take 20).drop 18) (by_drop (by_take hb _) _) (by simp; omega)
  obtain ⟨K5, q5⟩ := number_ev (l := l.drop 60) (by_drop hb _) (by simp; omega)
  obtain ⟨K6, q6⟩ := sum_ev (l := l.take 60) (by_take hb _) (by simp; omega)
  exact ⟨K1 + K2 + K3 + K4 + K5 + K6, fun k hk => ⟨q1 k (by omega), q2 k (by omega), q3 k (by omega), q4 k (by omega), q5 k (by omega), q6 k (by omega)⟩⟩
theorem clone_some {l : List Int} (h : l.length ≤ 1000) : slices_Clone_byte_byte.f l = some l := by
  simp only [slices_Clone_byte_byte.f, Option.bind_some, List.length_nil, List.nil_append]
  rw [if_pos (by omega)]
theorem decode_good {l : List Int} (hb : Bytes l) (h : Good l) : Ev (fun k => cell_Decode.f k l) (e0 l, e1 l, pt l, ofs l, dat l, 0) := by
  obtain ⟨hl, hn, hp, ht, hs⟩ := h
  obtain ⟨K, hK⟩ := decode_numbers hb hl
  have ho := ofs_le hb hl
  have hr := sumv_range (l.take 60)
  refine ⟨K + 2, fun k hk => ?_⟩
  obtain ⟨m, rfl⟩ : ∃ m, k = m + 1 + 1 := ⟨k - 2, by omega⟩
  obtain ⟨_, _, _, _, a5, a6⟩ := hK (m + 1 + 1) (by omega)
  obtain ⟨a1, a2, a3, a4, _, _⟩ := hK (m + 1) (by omega)
  show cell_Decode.f (m + 1 + 1) l = _
  have hx : (IntKind.u64.wrap (sumv (l.take 60)) != num (l.drop 60)) = false := by rw [u64w hr.1 (by omega), hs]; simp
  rw [cell_Decode.f, if_pos (by omega), if_pos (by omega), a6, Option.bind_some, a5, Option.bind_some, hx]
  rw [cell_Decode.j0, if_neg (by simp), if_pos (by omega), a1, Option.bind_some, if_pos (by decide), if_pos (by omega), a2, Option.bind_some, if_pos (by decide), if_pos (by omega), a3, Option.bind_some, if_pos (by decide), if_pos (by omega), a4, Option.bind_some, if_pos (by omega), rd20_nn hb hl, w64 (n := pt l) (by omega) (by omega), w64 (n := ofs l) (by omega) (by omega)]
  have e21 : wrap64 (21 + (nn l : Int)) = ((21 + nn l : Nat) : Int) := by rw [w64 (by omega) (by omega)]; omega
  rw [if_neg (by omega), if_neg (by omega), e21, if_pos (by omega), if_pos (by omega), if_pos (by omega), Int.toNat_natCast]
  have hc : slices_ContainsFunc_byte_byte.f ((l.take 60).drop (21 + nn l)) = some false := by
    rw [slices_ContainsFunc_byte_byte.f]
    exact congrArg some ((tail_any hl hn).2 ht)
  rw [hc, Option.bind_some, cell_Decode.j1, if_neg (by simp), e21, if_pos (by omega), if_pos (by omega), Int.toNat_natCast]
  have hd := dat_length hl hn
  rw [show (l.take (21 + nn l)).drop 21 = dat l from rfl, clone_some (by omega), Option.bind_some]
theorem decode_bad {l : List Int} (hb : Bytes l) (h : ¬ Good l) : Ev (fun k => cell_Decode.f k l) (0, 0, 0, 0, [], 8) := by
  by_cases hl : l.length = 64
  · obtain ⟨K, hK⟩ := decode_numbers hb hl
    have ho := ofs_le hb hl
    have hr := sumv_range (l.take 60)
    refine ⟨K + 2, fun k hk => ?_⟩
    obtain ⟨m, rfl⟩ : ∃ m, k = m + 1 + 1 := ⟨k - 2, by omega⟩
    obtain ⟨_, _, _, _, a5, a6⟩ := hK (m + 1 + 1) (by omega)
    obtain ⟨a1, a2, a3, a4, _, _⟩ := hK (m + 1) (by omega)
    show cell_Decode.f (m + 1 + 1) l = _
    rw [cell_Decode.f, if_pos (by omega), if_pos (by omega), a6, Option.bind_some, a5, Option.bind_some, u64w hr.1 (by omega)]
    by_cases hs : num (l.drop 60) = sumv (l.take 60)
    · have hx : (sumv (l.take 60) != num (l.drop 60)) = false := by rw [hs]; simp
      rw [hx, cell_Decode.j0, if_neg (by simp), if_pos (by omega), a1, Option.bind_some, if_pos (by decide), if_pos (by omega), a2, Option.bind_some, if_pos (by decide), if_pos (by omega), a3, Option.bind_some, if_pos (by decide), if_pos (by omega), a4, Option.bind_some, if_pos (by omega), rd20_nn hb hl, w64 (n := pt l) (by omega) (by omega), w64 (n := ofs l) (by omega) (by omega)]
      have hj1 : ∀ x5 p q r s, cell_Decode.j1 (m + 1) l x5 true p q r s = some (0, 0, 0, 0, [], 8) := fun _ _ _ _ _ => by rw [cell_Decode.j1, if_pos rfl]
      by_cases hp : pt l ≥ ofs l
      · rw [if_pos hp, hj1]
      rw [if_neg hp]
      by_cases hn : (nn l : Int) > 39
      · rw [if_pos hn, hj1]
      have e21 : wrap64 (21 + (nn l : Int)) = ((21 + nn l : Nat) : Int) := by rw [w64 (by omega) (by omega)]; omega
      rw [if_neg hn, e21, if_pos (by omega), if_pos (by omega), if_pos (by omega), Int.toNat_natCast]
      have hc : slices_ContainsFunc_byte_byte.f ((l.take 60).drop (21 + nn l)) = some true := by
        rw [slices_ContainsFunc_byte_byte.f]
        congr 1
        cases hq : (tail l).any (fun x => x != 0) with
        | true => exact hq
        | false => exact absurd ⟨hl, by omega, by omega, (tail_any hl (by omega)).1 hq, hs⟩ h
      rw [hc, Option.bind_some, hj1]
    · have hx : (sumv (l.take 60) != num (l.drop 60)) = true := by simpa using fun e => hs e.symm
      rw [hx, cell_Decode.j0, if_pos rfl]
  · refine ⟨1, fun k hk => ?_⟩
    obtain ⟨m, rfl⟩ : ∃ m, k = m + 1 := ⟨k - 1, by omega⟩
    show cell_Decode.f (m + 1) l = _
    rw [cell_Decode.f, if_neg (by omega), cell_Decode.j0, if_pos rfl]
end Go.Proofs.Ytepipgneefcoiaa.CellLaws
