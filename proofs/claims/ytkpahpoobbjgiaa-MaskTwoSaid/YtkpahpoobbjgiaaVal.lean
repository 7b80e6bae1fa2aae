/- The plain law of lengths: a number's bytes, the number of bytes, and what bytes begin with. No program is named here. -/
import Derived.Test.YtkpahpoobbjgiaaMem
namespace Go.Proofs.Ytkpahpoobbjgiaa

theorem snoc_ind {p : List UInt8 → Prop} (h0 : p []) (h1 : ∀ l c, p l → p (l ++ [c])) (l : List UInt8) : p l := by
  have h : ∀ l : List UInt8, p l.reverse := by
    intro l
    induction l with
    | nil => exact h0
    | cons c l ih => rw [List.reverse_cons]; exact h1 _ _ ih
  have := h l.reverse
  rwa [List.reverse_reverse] at this
/-- A number's lowest bytes, the highest first. -/
def numB (n : Nat) : Nat → List UInt8
  | 0 => []
  | i + 1 => UInt8.ofNat (n / 256 ^ i) :: numB n i
@[simp] theorem length_numB (n i : Nat) : (numB n i).length = i := by
  induction i with
  | zero => rfl
  | succ i ih => simp [numB, ih]
/-- The number of bytes. -/
def val (l : List UInt8) : Nat := l.foldl (fun a c => 256 * a + c.toNat) 0
@[simp] theorem val_nil : val [] = 0 := rfl
theorem val_one (l : List UInt8) (c : UInt8) : val (l ++ [c]) = 256 * val l + c.toNat := by simp [val, List.foldl_append]
theorem val_lt (l : List UInt8) : val l < 256 ^ l.length := by
  refine snoc_ind (p := fun l => val l < 256 ^ l.length) (by simp) (fun l c ih => ?_) l
  rw [val_one, List.length_append, List.length_singleton, Nat.pow_succ]
  have := UInt8.toNat_lt c
  omega
/-- The first bytes say in which bounds the number lies. -/
theorem val_append (l r : List UInt8) : val l * 256 ^ r.length ≤ val (l ++ r) ∧ val (l ++ r) < (val l + 1) * 256 ^ r.length := by
  refine snoc_ind (p := fun r => val l * 256 ^ r.length ≤ val (l ++ r) ∧ val (l ++ r) < (val l + 1) * 256 ^ r.length) (by simp) (fun r c ih => ?_) r
  rw [← List.append_assoc, val_one, List.length_append, List.length_singleton, Nat.pow_succ]
  have hc := UInt8.toNat_lt c
  have e1 : val l * (256 ^ r.length * 256) = 256 * (val l * 256 ^ r.length) := by rw [← Nat.mul_assoc, Nat.mul_comm]
  have e2 : (val l + 1) * (256 ^ r.length * 256) = 256 * ((val l + 1) * 256 ^ r.length) := by rw [← Nat.mul_assoc, Nat.mul_comm]
  rw [e1, e2]
  omega
theorem val_take (l : List UInt8) (i : Nat) : val (l.take i) * 256 ^ (l.length - i) ≤ val l ∧ val l < (val (l.take i) + 1) * 256 ^ (l.length - i) := by
  have := val_append (l.take i) (l.drop i)
  rwa [List.take_append_drop, List.length_drop] at this
theorem take_one (l : List UInt8) (k : Nat) (h : k < l.length) : l.take (k + 1) = l.take k ++ [l[k]] := by
  rw [List.take_add_one, List.getElem?_eq_getElem h]; rfl
theorem numB_at (n i k : Nat) (h : k < i) : (numB n i)[k]'(by simpa using h) = UInt8.ofNat (n / 256 ^ (i - 1 - k)) := by
  induction i generalizing k with
  | zero => omega
  | succ i ih =>
    cases k with
    | zero => rfl
    | succ k =>
      have := ih k (by omega)
      simp only [numB, List.getElem_cons_succ, this]
      congr 3
      omega
theorem toNat_ofNat8 (x : Nat) : (UInt8.ofNat x).toNat = x % 256 := by simp
theorem val_numB_take (n i k : Nat) (hn : n < 256 ^ i) (hk : k ≤ i) : val ((numB n i).take k) = n / 256 ^ (i - k) := by
  induction k with
  | zero => simp [Nat.div_eq_of_lt hn]
  | succ k ih =>
    rw [take_one _ _ (by rw [length_numB]; omega), val_one, ih (by omega), numB_at n i k (by omega), toNat_ofNat8, show i - k = (i - 1 - k) + 1 by omega, show i - (k + 1) = i - 1 - k by omega, Nat.pow_succ, ← Nat.div_div_eq_div_mul]
    omega
theorem val_numB (n i : Nat) (hn : n < 256 ^ i) : val (numB n i) = n := by
  have := val_numB_take n i i hn (Nat.le_refl _)
  rw [List.take_of_length_le (by simp)] at this
  simpa using this
theorem numB_inj (n m i : Nat) (hn : n < 256 ^ i) (hm : m < 256 ^ i) (h : numB n i = numB m i) : n = m := by
  rw [← val_numB n i hn, ← val_numB m i hm, h]

/-- What bytes behind the first one say: the least and the greatest number that may begin so. -/
def lo (l : List UInt8) (size : Nat) : Nat := val l * 256 ^ (size - l.length)
def hi (l : List UInt8) (size : Nat) : Nat := (val l + 1) * 256 ^ (size - l.length) - 1
/-- One step of reading. -/
theorem lo_step (l : List UInt8) (i : Nat) : lo (l.take (i + 1)) (i + 1) = 256 * lo (l.take i) i + (if h : i < l.length then l[i].toNat else 0) := by
  by_cases h : i < l.length
  · rw [dif_pos h, take_one l i h]
    unfold lo
    rw [val_one, List.length_append, List.length_take, List.length_singleton, Nat.min_eq_left (by omega)]
    simp
  · rw [dif_neg h, List.take_of_length_le (by omega), List.take_of_length_le (by omega)]
    unfold lo
    rw [show i + 1 - l.length = (i - l.length) + 1 by omega, Nat.pow_succ, ← Nat.mul_assoc, Nat.mul_comm]
    simp
theorem pow_pos' (k : Nat) : 0 < 256 ^ k := Nat.pow_pos (by omega)
theorem hi_step (l : List UInt8) (i : Nat) : hi (l.take (i + 1)) (i + 1) = 256 * hi (l.take i) i + (if h : i < l.length then l[i].toNat else 255) := by
  by_cases h : i < l.length
  · rw [dif_pos h, take_one l i h]
    unfold hi
    rw [val_one, List.length_append, List.length_take, List.length_singleton, Nat.min_eq_left (by omega)]
    simp
  · rw [dif_neg h, List.take_of_length_le (by omega), List.take_of_length_le (by omega)]
    unfold hi
    rw [show i + 1 - l.length = (i - l.length) + 1 by omega, Nat.pow_succ, ← Nat.mul_assoc, Nat.mul_comm]
    have : 0 < (val l + 1) * 256 ^ (i - l.length) := Nat.mul_pos (by omega) (pow_pos' _)
    omega
theorem lo_le_hi (l : List UInt8) (i : Nat) : lo l i ≤ hi l i := by
  unfold lo hi
  have := pow_pos' (i - l.length)
  rw [Nat.add_mul]
  omega
theorem hi_lt (l : List UInt8) (i : Nat) (h : l.length ≤ i) : hi l i < 256 ^ i := by
  have h1 := val_lt l
  have h2 : (val l + 1) * 256 ^ (i - l.length) ≤ 256 ^ l.length * 256 ^ (i - l.length) := Nat.mul_le_mul_right _ (by omega)
  rw [← Nat.pow_add, show l.length + (i - l.length) = i by omega] at h2
  have := pow_pos' i
  unfold hi
  omega

/-- What bytes begin with: the number, how many bytes it has, and the refusal. -/
def getF : List UInt8 → Nat × Nat × Nat
  | [] => (0, 0, 80)
  | c :: t =>
    if c.toNat % 128 < 126 then (c.toNat % 128, 1, 0)
    else if c.toNat % 128 = 126 then
      (if hi (t.take 2) 2 < 126 ∨ 65535 < lo (t.take 2) 2 then (0, 0, 81) else if t.length < 2 then (0, 0, 80) else (val (t.take 2), 3, 0))
    else
      (if hi (t.take 8) 8 < 65536 ∨ 9223372036854775807 < lo (t.take 8) 8 then (0, 0, 81) else if t.length < 8 then (0, 0, 80) else (val (t.take 8), 9, 0))
/-- A length as bytes. -/
def putF (n : Nat) : List UInt8 :=
  if n < 126 then [UInt8.ofNat n] else if n < 65536 then 126 :: numB n 2 else 127 :: numB n 8

theorem lo_numB (n i k : Nat) (hn : n < 256 ^ i) (hk : k ≤ i) : lo ((numB n i).take k) i ≤ n ∧ n ≤ hi ((numB n i).take k) i := by
  unfold lo hi
  rw [List.length_take, length_numB, Nat.min_eq_left hk, val_numB_take n i k hn hk]
  have h1 := Nat.div_add_mod n (256 ^ (i - k))
  have h2 := Nat.mod_lt n (pow_pos' (i - k))
  rw [Nat.add_mul, Nat.one_mul, Nat.mul_comm]
  omega
/-- A length is itself again, whatever stands behind. -/
theorem get_put (n : Nat) (hn : n ≤ 9223372036854775807) (more : List UInt8) : getF (putF n ++ more) = (n, (putF n).length, 0) := by
  unfold putF
  by_cases h1 : n < 126
  · rw [if_pos h1]
    have e : (UInt8.ofNat n).toNat % 128 = n := by rw [toNat_ofNat8]; omega
    simp only [List.singleton_append, getF, e, h1, if_pos, List.length_singleton]
  · rw [if_neg h1]
    by_cases h2 : n < 65536
    · rw [if_pos h2]
      have e := lo_numB n 2 2 (by omega) (by omega)
      have t : ((numB n 2 ++ more).take 2) = numB n 2 := by rw [List.take_append_of_le_length (by simp), List.take_of_length_le (by simp)]
      rw [List.take_of_length_le (by simp)] at e
      have v := val_numB n 2 (by omega)
      have l : lo (numB n 2) 2 = n := by simp [lo, v]
      have g : ¬ (hi (numB n 2) 2 < 126 ∨ 65535 < lo (numB n 2) 2) := by omega
      have g2 : ¬ ((numB n 2 ++ more).length < 2) := by simp
      simp only [List.cons_append, getF, t, v]
      rw [if_neg (by decide), if_pos (by decide), if_neg g, if_neg g2]
      simp
    · rw [if_neg h2]
      have e := lo_numB n 8 8 (by omega) (by omega)
      have t : ((numB n 8 ++ more).take 8) = numB n 8 := by rw [List.take_append_of_le_length (by simp), List.take_of_length_le (by simp)]
      rw [List.take_of_length_le (by simp)] at e
      have v := val_numB n 8 (by omega)
      have l : lo (numB n 8) 8 = n := by simp [lo, v]
      have g : ¬ (hi (numB n 8) 8 < 65536 ∨ 9223372036854775807 < lo (numB n 8) 8) := by omega
      have g2 : ¬ ((numB n 8 ++ more).length < 8) := by simp
      simp only [List.cons_append, getF, t, v]
      rw [if_neg (by decide), if_neg (by decide), if_neg g, if_neg g2]
      simp
/-- Of fewer bytes it isn't there yet. -/
theorem get_few (n : Nat) (hn : n ≤ 9223372036854775807) (i : Nat) (hi : i < (putF n).length) : getF ((putF n).take i) = (0, 0, 80) := by
  cases i with
  | zero => rfl
  | succ i =>
    unfold putF at hi ⊢
    by_cases h1 : n < 126
    · rw [if_pos h1] at hi; simp at hi
    · rw [if_neg h1] at hi ⊢
      by_cases h2 : n < 65536
      · rw [if_pos h2] at hi ⊢
        have hi' : i < 2 := by simp at hi; omega
        have e := lo_numB n 2 i (by omega) (by omega)
        have t : (((numB n 2).take i).take 2) = (numB n 2).take i := List.take_of_length_le (by simp; omega)
        simp only [List.take_succ_cons, getF, t]
        rw [if_neg (by decide), if_pos (by decide), if_neg (by omega), if_pos (by simp; omega)]
      · rw [if_neg h2] at hi ⊢
        have hi' : i < 8 := by simp at hi; omega
        have e := lo_numB n 8 i (by omega) (by omega)
        have t : (((numB n 8).take i).take 8) = (numB n 8).take i := List.take_of_length_le (by simp; omega)
        simp only [List.take_succ_cons, getF, t]
        rw [if_neg (by decide), if_neg (by decide), if_neg (by omega), if_pos (by simp; omega)]
theorem length_putF (n : Nat) : (putF n).length = if n ≤ 125 then 1 else if n ≤ 65535 then 3 else 9 := by
  unfold putF
  repeat' split
  all_goals first | (exfalso; omega) | simp
theorem putF_inj (n m : Nat) (hn : n ≤ 9223372036854775807) (hm : m ≤ 9223372036854775807) (h : putF n = putF m) : n = m := by
  have a := get_put n hn []
  have b := get_put m hm []
  rw [h, b] at a
  exact (congrArg Prod.fst a).symm
end Go.Proofs.Ytkpahpoobbjgiaa
