/- The plain law of a ring: what two splices do to a row that is read round its end. No program is named here. -/
import Derived.Test.YtmioglkibjmmfaaMem
namespace Go.Proofs.Ytmioglkibjmmfaa
open Go.RowKit

theorem splice_at {α : Type} (L : List α) (off : Nat) (cs : List α) (h : off + cs.length ≤ L.length) (i : Nat) :
    (splice L off cs)[i]? = if off ≤ i ∧ i < off + cs.length then cs[i - off]? else L[i]? := by
  unfold splice
  have h0 : (L.take off).length = off := by simp; omega
  by_cases h1 : i < off
  · rw [List.getElem?_append_left (by omega), if_neg (by omega), List.getElem?_take, if_pos h1]
  · rw [List.getElem?_append_right (by omega), h0]
    by_cases h2 : i < off + cs.length
    · rw [List.getElem?_append_left (by omega), if_pos (by omega)]
    · rw [List.getElem?_append_right (by omega), if_neg (by omega), List.getElem?_drop]
      congr 1; omega

/-- The row reads as s from place a on, round its end. -/
def Held (cur : List Value) (a : Nat) (s : List UInt8) : Prop :=
  ∀ j (h : j < s.length), cur[(a + j) % cur.length]? = some (.int .u8 (s[j].toNat : Int))

theorem wrap_one {x m : Nat} (h : x < 2 * m) : (x < m ∧ x % m = x) ∨ (m ≤ x ∧ x % m = x - m) := by
  by_cases h1 : x < m
  · exact .inl ⟨h1, Nat.mod_eq_of_lt h1⟩
  · exact .inr ⟨by omega, by rw [Nat.mod_eq_sub_mod (by omega), Nat.mod_eq_of_lt (by omega)]⟩

theorem held_put (cur : List Value) (a : Nat) (s b : List UInt8) (e n : Nat) (ha : a < cur.length) (hs : s.length + b.length ≤ cur.length) (hh : Held cur a s)
    (he : e = (a + s.length) % cur.length) (hn : n = min b.length (cur.length - e)) :
    (splice (splice cur e (bts (b.take n))) 0 (bts (b.drop n))).length = cur.length ∧ Held (splice (splice cur e (bts (b.take n))) 0 (bts (b.drop n))) a (s ++ b) := by
  have hm : 0 < cur.length := by omega
  have he1 : e < cur.length := by rw [he]; exact Nat.mod_lt _ hm
  have hn1 : n ≤ b.length := by omega
  have l1 : (bts (b.take n)).length = n := by simp; omega
  have l2 : (bts (b.drop n)).length = b.length - n := by simp
  have s1 : (splice cur e (bts (b.take n))).length = cur.length := length_splice _ _ _ (by rw [l1]; omega)
  have s2 : (splice (splice cur e (bts (b.take n))) 0 (bts (b.drop n))).length = cur.length := by rw [length_splice _ _ _ (by rw [l2, s1]; omega), s1]
  refine ⟨s2, fun j hj => ?_⟩
  rw [s2, splice_at _ _ _ (by rw [l2, s1]; omega), splice_at _ _ _ (by rw [l1]; omega), l1, l2]
  have hjl : j < s.length + b.length := by simpa using hj
  have w1 := wrap_one (x := a + j) (m := cur.length) (by omega)
  have w2 := wrap_one (x := a + s.length) (m := cur.length) (by omega)
  rw [← he] at w2
  by_cases hjs : j < s.length
  · have g := hh j hjs
    generalize (a + j) % cur.length = r at *
    have k1 : ¬ (0 ≤ r ∧ r < 0 + (b.length - n)) := by
      omega
    have k2 : ¬ (e ≤ r ∧ r < e + n) := by
      omega
    rw [if_neg k1, if_neg k2, g]
    simp [hjs]
  · have hjb : j - s.length < b.length := by omega
    have fin : (s ++ b)[j] = b[j - s.length] := by rw [List.getElem_append_right (by omega)]
    rw [fin]
    generalize (a + j) % cur.length = r at *
    by_cases hk : j - s.length < n
    · have k1 : ¬ (0 ≤ r ∧ r < 0 + (b.length - n)) := by
        omega
      have k2 : (e ≤ r ∧ r < e + n) ∧ r - e = j - s.length := by
        omega
      rw [if_neg k1, if_pos k2.1, k2.2, bts_at _ _ (by simp; omega)]
      simp
    · have k1 : (0 ≤ r ∧ r < 0 + (b.length - n)) ∧ r - 0 = j - s.length - n := by
        omega
      rw [if_pos k1.1, k1.2, bts_at _ _ (by simp; omega)]
      have : n + (j - s.length - n) = j - s.length := by omega
      simp [this]

/-- What is left reads on. -/
theorem held_drop (cur : List Value) (a : Nat) (s : List UInt8) (n : Nat) (hn : n ≤ s.length) (hh : Held cur a s) : Held cur ((a + n) % cur.length) (s.drop n) := by
  intro j hj
  have hj' : n + j < s.length := by simp at hj; omega
  have := hh (n + j) hj'
  rw [Nat.mod_add_mod, Nat.add_assoc, this]; simp

/-- The cells that the first copy of Peek reads, and the second. -/
theorem held_first (cur : List Value) (a : Nat) (s : List UInt8) (n k : Nat) (ha : a < cur.length) (hn : n ≤ s.length) (_hs : s.length ≤ cur.length) (hk : k = min n (cur.length - a)) (hh : Held cur a s) :
    ∀ (j : Nat) (v : Value), (bts (s.take k))[j]? = some v → cur[a + j]? = some v := by
  intro j v hv
  have hj : j < (bts (s.take k)).length := (List.getElem?_eq_some_iff.1 hv).1
  have hj1 : j < k := by simp at hj; omega
  rw [bts_at _ _ (by simpa using hj)] at hv
  have := hh j (by omega)
  rw [Nat.mod_eq_of_lt (by omega)] at this
  rw [this, ← hv]; simp
theorem held_second (cur : List Value) (a : Nat) (s : List UInt8) (n k : Nat) (ha : a < cur.length) (hn : n ≤ s.length) (hs : s.length ≤ cur.length) (hk : k = min n (cur.length - a)) (hh : Held cur a s) :
    ∀ (j : Nat) (v : Value), (bts ((s.take n).drop k))[j]? = some v → cur[j]? = some v := by
  intro j v hv
  have hj : j < (bts ((s.take n).drop k)).length := (List.getElem?_eq_some_iff.1 hv).1
  have hj1 : k + j < n := by simp at hj; omega
  rw [bts_at _ _ (by simpa using hj)] at hv
  have := hh (k + j) (by omega)
  have w1 := wrap_one (x := a + (k + j)) (m := cur.length) (by omega)
  replace w1 : (a + (k + j)) % cur.length = a + (k + j) - cur.length := by omega
  rw [w1, show a + (k + j) - cur.length = j by omega] at this
  rw [this, ← hv]; simp
theorem peek_row (Z : List Value) (s : List UInt8) (n k : Nat) (hZ : Z.length = n) (hn : n ≤ s.length) (hk : k ≤ n) :
    splice (splice Z 0 (bts (s.take k))) k (bts ((s.take n).drop k)) = bts (s.take n) := by
  have l1 : (bts (s.take k)).length = k := by simp; omega
  have l2 : (bts ((s.take n).drop k)).length = n - k := by simp; omega
  have s1 : (splice Z 0 (bts (s.take k))).length = n := by rw [length_splice _ _ _ (by omega)]; exact hZ
  apply List.ext_getElem?
  intro i
  rw [splice_at _ _ _ (by omega), splice_at _ _ _ (by omega), l1, l2]
  by_cases h1 : i < k
  · rw [if_neg (by omega), if_pos (by omega)]
    rw [bts_at _ _ (by simp; omega), bts_at _ _ (by simp; omega)]
    simp
  · by_cases h2 : i < n
    · rw [if_pos (by omega), bts_at _ _ (by simp; omega), bts_at _ _ (by simp; omega)]
      simp [show k + (i - k) = i by omega]
    · rw [if_neg (by omega), if_neg (by omega), List.getElem?_eq_none (by omega), List.getElem?_eq_none (by simp; omega)]
end Go.Proofs.Ytmioglkibjmmfaa
