/- The sum block by block: the plain law that ties the program's sum to the document's. -/
import Derived.Test.YtogojfmaiphiaaaDoorRefB
namespace Go.Proofs.YtogojfmaiphiaaaDoor
open Go.RowKit

def blk (m : List UInt8) (j : Nat) : List UInt8 := (m.drop (64 * j)).take 64
/-- The state behind j blocks. -/
def stB (m : List UInt8) : Nat → S5
  | 0 => start
  | j + 1 => comp (stB m j) (blk m j)
theorem blk_at (m : List UInt8) (j i : Nat) (hi : i < 64) : (blk m j)[i]? = m[64 * j + i]? := by
  unfold blk
  rw [List.getElem?_take, if_pos hi, List.getElem?_drop]
theorem add_blocks (m : List UInt8) : ∀ k, k ≤ m.length → (Sum.init.add (m.take k)).part.length = 64 ∧ (Sum.init.add (m.take k)).n = k ∧ (Sum.init.add (m.take k)).h = stB m (k / 64) ∧
    ∀ i, i < k % 64 → (Sum.init.add (m.take k)).part[i]? = m[64 * (k / 64) + i]? := by
  intro k
  induction k with
  | zero => intro _; exact ⟨by simp [Sum.add, Sum.init], rfl, rfl, fun i hi => by simp at hi⟩
  | succ k ih =>
    intro hk
    obtain ⟨h1, h2, h3, h4⟩ := ih (by omega)
    have e : Sum.init.add (m.take (k + 1)) = (Sum.init.add (m.take k)).add1 m[k] := by
      rw [List.take_succ_eq_append_getElem (by omega), Sum.add_append]
      rfl
    rw [e]
    generalize Sum.init.add (m.take k) = s at h1 h2 h3 h4
    have hat : s.n % 64 = k % 64 := by rw [h2]
    have hp : (s.part.set (s.n % 64) m[k]).length = 64 := by simpa using h1
    have hpart : ∀ i, i < k % 64 + 1 → (s.part.set (k % 64) m[k])[i]? = m[64 * (k / 64) + i]? := by
      intro i hi
      by_cases q : i = k % 64
      · subst q
        rw [List.getElem?_set_self (by omega), show 64 * (k / 64) + k % 64 = k by omega, List.getElem?_eq_getElem (by omega)]
      · rw [List.getElem?_set_ne (fun h => q h.symm), h4 i (by omega)]
    refine ⟨s.part_add1 _ h1, by show s.n + 1 = _; rw [h2], ?_, ?_⟩
    · show (if s.n % 64 = 63 then comp s.h (s.part.set (s.n % 64) m[k]) else s.h) = _
      rw [hat]
      by_cases q : k % 64 = 63
      · rw [if_pos q, show (k + 1) / 64 = k / 64 + 1 by omega]
        show _ = comp (stB m (k / 64)) (blk m (k / 64))
        rw [h3]
        congr 1
        apply List.ext_getElem?
        intro i
        by_cases hi : i < 64
        · rw [blk_at m _ i hi, hpart i (by omega)]
        · rw [List.getElem?_eq_none (by simp; omega), List.getElem?_eq_none (by unfold blk; simp; omega)]
      · rw [if_neg q, show (k + 1) / 64 = k / 64 by omega, h3]
    · intro i hi
      show (s.part.set (s.n % 64) m[k])[i]? = _
      rw [hat]
      have q : k % 64 ≠ 63 := by omega
      rw [show (k + 1) / 64 = k / 64 by omega]
      exact hpart i (by omega)

theorem pad_far : ∀ (k : Nat) (y : Sum), far y.n < k → Sum.pad k y = y.add (List.replicate (far y.n) 0) := by
  intro k
  induction k with
  | zero => intro y h; omega
  | succ k ih =>
    intro y h
    by_cases q : y.n % 64 = 56
    · rw [pad_stop _ y q, show far y.n = 0 by unfold far; omega]
      rfl
    · rw [pad_step k y q]
      have hf : far y.n = far (y.n + 1) + 1 := by unfold far; omega
      have hn : (y.add1 0).n = y.n + 1 := rfl
      rw [ih (y.add1 0) (by rw [hn]; omega), hn, hf, List.replicate_succ]
      rfl

/-- The message and its end. -/
def padMsg (l : List UInt8) : List UInt8 := ((l ++ [128]) ++ List.replicate (far (l.length + 1)) 0) ++ be8 (l.length * 8)
theorem length_be8 (n : Nat) : (be8 n).length = 8 := by simp [be8]
theorem length_padMsg (l : List UInt8) : (padMsg l).length % 64 = 0 := by
  unfold padMsg
  rw [List.length_append, List.length_append, List.length_append, List.length_singleton, List.length_replicate, length_be8]
  unfold far
  omega
theorem sum_blocks (l : List UInt8) : sumOf l = (stB (padMsg l) ((padMsg l).length / 64)).out := by
  have hn : (Sum.init.add l).n = l.length := by rw [Sum.n_add]; exact Nat.zero_add _
  have hn1 : ((Sum.init.add l).add1 128).n = l.length + 1 := by show (Sum.init.add l).n + 1 = _; rw [hn]
  have e : (Sum.init.add l).full = Sum.init.add (padMsg l) := by
    unfold Sum.full padMsg
    rw [pad_far 64 _ (by unfold far; omega), hn1, hn, Sum.add_append, Sum.add_append, Sum.add_append]
    rfl
  show (Sum.init.add l).full.h.out = _
  have h := (add_blocks (padMsg l) (padMsg l).length (Nat.le_refl _)).2.2.1
  rw [List.take_length] at h
  rw [e, h]

/-! Words from bytes; the schedule as it grows. -/
theorem word4_sum (a b c d : UInt8) : a.toNat * 16777216 + b.toNat * 65536 + c.toNat * 256 + d.toNat = (word4 a b c d).toNat := by
  have ha := b_lt a
  have hb := b_lt b
  have hc := b_lt c
  have hd := b_lt d
  have e1 : a.toNat * 2 ^ 24 ||| b.toNat * 2 ^ 16 = a.toNat * 2 ^ 24 + b.toNat * 2 ^ 16 := by
    rw [Nat.mul_comm a.toNat, ← Nat.two_pow_add_eq_or_of_lt (by omega)]
  have e2 : (a.toNat * 2 ^ 24 + b.toNat * 2 ^ 16) ||| c.toNat * 2 ^ 8 = a.toNat * 2 ^ 24 + b.toNat * 2 ^ 16 + c.toNat * 2 ^ 8 := by
    rw [show a.toNat * 2 ^ 24 + b.toNat * 2 ^ 16 = 2 ^ 16 * (a.toNat * 2 ^ 8 + b.toNat) by omega, ← Nat.two_pow_add_eq_or_of_lt (by omega)]
  have e3 : (a.toNat * 2 ^ 24 + b.toNat * 2 ^ 16 + c.toNat * 2 ^ 8) ||| d.toNat = a.toNat * 2 ^ 24 + b.toNat * 2 ^ 16 + c.toNat * 2 ^ 8 + d.toNat := by
    rw [show a.toNat * 2 ^ 24 + b.toNat * 2 ^ 16 + c.toNat * 2 ^ 8 = 2 ^ 8 * (a.toNat * 2 ^ 16 + b.toNat * 2 ^ 8 + c.toNat) by omega, ← Nat.two_pow_add_eq_or_of_lt (by omega)]
  unfold word4
  rw [e1, e2, e3, UInt32.toNat_ofNat', Nat.mod_eq_of_lt (by omega)]
def wl (p : List UInt8) (t : Nat) : List UInt32 := if t ≤ 16 then base p t else ext (base p 16) (t - 16)
theorem length_wl (p : List UInt8) (t : Nat) : (wl p t).length = t := by
  unfold wl
  split
  · simp
  · simp; omega
theorem wl_low (p : List UInt8) (t : Nat) (h : t < 16) : wl p (t + 1) = wl p t ++ [wordAt p t] := by
  unfold wl
  rw [if_pos (by omega), if_pos (by omega)]
  rfl
theorem wl_high (p : List UInt8) (t : Nat) (h : 16 ≤ t) : wl p (t + 1) = wl p t ++ [nextW (wl p t)] := by
  unfold wl
  rw [if_neg (by omega), show t + 1 - 16 = (t - 16) + 1 by omega]
  by_cases q : t ≤ 16
  · obtain rfl : t = 16 := by omega
    rfl
  · rw [if_neg q]
    rfl
theorem wl_all (p : List UInt8) : wl p 80 = sched p := rfl
theorem rnd_plus (t : Nat) (w : UInt32) (a b c d e : UInt32) : (rotl a 5 + mixf t b c d) + ((e + w) + mixk t) = (rnd t w ⟨a, b, c, d, e⟩).a := by
  show _ = rotl a 5 + mixf t b c d + e + w + mixk t
  rw [UInt32.add_assoc (rotl a 5 + mixf t b c d) e w, UInt32.add_assoc (rotl a 5 + mixf t b c d)]
end Go.Proofs.YtogojfmaiphiaaaDoor
