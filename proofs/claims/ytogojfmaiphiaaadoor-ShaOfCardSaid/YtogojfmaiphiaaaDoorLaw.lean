/- Bytes one by one are bytes piece by piece: the plain law of a sum. -/
import Derived.Test.YtogojfmaiphiaaaDoorState
namespace Go.Proofs.YtogojfmaiphiaaaDoor
open Go.RowKit

/-- A sum whose part is laid over from its place on. -/
def over (l : List UInt8) (i : Nat) (c : List UInt8) : List UInt8 := l.take i ++ (c ++ l.drop (i + c.length))
theorem over_nil (l : List UInt8) (i : Nat) : over l i [] = l := by simp [over]
theorem length_over (l : List UInt8) (i : Nat) (c : List UInt8) (h : i + c.length ≤ l.length) : (over l i c).length = l.length := by simp [over]; omega
theorem over_cons (l : List UInt8) (i : Nat) (x : UInt8) (c : List UInt8) (h : i < l.length) : over l i (x :: c) = over (l.set i x) (i + 1) c := by
  unfold over
  have e : (l.set i x).take (i + 1) = l.take i ++ [x] := by
    rw [List.take_succ_eq_append_getElem (by simpa using h), List.take_set_of_le (by omega)]
    simp
  rw [e, List.drop_set_of_lt (by omega), List.length_cons, show i + (c.length + 1) = i + 1 + c.length by omega]
  simp

theorem Sum.add_over (l : List UInt8) : ∀ (s : Sum), s.part.length = 64 → 0 < l.length → s.n % 64 + l.length ≤ 64 →
    s.add l = ⟨if s.n % 64 + l.length = 64 then comp s.h (over s.part (s.n % 64) l) else s.h, over s.part (s.n % 64) l, s.n + l.length⟩ := by
  induction l with
  | nil => intro s _ h _; simp at h
  | cons c r ih =>
    intro s hp _ hle
    have hat : s.n % 64 < s.part.length := by rw [hp]; omega
    rw [List.length_cons] at hle
    show (s.add1 c).add r = _
    cases r with
    | nil =>
      show s.add1 c = _
      unfold Sum.add1
      rw [over_cons _ _ _ _ hat, over_nil]
      congr 1
      by_cases h : s.n % 64 = 63
      · rw [if_pos h, if_pos (by simp; omega)]
      · rw [if_neg h, if_neg (by simp; omega)]
    | cons c2 r2 =>
      rw [List.length_cons] at hle
      have hne : ¬ s.n % 64 = 63 := by omega
      have e1 : s.add1 c = ⟨s.h, s.part.set (s.n % 64) c, s.n + 1⟩ := by unfold Sum.add1; rw [if_neg hne]
      have hmod : (s.n + 1) % 64 = s.n % 64 + 1 := by omega
      rw [e1, ih ⟨s.h, s.part.set (s.n % 64) c, s.n + 1⟩ (by simpa using hp) (by simp) (by show (s.n + 1) % 64 + _ ≤ 64; simp; omega)]
      show (⟨if (s.n + 1) % 64 + (c2 :: r2).length = 64 then comp s.h (over (s.part.set (s.n % 64) c) ((s.n + 1) % 64) (c2 :: r2)) else s.h, over (s.part.set (s.n % 64) c) ((s.n + 1) % 64) (c2 :: r2), s.n + 1 + (c2 :: r2).length⟩ : Sum) = _
      rw [hmod, over_cons s.part _ c _ hat, List.length_cons (a := c), show s.n % 64 + 1 + (c2 :: r2).length = s.n % 64 + ((c2 :: r2).length + 1) by omega, show s.n + 1 + (c2 :: r2).length = s.n + ((c2 :: r2).length + 1) by omega]

theorem Sum.part_add1 (s : Sum) (c : UInt8) (h : s.part.length = 64) : (s.add1 c).part.length = 64 := by simpa [Sum.add1] using h
theorem Sum.part_add (l : List UInt8) : ∀ s : Sum, s.part.length = 64 → (s.add l).part.length = 64 := by
  induction l with
  | nil => intro s h; exact h
  | cons c r ih => intro s h; exact ih (s.add1 c) (s.part_add1 c h)
theorem Sum.n_add (l : List UInt8) : ∀ s : Sum, (s.add l).n = s.n + l.length := by
  induction l with
  | nil => intro s; rfl
  | cons c r ih => intro s; show ((s.add1 c).add r).n = _; rw [ih]; simp [Sum.add1]; omega

/-- The cells behind a copy. -/
theorem cells_over (s : Sum) (i : Nat) (c : List UInt8) (hp : s.part.length = 64) (hi : i + c.length ≤ 64) : splice (cellsSum s) (5 + i) (bts c) = cellsSum ⟨s.h, over s.part i c, s.n⟩ := by
  have h5 : (ws s.h.list).length = 5 := by simp [S5.list]
  unfold splice cellsSum
  rw [length_bts]
  have e1 : (ws s.h.list ++ (bts s.part ++ [Value.int .u64 (s.n : Int)])).take (5 + i) = ws s.h.list ++ (bts s.part).take i := by
    rw [List.take_append, h5, List.take_of_length_le (by omega), show 5 + i - 5 = i by omega, List.take_append_of_le_length (by simp; omega)]
  have e2 : (ws s.h.list ++ (bts s.part ++ [Value.int .u64 (s.n : Int)])).drop (5 + i + c.length) = (bts s.part).drop (i + c.length) ++ [Value.int .u64 (s.n : Int)] := by
    rw [List.drop_append, h5, List.drop_eq_nil_of_le (by omega), List.nil_append, show 5 + i + c.length - 5 = i + c.length by omega, List.drop_append_of_le_length (by simp; omega)]
  rw [e1, e2]
  simp [over, bts]
end Go.Proofs.YtogojfmaiphiaaaDoor
