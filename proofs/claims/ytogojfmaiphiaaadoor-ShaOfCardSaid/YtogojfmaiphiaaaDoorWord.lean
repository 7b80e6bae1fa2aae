/- The sum as a function in plain Lean: words, the schedule, the rounds, a block, bytes one by one, the padding. No program is named here. -/
import Derived.KernelRfl
namespace Go.Proofs.YtogojfmaiphiaaaDoor

/-- Bits turned to the left. -/
def rotl (x : UInt32) (k : Nat) : UInt32 := UInt32.ofNat ((x.toNat * 2 ^ k % 4294967296) ||| (x.toNat / 2 ^ (32 - k)))
def mixf (t : Nat) (b c d : UInt32) : UInt32 := if t < 20 then d ^^^ (b &&& (c ^^^ d)) else if t < 40 then b ^^^ c ^^^ d else if t < 60 then (b &&& c) ||| (d &&& (b ||| c)) else b ^^^ c ^^^ d
def mixk (t : Nat) : UInt32 := if t < 20 then 1518500249 else if t < 40 then 1859775393 else if t < 60 then 2400959708 else 3395469782
structure S5 where
  a : UInt32
  b : UInt32
  c : UInt32
  d : UInt32
  e : UInt32
def S5.list (s : S5) : List UInt32 := [s.a, s.b, s.c, s.d, s.e]
def S5.plus (s t : S5) : S5 := ⟨s.a + t.a, s.b + t.b, s.c + t.c, s.d + t.d, s.e + t.e⟩
def rnd (t : Nat) (w : UInt32) (s : S5) : S5 := ⟨rotl s.a 5 + mixf t s.b s.c s.d + s.e + w + mixk t, s.a, rotl s.b 30, s.c, s.d⟩
/-- The state behind k rounds. -/
def st (W : List UInt32) (s : S5) : Nat → S5
  | 0 => s
  | k + 1 => rnd k (W.getD k 0) (st W s k)
/-- The word that four bytes make. -/
def word4 (a b c d : UInt8) : UInt32 := UInt32.ofNat (((a.toNat * 2 ^ 24 ||| b.toNat * 2 ^ 16) ||| c.toNat * 2 ^ 8) ||| d.toNat)
def wordAt (p : List UInt8) (t : Nat) : UInt32 := word4 (p.getD (4 * t) 0) (p.getD (4 * t + 1) 0) (p.getD (4 * t + 2) 0) (p.getD (4 * t + 3) 0)
def base (p : List UInt8) : Nat → List UInt32
  | 0 => []
  | k + 1 => base p k ++ [wordAt p k]
def nextW (l : List UInt32) : UInt32 := rotl (l.getD (l.length - 3) 0 ^^^ l.getD (l.length - 8) 0 ^^^ l.getD (l.length - 14) 0 ^^^ l.getD (l.length - 16) 0) 1
def ext (l : List UInt32) : Nat → List UInt32
  | 0 => l
  | k + 1 => ext l k ++ [nextW (ext l k)]
def sched (p : List UInt8) : List UInt32 := ext (base p 16) 64
@[simp] theorem length_base (p : List UInt8) (k : Nat) : (base p k).length = k := by
  induction k with
  | zero => rfl
  | succ k ih => simp [base, ih]
@[simp] theorem length_ext (l : List UInt32) (k : Nat) : (ext l k).length = l.length + k := by
  induction k with
  | zero => rfl
  | succ k ih => simp [ext, ih]; omega
theorem length_sched (p : List UInt8) : (sched p).length = 80 := by simp [sched]
/-- A block. -/
def comp (h : S5) (p : List UInt8) : S5 := h.plus (st (sched p) h 80)

/-- What a sum holds. -/
structure Sum where
  h : S5
  part : List UInt8
  n : Nat
def Sum.add1 (s : Sum) (c : UInt8) : Sum := ⟨if s.n % 64 = 63 then comp s.h (s.part.set (s.n % 64) c) else s.h, s.part.set (s.n % 64) c, s.n + 1⟩
def Sum.add (s : Sum) (l : List UInt8) : Sum := l.foldl Sum.add1 s
def Sum.pad : Nat → Sum → Sum
  | 0, s => s
  | k + 1, s => if s.n % 64 = 56 then s else Sum.pad k (s.add1 0)
def be8 (n : Nat) : List UInt8 := (List.range 8).map fun i => UInt8.ofNat (n / 2 ^ (56 - 8 * i))
def S5.out (h : S5) : List UInt8 := (List.range 20).map fun i => UInt8.ofNat ((h.list.getD (i / 4) 0).toNat / 2 ^ (24 - 8 * (i % 4)))
def Sum.full (s : Sum) : Sum := (Sum.pad 64 (s.add1 128)).add (be8 (s.n * 8))
def Sum.told (s : Sum) : List UInt8 := s.full.h.out
def start : S5 := ⟨1732584193, 4023233417, 2562383102, 271733878, 3285377520⟩
def Sum.init : Sum := ⟨start, List.replicate 64 0, 0⟩
def sumOf (l : List UInt8) : List UInt8 := (Sum.init.add l).told
theorem Sum.add_append (s : Sum) (a b : List UInt8) : s.add (a ++ b) = (s.add a).add b := List.foldl_append
end Go.Proofs.YtogojfmaiphiaaaDoor
