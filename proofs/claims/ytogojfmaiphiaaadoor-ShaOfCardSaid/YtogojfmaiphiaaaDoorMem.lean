/- Lemmas on memory alone: what a world keeps, bytes as cells, and the laws of copy, conversions and make in the form that the walks of this seat use. No program is named here. -/
import Derived.WalkKit
import Derived.Laws.CopyOwn
import Derived.Deep.RegionLaw
import Derived.Deep.Draws
import Derived.Lib.Hide
import Derived.Lib.SlBytesConst
namespace Go.Proofs.YtogojfmaiphiaaaDoor
open Go.RowKit

/-- Bytes as cells. -/
def bts (l : List UInt8) : List Value := l.map fun c => Value.int .u8 (c.toNat : Int)
@[simp] theorem length_bts (l : List UInt8) : (bts l).length = l.length := by simp [bts]
theorem bts_one (l : List UInt8) : ∀ v ∈ bts l, v.oneCell' = true := by
  intro v hv
  obtain ⟨_, _, rfl⟩ := List.mem_map.1 hv
  rfl
theorem bts_at (l : List UInt8) (j : Nat) (h : j < l.length) : (bts l)[j]? = some (.int .u8 (l[j].toNat : Int)) := by
  simp [bts, h]
theorem bts_inj {a b : List UInt8} (h : bts a = bts b) : a = b := by
  unfold bts at h
  refine List.map_inj_right ?_ |>.1 h
  intro x y hxy
  simp only [Value.int.injEq, true_and, Int.natCast_inj] at hxy
  exact UInt8.toNat_inj.1 hxy

/-- Texts as lists of bytes. -/
theorem len_data (s : ByteArray) : s.data.toList.length = s.size := Array.length_toList
theorem data_append (s t : ByteArray) : (s ++ t).data.toList = s.data.toList ++ t.data.toList := by rw [ByteArray.data_append, Array.toList_append]
theorem data_extract (s : ByteArray) (i j : Nat) : (s.extract i j).data.toList = (s.data.toList.take j).drop i := by
  rw [ByteArray.data_extract, Array.toList_extract]
  simp [List.extract_eq_take_drop, List.drop_take]
theorem size_mk (l : List UInt8) : (⟨l.toArray⟩ : ByteArray).size = l.length := List.size_toArray
theorem data_ext {s t : ByteArray} (h : s.data.toList = t.data.toList) : s = t := by
  cases s; cases t
  congr 1
  exact Array.toList_inj.1 h

/-- Outside the blocks of S the old memory is as it was. -/
structure Keeps (S : Nat → Prop) (w w' : World) : Prop where
  os : w'.os = w.os
  tape : w'.tape = w.tape
  output : w'.output = w.output
  size : w.heap.size ≤ w'.heap.size
  block : ∀ k, k < w.heap.size → ¬ S k → w'.heap[k]? = w.heap[k]?
/-- All old memory is as it was. -/
abbrev Still (w w' : World) : Prop := Keeps (fun _ => False) w w'
section
variable {S T : Nat → Prop} {w w' a b c : World}
theorem Keeps.refl (S : Nat → Prop) (w : World) : Keeps S w w := ⟨rfl, rfl, rfl, Nat.le_refl _, fun _ _ _ => rfl⟩
theorem Keeps.trans (h : Keeps S a b) (k : Keeps S b c) : Keeps S a c :=
  ⟨k.os.trans h.os, k.tape.trans h.tape, k.output.trans h.output, Nat.le_trans h.size k.size, fun i hi hn => (k.block i (Nat.lt_of_lt_of_le hi h.size) hn).trans (h.block i hi hn)⟩
theorem Keeps.mono (h : Keeps S a b) (hST : ∀ k, k < a.heap.size → S k → T k) : Keeps T a b :=
  ⟨h.os, h.tape, h.output, h.size, fun i hi hn => h.block i hi (fun hs => hn (hST i hi hs))⟩
theorem Keeps.drew (h : Keeps S a b) : Keeps S a b.drew := ⟨h.os, h.tape, h.output, h.size, h.block⟩
theorem Keeps.drewN (h : Keeps S a b) (n : Nat) : Keeps S a (b.drewN n) := ⟨h.os, h.tape, h.output, h.size, h.block⟩
theorem Keeps.alloc (h : Keeps S a b) (o : Obj) : Keeps S a (b.alloc o) :=
  h.trans ⟨rfl, rfl, rfl, by simp, fun k hk _ => Below.heap_alloc _ _ _ hk⟩
theorem Keeps.setCell (h : Keeps S a b) {p : Addr} (hp : S p.block) (u : Value) : Keeps S a (b.setCell p u) :=
  h.trans ⟨rfl, rfl, rfl, by simp [World.setCell], fun k _ hn => Below.heap_setCell _ _ _ _ (fun e => hn (e ▸ hp))⟩
theorem Keeps.setRow (h : Keeps S a b) {g : Nat} (hp : S g) (cs : Array Value) : Keeps S a (b.setRow g cs) :=
  h.trans ⟨rfl, rfl, rfl, by simp [World.setRow], fun k _ hn => setRow_other _ _ _ _ (fun e => hn (e ▸ hp))⟩
theorem Keeps.on (h : Keeps T a b) (k : Keeps S b c) (hS : ∀ i, i < a.heap.size → S i → T i) : Keeps T a c :=
  ⟨k.os.trans h.os, k.tape.trans h.tape, k.output.trans h.output, Nat.le_trans h.size k.size, fun i hi hn => by
    rw [k.block i (Nat.lt_of_lt_of_le hi h.size) (fun e => hn (hS i hi e)), h.block i hi hn]⟩
theorem Keeps.fresh {w1 w2 w3 : World} (h : Still w w1) (h2 : Keeps (fun k => k = w.heap.size) w1 w2) (h3 : Keeps (fun k => k = w.heap.size) w2 w3) : Still w w3 :=
  ⟨h3.os.trans (h2.os.trans h.os), h3.tape.trans (h2.tape.trans h.tape), h3.output.trans (h2.output.trans h.output), Nat.le_trans h.size (Nat.le_trans h2.size h3.size), fun k hk _ => by
    have e : ¬ k = w.heap.size := by omega
    have s1 := h.size
    have s2 := h2.size
    rw [h3.block k (by omega) e, h2.block k (by omega) e, h.block k hk id]⟩
theorem Keeps.drewN_of {n : Nat} (h : Keeps S (a.drewN n) b) : Keeps S a b := ⟨h.os, h.tape, h.output, h.size, h.block⟩
theorem Keeps.drew_of (h : Keeps S a.drew b) : Keeps S a b := ⟨h.os, h.tape, h.output, h.size, h.block⟩
theorem Keeps.still (h : Still a b) : Keeps S a b := h.mono fun _ _ => False.elim
theorem Keeps.below' (h : Still w w') : Below w.heap.size w w' := ⟨h.os, h.tape, h.output, h.size, fun k hk => h.block k hk id⟩
theorem Keeps.new {B : Nat} (h : ∀ k, k < w.heap.size → w'.heap[k]? = w.heap[k]?) (o : w'.os = w.os) (t : w'.tape = w.tape) (p : w'.output = w.output) (s : w.heap.size ≤ w'.heap.size) : Keeps (fun k => B ≤ k) w w' :=
  ⟨o, t, p, s, fun k hk _ => h k hk⟩
theorem Keeps.at_ (h : Keeps S w w') {k : Nat} {o : Obj} (hk : w.heap[k]? = some o) (hn : ¬ S k) : w'.heap[k]? = some o := by
  rw [h.block k (lt_of_block hk) hn]; exact hk
theorem Keeps.cell (h : Keeps S w w') {p : Addr} {v : Value} (hp : w.cell? p = some v) (hn : ¬ S p.block) : w'.cell? p = some v :=
  (World.cell?_of_block (w := w) (h.block p.block (World.block_lt_of_cell? w p hp) hn)).trans hp
theorem Keeps.below (h : Keeps S w w') {B : Nat} (hB : B ≤ w.heap.size) (hS : ∀ k, k < B → ¬ S k) : Below B w w' :=
  ⟨h.os, h.tape, h.output, h.size, fun k hk => h.block k (by omega) (hS k hk)⟩
theorem Keeps.of_below (h : Below w.heap.size w w') : Keeps S w w' := ⟨h.os, h.tape, h.output, h.size, fun k hk _ => h.block k hk⟩
theorem Below.keeps {B : Nat} {W : World} (h : Below B W w) (hk : Keeps S w w') (hB : B ≤ w.heap.size) (hS : ∀ k, k < B → ¬ S k) : Below B W w' := h.trans (hk.below hB hS)
end

/-- A slice of bytes that reads as l. -/
def SliceOf (w : World) (A : Option Addr) (n : Nat) (l : List UInt8) : Prop :=
  l.length = n ∧ (0 < n → ∃ g off, A = some ⟨g, off, none⟩ ∧ g < w.heap.size ∧ ∀ j (h : j < l.length), w.cell? ⟨g, off + j, none⟩ = some (.int .u8 (l[j].toNat : Int)))
theorem SliceOf.keeps {S : Nat → Prop} {w w' : World} {A : Option Addr} {n : Nat} {l : List UInt8} (h : SliceOf w A n l) (hk : Keeps S w w') (hA : ∀ ad, A = some ad → ¬ S ad.block) : SliceOf w' A n l := by
  refine ⟨h.1, fun hn => ?_⟩
  obtain ⟨g, off, rfl, hg, hc⟩ := h.2 hn
  exact ⟨g, off, rfl, Nat.lt_of_lt_of_le hg hk.size, fun j hj => hk.cell (hc j hj) (hA ⟨g, off, none⟩ rfl)⟩
theorem SliceOf.below {B : Nat} {w w' : World} {A : Option Addr} {n : Nat} {l : List UInt8} (h : SliceOf w A n l) (hk : Below B w w') (hA : ∀ ad, A = some ad → ad.block < B) : SliceOf w' A n l := by
  refine ⟨h.1, fun hn => ?_⟩
  obtain ⟨g, off, rfl, hg, hc⟩ := h.2 hn
  exact ⟨g, off, rfl, Nat.lt_of_lt_of_le hg hk.size, fun j hj => (hk.cell (p := ⟨g, off + j, none⟩) (hA ⟨g, off, none⟩ rfl)).trans (hc j hj)⟩
theorem SliceOf.cut {w : World} {A : Option Addr} {n : Nat} {l : List UInt8} (h : SliceOf w A n l) (i : Nat) (hi : i ≤ n) {A' : Option Addr}
    (hA : i < n → A' = A.map (·.add i)) : SliceOf w A' (n - i) (l.drop i) := by
  refine ⟨by simp [h.1], fun hn => ?_⟩
  obtain ⟨g, off, rfl, hg, hc⟩ := h.2 (by omega)
  refine ⟨g, off + i, by rw [hA (by omega)]; simp [Addr.add_lit], hg, fun j hj => ?_⟩
  have hj' : i + j < l.length := by simpa [Nat.lt_sub_iff_add_lt, Nat.add_comm] using hj
  have := hc (i + j) hj'
  rw [Nat.add_assoc, this]; simp
theorem SliceOf.front {w : World} {A : Option Addr} {n : Nat} {l : List UInt8} (h : SliceOf w A n l) (i : Nat) (hi : i ≤ n) : SliceOf w A i (l.take i) := by
  refine ⟨by simp [h.1, hi], fun hn => ?_⟩
  obtain ⟨g, off, rfl, hg, hc⟩ := h.2 (by omega)
  refine ⟨g, off, rfl, hg, fun j hj => ?_⟩
  have hj' : j < l.length := by have := h.1; simp at hj; omega
  rw [hc j hj']; simp
/-- What 'copy' asks of its source. -/
theorem SliceOf.source {w : World} {A : Option Addr} {n : Nat} {l : List UInt8} (h : SliceOf w A n l) (k : Nat) :
    0 < (bts (l.take k)).length → ∃ ad, A = some ad ∧ ∀ j v, (bts (l.take k))[j]? = some v → w.cell? (ad.add j) = some v := by
  intro hp
  have hl := h.1
  obtain ⟨g, off, rfl, _, hc⟩ := h.2 (by simp at hp; omega)
  refine ⟨_, rfl, fun j v hj => ?_⟩
  have hjl : j < (bts (l.take k)).length := by
    rcases Nat.lt_or_ge j (bts (l.take k)).length with h | h
    · exact h
    · rw [List.getElem?_eq_none h] at hj; cases hj
  have hj1 : j < (l.take k).length := by simpa using hjl
  have hj2 : j < l.length := by simp at hj1; omega
  rw [bts_at _ _ hj1] at hj
  rw [Addr.add_lit, hc j hj2, ← hj]
  simp

/-- A new block that reads as l. -/
theorem slice_new (w : World) (C : Array Value) (t : TypeId) (fr : Nat × Nat) (l : List UInt8) (n : Nat) (hn : l.length = n) (hC : C.toList = bts l) : SliceOf (w.alloc (.cells C t fr)) (some ⟨w.heap.size, 0, none⟩) n l := by
  refine ⟨hn, fun _ => ⟨_, 0, rfl, by simp, fun j hj => ?_⟩⟩
  rw [Nat.zero_add, World.cell?_alloc_mark, ← bts_at l j hj, ← hC, Array.getElem?_toList]

/-- The same behind a cut 'b[i:]'. -/
theorem SliceOf.cut_source {w : World} {A : Option Addr} {n : Nat} {l : List UInt8} (h : SliceOf w A n l) (i : Nat) (hi : i < n) {A' : Option Addr} (hA : i < n → A' = A.map (·.add i)) :
    ∃ ad, A' = some ad ∧ ∀ j v, (bts (l.drop i))[j]? = some v → w.cell? (ad.add j) = some v := by
  have hc := h.cut i (Nat.le_of_lt hi) (A' := A') hA
  have := hc.source (n - i)
  have hl := h.1
  rw [List.take_of_length_le (by simp; omega)] at this
  exact this (by simp; omega)

/-- copy(dst, src), dst in a row that is known whole, src whatever: the law at the operation. -/
theorem wpList_copy_keeps {P : Program} {w : World} {ops : Array Oper} {rest : List Oper} {o : Oper} {a : Act} {Q : Exit → Act → World → Prop} (hgd : o.guard = none) (d s : Operand) (dT sT : TypeId)
    (ho : o.op = .call { callee := .builtin .copy, args := #[d, s], argTypes := #[dT, sT] }) (elem : TypeId) (hu : P.underlying dT = some (.slice elem)) (hsz : (P.info? elem).map (·.size) = some 1)
    (dp sp : Option Addr) (dLen dCap sLen sCap : Nat) (hd : a.eval d = .slice dp dLen dCap) (hs : a.eval s = .slice sp sLen sCap)
    (g off : Nat) (cur : List Value) (t : TypeId) (hg : w.heap[g]? = some (.cells cur.toArray t (0, 0))) (cs : List Value) (k : Nat) (hk : cs.length = k) (hn : k = Nat.min sLen dLen)
    (hpos : 0 < k → dp = some ⟨g, off, none⟩ ∧ ∃ ad, sp = some ad ∧ ∀ j v, cs[j]? = some v → w.cell? (ad.add j) = some v)
    (hfit : off + k ≤ cur.length) (h1 : ∀ v ∈ cs, v.oneCell' = true)
    (h : ∀ w', Hid (w'.heap[g]? = some (.cells (splice cur off cs).toArray t (0, 0))) → Keeps (fun k => k = g) w w' → wpList P ops Q rest (a.put o.dst (.int .i64 (k : Int))) w') :
    wpList P ops Q (o :: rest) a w := by
  subst hk
  by_cases h0 : cs.length = 0
  · obtain rfl : cs = [] := List.eq_nil_of_length_eq_zero h0
    refine wpList_copy_nothing hgd d s dT sT ho elem hu hsz dp sp dLen dCap sLen sCap hd hs (by simpa using hn.symm) ?_
    exact h w (show _ = _ by simpa [splice] using hg) (Keeps.refl _ _)
  · obtain ⟨rfl, ad, rfl, hsrc⟩ := hpos (by omega)
    refine wpList_copy_own hgd d s dT sT ho elem hu hsz g off dLen dCap ad sLen sCap hd hs cur.toArray t hg cs hn hsrc (by simpa using hfit) h1 ?_
    exact h _ (show _ = _ by simpa [splice] using setRow_heap w g _ _ t _ hg) ((Keeps.refl (fun k => k = g) w).setRow rfl _)

/-- The same as one step of a region that draws its order. -/
theorem step_copy_keeps {P : Program} {ops : Array Oper} {o : Oper} {a : Act} {w : World} {K : Act → World → Prop} {Q : Exit → Act → World → Prop} {E : Prop} (hgd : o.guard = none) (d s : Operand) (dT sT : TypeId)
    (ho : o.op = .call { callee := .builtin .copy, args := #[d, s], argTypes := #[dT, sT] }) (elem : TypeId) (hu : P.underlying dT = some (.slice elem)) (hsz : (P.info? elem).map (·.size) = some 1)
    (dp sp : Option Addr) (dLen dCap sLen sCap : Nat) (hd : a.eval d = .slice dp dLen dCap) (hs : a.eval s = .slice sp sLen sCap)
    (g off : Nat) (cur : List Value) (t : TypeId) (hg : w.heap[g]? = some (.cells cur.toArray t (0, 0))) (cs : List Value) (k : Nat) (hk : cs.length = k) (hn : k = Nat.min sLen dLen)
    (hpos : 0 < k → dp = some ⟨g, off, none⟩ ∧ ∃ ad, sp = some ad ∧ ∀ j v, cs[j]? = some v → w.cell? (ad.add j) = some v)
    (hfit : off + k ≤ cur.length) (h1 : ∀ v ∈ cs, v.oneCell' = true)
    (h : ∀ w', Hid (w'.heap[g]? = some (.cells (splice cur off cs).toArray t (0, 0))) → Keeps (fun k => k = g) w w' → K (a.put o.dst (.int .i64 (k : Int))) w') :
    if Region.wanted o (yielded ops a.tmps) = true then Oper.wp P o a w K Q else E := by
  have hw : Region.wanted o (yielded ops a.tmps) = true := by simp [Region.wanted, hgd]
  rw [if_pos hw]
  subst hk
  by_cases h0 : cs.length = 0
  · obtain rfl : cs = [] := List.eq_nil_of_length_eq_zero h0
    have hrun := run_copy_none (P := P) w dT sT o.type elem dp sp dLen dCap sLen sCap hu hsz (by simpa using hn.symm)
    unfold Oper.wp
    simp [execOp, ho, resolve, invoke, builtin, hd, hs, hrun, Result.andThen]
    exact h w (show _ = _ by simpa [splice] using hg) (Keeps.refl _ _)
  · obtain ⟨rfl, ad, rfl, hsrc⟩ := hpos (by omega)
    have hrun := run_copy_row (P := P) w dT sT o.type elem g off dLen dCap ad sLen sCap cur.toArray t cs hu hsz hg hn hsrc (by simpa using hfit) h1
    unfold Oper.wp
    simp [execOp, ho, resolve, invoke, builtin, hd, hs, hrun, Result.andThen]
    exact h _ (show _ = _ by simpa [splice] using setRow_heap w g _ _ t _ hg) ((Keeps.refl (fun k => k = g) w).setRow rfl _)

/-- []byte(s): a new block that reads as s. -/
theorem wpList_bytes {P : Program} {w : World} {ops : Array Oper} {rest : List Oper} {o : Oper} {a : Act} {Q : Exit → Act → World → Prop} (hgd : o.guard = none) (x : Operand) (src dst : TypeId)
    (ho : o.op = .convert src dst x) (e : TypeId) (hs : P.underlying src = some .string) (hd : P.underlying dst = some (.slice e)) (he : P.underlying e = some (.int .u8)) (s : ByteArray) (hx : a.eval x = .string s)
    (h : ∀ w' c, Still w w' → w.heap.size < w'.heap.size → s.size ≤ c → SliceOf w' (some ⟨w.heap.size, 0, none⟩) s.size s.data.toList →
      (∀ j, j < s.size → w'.frozen? ⟨w.heap.size, j, none⟩ = false) → wpList P ops Q rest (a.put o.dst (.slice (some ⟨w.heap.size, 0, none⟩) s.size c)) w') :
    wpList P ops Q (o :: rest) a w := by
  refine wpList_plain hgd fun K hK => ?_
  have hrun := run_bytes_of_string (P := P) w src dst e s hs hd he
  unfold Oper.wp
  simp only [execOp, ho, hx, Sem.run_bind, Sem.run_pure, hrun, Result.andThen_ok]
  refine hK _ _ (h _ _ (((Keeps.refl _ _).drew).alloc _) (by simp) (grownCap_ge _ _ _ _) ⟨Array.length_toList, fun hn => ⟨_, 0, rfl, by simp, fun j hj => ?_⟩⟩ fun j hj => ?_)
  · have hj' : j < s.data.size := by simpa using hj
    rw [Nat.zero_add]
    refine (World.cell?_alloc_mark w.drew _ _ _ j).trans ?_
    rw [bytesRow_at s _ j hj']; simp
  · refine (World.frozen?_alloc_mark w.drew _ _ _ _ j).trans ?_
    have h1 : s.data.size ≤ (bytesRow s (grownCap w s.size 0 e)).size := by
      rw [bytesRow, Array.size_append, Array.size_map]; omega
    have h2 : j < s.data.size := hj
    rw [decide_eq_false (by omega), Bool.false_and]

/-- min and max of two integers, the outcome under a name. -/
theorem wpList_min {P : Program} {w : World} {ops : Array Oper} {rest : List Oper} {o : Oper} {a : Act} {Q : Exit → Act → World → Prop} (hgd : o.guard = none) (x y : Operand) (tx ty : TypeId)
    (ho : o.op = .call { callee := .builtin .min, args := #[x, y], argTypes := #[tx, ty] }) (k k' : IntKind) (X Y m : Int) (hx : a.eval x = .int k X) (hy : a.eval y = .int k' Y) (hm : m = min X Y)
    (h : wpList P ops Q rest (a.put o.dst (.int k m)) w) : wpList P ops Q (o :: rest) a w := by
  refine wpList_plain hgd fun K hK => ?_
  have hrun := run_min_int2 (P := P) (w := w) #[tx, ty] o.type k k' X Y
  rw [show (if Y < X then Y else X) = m by rw [hm]; split <;> omega] at hrun
  unfold Oper.wp
  simp only [execOp, ho, resolve, invoke, builtin, Sem.run_bind, Sem.run_pure, Result.andThen_ok, List.map_toArray, List.map_cons, List.map_nil, hx, hy, hrun]
  exact hK _ _ h
theorem wpList_max {P : Program} {w : World} {ops : Array Oper} {rest : List Oper} {o : Oper} {a : Act} {Q : Exit → Act → World → Prop} (hgd : o.guard = none) (x y : Operand) (tx ty : TypeId)
    (ho : o.op = .call { callee := .builtin .max, args := #[x, y], argTypes := #[tx, ty] }) (k k' : IntKind) (X Y m : Int) (hx : a.eval x = .int k X) (hy : a.eval y = .int k' Y) (hm : m = max X Y)
    (h : wpList P ops Q rest (a.put o.dst (.int k m)) w) : wpList P ops Q (o :: rest) a w := by
  refine wpList_plain hgd fun K hK => ?_
  have hrun : (Builtin.max_ #[tx, ty] o.type #[.int k X, .int k' Y]).run P w = .ok (.int k m) w := by
    have e : (if Y > X then Y else X) = m := by rw [hm]; split <;> omega
    simp [Builtin.max_, Builtin.max2]
    exact e
  unfold Oper.wp
  simp only [execOp, ho, resolve, invoke, builtin, Sem.run_bind, Sem.run_pure, Result.andThen_ok, List.map_toArray, List.map_cons, List.map_nil, hx, hy, hrun]
  exact hK _ _ h

/-- What min and max yield in whatever world. -/
theorem exec_min {P : Program} {o : Oper} {a : Act} (x y : Operand) (tx ty : TypeId)
    (ho : o.op = .call { callee := .builtin .min, args := #[x, y], argTypes := #[tx, ty] }) (k k' : IntKind) (X Y m : Int) (hx : a.eval x = .int k X) (hy : a.eval y = .int k' Y) (hm : m = min X Y) (w : World) :
    (execOp a.eval o).run P w = .ok (.value (.int k m)) w := by
  have hrun := run_min_int2 (P := P) (w := w) #[tx, ty] o.type k k' X Y
  rw [show (if Y < X then Y else X) = m by rw [hm]; split <;> omega] at hrun
  simp only [execOp, ho, resolve, invoke, builtin, Sem.run_bind, Sem.run_pure, Result.andThen_ok, List.map_toArray, List.map_cons, List.map_nil, hx, hy, hrun]
theorem exec_max {P : Program} {o : Oper} {a : Act} (x y : Operand) (tx ty : TypeId)
    (ho : o.op = .call { callee := .builtin .max, args := #[x, y], argTypes := #[tx, ty] }) (k k' : IntKind) (X Y m : Int) (hx : a.eval x = .int k X) (hy : a.eval y = .int k' Y) (hm : m = max X Y) (w : World) :
    (execOp a.eval o).run P w = .ok (.value (.int k m)) w := by
  have hrun : (Builtin.max_ #[tx, ty] o.type #[.int k X, .int k' Y]).run P w = .ok (.int k m) w := by
    have e : (if Y > X then Y else X) = m := by rw [hm]; split <;> omega
    simp [Builtin.max_, Builtin.max2]
    exact e
  simp only [execOp, ho, resolve, invoke, builtin, Sem.run_bind, Sem.run_pure, Result.andThen_ok, List.map_toArray, List.map_cons, List.map_nil, hx, hy, hrun]

/-- The same as one step of a region that draws its order. -/
theorem step_min {P : Program} {ops : Array Oper} {o : Oper} {a : Act} {w : World} {K : Act → World → Prop} {Q : Exit → Act → World → Prop} {E : Prop} (hw : Region.wanted o (yielded ops a.tmps) = true) (x y : Operand) (tx ty : TypeId)
    (ho : o.op = .call { callee := .builtin .min, args := #[x, y], argTypes := #[tx, ty] }) (k k' : IntKind) (X Y m : Int) (hx : a.eval x = .int k X) (hy : a.eval y = .int k' Y) (hm : m = min X Y)
    (h : K (a.put o.dst (.int k m)) w) : if Region.wanted o (yielded ops a.tmps) = true then Oper.wp P o a w K Q else E := by
  rw [if_pos hw]
  have hrun := run_min_int2 (P := P) (w := w) #[tx, ty] o.type k k' X Y
  rw [show (if Y < X then Y else X) = m by rw [hm]; split <;> omega] at hrun
  unfold Oper.wp
  simp only [execOp, ho, resolve, invoke, builtin, Sem.run_bind, Sem.run_pure, Result.andThen_ok, List.map_toArray, List.map_cons, List.map_nil, hx, hy, hrun]
  exact h
theorem step_max {P : Program} {ops : Array Oper} {o : Oper} {a : Act} {w : World} {K : Act → World → Prop} {Q : Exit → Act → World → Prop} {E : Prop} (hw : Region.wanted o (yielded ops a.tmps) = true) (x y : Operand) (tx ty : TypeId)
    (ho : o.op = .call { callee := .builtin .max, args := #[x, y], argTypes := #[tx, ty] }) (k k' : IntKind) (X Y m : Int) (hx : a.eval x = .int k X) (hy : a.eval y = .int k' Y) (hm : m = max X Y)
    (h : K (a.put o.dst (.int k m)) w) : if Region.wanted o (yielded ops a.tmps) = true then Oper.wp P o a w K Q else E := by
  rw [if_pos hw]
  have hrun : (Builtin.max_ #[tx, ty] o.type #[.int k X, .int k' Y]).run P w = .ok (.int k m) w := by
    have e : (if Y > X then Y else X) = m := by rw [hm]; split <;> omega
    simp [Builtin.max_, Builtin.max2]
    exact e
  unfold Oper.wp
  simp only [execOp, ho, resolve, invoke, builtin, Sem.run_bind, Sem.run_pure, Result.andThen_ok, List.map_toArray, List.map_cons, List.map_nil, hx, hy, hrun]
  exact h

/-- string(b). -/
theorem run_string_of {P : Program} {w : World} {src dst e : TypeId} {A : Option Addr} {n cap : Nat} {l : List UInt8} (hs : P.underlying src = some (.slice e)) (he : P.underlying e = some (.int .u8)) (hd : P.underlying dst = some .string)
    (h : SliceOf w A n l) : (convert src dst (.slice A n cap)).run P w = .ok (.string ⟨l.toArray⟩) w := by
  obtain ⟨hl, hp⟩ := h
  subst hl
  by_cases h0 : 0 < l.length
  · obtain ⟨g, off, rfl, _, hc⟩ := hp h0
    exact run_convert_bytes_back w src dst e _ cap l hs he hd fun j hj => by rw [Addr.add_lit]; exact hc j hj
  · obtain rfl : l = [] := List.eq_nil_of_length_eq_zero (by omega)
    cases A with
    | none => rw [run_convert_bytes_nil w src e hs he _ _ dst hd]; rfl
    | some ad => exact run_convert_bytes_back w src dst e _ cap [] hs he hd fun j hj => by simp at hj
theorem run_string_as {P : Program} {w : World} {src dst e : TypeId} {A : Option Addr} {n cap : Nat} {l : List UInt8} (hs : P.underlying src = some (.slice e)) (he : P.underlying e = some (.int .u8)) (hd : P.underlying dst = some .string)
    (q : ByteArray) (h : SliceOf w A n l) (hq : q.data.toList = l) : (convert src dst (.slice A n cap)).run P w = .ok (.string q) w := by
  subst hq
  exact run_string_of hs he hd h
theorem step_string {P : Program} {ops : Array Oper} {o : Oper} {a : Act} {w : World} {K : Act → World → Prop} {Q : Exit → Act → World → Prop} {E : Prop} (hw : Region.wanted o (yielded ops a.tmps) = true) (x : Operand) (src dst : TypeId)
    (ho : o.op = .convert src dst x) (e : TypeId) (hs : P.underlying src = some (.slice e)) (he : P.underlying e = some (.int .u8)) (hd : P.underlying dst = some .string) (A : Option Addr) (n cap : Nat) (l : List UInt8) (q : ByteArray) (hx : a.eval x = .slice A n cap)
    (hl : SliceOf w A n l) (hq : q.data.toList = l) (h : K (a.put o.dst (.string q)) w) :
    if Region.wanted o (yielded ops a.tmps) = true then Oper.wp P o a w K Q else E := by
  rw [if_pos hw]
  subst hq
  have hrun := run_string_of (P := P) (cap := cap) hs he hd hl
  unfold Oper.wp
  simp only [execOp, ho, hx, Sem.run_bind, Sem.run_pure, hrun, Result.andThen_ok]
  exact h
theorem wpList_string {P : Program} {w : World} {ops : Array Oper} {rest : List Oper} {o : Oper} {a : Act} {Q : Exit → Act → World → Prop} (hgd : o.guard = none) (x : Operand) (src dst : TypeId)
    (ho : o.op = .convert src dst x) (e : TypeId) (hs : P.underlying src = some (.slice e)) (he : P.underlying e = some (.int .u8)) (hd : P.underlying dst = some .string) (A : Option Addr) (n cap : Nat) (l : List UInt8) (hx : a.eval x = .slice A n cap)
    (hl : SliceOf w A n l) (h : wpList P ops Q rest (a.put o.dst (.string ⟨l.toArray⟩)) w) :
    wpList P ops Q (o :: rest) a w := by
  refine wpList_plain hgd fun K hK => ?_
  have hrun := run_string_of (P := P) (cap := cap) hs he hd hl
  unfold Oper.wp
  simp only [execOp, ho, hx, Sem.run_bind, Sem.run_pure, hrun, Result.andThen_ok]
  exact hK _ _ h

/-- make([]byte, n). -/
theorem wpList_zeros {P : Program} {w : World} {ops : Array Oper} {rest : List Oper} {o : Oper} {a : Act} {Q : Exit → Act → World → Prop}
    (hg : o.guard = none) (l c : Operand) (t : TypeId) (hop : o.op = Op.makeSlice t l c)
    (e : TypeId) (h1 : P.underlying t = some (.slice e)) (h2 : (P.info? e).map (fun i => (i.zero, i.size, i.bytes)) = some (some (.int .u8 0), 1, 1))
    (kl kc : IntKind) (L C : Int) (n : Nat) (hl : a.eval l = .int kl L) (hc : a.eval c = .int kc C) (hL : L = (n : Int)) (hC : C = (n : Int)) (b2 : n ≤ 281474976710656)
    (hK : ∀ w', Still w w' → w'.heap.size = w.heap.size + 1 → Hid (w'.heap[w.heap.size]? = some (.cells (List.replicate n (Value.int .u8 0)).toArray e (0, 0))) →
      wpList P ops Q rest (a.put o.dst (.slice (some ⟨w.heap.size, 0, none⟩) n n)) w') :
    wpList P ops Q (o :: rest) a w := by
  refine wpList_plain hg fun K hK' => ?_
  obtain ⟨i, hi, hz, hsz, hby⟩ := info_parts h2
  have hrun := run_make (P := P) w t e i _ h1 hi hz kl kc n n (by omega) (Int.le_refl _) (by rw [hby]; omega) (by omega)
  subst hL
  subst hC
  unfold Oper.wp
  simp only [execOp, hop, hl, hc, Sem.run_bind, Sem.run_pure, hrun, Result.andThen_ok, Int.toNat_natCast]
  refine hK' _ _ (hK _ ((Keeps.refl _ _).alloc _) (by simp) ?_)
  show _ = _
  rw [heap_alloc_new, hsz, Nat.mul_one]
  congr 2
  rw [← Array.toList_inj, show (Value.int IntKind.u8 0).cells = #[Value.int IntKind.u8 0] from rfl, toList_madeCells_one]
end Go.Proofs.YtogojfmaiphiaaaDoor
