/- What a sum is in memory; New, Len, text. -/
import Derived.Test.YtogojfmaiphiaaaDoorArith
import Derived.Great.Ranges
namespace Go.Proofs.YtogojfmaiphiaaaDoor
open Go.RowKit

def ws (l : List UInt32) : List Value := l.map fun c => Value.int .u32 (c.toNat : Int)
@[simp] theorem length_ws (l : List UInt32) : (ws l).length = l.length := by simp [ws]
theorem ws_append (a b : List UInt32) : ws (a ++ b) = ws a ++ ws b := by simp [ws]
theorem bts_append (a b : List UInt8) : bts (a ++ b) = bts a ++ bts b := by simp [bts]
/-- The cells of a sum. -/
def cellsSum (s : Sum) : List Value := ws s.h.list ++ (bts s.part ++ [.int .u64 (s.n : Int)])
/-- A sum in memory. -/
def SumAt (w : World) (p : Nat) (s : Sum) : Prop := s.part.length = 64 ∧ w.heap[p]? = some (.cells (cellsSum s).toArray 46 (0, 0))
/-- The variable 'start' as the program's text lays it. -/
def Start (w : World) : Prop := w.cell? ⟨0, 0, none⟩ = some (.int .u32 1732584193) ∧ w.cell? ⟨0, 1, none⟩ = some (.int .u32 4023233417) ∧ w.cell? ⟨0, 2, none⟩ = some (.int .u32 2562383102) ∧
  w.cell? ⟨0, 3, none⟩ = some (.int .u32 271733878) ∧ w.cell? ⟨0, 4, none⟩ = some (.int .u32 3285377520)
theorem Start.keeps {S : Nat → Prop} {w w' : World} (h : Start w) (hk : Keeps S w w') (h0 : ¬ S 0) : Start w' :=
  ⟨hk.cell h.1 h0, hk.cell h.2.1 h0, hk.cell h.2.2.1 h0, hk.cell h.2.2.2.1 h0, hk.cell h.2.2.2.2 h0⟩
theorem Start.lt {w : World} (h : Start w) : 0 < w.heap.size := World.block_lt_of_cell? w _ h.1
theorem SumAt.keeps {S : Nat → Prop} {w w' : World} {p : Nat} {s : Sum} (h : SumAt w p s) (hk : Keeps S w w') (h0 : ¬ S p) : SumAt w' p s := ⟨h.1, hk.at_ h.2 h0⟩
theorem SumAt.lt {w : World} {p : Nat} {s : Sum} (h : SumAt w p s) : p < w.heap.size := lt_of_block h.2
theorem SumAt.h_cell {w : World} {p : Nat} {s : Sum} (h : SumAt w p s) (i : Nat) (hi : i < 5) : w.cell? ⟨p, i, none⟩ = some (.int .u32 ((s.h.list.getD i 0).toNat : Int)) := by
  rw [cell_of_row w p i _ _ _ h.2, List.getElem?_toArray, cellsSum, List.getElem?_append_left (by simp [S5.list]; omega)]
  have hl : s.h.list.length = 5 := rfl
  simp [ws, List.getD, List.getElem?_eq_getElem (show i < s.h.list.length by omega)]
theorem SumAt.part_cell {w : World} {p : Nat} {s : Sum} (h : SumAt w p s) (j : Nat) (hj : j < 64) : w.cell? ⟨p, 5 + j, none⟩ = some (.int .u8 ((s.part.getD j 0).toNat : Int)) := by
  have hl : s.h.list.length = 5 := rfl
  rw [cell_of_row w p (5 + j) _ _ _ h.2, List.getElem?_toArray, cellsSum, List.getElem?_append_right (by simp [hl]), length_ws, hl, Nat.add_sub_cancel_left, List.getElem?_append_left (by rw [length_bts, h.1]; exact hj), bts_at _ j (by rw [h.1]; exact hj)]
  simp [List.getD, List.getElem?_eq_getElem (show j < s.part.length by rw [h.1]; exact hj)]
theorem SumAt.n_cell {w : World} {p : Nat} {s : Sum} (h : SumAt w p s) : w.cell? ⟨p, 69, none⟩ = some (.int .u64 (s.n : Int)) := by
  have hl : s.h.list.length = 5 := rfl
  rw [cell_of_row w p 69 _ _ _ h.2, List.getElem?_toArray, cellsSum, List.getElem?_append_right (by simp [hl]), length_ws, hl, List.getElem?_append_right (by rw [length_bts, h.1]; omega), length_bts, h.1]
  rfl
theorem SumAt.set_h {w : World} {p : Nat} {s : Sum} (h : SumAt w p s) (i : Nat) (x : UInt32) (s' : Sum) (hs : s'.part = s.part) (hl : (cellsSum s).set i (.int .u32 (x.toNat : Int)) = cellsSum s') : SumAt (w.setCell ⟨p, i, none⟩ (.int .u32 (x.toNat : Int))) p s' := by
  refine ⟨by rw [hs]; exact h.1, ?_⟩
  rw [heap_setCell_same w p i _ _ _ h.2, List.setIfInBounds_toArray, hl]
theorem SumAt.seta {w : World} {p : Nat} {a b c d e : UInt32} {part : List UInt8} {n : Nat} (h : SumAt w p ⟨⟨a, b, c, d, e⟩, part, n⟩) (x : UInt32) : SumAt (w.setCell ⟨p, 0, none⟩ (.int .u32 (x.toNat : Int))) p ⟨⟨x, b, c, d, e⟩, part, n⟩ := h.set_h 0 x _ rfl rfl
theorem SumAt.setb {w : World} {p : Nat} {a b c d e : UInt32} {part : List UInt8} {n : Nat} (h : SumAt w p ⟨⟨a, b, c, d, e⟩, part, n⟩) (x : UInt32) : SumAt (w.setCell ⟨p, 1, none⟩ (.int .u32 (x.toNat : Int))) p ⟨⟨a, x, c, d, e⟩, part, n⟩ := h.set_h 1 x _ rfl rfl
theorem SumAt.setc {w : World} {p : Nat} {a b c d e : UInt32} {part : List UInt8} {n : Nat} (h : SumAt w p ⟨⟨a, b, c, d, e⟩, part, n⟩) (x : UInt32) : SumAt (w.setCell ⟨p, 2, none⟩ (.int .u32 (x.toNat : Int))) p ⟨⟨a, b, x, d, e⟩, part, n⟩ := h.set_h 2 x _ rfl rfl
theorem SumAt.setd {w : World} {p : Nat} {a b c d e : UInt32} {part : List UInt8} {n : Nat} (h : SumAt w p ⟨⟨a, b, c, d, e⟩, part, n⟩) (x : UInt32) : SumAt (w.setCell ⟨p, 3, none⟩ (.int .u32 (x.toNat : Int))) p ⟨⟨a, b, c, x, e⟩, part, n⟩ := h.set_h 3 x _ rfl rfl
theorem SumAt.sete {w : World} {p : Nat} {a b c d e : UInt32} {part : List UInt8} {n : Nat} (h : SumAt w p ⟨⟨a, b, c, d, e⟩, part, n⟩) (x : UInt32) : SumAt (w.setCell ⟨p, 4, none⟩ (.int .u32 (x.toNat : Int))) p ⟨⟨a, b, c, d, x⟩, part, n⟩ := h.set_h 4 x _ rfl rfl
theorem SumAt.free {w : World} {p : Nat} {s : Sum} (h : SumAt w p s) (j : Nat) : w.frozen? ⟨p, j, none⟩ = false := frozen_of_row w p j _ _ h.2

theorem al44 : Tryd.prog.arrayLen 44 = 64 := by kernel_rfl
theorem el44 : Tryd.prog.elem 44 = 5 := by kernel_rfl
theorem un44 : Tryd.prog.underlying 44 = some (.array (Tryd.prog.arrayLen 44) (Tryd.prog.elem 44)) := by kernel_rfl
theorem size5 (w : World) : (sizeOf 5).run Tryd.prog w = .ok 1 w := by kernel_rfl
/-- The part from a place on, as a slice. -/
theorem slice44 (w : World) (p j : Nat) (z : Int) (hz : z = j) (hj : j < 64) :
    (Instr.sliceAt 44 (.pointer (some ⟨p, 5, none⟩)) (some (.int .i64 z)) none none).run Tryd.prog w = .ok (.slice (some ⟨p, 5 + j, none⟩) (64 - j) (64 - j)) w := by
  subst hz
  rw [run_sliceAt_array_l w 44 ⟨p, 5, none⟩ un44 .i64 j (by omega) (by rw [al44]; omega), al44, el44, size5]
  simp only [Result.andThen_ok, Int.toNat_natCast, slicedAt, Nat.mul_one]
  rw [if_neg (by omega), Addr.add_lit]

set_option maxRecDepth 100000 in
set_option maxHeartbeats 2000000 in
theorem len_any (w : World) (p : Nat) (s : Sum) (n : Nat) (h : SumAt w p s) (hn : n = s.n) :
    Calls Tryd.prog 15 #[.pointer (some ⟨p, 0, none⟩)] w fun e w' => e = .returned (.int .u64 n) ∧ w = w' := by
  subst hn
  have c := h.n_cell
  go_enter Tryd.func15, Tryd.ntmps15
  go_wp2
  go_ret
  exact ⟨rfl, rfl⟩

set_option maxRecDepth 100000 in
set_option maxHeartbeats 2000000 in
theorem new_any (w : World) (h : Start w) :
    Calls Tryd.prog 9 #[] w fun e w' => e = .returned (.pointer (some ⟨w.heap.size, 0, none⟩)) ∧ SumAt w' w.heap.size Sum.init ∧ Still w w' := by
  obtain ⟨c0, c1, c2, c3, c4⟩ := h
  go_enter Tryd.func9, Tryd.ntmps9
  go_wp2_with (first
    | (with_reducible refine wpList_buildTo (o := ⟨some 2, _, _, _, _, _⟩) rfl 46 _ rfl (some 2) rfl (cellsSum Sum.init).toArray ?hb ?_; case hb => kernel_rfl)
    | (with_reducible refine Go.Great.wpList_boxTo (o := ⟨some 3, _, _, _, _, _⟩) rfl 46 _ rfl (some 3) rfl w.heap.size rfl (cellsSum Sum.init).toArray ?hc ?_; case hc => rfl))
  go_ret
  exact ⟨rfl, ⟨by simp [Sum.init], heap_alloc_new _ _⟩, (Keeps.refl _ _).alloc _⟩
end Go.Proofs.YtogojfmaiphiaaaDoor
