/- Two sums that are the same, compared; fill. -/
import Derived.Test.YtogojfmaiphiaaaDoorOf
import Derived.ChangeKeysEq
namespace Go.Proofs.YtogojfmaiphiaaaDoor
open Go.RowKit

theorem plain5 : Tryd.prog.plainKey 5 = true := by kernel_rfl
theorem cells5 : Tryd.prog.cellsOf 5 = 1 := by kernel_rfl
theorem eq_items (d : Nat) (l : List UInt8) (w : World) : ∀ is : List Nat, (∀ i ∈ is, i < l.length) → (Op.eqItems (d + 1) 5 1 (bts l).toArray (bts l).toArray is).run Tryd.prog w = .ok true w
  | [], _ => by simp [Op.eqItems]
  | i :: is, h => by
    have hi : i < l.length := h i (by simp)
    have hp := run_part_plain (P := Tryd.prog) w plain5 (xs := (bts l).toArray) (off := i * 1) (v := .int .u8 (l[i].toNat : Int)) (by rw [Nat.mul_one, List.getElem?_toArray]; exact bts_at l i hi)
    have he := run_equalIn_int (P := Tryd.prog) w d 5 .u8 .u8 (l[i].toNat : Int) (l[i].toNat : Int) Tryd.underlying5
    have ih := eq_items d l w is (fun j hj => h j (by simp [hj]))
    simp only [Op.eqItems, Sem.run_bind, hp, Result.andThen_ok, he]
    simpa using ih
theorem eq_same (l : List UInt8) (hl : l.length = 20) (w : World) : (Op.equalIn 10000 27 (.agg (bts l).toArray) (.agg (bts l).toArray)).run Tryd.prog w = .ok true w := by
  obtain ⟨i, hi⟩ : ∃ i, Tryd.prog.info? 5 = some i := by
    cases h : Tryd.prog.info? 5 with
    | none => have := sz5; simp [h] at this
    | some i => exact ⟨i, rfl⟩
  rw [show (10000 : Nat) = 9999 + 1 from rfl, run_equalIn_array w 9999 _ _ Tryd.underlying27 hi, cells5]
  exact eq_items 9998 l w _ (fun j hj => by rw [hl]; exact List.mem_range.1 hj)

set_option maxRecDepth 100000 in
set_option maxHeartbeats 4000000 in
theorem fill_any (w : World) (n : Nat) (by' : Nat) (c : UInt8) (hc : by' = c.toNat) (q : ByteArray) (hq : q.data.toList = List.replicate n c) (hn : n ≤ 1000) :
    Calls Tryd.prog 14 #[.int .i64 n, .int .u8 by'] w fun e w' => e = .returned (.string q) ∧ Still w w' := by
  have HC := Lib.hid hc
  have HQ := Lib.hid hq
  have hby : by' < 256 := by rw [hc]; exact UInt8.toNat_lt c
  clear hc hq
  go_enter Tryd.func14, Tryd.ntmps14
  go_wp2_with (at_make; refine wpList_zeros rfl _ _ 25 rfl 5 Tryd.underlying25 info5 .i64 .i64 _ _ n rfl rfl rfl rfl (by omega) ?_; intro w1 hk hz hb)
  have HB := Lib.hid (show BytesAt w1 w.heap.size 5 (List.replicate 0 c ++ List.replicate (n - 0) 0) by
    have := hb.out
    unfold BytesAt
    rw [this]
    simp [bts])
  have HZ := Lib.hid hz
  have HK := Lib.hid hk
  clear hb hz hk
  go_loopw [6] (fun i wr => ∃ k : Nat, i = .int .i64 k ∧ k ≤ n ∧ Hid (BytesAt wr w.heap.size 5 (List.replicate k c ++ List.replicate (n - k) 0)) ∧ Hid (Still w wr)) (fun i _ => n - (intOf i).toNat)
  case atStart => exact ⟨0, rfl, by omega, HB, HK⟩
  case round =>
    clear HB HK
    obtain ⟨k, rfl, hkn, hB, hK⟩ := hrel
    by_cases hlt : k < n
    · have cw := hB.out.cell k (by simp; omega)
      have fw := hB.out.free k
      have hn2 := hB.out.set k c
      rw [set_nextb _ k n (by simp) hlt, ← List.replicate_succ', ← HC.out] at hn2
      have HN := Lib.hid hn2
      have HKK := Lib.hid (hK.out.on (S := fun i => i = w.heap.size) ((Keeps.refl (fun i => i = w.heap.size) wr).setCell (p := ⟨w.heap.size, k, none⟩) rfl (.int .u8 (by' : Int))) (T := fun _ => False) (fun i hi h => by omega))
      clear hn2
      go_wp2_with fail
      first
      | (go_roundw
         case rel => exact ⟨k + 1, by simp, by omega, HN, HKK⟩
         case measure => simp [intOf]; omega)
      | exact ⟨⟨k + 1, by simp, by omega, HN, HKK⟩, by simp [intOf]; omega⟩
    · obtain rfl : k = n := by omega
      have hB2 : BytesAt wr w.heap.size 5 (List.replicate k c) := by have := hB.out; rwa [Nat.sub_self, List.replicate_zero, List.append_nil] at this
      have cv := run_string_as (P := Tryd.prog) (cap := k) Tryd.underlying25 Tryd.underlying5 Tryd.underlying9 q (hB2.slice (n := k) (by simp)) HQ.out
      clear hB hB2
      go_wp2_with fail
      go_ret
      exact ⟨rfl, hK.out⟩
end Go.Proofs.YtogojfmaiphiaaaDoor
