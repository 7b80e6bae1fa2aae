/- The contracts of a length's bytes: number (package mask) and digits (the document's answer). -/
import Derived.Test.YtkpahpoobbjgiaaChecked
import Derived.Test.YtkpahpoobbjgiaaVal
import Derived.WalkLawsBesides
import Derived.WalkSpells
import Derived.BigQuiet
import Derived.Deep.QuietTactic
import Derived.LoopTactic
import Derived.Laws.BitsAllLaws
import Derived.Laws.Shifts
namespace Go.Proofs.Ytkpahpoobbjgiaa
open Go.RowKit

theorem info5 : (Try.prog.info? 5).map (fun i => (i.zero, i.size, i.bytes)) = some (some (.int .u8 0), 1, 1) := by kernel_rfl
theorem size5 : (Try.prog.info? 5).map (·.size) = some 1 := by kernel_rfl

theorem row_set {w : World} {g : Nat} {l : List Value} {t : TypeId} (h : w.heap[g]? = some (.cells l.toArray t (0, 0))) (j : Nat) (v : Value) :
    (w.setCell ⟨g, j, none⟩ v).heap[g]? = some (.cells (l.set j v).toArray t (0, 0)) := by
  simp [World.setCell, Array.getElem?_modify, h]
theorem set_front (z v : Value) (R : List Value) (j : Nat) : (List.replicate (j + 1) z ++ R).set j v = List.replicate j z ++ v :: R := by
  rw [List.replicate_succ', List.append_assoc, List.set_append_right _ _ (by simp)]
  simp

theorem byte_shift (n k : Nat) : (n : Int) / 2 ^ (8 * k) % 256 = ((UInt8.ofNat (n / 256 ^ k)).toNat : Int) := by
  rw [toNat_ofNat8, show (256 : Nat) ^ k = 2 ^ (8 * k) by rw [Nat.pow_mul]]
  rw [Int.natCast_emod, Int.natCast_ediv, Int.natCast_pow]
  rfl
theorem one_byte (w : World) (v : Int) (c : UInt8) (n : Nat) (h : v = c.toNat) :
    (convert 24 9 (.slice (some ⟨w.heap.size, 0, none⟩) 1 n)).run Try.prog (w.alloc (.cells #[.int .u8 v] 5 (0, 0))) = .ok (.string ⟨#[c]⟩) (w.alloc (.cells #[.int .u8 v] 5 (0, 0))) := by
  subst h
  exact run_string_of (P := Try.prog) (cap := n) Try.underlying24 Try.underlying5 Try.underlying9 (slice_new w _ 5 (0, 0) [c] 1 rfl rfl)

theorem number_any (w : World) (n size : Nat) (hsz : size ≤ 8) :
    Calls Try.prog 18 #[.int .u64 n, .int .i64 size] w fun e w' => e = .returned (.slice (some ⟨w.heap.size, 0, none⟩) size size) ∧
      w'.heap[w.heap.size]? = some (.cells (bts (numB n size)).toArray 5 (0, 0)) ∧ Still w w' := by
  go_enter Try.func18, Try.ntmps18
  go_wp2_with (at_make; refine wpList_zeros rfl _ _ 24 rfl 5 Try.underlying24 info5 .i64 .i64 _ _ size rfl rfl rfl rfl (by omega) ?_; intro w1 hk hz hb)
  go_loopw [10] (fun i wr => ∃ k : Nat, i = .int .i64 k ∧ k ≤ size ∧ Hid (wr.heap[w.heap.size]? = some (.cells (List.replicate (size - k) (Value.int .u8 0) ++ bts (numB n k)).toArray 5 (0, 0))) ∧ Keeps (fun k => k = w.heap.size) w1 wr) (fun i _ => size - (intOf i).toNat)
  case atStart => exact ⟨0, rfl, by omega, by show _ = _; rw [hb.out]; simp [numB, bts], Keeps.refl _ _⟩
  case round =>
    obtain ⟨k, rfl, hks, hrow, hkr⟩ := hrel
    by_cases hlt : k < size
    · obtain ⟨j, hj⟩ : ∃ j, size = j + 1 + k := ⟨size - 1 - k, by omega⟩
      have hc : wr.cell? ⟨w.heap.size, j, none⟩ = some (.int .u8 0) := by
        rw [cell_of_row wr _ j _ _ _ hrow.out, show size - k = j + 1 by omega, List.replicate_succ']
        simp
      have hf : wr.frozen? ⟨w.heap.size, j, none⟩ = false := frozen_of_row wr _ j _ 5 hrow.out
      have e1 : (size : Int) - 1 - k = j := by omega
      have HE := Lib.hid (byte_shift n k)
      go_wp2
      go_roundw
      case rel =>
        refine ⟨k + 1, by simp, by omega, ?_, hkr.setCell rfl _⟩
        show _ = _
        rw [HE.out, row_set hrow.out, show size - k = j + 1 by omega, set_front, show size - (k + 1) = j by omega]
        rfl
      case measure => simp [intOf]; omega
    · obtain rfl : k = size := by omega
      go_wp2
      go_ret
      refine ⟨rfl, ?_, hk.fresh (by exact (hkr.mono fun _ _ h => h)) (Keeps.refl _ _)⟩
      have := hrow.out
      simpa using this

theorem digits_any (w : World) (n size : Nat) (hn : n < 18446744073709551616) (hsz : size ≤ 8) :
    Calls Try.prog 19 #[.int .u64 n, .int .i64 size] w fun e w' => e = .returned (.string ⟨(numB n size).toArray⟩) ∧ Still w w' := by
  go_enter Try.func19, Try.ntmps19
  go_wp2
  go_loopw [0, 5, 6] (fun x s i wr => ∃ k : Nat, i = .int .i64 k ∧ k ≤ size ∧ x = .int .u64 (n / 256 ^ k : Nat) ∧ s = .string ⟨(numB n k).toArray⟩ ∧ Still w wr) (fun _ _ i _ => size - (intOf i).toNat)
  case atStart => exact ⟨0, rfl, by omega, by simp, rfl, Keeps.refl _ _⟩
  case round =>
    obtain ⟨k, rfl, hks, rfl, rfl, hkr⟩ := hrel
    have hk2 := Nat.div_le_self n (256 ^ k)
    obtain ⟨m, hm⟩ : ∃ m, m = n / 256 ^ k := ⟨_, rfl⟩
    rw [← hm] at hk2 ⊢
    have HM := Lib.hid hm
    clear hm
    by_cases hlt : k < size
    · have cv := one_byte wr ((m : Int) % 256) (UInt8.ofNat m) 1 (by rw [toNat_ofNat8]; omega)
      have hadd : ∀ w', (Op.stringOp .add ⟨#[UInt8.ofNat m]⟩ ⟨(numB n k).toArray⟩).run Try.prog w' = .ok (.string ⟨(numB n (k + 1)).toArray⟩) w' := fun w' => by
        rw [run_string_add_sum w' _ _ (by rw [size_mk, size_mk, length_numB]; simp; omega)]
        congr 2
        apply data_ext
        rw [data_append]
        simp [numB, HM.out]
      go_wp2
      go_roundw
      case rel =>
        refine ⟨k + 1, by simp, by omega, ?_, rfl, hkr.alloc _⟩
        rw [HM.out, Nat.pow_succ, ← Nat.div_div_eq_div_mul]
        rfl
      case measure => simp [intOf]; omega
    · obtain rfl : k = size := by omega
      go_wp2
      go_ret
      exact ⟨rfl, hkr⟩
end Go.Proofs.Ytkpahpoobbjgiaa
