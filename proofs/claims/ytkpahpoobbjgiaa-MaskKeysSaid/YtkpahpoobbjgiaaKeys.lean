/- The walk of MaskKeys: whatever the input, the law returns true and leaves old memory alone. -/
import Derived.Test.YtkpahpoobbjgiaaAnchor
namespace Go.Proofs.Ytkpahpoobbjgiaa
open Go.RowKit

theorem keys_sum (n : Int) (h0 : 0 ≤ n) (h : n < 4294967296) : n / 16777216 * 16777216 + n / 65536 % 256 * 65536 + n / 256 % 256 * 256 + n % 256 = n := by omega
theorem keys_eq (n m : Int) (h : (n / 16777216 == m / 16777216 && (n / 65536 % 256 == m / 65536 % 256 && (n / 256 % 256 == m / 256 % 256 && n % 256 == m % 256))) = true) : n = m := by
  simp at h
  omega

theorem cells4 {w : World} {p : Nat} {c0 c1 c2 c3 : Value} {t : TypeId} (h : w.heap[p]? = some (.cells #[c0, c1, c2, c3] t (0, 0))) :
    w.cell? ⟨p, 0, none⟩ = some c0 ∧ w.cell? ⟨p, 1, none⟩ = some c1 ∧ w.cell? ⟨p, 2, none⟩ = some c2 ∧ w.cell? ⟨p, 3, none⟩ = some c3 := by
  refine ⟨?_, ?_, ?_, ?_⟩ <;> simp [World.cell?, h]

set_option maxRecDepth 100000 in
set_option maxHeartbeats 1000000 in
theorem maskKeys_any (n m : Nat) (w : World) (hn : n < 4294967296) (hm : m < 4294967296) :
    Calls Try.prog 7 #[.int .u32 n, .int .u32 m] w fun e w' => e = .returned (.bool true) ∧ Below w.heap.size w w' := by
  have he : ∀ w, (Op.equalIn 10000 22 (.agg #[.int .u8 ((n : Int) / 16777216), .int .u8 ((n : Int) / 65536 % 256), .int .u8 ((n : Int) / 256 % 256), .int .u8 ((n : Int) % 256)]) (.agg #[.int .u8 ((m : Int) / 16777216), .int .u8 ((m : Int) / 65536 % 256), .int .u8 ((m : Int) / 256 % 256), .int .u8 ((m : Int) % 256)])).run Try.prog w = .ok ((n : Int) == m) w := by
    intro w
    rw [eq22]
    congr 1
    by_cases h : (n : Int) = m
    · rw [h]; simp
    · rw [Bool.eq_iff_iff]
      constructor
      · intro e; exact absurd (keys_eq _ _ e) h
      · intro e; exact absurd (by simpa using e) h
  have hsum := keys_sum n (by omega) (by omega)
  go_enter Try.func7, Try.ntmps7
  go_wp2_with fail
  refine (key_any _ n hn).mono ?_
  rintro e w1 ⟨rfl, hk1⟩
  go_wp2_with fail
  refine (key_any _ m hm).mono ?_
  rintro e w2 ⟨rfl, hk2⟩
  go_wp2_with fail
  refine (awake_any _).mono ?_
  rintro e w3 ⟨rfl, hk3⟩
  have r1 := hk3.at_ (Below.heap_alloc _ _ _ (by simp) |>.trans (heap_alloc_new w2 _)) id
  have r2 := hk3.at_ (heap_alloc_new _ _) id
  rw [show (w2.alloc (.cells #[.int .u8 ((n : Int) / 16777216), .int .u8 ((n : Int) / 65536 % 256), .int .u8 ((n : Int) / 256 % 256), .int .u8 ((n : Int) % 256)] 22 (0, 0))).heap.size = w2.heap.size + 1 by simp] at r2
  obtain ⟨x0, x1, x2, x3⟩ := cells4 r1
  obtain ⟨y0, y1, y2, y3⟩ := cells4 r2
  clear r1 r2
  replace hk3 : Still w2 w3 := (((Keeps.refl _ w2).alloc _).alloc _).trans hk3
  by_cases hnm : (n : Int) = m
  · obtain rfl : n = m := by omega
    go_wp2_with fail
    go_ret
    exact ⟨rfl, ((hk1.trans hk2).trans hk3).below'⟩
  · have hb : ((n : Int) == m) = false := by simpa using hnm
    go_wp2_with fail
    go_ret
    exact ⟨rfl, ((hk1.trans hk2).trans hk3).below'⟩
end Go.Proofs.Ytkpahpoobbjgiaa
