/- Words of 32 bits as the machine's integers, and the contracts of RotateLeft32 and mix. -/
import Derived.Test.YtogojfmaiphiaaaDoorMem
import Derived.Laws.BitsAllLaws
import Derived.Test.YtogojfmaiphiaaaDoorWord
import Derived.Test.YtogojfmaiphiaaaDoorProg
import Derived.WalkKit
namespace Go.Proofs.YtogojfmaiphiaaaDoor
open Go.RowKit

theorem w_lt (x : UInt32) : x.toNat < 4294967296 := UInt32.toNat_lt x
theorem w_xor (x y : UInt32) : bits .xor .u32 (x.toNat : Int) (y.toNat : Int) = ((x ^^^ y).toNat : Int) := by rw [u32_xor_nat _ _ (w_lt x) (w_lt y), UInt32.toNat_xor]
theorem w_or (x y : UInt32) : bits .or .u32 (x.toNat : Int) (y.toNat : Int) = ((x ||| y).toNat : Int) := by rw [u32_or_nat _ _ (w_lt x) (w_lt y), UInt32.toNat_or]
theorem w_and (x y : UInt32) : bits .and .u32 (x.toNat : Int) (y.toNat : Int) = ((x &&& y).toNat : Int) := by rw [u32_and_nat _ _ (w_lt x) (w_lt y), UInt32.toNat_and]
theorem wrap32 (n : Nat) : IntKind.u32.wrap (n : Int) = ((n % 4294967296 : Nat) : Int) := by simp [IntKind.wrap, IntKind.signed, IntKind.bits]
theorem w_add (x y : UInt32) : IntKind.u32.wrap ((x.toNat : Int) + (y.toNat : Int)) = ((x + y).toNat : Int) := by
  rw [← Int.natCast_add, wrap32, UInt32.toNat_add]
theorem w_add_mod (x y : UInt32) : ((x.toNat : Int) + (y.toNat : Int)) % 4294967296 = ((x + y).toNat : Int) := by
  rw [← Int.natCast_add, UInt32.toNat_add]; rfl
theorem toNat_rotl (x : UInt32) (k : Nat) : (rotl x k).toNat = (x.toNat * 2 ^ k % 4294967296) ||| (x.toNat / 2 ^ (32 - k)) := by
  unfold rotl
  have h : (x.toNat * 2 ^ k % 4294967296) ||| (x.toNat / 2 ^ (32 - k)) < 2 ^ 32 := Nat.or_lt_two_pow (Nat.mod_lt _ (by decide)) (Nat.lt_of_le_of_lt (Nat.div_le_self _ _) (w_lt x))
  rw [UInt32.toNat_ofNat', Nat.mod_eq_of_lt h]

theorem b_lt (x : UInt8) : x.toNat < 256 := UInt8.toNat_lt x
theorem word4_val (a b c d : UInt8) : bits .or .u32 (bits .or .u32 (bits .or .u32 ((a.toNat : Int) % 4294967296 * 16777216 % 4294967296) ((b.toNat : Int) % 4294967296 * 65536 % 4294967296)) ((c.toNat : Int) % 4294967296 * 256 % 4294967296)) ((d.toNat : Int) % 4294967296) =
    ((word4 a b c d).toNat : Int) := by
  have ha := b_lt a
  have hb := b_lt b
  have hc := b_lt c
  have hd := b_lt d
  have l1 : a.toNat * 2 ^ 24 ||| b.toNat * 2 ^ 16 < 2 ^ 32 := Nat.or_lt_two_pow (by omega) (by omega)
  have l2 : (a.toNat * 2 ^ 24 ||| b.toNat * 2 ^ 16) ||| c.toNat * 2 ^ 8 < 2 ^ 32 := Nat.or_lt_two_pow l1 (by omega)
  have l3 : ((a.toNat * 2 ^ 24 ||| b.toNat * 2 ^ 16) ||| c.toNat * 2 ^ 8) ||| d.toNat < 2 ^ 32 := Nat.or_lt_two_pow l2 (by omega)
  unfold word4
  rw [UInt32.toNat_ofNat', Nat.mod_eq_of_lt l3, show ((a.toNat : Int) % 4294967296 * 16777216 % 4294967296) = ((a.toNat * 2 ^ 24 : Nat) : Int) by omega, show ((b.toNat : Int) % 4294967296 * 65536 % 4294967296) = ((b.toNat * 2 ^ 16 : Nat) : Int) by omega,
    show ((c.toNat : Int) % 4294967296 * 256 % 4294967296) = ((c.toNat * 2 ^ 8 : Nat) : Int) by omega, show ((d.toNat : Int) % 4294967296) = ((d.toNat : Nat) : Int) by omega, u32_or_nat _ _ (by omega) (by omega), u32_or_nat _ _ l1 (by omega), u32_or_nat _ _ l2 (by omega)]

set_option maxHeartbeats 2000000 in
theorem rot_any (w : World) (x : UInt32) (k : Nat) (hk : k = 1 ∨ k = 5 ∨ k = 30) :
    Calls Tryd.prog 25 #[.int .u32 x.toNat, .int .i64 k] w fun e w' => e = .returned (.int .u32 (rotl x k).toNat) ∧ w = w' := by
  obtain ⟨n, hn⟩ : ∃ n, n = x.toNat := ⟨_, rfl⟩
  have hlt : n < 4294967296 := by rw [hn]; exact w_lt x
  rw [toNat_rotl, ← hn]
  clear hn
  have e1 : bits .and .u64 1 31 = 1 := by kernel_rfl
  have e5 : bits .and .u64 5 31 = 5 := by kernel_rfl
  have e30 : bits .and .u64 30 31 = 30 := by kernel_rfl
  have b1 : n * 2 % 4294967296 < 4294967296 := Nat.mod_lt _ (by omega)
  have b5 : n * 32 % 4294967296 < 4294967296 := Nat.mod_lt _ (by omega)
  have b30 : n * 1073741824 % 4294967296 < 4294967296 := Nat.mod_lt _ (by omega)
  rcases hk with rfl | rfl | rfl
  · go_enter Tryd.func25, Tryd.ntmps25
    go_wp2
    go_ret
    refine ⟨?_, rfl⟩
    show Ending.returned (.int .u32 (bits .or .u32 ((n : Int) * 2 % 4294967296) ((n : Int) / 2147483648))) = _
    rw [show ((n : Int) * 2 % 4294967296) = ((n * 2 % 4294967296 : Nat) : Int) by omega, show ((n : Int) / 2147483648) = ((n / 2147483648 : Nat) : Int) by omega, u32_or_nat _ _ b1 (by omega)]
  · go_enter Tryd.func25, Tryd.ntmps25
    go_wp2
    go_ret
    refine ⟨?_, rfl⟩
    show Ending.returned (.int .u32 (bits .or .u32 ((n : Int) * 32 % 4294967296) ((n : Int) / 134217728))) = _
    rw [show ((n : Int) * 32 % 4294967296) = ((n * 32 % 4294967296 : Nat) : Int) by omega, show ((n : Int) / 134217728) = ((n / 134217728 : Nat) : Int) by omega, u32_or_nat _ _ b5 (by omega)]
  · go_enter Tryd.func25, Tryd.ntmps25
    go_wp2
    go_ret
    refine ⟨?_, rfl⟩
    show Ending.returned (.int .u32 (bits .or .u32 ((n : Int) * 1073741824 % 4294967296) ((n : Int) / 4))) = _
    rw [show ((n : Int) * 1073741824 % 4294967296) = ((n * 1073741824 % 4294967296 : Nat) : Int) by omega, show ((n : Int) / 4) = ((n / 4 : Nat) : Int) by omega, u32_or_nat _ _ b30 (by omega)]

theorem rot_still (w : World) (x z : UInt32) (k : Nat) (hk : k = 1 ∨ k = 5 ∨ k = 30) (hz : z = rotl x k) :
    Calls Tryd.prog 25 #[.int .u32 x.toNat, .int .i64 k] w fun e w' => e = .returned (.int .u32 z.toNat) ∧ w' = w := by
  subst hz
  exact (rot_any w x k hk).mono fun e w' h => ⟨h.1, h.2.symm⟩

theorem rot5 (w : World) (x z : UInt32) (hz : z = rotl x 5) : Calls Tryd.prog 25 #[.int .u32 x.toNat, .int .i64 5] w fun e w' => e = .returned (.int .u32 z.toNat) ∧ w' = w := rot_still w x z 5 (Or.inr (Or.inl rfl)) hz
theorem rot30 (w : World) (x z : UInt32) (hz : z = rotl x 30) : Calls Tryd.prog 25 #[.int .u32 x.toNat, .int .i64 30] w fun e w' => e = .returned (.int .u32 z.toNat) ∧ w' = w := rot_still w x z 30 (Or.inr (Or.inr rfl)) hz

set_option maxHeartbeats 2000000 in
theorem mix_any (w : World) (t : Nat) (b c d : UInt32) (f k : UInt32) (ht : t < 80) (hf : f = mixf t b c d) (hk : k = mixk t) :
    Calls Tryd.prog 26 #[.int .i64 t, .int .u32 b.toNat, .int .u32 c.toNat, .int .u32 d.toNat] w fun e w' => e = .returned (.tuple #[.int .u32 f.toNat, .int .u32 k.toNat]) ∧ w = w' := by
  by_cases h1 : t < 20
  · have HF := Lib.hid (show f = d ^^^ (b &&& (c ^^^ d)) by rw [hf, mixf, if_pos h1])
    have HK := Lib.hid (show k = 1518500249 by rw [hk, mixk, if_pos h1])
    clear hf hk
    go_enter Tryd.func26, Tryd.ntmps26
    go_wp2
    go_ret2
    refine ⟨?_, rfl⟩
    rw [HF.out, HK.out]
    show Ending.returned (.tuple #[.int .u32 (bits .xor .u32 d.toNat (bits .and .u32 b.toNat (bits .xor .u32 c.toNat d.toNat))), .int .u32 1518500249]) = _
    rw [w_xor, w_and, w_xor]
    rfl
  by_cases h2 : t < 40
  · have HF := Lib.hid (show f = b ^^^ c ^^^ d by rw [hf, mixf, if_neg h1, if_pos h2])
    have HK := Lib.hid (show k = 1859775393 by rw [hk, mixk, if_neg h1, if_pos h2])
    clear hf hk
    go_enter Tryd.func26, Tryd.ntmps26
    go_wp2
    go_ret2
    refine ⟨?_, rfl⟩
    rw [HF.out, HK.out]
    show Ending.returned (.tuple #[.int .u32 (bits .xor .u32 (bits .xor .u32 b.toNat c.toNat) d.toNat), .int .u32 1859775393]) = _
    rw [w_xor, w_xor]
    rfl
  by_cases h3 : t < 60
  · have HF := Lib.hid (show f = (b &&& c) ||| (d &&& (b ||| c)) by rw [hf, mixf, if_neg h1, if_neg h2, if_pos h3])
    have HK := Lib.hid (show k = 2400959708 by rw [hk, mixk, if_neg h1, if_neg h2, if_pos h3])
    clear hf hk
    go_enter Tryd.func26, Tryd.ntmps26
    go_wp2
    go_ret2
    refine ⟨?_, rfl⟩
    rw [HF.out, HK.out]
    show Ending.returned (.tuple #[.int .u32 (bits .or .u32 (bits .and .u32 b.toNat c.toNat) (bits .and .u32 d.toNat (bits .or .u32 b.toNat c.toNat))), .int .u32 2400959708]) = _
    rw [w_and, w_or, w_and, w_or]
    rfl
  · have HF := Lib.hid (show f = b ^^^ c ^^^ d by rw [hf, mixf, if_neg h1, if_neg h2, if_neg h3])
    have HK := Lib.hid (show k = 3395469782 by rw [hk, mixk, if_neg h1, if_neg h2, if_neg h3])
    clear hf hk
    go_enter Tryd.func26, Tryd.ntmps26
    go_wp2
    go_ret2
    refine ⟨?_, rfl⟩
    rw [HF.out, HK.out]
    show Ending.returned (.tuple #[.int .u32 (bits .xor .u32 (bits .xor .u32 b.toNat c.toNat) d.toNat), .int .u32 3395469782]) = _
    rw [w_xor, w_xor]
    rfl
end Go.Proofs.YtogojfmaiphiaaaDoor
