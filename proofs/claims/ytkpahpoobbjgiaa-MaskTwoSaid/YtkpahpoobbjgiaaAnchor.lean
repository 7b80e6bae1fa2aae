/- The anchor: the chapter's examples are as it says. -/
import Derived.Test.YtkpahpoobbjgiaaTurn
import Derived.Test.YtkpahpoobbjgiaaRefGetB
namespace Go.Proofs.Ytkpahpoobbjgiaa
open Go.RowKit

theorem put_at (w : World) (n : Nat) (l : List UInt8) (k : Nat) (hn : n ≤ 9223372036854775807) (hl : l = putF n) (hk : k = l.length) :
    Calls Try.prog 13 #[.int .u64 n] w fun e w' => ∃ A c, e = .returned (.tuple #[.slice A k c, .int .i64 0]) ∧ SliceOf w' A k l ∧ Still w w' := by
  subst hk
  subst hl
  exact put_any w n hn
theorem get_at (w : World) (l : List UInt8) (A : Option Addr) (n cap : Nat) (x y z : Nat) (hs : SliceOf w A n l) (hcap : n ≤ cap) (hn : n ≤ 1000) (hr : getF l = (x, y, z)) :
    Calls Try.prog 15 #[.slice A n cap] w fun e w' => e = .returned (.tuple #[.int .u64 x, .int .i64 y, .int .i64 z]) ∧ Still w w' := by
  have := get_any w l A n cap hs hcap hn
  rw [hr] at this
  exact this
theorem ref_get_at (w : World) (s : ByteArray) (x y z : Nat) (hn : s.size ≤ 1000) (hr : getF s.data.toList = (x, y, z)) :
    Calls Try.prog 16 #[.string s] w fun e w' => e = .returned (.tuple #[.int .u64 x, .int .i64 y, .int .i64 z]) ∧ Still w w' := by
  have := ref_get w s hn
  rw [hr] at this
  exact this
theorem apply_at (w : World) (ks l m : List UInt8) (kv : Array Value) (z : Int) (p : Nat) (A : Option Addr) (n cap : Nat) (hkv : kv = (bts ks).toArray) (hks : ks.length = 4) (hs : SliceOf w A n l) (hn : n ≤ 1000) (hp : (p : Int) = z % 4) (hm : m = applyL ks p l) :
    Calls Try.prog 11 #[.agg kv, .int .i64 z, .slice A n cap] w fun e w' => ∃ B, e = .returned (.slice B n n) ∧ SliceOf w' B n m ∧ Still w w' := by
  subst hm
  refine (apply_any w ks l kv z p A n cap hkv hks hs hn hp).mono ?_
  rintro e w' ⟨h1, h2, h3⟩
  exact ⟨_, h1, slice_row h2 n (by rw [length_applyL, hs.1]), h3⟩

theorem eq22 (a b c d a' b' c' d' : Int) (w : World) : (Op.equalIn 10000 22 (.agg #[.int .u8 a, .int .u8 b, .int .u8 c, .int .u8 d]) (.agg #[.int .u8 a', .int .u8 b', .int .u8 c', .int .u8 d'])).run Try.prog w = .ok (a == a' && (b == b' && (c == c' && d == d'))) w := by
  have u5 := Try.underlying5
  have a5 := Try.isAgg5
  have z5 := Try.sizeOf5
  rw [show (10000 : Nat) = 9999 + 1 from rfl, Op.equalIn]
  simp only [Sem.run_bind, run_underlying Try.underlying22, Result.andThen_ok]
  simp only [Std.Legacy.Range.forIn_eq_forIn_range', Std.Legacy.Range.size, Nat.sub_zero, Nat.add_sub_cancel, Nat.div_one, List.range'_succ, List.range'_zero, List.forIn_cons, List.forIn_nil]
  go_simp
  by_cases h1 : a = a' <;> by_cases h2 : b = b' <;> by_cases h3 : c = c' <;> by_cases h4 : d = d' <;> simp [h1, h2, h3, h4]

set_option maxHeartbeats 1000000 in
theorem awake_any (w : World) : Calls Try.prog 10 #[] w fun e w' => e = .returned (.bool true) ∧ Still w w' := by
  have he := eq22
  go_enter Try.func10, Try.ntmps10
  go_wp2_with fail
  refine (put_at _ 126 [126, 0, 126] 3 (by omega) rfl rfl).mono ?_
  rintro e w1 ⟨A, c, rfl, hs1, hk1⟩
  go_wp2_with fail
  refine (get_at _ [126, 0, 126] _ 3 3 126 3 0 (slice_new w1 _ _ _ _ _ rfl rfl) (by omega) (by omega) (by decide +kernel)).mono ?_
  rintro e w2 ⟨rfl, hk2⟩
  replace hk2 : Still w1 w2 := ((Keeps.refl _ w1).alloc _).trans hk2
  go_wp2_with fail
  refine (get_at _ [126, 0, 125] _ 3 3 0 0 81 (slice_new w2 _ _ _ _ _ rfl rfl) (by omega) (by omega) (by decide +kernel)).mono ?_
  rintro e w3 ⟨rfl, hk3⟩
  replace hk3 : Still w2 w3 := ((Keeps.refl _ w2).alloc _).trans hk3
  have cv := run_string_of (P := Try.prog) (cap := c) Try.underlying24 Try.underlying5 Try.underlying9 ((hs1.keeps hk2 (fun _ _ h => h)).keeps hk3 (fun _ _ h => h))
  go_wp2_with fail
  refine (key_any _ 16909060 (by omega)).mono ?_
  rintro e w4 ⟨rfl, hk4⟩
  go_wp2_with fail
  refine (apply_at _ [1, 2, 3, 4] [0, 0] [2, 3] _ 1 1 _ 2 2 rfl rfl (slice_new w4 _ _ _ _ _ rfl rfl) (by omega) rfl (by decide +kernel)).mono ?_
  rintro e w5 ⟨B, rfl, hs5, hk5⟩
  replace hk5 : Still w4 w5 := ((Keeps.refl _ w4).alloc _).trans hk5
  have cv5 := run_string_of (P := Try.prog) (cap := 2) Try.underlying24 Try.underlying5 Try.underlying9 hs5
  go_wp2_with fail
  go_ret
  exact ⟨rfl, (((hk1.trans hk2).trans hk3).trans hk4).trans hk5⟩
end Go.Proofs.Ytkpahpoobbjgiaa
