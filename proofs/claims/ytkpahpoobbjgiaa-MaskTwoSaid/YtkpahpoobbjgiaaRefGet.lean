/- The contract of the document's answer for Get. -/
import Derived.Test.YtkpahpoobbjgiaaGet
namespace Go.Proofs.Ytkpahpoobbjgiaa
open Go.RowKit

/-- The first bytes bound what all of them may say. -/
theorem lo_ge (l : List UInt8) (j size : Nat) (hj : j ≤ l.length) (hl : l.length ≤ size) : val (l.take j) * 256 ^ (size - j) ≤ lo l size := by
  have h := (val_take l j).1
  unfold lo
  rw [show size - j = (l.length - j) + (size - l.length) by omega, Nat.pow_add, ← Nat.mul_assoc]
  exact Nat.mul_le_mul_right _ h
theorem hi_le (l : List UInt8) (j size : Nat) (hj : j ≤ l.length) (hl : l.length ≤ size) : hi l size < (val (l.take j) + 1) * 256 ^ (size - j) := by
  have h := (val_take l j).2
  have h2 : (val l + 1) * 256 ^ (size - l.length) ≤ (val (l.take j) + 1) * 256 ^ (size - j) := by
    rw [show size - j = (l.length - j) + (size - l.length) by omega, Nat.pow_add, ← Nat.mul_assoc]
    exact Nat.mul_le_mul_right _ (by omega)
  have h3 : 0 < (val l + 1) * 256 ^ (size - l.length) := Nat.mul_pos (by omega) (pow_pos' _)
  unfold hi
  omega
theorem hi_ge (l : List UInt8) (j size : Nat) (hj : j ≤ l.length) (hl : l.length ≤ size) : val (l.take j) * 256 ^ (size - j) ≤ hi l size := Nat.le_trans (lo_ge l j size hj hl) (lo_le_hi l size)
theorem lo_lt' (l : List UInt8) (j size : Nat) (hj : j ≤ l.length) (hl : l.length ≤ size) : lo l size < (val (l.take j) + 1) * 256 ^ (size - j) := Nat.lt_of_le_of_lt (lo_le_hi l size) (hi_le l j size hj hl)
theorem take_take' (t : List UInt8) (j n : Nat) (h : j ≤ n) : (t.take n).take j = t.take j := by rw [List.take_take, Nat.min_eq_left h]

section
variable (c : UInt8) (t : List UInt8)
theorem more2 (hf : c.toNat % 128 = 126) (h : t.length < 2) : getF (c :: t) = (0, 0, 80) := by
  have ht : t.take 2 = t := List.take_of_length_le (by omega)
  have e : ¬ (hi (t.take 2) 2 < 126 ∨ 65535 < lo (t.take 2) 2) := by
    have h2 := lo_lt (t.take 2) 2 (by simp; omega)
    have h1 : 255 ≤ hi (t.take 2) 2 := by
      unfold hi
      rw [ht]
      have : 256 ^ 1 ≤ 256 ^ (2 - t.length) := Nat.pow_le_pow_right (by omega) (by omega)
      have h3 : 1 * 256 ^ (2 - t.length) ≤ (val t + 1) * 256 ^ (2 - t.length) := Nat.mul_le_mul_right _ (by omega)
      omega
    omega
  rw [getF, if_neg (by omega), if_pos hf, if_neg e, if_pos h]
theorem form2 (hf : c.toNat % 128 = 126) (h : 2 ≤ t.length) (hv : val (t.take 2) < 126) : getF (c :: t) = (0, 0, 81) := by
  have e : hi (t.take 2) 2 < 126 := by
    unfold hi
    rw [List.length_take, Nat.min_eq_left h]
    omega
  rw [getF, if_neg (by omega), if_pos hf, if_pos (.inl e)]
theorem done2 (hf : c.toNat % 128 = 126) (h : 2 ≤ t.length) (hv : 126 ≤ val (t.take 2)) : getF (c :: t) = (val (t.take 2), 3, 0) := by
  have h2 := lo_lt (t.take 2) 2 (by simp; omega)
  have e : hi (t.take 2) 2 = val (t.take 2) := by
    unfold hi
    rw [List.length_take, Nat.min_eq_left h]
    omega
  rw [getF, if_neg (by omega), if_pos hf, if_neg (by omega), if_neg (by omega)]
theorem more8 (hf : c.toNat % 128 = 127) (h : t.length < 8) (h1 : 1 ≤ t.length → val (t.take 1) < 128) (h6 : 6 ≤ t.length → val (t.take 6) ≠ 0) : getF (c :: t) = (0, 0, 80) := by
  have ht : t.take 8 = t := List.take_of_length_le (by omega)
  have e : ¬ (hi (t.take 8) 8 < 65536 ∨ 9223372036854775807 < lo (t.take 8) 8) := by
    rw [ht]
    have a1 : 65536 ≤ hi t 8 := by
      by_cases g : 6 ≤ t.length
      · have := hi_ge t 6 8 g (by omega)
        have g6 := h6 g
        have : 1 * 256 ^ (8 - 6) ≤ val (t.take 6) * 256 ^ (8 - 6) := Nat.mul_le_mul_right _ (by omega)
        omega
      · unfold hi
        have : 256 ^ 3 ≤ 256 ^ (8 - t.length) := Nat.pow_le_pow_right (by omega) (by omega)
        have h3 : 1 * 256 ^ (8 - t.length) ≤ (val t + 1) * 256 ^ (8 - t.length) := Nat.mul_le_mul_right _ (by omega)
        omega
    have a2 : lo t 8 ≤ 9223372036854775807 := by
      by_cases g : 1 ≤ t.length
      · have := lo_lt' t 1 8 g (by omega)
        have g1 := h1 g
        have : (val (t.take 1) + 1) * 256 ^ (8 - 1) ≤ 128 * 256 ^ (8 - 1) := Nat.mul_le_mul_right _ (by omega)
        omega
      · obtain rfl : t = [] := List.eq_nil_of_length_eq_zero (by omega)
        simp [lo]
    omega
  rw [getF, if_neg (by omega), if_neg (by omega), if_neg e, if_pos h]
theorem form8a (hf : c.toNat % 128 = 127) (h : 1 ≤ t.length) (hv : 128 ≤ val (t.take 1)) : getF (c :: t) = (0, 0, 81) := by
  have a := lo_ge (t.take 8) 1 8 (by simp; omega) (by simp; omega)
  rw [take_take' t 1 8 (by omega)] at a
  have : 128 * 256 ^ (8 - 1) ≤ val (t.take 1) * 256 ^ (8 - 1) := Nat.mul_le_mul_right _ hv
  rw [getF, if_neg (by omega), if_neg (by omega), if_pos (.inr (by omega))]
theorem form8b (hf : c.toNat % 128 = 127) (h : 6 ≤ t.length) (hv : val (t.take 6) = 0) : getF (c :: t) = (0, 0, 81) := by
  have a := hi_le (t.take 8) 6 8 (by simp; omega) (by simp; omega)
  rw [take_take' t 6 8 (by omega), hv] at a
  rw [getF, if_neg (by omega), if_neg (by omega), if_pos (.inl (by omega))]
theorem done8 (hf : c.toNat % 128 = 127) (h : 8 ≤ t.length) (h1 : val (t.take 1) < 128) (h6 : val (t.take 6) ≠ 0) : getF (c :: t) = (val (t.take 8), 9, 0) := by
  have a := hi_ge (t.take 8) 6 8 (by simp; omega) (by simp; omega)
  rw [take_take' t 6 8 (by omega)] at a
  have b := lo_lt' (t.take 8) 1 8 (by simp; omega) (by simp; omega)
  rw [take_take' t 1 8 (by omega)] at b
  have g1 : 1 * 256 ^ (8 - 6) ≤ val (t.take 6) * 256 ^ (8 - 6) := Nat.mul_le_mul_right _ (by omega)
  have g2 : (val (t.take 1) + 1) * 256 ^ (8 - 1) ≤ 128 * 256 ^ (8 - 1) := Nat.mul_le_mul_right _ (by omega)
  rw [getF, if_neg (by omega), if_neg (by omega), if_neg (by omega), if_neg (by omega)]
theorem val_next (k : Nat) (h : k < t.length) : val (t.take (k + 1)) = 256 * val (t.take k) + t[k].toNat := by rw [take_one t k h, val_one]
end

theorem data_at (s : ByteArray) (c : UInt8) (t : List UInt8) (hs : s.data.toList = c :: t) (k : Nat) (h : k < t.length) : k + 1 < s.size ∧ ∀ h2 : k + 1 < s.size, s[k + 1]'h2 = t[k] := by
  have hl : s.size = t.length + 1 := by rw [← len_data, hs]; simp
  refine ⟨by omega, fun h2 => ?_⟩
  have h3 : s.data[k + 1]? = some t[k] := by
    rw [← Array.getElem?_toList, hs]
    simp [h]
  have h4 : s.data[k + 1]? = some (s[k + 1]'h2) := Array.getElem?_eq_getElem h2
  rw [h4] at h3
  exact Option.some.inj h3
theorem data_head (s : ByteArray) (c : UInt8) (t : List UInt8) (hs : s.data.toList = c :: t) (h2 : 0 < s.size) : s[0]'h2 = c := by
  have h3 : s.data[0]? = some c := by rw [← Array.getElem?_toList, hs]; rfl
  have h4 : s.data[0]? = some (s[0]'h2) := Array.getElem?_eq_getElem h2
  rw [h4] at h3
  exact Option.some.inj h3

/-- The loop's relation at two bytes. -/
def Rel2 (t : List UInt8) (x z i : Value) : Prop := ∃ (k : Nat) (b : Bool), i = .int .i64 k ∧ k ≤ 2 ∧ k ≤ t.length ∧ x = .int .u64 (val (t.take k) : Nat) ∧ z = .bool b ∧ (k = 2 → 126 ≤ val (t.take 2))
theorem rel2 {t : List UInt8} {x z i : Value} (k : Nat) (b : Bool) (h1 : i = .int .i64 k) (h2 : k ≤ 2) (h3 : k ≤ t.length) (h4 : x = .int .u64 (val (t.take k) : Nat)) (h5 : z = .bool b) (h6 : k = 2 → 126 ≤ val (t.take 2)) : Rel2 t x z i := ⟨k, b, h1, h2, h3, h4, h5, h6⟩

set_option maxHeartbeats 2000000 in
set_option maxRecDepth 100000 in
theorem ref_get126 (w : World) (s : ByteArray) (c : UInt8) (t : List UInt8) (hs : s.data.toList = c :: t) (hn : s.size ≤ 1000) (hf : c.toNat % 128 = 126) :
    Calls Try.prog 16 #[.string s] w fun e w' => e = .returned (.tuple #[.int .u64 ((getF (c :: t)).1 : Nat), .int .i64 ((getF (c :: t)).2.1 : Nat), .int .i64 ((getF (c :: t)).2.2 : Nat)]) ∧ Still w w' := by
  have hl : s.size = t.length + 1 := by rw [← len_data, hs]; simp
  have h0 : 0 < s.size := by omega
  have e0 := data_head s c t hs h0
  have f0 : (c.toNat : Int) % 128 = 126 := by omega
  obtain ⟨r, hr⟩ : ∃ r, r = getF (c :: t) := ⟨_, rfl⟩
  rw [← hr]
  have HR := Lib.hid hr
  have HS := Lib.hid hs
  have HF := Lib.hid hf
  have hl1 : s.size ≤ t.length + 1 := by omega
  have hl2 : t.length + 1 ≤ s.size := by omega
  clear hr hs hf hl
  go_enter Try.func16, Try.ntmps16
  go_wp2
  go_loop [7, 8, 9] (fun x z i => Rel2 t x z i) (fun _ _ i => 2 - (intOf i).toNat)
  case atStart => exact rel2 0 true rfl (by omega) (by omega) rfl rfl (by omega)
  case round =>
    obtain ⟨k, b, rfl, hk2, hkt, rfl, rfl, hform⟩ := hrel
    have HFM := Lib.hid hform
    clear hform
    obtain ⟨X, hX⟩ : ∃ X, X = val (t.take k) := ⟨_, rfl⟩
    rw [← hX]
    have HX := Lib.hid hX
    clear hX
    by_cases hlt : k < 2
    · by_cases hle : k < t.length
      · obtain ⟨hb, hat⟩ := data_at s c t HS.out k hle
        have e1 := hat hb
        obtain ⟨ch, hch⟩ : ∃ ch, ch = t[k] := ⟨_, rfl⟩
        rw [← hch] at e1
        have hcl := UInt8.toNat_lt ch
        obtain ⟨Y, hY⟩ : ∃ Y, Y = val (t.take (k + 1)) := ⟨_, rfl⟩
        have hXY : Y = 256 * X + ch.toNat := by rw [hY, val_next t k hle, HX.out, hch]
        have hXl : X < 256 := by
          rw [HX.out]
          refine Nat.lt_of_lt_of_le (val_lt _) ?_
          rw [List.length_take, Nat.min_eq_left (by omega)]
          exact Nat.pow_le_pow_right (n := 256) (by omega) (show k ≤ 1 by omega)
        have y1 : (256 * (X : Int) + ch.toNat) = Y := by omega
        have HY := Lib.hid hY
        clear hat hch hY hXY
        by_cases hk1 : k = 1
        · subst hk1
          by_cases hy : Y < 126
          · have e := form2 c t HF.out (by omega) (by rw [show (2 : Nat) = 1 + 1 from rfl, ← HY.out]; exact hy)
            rw [← HR.out] at e
            have HE := Lib.hid e
            clear e
            go_wp2
            all_goals (go_ret3; rw [HE.out]; exact ⟨rfl, Keeps.refl _ _⟩)
          · have hy' : ¬ (Y : Int) < 126 := by omega
            have HY2 := Lib.hid (show 126 ≤ val (t.take 2) by rw [show (2 : Nat) = 1 + 1 from rfl, ← HY.out]; omega)
            go_wp2
            all_goals
              go_round
              case rel => first | exact rel2 2 _ rfl (by omega) (by omega) (by rw [← HY.out]) rfl (fun _ => HY2.out) | ((repeat apply Exists.intro); exact ⟨rel2 2 _ rfl (by omega) (by omega) (by rw [← HY.out]) rfl (fun _ => HY2.out), by and_intros <;> first | rfl | simp⟩)
              case measure => simp [intOf]
        · obtain rfl : k = 0 := by omega
          go_wp2
          all_goals
            go_round
            case rel => first | exact rel2 1 _ rfl (by omega) (by omega) (by rw [← HY.out]) rfl (by omega) | ((repeat apply Exists.intro); exact ⟨rel2 1 _ rfl (by omega) (by omega) (by rw [← HY.out]) rfl (by omega), by and_intros <;> first | rfl | simp⟩)
            case measure => simp [intOf]
      · have e := more2 c t HF.out (by omega)
        rw [← HR.out] at e
        have HE := Lib.hid e
        clear e
        go_wp2
        all_goals (go_ret3; rw [HE.out]; exact ⟨rfl, Keeps.refl _ _⟩)
    · obtain rfl : k = 2 := by omega
      have e := done2 c t HF.out (by omega) (HFM.out rfl)
      rw [← HR.out, ← HX.out] at e
      have HE := Lib.hid e
      clear e
      go_wp2
      all_goals (go_ret3; rw [HE.out]; exact ⟨rfl, Keeps.refl _ _⟩)

end Go.Proofs.Ytkpahpoobbjgiaa
