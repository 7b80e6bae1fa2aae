/- The document's answer for Get at eight bytes. -/
import Derived.Test.YtkpahpoobbjgiaaRefGet
namespace Go.Proofs.Ytkpahpoobbjgiaa
open Go.RowKit

/-- The loop's relation at eight bytes. -/
def Rel8 (t : List UInt8) (x z i : Value) : Prop := ∃ (k : Nat) (b : Bool), i = .int .i64 k ∧ k ≤ 8 ∧ k ≤ t.length ∧ x = .int .u64 (val (t.take k) : Nat) ∧ z = .bool b ∧ (b = true ↔ val (t.take k) = 0) ∧ (1 ≤ k → val (t.take 1) < 128) ∧ (6 ≤ k → val (t.take 6) ≠ 0)
theorem rel8 {t : List UInt8} {x z i : Value} (k : Nat) (b : Bool) (h1 : i = .int .i64 k) (h2 : k ≤ 8) (h3 : k ≤ t.length) (h4 : x = .int .u64 (val (t.take k) : Nat)) (h5 : z = .bool b) (h6 : b = true ↔ val (t.take k) = 0) (h7 : 1 ≤ k → val (t.take 1) < 128) (h8 : 6 ≤ k → val (t.take 6) ≠ 0) : Rel8 t x z i := ⟨k, b, h1, h2, h3, h4, h5, h6, h7, h8⟩

set_option maxHeartbeats 4000000 in
set_option maxRecDepth 100000 in
theorem ref_get127 (w : World) (s : ByteArray) (c : UInt8) (t : List UInt8) (hs : s.data.toList = c :: t) (hn : s.size ≤ 1000) (hf : c.toNat % 128 = 127) :
    Calls Try.prog 16 #[.string s] w fun e w' => e = .returned (.tuple #[.int .u64 ((getF (c :: t)).1 : Nat), .int .i64 ((getF (c :: t)).2.1 : Nat), .int .i64 ((getF (c :: t)).2.2 : Nat)]) ∧ Still w w' := by
  have hl : s.size = t.length + 1 := by rw [← len_data, hs]; simp
  have h0 : 0 < s.size := by omega
  have e0 := data_head s c t hs h0
  have f0 : (c.toNat : Int) % 128 = 127 := by omega
  obtain ⟨r, hr⟩ : ∃ r, r = getF (c :: t) := ⟨_, rfl⟩
  rw [← hr]
  have HR := Lib.hid hr
  have HS := Lib.hid hs
  have HF := Lib.hid hf
  have hl1 : s.size ≤ t.length + 1 := by omega
  have hl2 : t.length + 1 ≤ s.size := by omega
  clear hr hs hf hl
  go_enter Try.func16, Try.ntmps16
  go_wp2
  go_loop [7, 8, 9] (fun x z i => Rel8 t x z i) (fun _ _ i => 8 - (intOf i).toNat)
  case atStart => exact rel8 0 true rfl (by omega) (by omega) rfl rfl (by simp) (by omega) (by omega)
  case round =>
    obtain ⟨k, b, rfl, hk2, hkt, rfl, rfl, hz, hform1, hform6⟩ := hrel
    have HZ := Lib.hid hz
    have HF1 := Lib.hid hform1
    have HF6 := Lib.hid hform6
    clear hform1 hform6 hz
    obtain ⟨X, hX⟩ : ∃ X, X = val (t.take k) := ⟨_, rfl⟩
    rw [← hX]
    have HX := Lib.hid hX
    clear hX
    by_cases hlt : k < 8
    · by_cases hle : k < t.length
      · obtain ⟨hb, hat⟩ := data_at s c t HS.out k hle
        have e1 := hat hb
        obtain ⟨ch, hch⟩ : ∃ ch, ch = t[k] := ⟨_, rfl⟩
        rw [← hch] at e1
        have hcl := UInt8.toNat_lt ch
        obtain ⟨Y, hY⟩ : ∃ Y, Y = val (t.take (k + 1)) := ⟨_, rfl⟩
        have hXY : Y = 256 * X + ch.toNat := by rw [hY, val_next t k hle, HX.out, hch]
        have hXl : X < 72057594037927936 := by
          rw [HX.out]
          refine Nat.lt_of_lt_of_le (val_lt _) ?_
          rw [List.length_take, Nat.min_eq_left (by omega)]
          exact Nat.pow_le_pow_right (n := 256) (by omega) (show k ≤ 7 by omega)
        have y1 : (256 * (X : Int) + ch.toNat) = Y := by omega
        have HY := Lib.hid hY
        have HXY := Lib.hid hXY
        have hbz : (b = true → X = 0) ∧ (b = false → X ≠ 0) := by
          constructor
          · intro h; rw [HX.out]; exact HZ.out.1 h
          · intro h hx; rw [HX.out] at hx; rw [HZ.out.2 hx] at h; cases h
        have HBZ := Lib.hid hbz
        clear hat hch hY hXY hbz
        by_cases hk0 : k = 0
        · subst hk0
          by_cases hy : 128 ≤ ch.toNat
          · have e := form8a c t HF.out (by omega) (by rw [show (1 : Nat) = 0 + 1 from rfl, ← HY.out, HXY.out]; omega)
            rw [← HR.out] at e
            have HE := Lib.hid e
            clear e
            have hy' : 128 ≤ (ch.toNat : Int) := by omega
            go_wp2
            all_goals (go_ret3; rw [HE.out]; exact ⟨rfl, Keeps.refl _ _⟩)
          · have hx0 : X = 0 := by rw [HX.out]; rfl
            have HY2 := Lib.hid (show val (t.take 1) < 128 by rw [show (1 : Nat) = 0 + 1 from rfl, ← HY.out, HXY.out]; omega)
            have hy' : ¬ 128 ≤ (ch.toNat : Int) := by omega
            obtain rfl : b = true := by cases b with | true => rfl | false => exact absurd hx0 (HBZ.out.2 rfl)
            have HI := Lib.hid (show ((ch.toNat : Int) == 0) = true ↔ val (t.take (0 + 1)) = 0 by rw [← HY.out, HXY.out, hx0]; simp)
            clear hx0
            go_wp2
            all_goals
              go_round
              case rel => first | exact rel8 (1) _ (rfl) (by omega) (by omega) (by rw [← HY.out]) rfl (HI.out) (fun _ => HY2.out) (by omega) | ((repeat apply Exists.intro); exact ⟨rel8 (1) _ (rfl) (by omega) (by omega) (by rw [← HY.out]) rfl (HI.out) (fun _ => HY2.out) (by omega), by and_intros <;> first | rfl | simp⟩)
              case measure => simp [intOf]
        · have HP1 := Lib.hid (HF1.out (by omega))
          by_cases hk5 : k = 5
          · subst hk5
            by_cases hy : Y = 0
            · have e := form8b c t HF.out (by omega) (by rw [show (6 : Nat) = 5 + 1 from rfl, ← HY.out]; exact hy)
              rw [← HR.out] at e
              have HE := Lib.hid e
              have HXY' := HXY.out
              obtain rfl : b = true := by cases b with | true => rfl | false => exact absurd (by omega) (HBZ.out.2 rfl)
              have hc0 : ((ch.toNat : Int) == 0) = true := by simp; omega
              clear e HXY' hy
              go_wp2
              all_goals (go_ret3; rw [HE.out]; exact ⟨rfl, Keeps.refl _ _⟩)
            · have HY2 := Lib.hid (show val (t.take 6) ≠ 0 by rw [show (6 : Nat) = 5 + 1 from rfl, ← HY.out]; exact hy)
              have HNY := Lib.hid hy
              clear hy
              cases b with
              | true =>
                have hc0 : ((ch.toNat : Int) == 0) = false := by
                  have h1 := HBZ.out.1 rfl
                  have h2 := HXY.out
                  have h3 := HNY.out
                  simp; omega
                have HI := Lib.hid (show ((ch.toNat : Int) == 0) = true ↔ val (t.take (5 + 1)) = 0 by rw [← HY.out, hc0]; constructor <;> intro h; cases h; exact absurd h HNY.out)
                go_wp2
                all_goals
                  go_round
                  case rel => first | exact rel8 (6) _ (rfl) (by omega) (by omega) (by rw [← HY.out]) rfl (by first | exact HI.out | (rw [← hc0]; exact HI.out)) (fun _ => HP1.out) (fun _ => HY2.out) | ((repeat apply Exists.intro); exact ⟨rel8 (6) _ (rfl) (by omega) (by omega) (by rw [← HY.out]) rfl (by first | exact HI.out | (rw [← hc0]; exact HI.out)) (fun _ => HP1.out) (fun _ => HY2.out), by and_intros <;> first | rfl | simp⟩)
                  case measure => simp [intOf]
              | false =>
                have HI := Lib.hid (show false = true ↔ val (t.take (5 + 1)) = 0 by rw [← HY.out]; constructor <;> intro h; cases h; exact absurd h HNY.out)
                go_wp2
                all_goals
                  go_round
                  case rel => first | exact rel8 (6) _ (rfl) (by omega) (by omega) (by rw [← HY.out]) rfl (HI.out) (fun _ => HP1.out) (fun _ => HY2.out) | ((repeat apply Exists.intro); exact ⟨rel8 (6) _ (rfl) (by omega) (by omega) (by rw [← HY.out]) rfl (HI.out) (fun _ => HP1.out) (fun _ => HY2.out), by and_intros <;> first | rfl | simp⟩)
                  case measure => simp [intOf]
          · have HP6 := Lib.hid (show 6 ≤ k + 1 → val (t.take 6) ≠ 0 from fun h => HF6.out (by omega))
            cases b with
            | true =>
              have HI := Lib.hid (show ((ch.toNat : Int) == 0) = true ↔ val (t.take (k + 1)) = 0 by rw [← HY.out, HXY.out, HBZ.out.1 rfl]; simp)
              go_wp2
              all_goals
                go_round
                case rel => first | exact rel8 (k + 1) _ (rfl) (by omega) (by omega) (by rw [← HY.out]) rfl (HI.out) (fun _ => HP1.out) (HP6.out) | ((repeat apply Exists.intro); exact ⟨rel8 (k + 1) _ (rfl) (by omega) (by omega) (by rw [← HY.out]) rfl (HI.out) (fun _ => HP1.out) (HP6.out), by and_intros <;> first | rfl | simp⟩)
                case measure => simp [intOf]; omega
            | false =>
              have HI := Lib.hid (show false = true ↔ val (t.take (k + 1)) = 0 by
                rw [← HY.out, HXY.out]
                have := HBZ.out.2 rfl
                constructor
                · intro h; cases h
                · intro h; omega)
              go_wp2
              all_goals
                go_round
                case rel => first | exact rel8 (k + 1) _ (rfl) (by omega) (by omega) (by rw [← HY.out]) rfl (HI.out) (fun _ => HP1.out) (HP6.out) | ((repeat apply Exists.intro); exact ⟨rel8 (k + 1) _ (rfl) (by omega) (by omega) (by rw [← HY.out]) rfl (HI.out) (fun _ => HP1.out) (HP6.out), by and_intros <;> first | rfl | simp⟩)
                case measure => simp [intOf]; omega
      · obtain rfl : k = t.length := by omega
        have e := more8 c t HF.out hlt HF1.out HF6.out
        rw [← HR.out] at e
        have HE := Lib.hid e
        clear e
        go_wp2
        all_goals (go_ret3; rw [HE.out]; exact ⟨rfl, Keeps.refl _ _⟩)
    · obtain rfl : k = 8 := by omega
      have e := done8 c t HF.out (by omega) (HF1.out (by omega)) (HF6.out (by omega))
      rw [← HR.out, ← HX.out] at e
      have HE := Lib.hid e
      clear e
      go_wp2
      all_goals (go_ret3; rw [HE.out]; exact ⟨rfl, Keeps.refl _ _⟩)

set_option maxRecDepth 100000 in
theorem ref_get (w : World) (s : ByteArray) (hn : s.size ≤ 1000) :
    Calls Try.prog 16 #[.string s] w fun e w' => e = .returned (.tuple #[.int .u64 ((getF s.data.toList).1 : Nat), .int .i64 ((getF s.data.toList).2.1 : Nat), .int .i64 ((getF s.data.toList).2.2 : Nat)]) ∧ Still w w' := by
  cases hs : s.data.toList with
  | nil =>
    have h0 : s.size = 0 := by rw [← len_data, hs]; rfl
    clear hs
    go_enter Try.func16, Try.ntmps16
    go_wp2
    go_ret3
    exact ⟨rfl, Keeps.refl _ _⟩
  | cons c t =>
    by_cases h1 : c.toNat % 128 < 126
    · have h0 : 0 < s.size := by rw [← len_data, hs]; simp
      have e0 := data_head s c t hs h0
      have hget : getF (c :: t) = (c.toNat % 128, 1, 0) := by rw [getF, if_pos h1]
      have h1' : (c.toNat : Int) % 128 < 126 := by omega
      rw [hget]
      clear hget hs
      go_enter Try.func16, Try.ntmps16
      go_wp2
      go_ret3
      exact ⟨rfl, Keeps.refl _ _⟩
    · by_cases h2 : c.toNat % 128 = 126
      · exact ref_get126 w s c t hs hn h2
      · exact ref_get127 w s c t hs hn (by omega)
end Go.Proofs.Ytkpahpoobbjgiaa
