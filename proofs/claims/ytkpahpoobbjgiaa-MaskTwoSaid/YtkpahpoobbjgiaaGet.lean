/- The contracts of Get, and of the document's answer for it. -/
import Derived.Test.YtkpahpoobbjgiaaPut
namespace Go.Proofs.Ytkpahpoobbjgiaa
open Go.RowKit

theorem lo_lt (l : List UInt8) (i : Nat) (h : l.length ≤ i) : lo l i < 256 ^ i := Nat.lt_of_le_of_lt (lo_le_hi l i) (hi_lt l i h)

theorem read_step (X c : Nat) (hX : X < 72057594037927936) (hc : c < 256) :
    bits BinOp.or IntKind.u64 (IntKind.u64.wrap (X * 256)) (IntKind.u64.wrap c) = ((256 * X + c : Nat) : Int) := by
  rw [IntWalk.u64_in _ (by omega), IntWalk.u64_in _ (by omega), show (X : Int) * 256 = ((X * 256 : Nat) : Int) by omega, u64_or_nat _ _ (by omega) (by omega)]
  have h := Nat.shiftLeft_add_eq_or_of_lt (show c < 2 ^ 8 by omega) X
  rw [Nat.shiftLeft_eq] at h
  rw [show X * 256 ||| c = X * 2 ^ 8 + c from h.symm]
  congr 1
  omega

set_option maxHeartbeats 400000 in
theorem least_any (w : World) (l : List UInt8) (A : Option Addr) (n cap size : Nat) (hs : SliceOf w A n l) (hsz : size ≤ 8) (hn : n ≤ size) :
    Calls Try.prog 20 #[.slice A n cap, .int .i64 size] w fun e w' => e = .returned (.tuple #[.int .u64 (lo l size : Nat), .int .u64 (hi l size : Nat)]) ∧ ∃ d, w' = w.drewN d := by
  go_enter Try.func20, Try.ntmps20
  go_wp2
  go_loopw [6, 7, 12] (fun x y i wr => ∃ k d : Nat, i = .int .i64 k ∧ k ≤ size ∧ x = .int .u64 (lo (l.take k) k : Nat) ∧ y = .int .u64 (hi (l.take k) k : Nat) ∧ wr = w.drewN d) (fun _ _ i _ => size - (intOf i).toNat)
  case atStart => exact ⟨0, 0, rfl, by omega, by simp [lo], by simp [hi], rfl⟩
  case round =>
    obtain ⟨k, d, rfl, hks, rfl, rfl, rfl⟩ := hrel
    by_cases hlt : k < size
    · obtain ⟨X, hX⟩ : ∃ X, X = lo (l.take k) k := ⟨_, rfl⟩
      obtain ⟨Y, hY⟩ : ∃ Y, Y = hi (l.take k) k := ⟨_, rfl⟩
      have hlk : (l.take k).length ≤ k := by rw [List.length_take]; omega
      have B1 : lo (l.take k) k < 72057594037927936 := Nat.lt_of_lt_of_le (lo_lt _ _ hlk) (Nat.pow_le_pow_right (by omega) (show k ≤ 7 by omega))
      have B2 : hi (l.take k) k < 72057594037927936 := Nat.lt_of_lt_of_le (hi_lt _ _ hlk) (Nat.pow_le_pow_right (by omega) (show k ≤ 7 by omega))
      have HB1 := Lib.hid B1
      have HB2 := Lib.hid B2
      clear B1 B2
      by_cases hk : k < n
      · obtain ⟨g, off, rfl, hg, hcell⟩ := hs.2 (by omega)
        have hkl : k < l.length := by rw [hs.1]; exact hk
        have hc := hcell k hkl
        rw [← hX, ← hY]
        have HX := Lib.hid hX
        have HY := Lib.hid hY
        clear hX hY
        go_wp2
        go_quiet (fail)
        have r1 := read_step X l[k].toNat (by rw [HX.out]; exact HB1.out) (UInt8.toNat_lt _)
        have r2 := read_step Y l[k].toNat (by rw [HY.out]; exact HB2.out) (UInt8.toNat_lt _)
        have R1 := Lib.hid r1
        have R2 := Lib.hid r2
        clear r1 r2
        go_wp2
        refine ⟨⟨k + 1, _, by simp, by omega, ?_, ?_, rfl⟩, by simp [intOf]; omega⟩
        · rw [R1.out, HX.out, lo_step, dif_pos hkl]
        · rw [R2.out, HY.out, hi_step, dif_pos hkl]
      · rw [← hX, ← hY]
        have HX := Lib.hid hX
        have HY := Lib.hid hY
        clear hX hY
        have r1 := read_step X 0 (by rw [HX.out]; exact HB1.out) (by omega)
        have r2 := read_step Y 255 (by rw [HY.out]; exact HB2.out) (by omega)
        have R1 := Lib.hid r1
        have R2 := Lib.hid r2
        clear r1 r2
        go_wp2
        refine ⟨⟨k + 1, _, by simp, by omega, ?_, ?_, rfl⟩, by simp [intOf]; omega⟩
        · rw [lo_step, dif_neg (by rw [hs.1]; exact hk), ← HX.out]; exact congrArg _ R1.out
        · rw [hi_step, dif_neg (by rw [hs.1]; exact hk), ← HY.out]; exact congrArg _ R2.out
    · obtain rfl : k = size := by omega
      have t : l.take k = l := List.take_of_length_le (by rw [hs.1]; exact hn)
      rw [t]
      clear t
      go_wp2
      go_ret2
      exact ⟨rfl, _, rfl⟩

theorem least_at (w : World) (l : List UInt8) (A : Option Addr) (n cap size a b : Nat) (hs : SliceOf w A n l) (hsz : size ≤ 8) (hn : n ≤ size) (ha : a = lo l size) (hb : b = hi l size) :
    Calls Try.prog 20 #[.slice A n cap, .int .i64 size] w fun e w' => e = .returned (.tuple #[.int .u64 a, .int .u64 b]) ∧ ∃ d, w' = w.drewN d := by
  subst ha
  subst hb
  exact least_any w l A n cap size hs hsz hn

theorem and127 (c : UInt8) : bits BinOp.and IntKind.u8 (c.toNat : Int) 127 = ((c.toNat % 128 : Nat) : Int) := by
  have := u8_and_nat c.toNat 127 (UInt8.toNat_lt c) (by omega)
  rw [show ((127 : Nat) : Int) = 127 from rfl] at this
  rw [this, Nat.and_two_pow_sub_one_eq_mod c.toNat 7]

set_option maxHeartbeats 2000000 in
theorem get_long126 (w : World) (c : UInt8) (t : List UInt8) (A : Option Addr) (n cap : Nat) (hs : SliceOf w A n (c :: t)) (hcap : n ≤ cap) (hn : n ≤ 1000) (hf : c.toNat % 128 = 126) :
    Calls Try.prog 15 #[.slice A n cap] w fun e w' => e = .returned (.tuple #[.int .u64 ((getF (c :: t)).1 : Nat), .int .i64 ((getF (c :: t)).2.1 : Nat), .int .i64 ((getF (c :: t)).2.2 : Nat)]) ∧ Still w w' := by
  have hl : t.length + 1 = n := by have := hs.1; simpa using this
  obtain ⟨g, off, rfl, hg, hcell⟩ := hs.2 (by omega)
  have hc := hcell 0 (by simp)
  have hn1 : 0 < n := by omega
  have hn0 : ¬ n = 0 := by omega
  rw [Nat.add_zero, List.getElem_cons_zero] at hc
  have hand := and127 c
  rw [hf] at hand
  obtain ⟨k, hk⟩ : ∃ k, k = min t.length 2 := ⟨_, rfl⟩
  obtain ⟨a, ha⟩ : ∃ a, a = lo (t.take 2) 2 := ⟨_, rfl⟩
  obtain ⟨b, hb⟩ : ∃ b, b = hi (t.take 2) 2 := ⟨_, rfl⟩
  have hav : k = 2 → a = val (t.take 2) := by
    intro h
    rw [ha, lo, List.length_take, show min 2 t.length = 2 by omega]
    simp
  have hm : (1 + k : Int) = min (n : Int) (1 + 2) := by omega
  have HM := Lib.hid hm
  have hsr : ∀ A', (1 < n → A' = some ⟨g, off + 1, none⟩) → SliceOf w A' k (t.take 2) := by
    intro A' hA'
    have h1 := hs.cut 1 (by omega) (A' := A') (by intro h; rw [hA' h]; simp [Addr.add_lit])
    rw [List.drop_one, List.tail_cons] at h1
    have h2 := h1.front k (by omega)
    rwa [hk, Nat.min_comm, ← List.take_eq_take_min, ← Nat.min_comm, ← hk] at h2
  have HSR := Lib.hid hsr
  have hget : getF (c :: t) = if b < 126 ∨ 65535 < a then (0, 0, 81) else if t.length < 2 then (0, 0, 80) else (val (t.take 2), 3, 0) := by
    rw [getF, if_neg (by omega), if_pos (by omega), ha, hb]
  obtain ⟨r, hr⟩ : ∃ r, r = getF (c :: t) := ⟨_, rfl⟩
  rw [← hr]
  rw [hget] at hr
  have HR := Lib.hid hr
  have k1 : k ≤ t.length := by omega
  have k2 : k ≤ 2 := by omega
  have HAV := Lib.hid hav
  have HA := Lib.hid ha
  have HB := Lib.hid hb
  have m5 : 1 + (k : Int) ≤ n := by omega
  have HL := Lib.hid hl
  have HK := Lib.hid hk
  clear hget hr hm hsr hcell hs hav hl hk ha hb hf
  go_enter Try.func15, Try.ntmps15
  go_wp2_with (with_reducible refine wpList_min (o := ⟨some 31, _, _, _, _, _⟩) rfl _ _ _ _ rfl _ _ _ _ (1 + k : Int) rfl rfl HM.out ?_)
  all_goals
    refine (least_at _ (t.take 2) _ k _ 2 a b (HSR.out _ (by intro h; first | rfl | (exfalso; omega))) (by omega) k2 HA.out HB.out).mono ?_
    rintro e w1 ⟨rfl, d, rfl⟩
    by_cases q1 : b < 126
    · have q1' : (b : Int) < 126 := by omega
      have e := HR.out
      rw [if_pos (Or.inl q1)] at e
      have HE := Lib.hid e
      clear e
      go_wp2
      go_ret3
      rw [HE.out]
      exact ⟨rfl, (Keeps.refl _ _).drewN _⟩
    · have q1' : ¬ (b : Int) < 126 := by omega
      by_cases q2 : 65535 < a
      · have q2' : (65535 : Int) < a := by omega
        have e := HR.out
        rw [if_pos (Or.inr q2)] at e
        have HE := Lib.hid e
        clear e
        clear q2
        go_wp2
        go_ret3
        rw [HE.out]
        exact ⟨rfl, (Keeps.refl _ _).drewN _⟩
      · have q2' : ¬ (65535 : Int) < a := by omega
        have e0 := HR.out
        rw [if_neg (by omega)] at e0
        have HE0 := Lib.hid e0
        clear q2 e0
        by_cases q3 : t.length < 2
        · have q3' : k < 2 := by have := HK.out; omega
          have q3'' : (k : Int) < 2 := by omega
          have e := HE0.out
          rw [if_pos q3] at e
          have HE := Lib.hid e
          clear e
          go_wp2
          all_goals go_ret3
          all_goals rw [HE.out]
          all_goals exact ⟨rfl, (Keeps.refl _ _).drewN _⟩
        · have q4 : k = 2 := by have := HK.out; omega
          have q3'' : ¬ (k : Int) < 2 := by omega
          have e := HE0.out
          rw [if_neg q3, ← HAV.out q4] at e
          have HE := Lib.hid e
          clear e
          subst q4
          go_wp2
          all_goals go_ret3
          all_goals rw [HE.out]
          all_goals exact ⟨rfl, (Keeps.refl _ _).drewN _⟩

theorem getF127 (c : UInt8) (t : List UInt8) (hf : c.toNat % 128 = 127) (a b : Nat) (ha : a = lo (t.take 8) 8) (hb : b = hi (t.take 8) 8) :
    getF (c :: t) = if b < 65536 ∨ 9223372036854775807 < a then (0, 0, 81) else if t.length < 8 then (0, 0, 80) else (val (t.take 8), 9, 0) := by
  rw [getF, if_neg (by omega), if_neg (by omega), ha, hb]

theorem top_yes (a : Nat) (h : 9223372036854775807 < a) : (9223372036854775807 : Int) < a := by omega
theorem top_no (a : Nat) (h : ¬ 9223372036854775807 < a) : ¬ (9223372036854775807 : Int) < a := by omega
theorem res_hi (a b n : Nat) (r x : Nat × Nat × Nat) (hr : r = if b < 65536 ∨ 9223372036854775807 < a then (0, 0, 81) else if n < 8 then (0, 0, 80) else x) (h : 9223372036854775807 < a) : r = (0, 0, 81) := by
  rw [hr, if_pos (Or.inr h)]
theorem res_in (a b n : Nat) (r x : Nat × Nat × Nat) (hr : r = if b < 65536 ∨ 9223372036854775807 < a then (0, 0, 81) else if n < 8 then (0, 0, 80) else x) (h0 : ¬ b < 65536) (h : ¬ 9223372036854775807 < a) : r = if n < 8 then (0, 0, 80) else x := by
  rw [hr, if_neg (by omega)]

set_option maxHeartbeats 2000000 in
theorem get_long127 (w : World) (c : UInt8) (t : List UInt8) (A : Option Addr) (n cap : Nat) (hs : SliceOf w A n (c :: t)) (hcap : n ≤ cap) (hn : n ≤ 1000) (hf : c.toNat % 128 = 127) :
    Calls Try.prog 15 #[.slice A n cap] w fun e w' => e = .returned (.tuple #[.int .u64 ((getF (c :: t)).1 : Nat), .int .i64 ((getF (c :: t)).2.1 : Nat), .int .i64 ((getF (c :: t)).2.2 : Nat)]) ∧ Still w w' := by
  have hl : t.length + 1 = n := by have := hs.1; simpa using this
  obtain ⟨g, off, rfl, hg, hcell⟩ := hs.2 (by omega)
  have hc := hcell 0 (by simp)
  have hn1 : 0 < n := by omega
  have hn0 : ¬ n = 0 := by omega
  rw [Nat.add_zero, List.getElem_cons_zero] at hc
  have hand := and127 c
  rw [hf] at hand
  obtain ⟨k, hk⟩ : ∃ k, k = min t.length 8 := ⟨_, rfl⟩
  obtain ⟨a, ha⟩ : ∃ a, a = lo (t.take 8) 8 := ⟨_, rfl⟩
  obtain ⟨b, hb⟩ : ∃ b, b = hi (t.take 8) 8 := ⟨_, rfl⟩
  have hav : k = 8 → a = val (t.take 8) := by
    intro h
    rw [ha, lo, List.length_take, show min 8 t.length = 8 by omega]
    simp
  have hm : (1 + k : Int) = min (n : Int) (1 + 8) := by omega
  have HM := Lib.hid hm
  have hsr : ∀ A', (1 < n → A' = some ⟨g, off + 1, none⟩) → SliceOf w A' k (t.take 8) := by
    intro A' hA'
    have h1 := hs.cut 1 (by omega) (A' := A') (by intro h; rw [hA' h]; simp [Addr.add_lit])
    rw [List.drop_one, List.tail_cons] at h1
    have h2 := h1.front k (by omega)
    rwa [hk, Nat.min_comm, ← List.take_eq_take_min, ← Nat.min_comm, ← hk] at h2
  have HSR := Lib.hid hsr
  have hget : getF (c :: t) = if b < 65536 ∨ 9223372036854775807 < a then (0, 0, 81) else if t.length < 8 then (0, 0, 80) else (val (t.take 8), 9, 0) := by
    exact getF127 c t hf a b ha hb
  obtain ⟨r, hr⟩ : ∃ r, r = getF (c :: t) := ⟨_, rfl⟩
  rw [← hr]
  rw [hget] at hr
  have HR := Lib.hid hr
  have k1 : k ≤ t.length := by omega
  have k2 : k ≤ 8 := by omega
  have HAV := Lib.hid hav
  have HA := Lib.hid ha
  have HB := Lib.hid hb
  have m5 : 1 + (k : Int) ≤ n := by omega
  have HL := Lib.hid hl
  have HK := Lib.hid hk
  clear hget hr hm hsr hcell hs hav hl hk ha hb hf
  go_enter Try.func15, Try.ntmps15
  go_wp2_with (with_reducible refine wpList_min (o := ⟨some 31, _, _, _, _, _⟩) rfl _ _ _ _ rfl _ _ _ _ (1 + k : Int) rfl rfl HM.out ?_)
  all_goals
    refine (least_at _ (t.take 8) _ k _ 8 a b (HSR.out _ (by intro h; first | rfl | (exfalso; omega))) (by omega) k2 HA.out HB.out).mono ?_
    rintro e w1 ⟨rfl, d, rfl⟩
    obtain ⟨M, hM⟩ : ∃ M : Int, M = 9223372036854775807 := ⟨_, rfl⟩
    have HMM := Lib.hid hM
    rw [← hM]
    obtain ⟨F, hF⟩ : ∃ F : Int, F = 65536 := ⟨_, rfl⟩
    have HFF := Lib.hid hF
    rw [← hF]
    clear hM hF
    by_cases q1 : b < 65536
    · have q1' : (b : Int) < F := by rw [HFF.out]; omega
      have e := HR.out
      rw [if_pos (Or.inl q1)] at e
      have HE := Lib.hid e
      clear e
      go_wp2
      go_ret3
      rw [HE.out]
      exact ⟨rfl, (Keeps.refl _ _).drewN _⟩
    · have q1' : ¬ (b : Int) < F := by rw [HFF.out]; omega
      by_cases q2 : 9223372036854775807 < a
      · have q2' : M < a := by rw [HMM.out]; exact top_yes a q2
        have HE := Lib.hid (res_hi a b _ r _ HR.out q2)
        clear q2 q1
        go_wp2
        go_ret3
        rw [HE.out]
        exact ⟨rfl, (Keeps.refl _ _).drewN _⟩
      · have q2' : ¬ M < a := by rw [HMM.out]; exact top_no a q2
        have HE0 := Lib.hid (res_in a b _ r _ HR.out q1 q2)
        clear q2 q1
        by_cases q3 : t.length < 8
        · have q3' : k < 8 := by have := HK.out; omega
          have q3'' : (k : Int) < 8 := by omega
          have e := HE0.out
          rw [if_pos q3] at e
          have HE := Lib.hid e
          clear e
          go_wp2
          all_goals go_ret3
          all_goals rw [HE.out]
          all_goals exact ⟨rfl, (Keeps.refl _ _).drewN _⟩
        · have q4 : k = 8 := by have := HK.out; omega
          have q3'' : ¬ (k : Int) < 8 := by omega
          have e := HE0.out
          rw [if_neg q3, ← HAV.out q4] at e
          have HE := Lib.hid e
          clear e
          subst q4
          go_wp2
          all_goals go_ret3
          all_goals rw [HE.out]
          all_goals exact ⟨rfl, (Keeps.refl _ _).drewN _⟩

set_option maxHeartbeats 1000000 in
theorem get_any (w : World) (l : List UInt8) (A : Option Addr) (n cap : Nat) (hs : SliceOf w A n l) (hcap : n ≤ cap) (hn : n ≤ 1000) :
    Calls Try.prog 15 #[.slice A n cap] w fun e w' => e = .returned (.tuple #[.int .u64 ((getF l).1 : Nat), .int .i64 ((getF l).2.1 : Nat), .int .i64 ((getF l).2.2 : Nat)]) ∧ Still w w' := by
  cases l with
  | nil =>
    obtain rfl : n = 0 := by have := hs.1; simpa using this.symm
    go_enter Try.func15, Try.ntmps15
    go_wp2
    go_ret3
    exact ⟨rfl, Keeps.refl _ _⟩
  | cons c t =>
    by_cases h1 : c.toNat % 128 < 126
    · obtain ⟨g, off, rfl, hg, hcell⟩ := hs.2 (by have := hs.1; simp at this; omega)
      have hc := hcell 0 (by simp)
      have hn1 : 0 < n := by have := hs.1; simp at this; omega
      have hn0 : ¬ n = 0 := by omega
      rw [Nat.add_zero, List.getElem_cons_zero] at hc
      have hand := and127 c
      have hget : getF (c :: t) = (c.toNat % 128, 1, 0) := by rw [getF, if_pos h1]
      rw [hget]
      obtain ⟨f, hf⟩ : ∃ f, f = c.toNat % 128 := ⟨_, rfl⟩
      rw [← hf] at hand h1 ⊢
      have f1 : ¬ (f : Int) = 126 := by omega
      have f2 : ¬ (f : Int) = 127 := by omega
      have f3 : ¬ f = 126 := by omega
      have f4 : ¬ f = 127 := by omega
      clear hget hf hcell
      go_enter Try.func15, Try.ntmps15
      go_wp2
      go_ret3
      exact ⟨rfl, Keeps.refl _ _⟩
    · by_cases h2 : c.toNat % 128 = 126
      · exact get_long126 w c t A n cap hs hcap hn h2
      · exact get_long127 w c t A n cap hs hcap hn (by omega)
end Go.Proofs.Ytkpahpoobbjgiaa
