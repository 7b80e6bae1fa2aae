/- The walk of ShaBlocks: whatever the input, the law returns true and leaves old memory alone. -/
import Derived.Test.YtogojfmaiphiaaaDoorAwake1
import Derived.LoopTactic
namespace Go.Proofs.YtogojfmaiphiaaaDoor
open Go.RowKit

theorem add_at (w : World) (p : Nat) (s s' : Sum) (l : List UInt8) (A : Option Addr) (n cap : Nat) (h : SumAt w p s) (hs : SliceOf w A n l) (hcap : n ≤ cap) (hA : ∀ ad, A = some ad → ad.block ≠ p) (hb : s.n + n ≤ 1000000000) (hs' : s' = s.add l) :
    Calls Tryd.prog 11 #[.pointer (some ⟨p, 0, none⟩), .slice A n cap] w fun e w' => e = .returned (.tuple #[]) ∧ SumAt w' p s' ∧ Keeps (fun k => k = p) w w' := by
  subst hs'
  exact add_any w p s l A n cap h hs hcap hA hb
theorem told_at (w : World) (p : Nat) (s : Sum) (d : List UInt8) (h : SumAt w p s) (hb : s.n ≤ 500000000) (hd : d = s.told) :
    Calls Tryd.prog 12 #[.pointer (some ⟨p, 0, none⟩)] w fun e w' => e = .returned (.agg (bts d).toArray) ∧ Still w w' := by
  subst hd
  exact told_any w p s h hb
/-- b[j:j+1]. -/
theorem slice25lh (w : World) (g n cap j : Nat) (hj : j < n) (hn : n ≤ cap) :
    (Instr.slice 25 (.slice (some ⟨g, 0, none⟩) n cap) (some (.int .i64 j)) (some (.int .i64 ((j : Int) + 1))) none).run Tryd.prog w = .ok (.slice (some ⟨g, j, none⟩) 1 (cap - j)) w := by
  rw [run_slice_lh w 25 _ n cap un25 .i64 .i64 j ((j : Int) + 1) (by omega) (by omega) (by omega), el25, size5]
  simp only [Result.andThen_ok, Int.toNat_natCast, sliced, Nat.mul_one, Option.map_some]
  rw [if_neg (by omega), show ((j : Int) + 1).toNat - j = 1 by omega, Addr.add_lit, Nat.zero_add]

/-- Two sums, apart, behind a world that keeps the old memory. -/
def Two (w wr : World) (p q : Nat) (s t : Sum) : Prop := SumAt wr p s ∧ SumAt wr q t ∧ Still w wr ∧ w.heap.size ≤ p ∧ w.heap.size ≤ q ∧ p ≠ q
theorem Two.still {w wr w' : World} {p q : Nat} {s t : Sum} (h : Two w wr p q s t) (hk : Still wr w') : Two w w' p q s t :=
  ⟨h.1.keeps hk id, h.2.1.keeps hk id, h.2.2.1.trans hk, h.2.2.2⟩
theorem Two.left {w wr w' : World} {p q : Nat} {s t s' : Sum} (h : Two w wr p q s t) (hs : SumAt w' p s') (hk : Keeps (fun k => k = p) wr w') : Two w w' p q s' t := by
  obtain ⟨h1, h2, h3, h4, h5, h6⟩ := h
  exact ⟨hs, h2.keeps hk (fun e => h6 e.symm), h3.on hk (fun i hi e => by omega), h4, h5, h6⟩
theorem Two.right {w wr w' : World} {p q : Nat} {s t t' : Sum} (h : Two w wr p q s t) (ht : SumAt w' q t') (hk : Keeps (fun k => k = q) wr w') : Two w w' p q s t' := by
  obtain ⟨h1, h2, h3, h4, h5, h6⟩ := h
  exact ⟨h1.keeps hk h6, ht, h3.on hk (fun i hi e => by omega), h4, h5, h6⟩

def many (c : UInt8) (k : Nat) : Sum := Sum.init.add (List.replicate k c)
theorem many_add (c : UInt8) (k j : Nat) : many c (k + j) = (many c k).add (List.replicate j c) := by unfold many; rw [← Sum.add_append, List.replicate_append_replicate]
theorem many_n (c : UInt8) (k : Nat) : (many c k).n = k := by unfold many; rw [Sum.n_add, List.length_replicate]; exact Nat.zero_add _

def RelB (w wr : World) (p q g cc kk : Nat) (c : UInt8) (i : Value) : Prop := ∃ k : Nat, i = .int .i64 k ∧ k ≤ kk ∧ Hid (Two w wr p q (many c (64 * k)) (many c (64 * k))) ∧ Hid (SliceOf wr (some ⟨g, 0, none⟩) 64 (List.replicate 64 c))
theorem relB {w wr : World} {p q g cc kk : Nat} {c : UInt8} {i : Value} (k : Nat) (h1 : i = .int .i64 k) (h2 : k ≤ kk) (h3 : Hid (Two w wr p q (many c (64 * k)) (many c (64 * k)))) (h4 : Hid (SliceOf wr (some ⟨g, 0, none⟩) 64 (List.replicate 64 c))) : RelB w wr p q g cc kk c i := ⟨k, h1, h2, h3, h4⟩
def RelJ (w wr : World) (p q g k : Nat) (c : UInt8) (i : Value) : Prop := ∃ j : Nat, i = .int .i64 j ∧ j ≤ 64 ∧ Hid (Two w wr p q (many c (64 * k + 64)) (many c (64 * k + j))) ∧ Hid (SliceOf wr (some ⟨g, 0, none⟩) 64 (List.replicate 64 c))
theorem relJ {w wr : World} {p q g k : Nat} {c : UInt8} {i : Value} (j : Nat) (h1 : i = .int .i64 j) (h2 : j ≤ 64) (h3 : Hid (Two w wr p q (many c (64 * k + 64)) (many c (64 * k + j)))) (h4 : Hid (SliceOf wr (some ⟨g, 0, none⟩) 64 (List.replicate 64 c))) : RelJ w wr p q g k c i := ⟨j, h1, h2, h3, h4⟩

set_option maxRecDepth 100000 in
set_option maxHeartbeats 4000000 in
theorem shaBlocks_far (n b : Int) (a : ByteArray) (w : World) (h0 : Start w) (g1 : 64 < a.size) :
    Calls Tryd.prog 4 #[.int .u8 n, .int .u8 b, .string a] w fun e w' => e = .returned (.bool true) ∧ Below w.heap.size w w' := by
  go_enter Tryd.func4, Tryd.ntmps4
  go_wp2_with fail
  have hq := new_any w h0
  refine hq.mono ?_
  clear hq
  rintro e w1 ⟨rfl, hn1, hk1⟩
  have h1 := h0.keeps hk1 id
  go_wp2_with fail
  have hq := new_any w1 h1
  refine hq.mono ?_
  clear hq
  rintro e w2 ⟨rfl, hn2, hk2⟩
  have h2 := h1.keeps hk2 id
  go_wp2_with fail
  have hq := awake_any w2 h2
  refine hq.mono ?_
  clear hq
  rintro e w3 ⟨rfl, hk3⟩
  have h3 := h2.keeps hk3 id
  go_wp2_with fail
  have hq := awake_any w3 h3
  refine hq.mono ?_
  clear hq
  rintro e w4 ⟨rfl, hk4⟩
  have HF := Lib.hid (((hk1.trans hk2).trans hk3).trans hk4)
  clear hk1 hk2 hk3 hk4 hn1 hn2 h0 h1 h2 h3
  go_wp2_with fail
  go_ret
  exact ⟨rfl, HF.out.below'⟩

set_option maxRecDepth 100000 in
set_option maxHeartbeats 8000000 in
theorem shaBlocks_near (n b : Nat) (c : UInt8) (hc : b = c.toNat) (a : ByteArray) (w : World) (h0 : Start w) (hn : n ≤ 255) (ha : a.size ≤ 64) :
    Calls Tryd.prog 4 #[.int .u8 n, .int .u8 b, .string a] w fun e w' => e = .returned (.bool true) ∧ Below w.heap.size w w' := by
  have HC := Lib.hid hc
  have hb256 : b < 256 := by rw [hc]; exact UInt8.toNat_lt c
  have HL := Lib.hid (len_data a)
  obtain ⟨kk, hkk⟩ : ∃ kk, kk = n % 6 := ⟨_, rfl⟩
  have hkk6 : kk < 6 := by omega
  have e0 : IntKind.i64.wrap (n : Int) = n := IntWalk.i64_in _ (by omega)
  have e1 : (n : Int) % 6 = (kk : Int) := by omega
  have e2 : Int.tmod (n : Int) 6 = (kk : Int) := by rw [Int.tmod_eq_emod_of_nonneg (by omega)]; omega
  clear hc hkk
  go_enter Tryd.func4, Tryd.ntmps4
  go_wp2_with fail
  have hq := new_any w h0
  refine hq.mono ?_
  clear hq
  rintro e w1 ⟨rfl, hn1, hk1⟩
  have h1 := h0.keeps hk1 id
  go_wp2_with fail
  have hq := new_any w1 h1
  refine hq.mono ?_
  clear hq
  rintro e w2 ⟨rfl, hn2, hk2⟩
  have h2 := h1.keeps hk2 id
  have hlt1 := hn1.lt
  obtain ⟨q, hq⟩ : ∃ q, q = w1.heap.size := ⟨_, rfl⟩
  rw [← hq] at hn2 ⊢
  have hT2 := Lib.hid (show Two w w2 w.heap.size q Sum.init Sum.init from ⟨hn1.keeps hk2 id, hn2, hk1.trans hk2, Nat.le_refl _, by omega, by omega⟩)
  clear hn1 hn2 hk1 hk2 h0 h1 hlt1 hq
  go_wp2_with fail
  have hq := awake_any w2 h2
  refine hq.mono ?_
  clear hq
  rintro e w3 ⟨rfl, hk3⟩
  have hT3 := Lib.hid (hT2.out.still hk3)
  clear hT2 hk3 h2
  go_wp2_with fail
  obtain ⟨qs, hqs⟩ : ∃ q : ByteArray, q = ⟨(List.replicate 64 c).toArray⟩ := ⟨_, rfl⟩
  have HQ := Lib.hid (show qs.data.toList = List.replicate 64 c by rw [hqs])
  have HQS := Lib.hid (show qs.size = 64 by rw [hqs]; exact size_mk _)
  clear hqs
  have hq := fill_any w3 64 b c HC.out qs HQ.out (by omega)
  refine hq.mono ?_
  clear hq
  rintro e w4 ⟨rfl, hk4⟩
  have hT4 := Lib.hid (hT3.out.still hk4)
  clear hT3 hk4
  go_wp2_with (with_reducible refine wpList_bytes (o := ⟨some 36, _, _, _, _, _⟩) rfl _ _ _ rfl 5 Tryd.underlying9 Tryd.underlying25 Tryd.underlying5 qs rfl ?_; intro w5 cc hk5 hz5 hc5 hs5 hf5)
  rw [HQS.out] at hs5 hc5 ⊢
  rw [HQ.out] at hs5
  have hT5 := Lib.hid (hT4.out.still hk5)
  have l1 := hT4.out.1.lt
  have l2 := hT4.out.2.1.lt
  obtain ⟨g, hg⟩ : ∃ g, g = w4.heap.size := ⟨_, rfl⟩
  rw [← hg] at hs5 ⊢
  have hgp : g ≠ w.heap.size := by omega
  have hgq : g ≠ q := by omega
  have HS5 := Lib.hid hs5
  clear hs5 hf5 hz5 hk5 hT4 l1 l2 hg
  have HT5 := Lib.hid (show Two w w5 w.heap.size q (many c (64 * 0)) (many c (64 * 0)) from hT5.out)
  clear hT5
  go_wp2_with fail
  go_loopw [11] (fun i wr => RelB w wr w.heap.size q g cc kk c i) (fun i _ => kk - (intOf i).toNat)
  case atStart => exact relB 0 rfl (by omega) HT5 HS5
  case round =>
    clear HT5 HS5
    obtain ⟨k, rfl, hk, hT, hS⟩ := hrel
    by_cases hlt : k < kk
    · go_wp2_with fail
      have hq := add_at wr w.heap.size (many c (64 * k)) (many c (64 * k + 64)) (List.replicate 64 c) (some ⟨g, 0, none⟩) 64 cc hT.out.1 hS.out hc5 (by intro ad h; cases h; exact hgp) (by rw [many_n]; omega) (many_add _ _ _)
      refine hq.mono ?_
      clear hq
      rintro e w6 ⟨rfl, hs6, hk6⟩
      have HT6 := Lib.hid (show Two w w6 w.heap.size q (many c (64 * k + 64)) (many c (64 * k + 0)) from hT.out.left hs6 hk6)
      have HS6 := Lib.hid (hS.out.keeps hk6 (by intro ad h; cases h; exact hgp))
      clear hT hS hs6 hk6
      go_wp2_with fail
      go_loopw [12] (fun i wr => RelJ w wr w.heap.size q g k c i) (fun i _ => 64 - (intOf i).toNat)
      case atStart => exact relJ 0 rfl (by omega) HT6 HS6
      case round =>
        clear HT6 HS6
        obtain ⟨j, rfl, hj, hT, hS⟩ := hrel
        by_cases hlj : j < 64
        · have hsl := fun w' => slice25lh w' g 64 cc j hlj hc5
          go_wp2_with fail
          have hq := add_at wr q (many c (64 * k + j)) (many c (64 * k + (j + 1))) [c] (some ⟨g, j, none⟩) 1 (cc - j) hT.out.2.1 (by
            have := (hS.out.cut j (by omega) (A' := some ⟨g, j, none⟩) (fun _ => by simp [Addr.add_lit])).front 1 (by omega)
            rw [List.drop_replicate, List.take_replicate, Nat.min_eq_left (by omega)] at this
            exact this) (by omega) (by intro ad h; cases h; exact hgq) (by rw [many_n]; omega) (many_add c (64 * k + j) 1)
          refine hq.mono ?_
          clear hq
          rintro e w6 ⟨rfl, hs6, hk6⟩
          have HT6 := Lib.hid (hT.out.right hs6 hk6)
          have HS6 := Lib.hid (hS.out.keeps hk6 (by intro ad h; cases h; exact hgq))
          clear hT hS hs6 hk6
          go_wp2_with fail
          first
          | (go_roundw
             case rel => first | exact relJ (j + 1) rfl (by omega) HT6 HS6 | ((repeat apply Exists.intro); exact ⟨relJ (j + 1) rfl (by omega) HT6 HS6, by and_intros <;> first | rfl | simp⟩)
             case measure => simp [intOf]; omega)
          | exact ⟨relJ (j + 1) rfl (by omega) HT6 HS6, by simp [intOf]; omega⟩
        · obtain rfl : j = 64 := by omega
          have HT7 := Lib.hid (show Two w wr w.heap.size q (many c (64 * (k + 1))) (many c (64 * (k + 1))) from hT.out)
          clear hT
          go_wp2_with fail
          first
          | (go_roundw
             case rel => first | exact relB (k + 1) rfl (by omega) HT7 hS | ((repeat apply Exists.intro); exact ⟨relB (k + 1) rfl (by omega) HT7 hS, by and_intros <;> first | rfl | simp⟩)
             case measure => simp [intOf]; omega)
          | exact ⟨relB (k + 1) rfl (by omega) HT7 hS, by simp [intOf]; omega⟩
    · obtain rfl : k = kk := by omega
      clear hS
      obtain ⟨y, hy⟩ : ∃ y, y = (many c (64 * k)).add a.data.toList := ⟨_, rfl⟩
      obtain ⟨N, hN⟩ : ∃ N, N = 64 * k + a.size := ⟨_, rfl⟩
      have HY := Lib.hid hy
      have HYN := Lib.hid (show N = y.n by rw [hy, Sum.n_add, many_n, HL.out]; exact hN)
      have eN : 64 * (k : Int) + (a.size : Int) = (N : Int) := by omega
      have eW : IntKind.u64.wrap (N : Int) = (N : Int) := by rw [IntKind.wrap_u64]; omega
      have hN1 : N ≤ 500 := by omega
      have hk5' : k ≤ 5 := by omega
      obtain ⟨d, hd⟩ : ∃ d, d = y.told := ⟨_, rfl⟩
      have HD := Lib.hid hd
      have HLD := Lib.hid (show d.length = 20 by rw [hd]; exact length_told _)
      have he := eq_same d HLD.out
      clear hy hN hd hk
      go_wp2_with (with_reducible refine wpList_bytes (o := ⟨some 58, _, _, _, _, _⟩) rfl _ _ _ rfl 5 Tryd.underlying9 Tryd.underlying25 Tryd.underlying5 a rfl ?_; intro w6 c6 hk6 hz6 hc6 hs6 hf6)
      have hT6 := hT.out.still hk6
      have l1 := hT.out.1.lt
      have hq := add_at w6 w.heap.size (many c (64 * k)) y a.data.toList (some ⟨wr.heap.size, 0, none⟩) a.size c6 hT6.1 hs6 hc6 (by intro ad h; cases h; show wr.heap.size ≠ _; omega) (by rw [many_n]; omega) HY.out
      refine hq.mono ?_
      clear hq
      rintro e w7 ⟨rfl, hs7, hk7⟩
      have HT7 := Lib.hid (hT6.left hs7 hk7)
      clear hT6 hs7 hk7 hk6 hz6 hc6 hs6 hf6 l1 hT
      go_wp2_with (with_reducible refine wpList_bytes (o := ⟨some 62, _, _, _, _, _⟩) rfl _ _ _ rfl 5 Tryd.underlying9 Tryd.underlying25 Tryd.underlying5 a rfl ?_; intro w8 c8 hk8 hz8 hc8 hs8 hf8)
      have hT8 := HT7.out.still hk8
      have l1 := HT7.out.2.1.lt
      have hq := add_at w8 q (many c (64 * k)) y a.data.toList (some ⟨w7.heap.size, 0, none⟩) a.size c8 hT8.2.1 hs8 hc8 (by intro ad h; cases h; show w7.heap.size ≠ _; omega) (by rw [many_n]; omega) HY.out
      refine hq.mono ?_
      clear hq
      rintro e w9 ⟨rfl, hs9, hk9⟩
      have HT9 := Lib.hid (hT8.right hs9 hk9)
      clear hT8 hs9 hk9 hk8 hz8 hc8 hs8 hf8 l1 HT7
      go_wp2_with fail
      have hq := told_at w9 w.heap.size y d HT9.out.1 (by rw [← HYN.out]; omega) HD.out
      refine hq.mono ?_
      clear hq
      rintro e w10 ⟨rfl, hk10⟩
      have HT10 := Lib.hid (HT9.out.still hk10)
      clear HT9 hk10
      go_wp2_with fail
      have hq := told_at w10 q y d HT10.out.2.1 (by rw [← HYN.out]; omega) HD.out
      refine hq.mono ?_
      clear hq
      rintro e w11 ⟨rfl, hk11⟩
      have HT11 := Lib.hid (HT10.out.still hk11)
      clear HT10 hk11
      go_wp2_with fail
      have hq := len_any w11 w.heap.size y N HT11.out.1 HYN.out
      refine hq.mono ?_
      clear hq
      rintro e w12 ⟨rfl, rfl⟩
      go_wp2_with fail
      have hq := len_any w11 q y N HT11.out.2.1 HYN.out
      refine hq.mono ?_
      clear hq
      rintro e w12 ⟨rfl, rfl⟩
      go_wp2_with fail
      have hq := len_any w11 w.heap.size y N HT11.out.1 HYN.out
      refine hq.mono ?_
      clear hq
      rintro e w12 ⟨rfl, rfl⟩
      have HF := Lib.hid HT11.out.2.2.1
      clear HT11
      go_wp2_with fail
      go_ret
      exact ⟨by first | rfl | simp, HF.out.below'⟩
end Go.Proofs.YtogojfmaiphiaaaDoor
