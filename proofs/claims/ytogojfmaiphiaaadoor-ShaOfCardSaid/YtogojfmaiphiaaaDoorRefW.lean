/- The document's words: 32 bits, the highest first, as slices of integers. -/
import Derived.Test.YtogojfmaiphiaaaDoorArith
import Derived.Laws.AppendOwn
import Derived.Maps.AppendAt
import Derived.LoopTactic
import Derived.RegionTactic
import Derived.Deep.QuietTactic
import Derived.BigQuiet
import Derived.StillTailTactics
namespace Go.Proofs.YtogojfmaiphiaaaDoor
open Go.RowKit

def bit (x : UInt32) (i : Nat) : Nat := x.toNat / 2 ^ (31 - i) % 2
theorem bit_lt (x : UInt32) (i : Nat) : bit x i < 2 := Nat.mod_lt _ (by omega)
theorem bit_test (x : UInt32) (i : Nat) : bit x i = (x.toNat.testBit (31 - i)).toNat := by rw [Nat.toNat_testBit]; rfl
theorem bit_xor (a b : UInt32) (i : Nat) : bit (a ^^^ b) i = (bit a i + bit b i) % 2 := by
  rw [bit_test, bit_test, bit_test, UInt32.toNat_xor, Nat.testBit_xor]
  cases a.toNat.testBit (31 - i) <;> cases b.toNat.testBit (31 - i) <;> rfl
theorem bit_and (a b : UInt32) (i : Nat) : bit (a &&& b) i = bit a i * bit b i := by
  rw [bit_test, bit_test, bit_test, UInt32.toNat_and, Nat.testBit_and]
  cases a.toNat.testBit (31 - i) <;> cases b.toNat.testBit (31 - i) <;> rfl
theorem bit_or (a b : UInt32) (i : Nat) : bit (a ||| b) i = if bit a i + bit b i = 0 then 0 else 1 := by
  rw [bit_test, bit_test, bit_test, UInt32.toNat_or, Nat.testBit_or]
  cases a.toNat.testBit (31 - i) <;> cases b.toNat.testBit (31 - i) <;> rfl
def bitsV (x : UInt32) (k : Nat) : List Value := (List.range k).map fun i => .int .i64 (bit x i : Int)
theorem length_bitsV (x : UInt32) (k : Nat) : (bitsV x k).length = k := by simp [bitsV]
theorem bitsV_next (x : UInt32) (k : Nat) : bitsV x (k + 1) = bitsV x k ++ [.int .i64 (bit x k : Int)] := by simp [bitsV, List.range_succ]
theorem bitsV_at (x : UInt32) (k i : Nat) (h : i < k) : (bitsV x k)[i]? = some (.int .i64 (bit x i : Int)) := by simp [bitsV, h]

/-- A word as a slice. -/
def WordAt (w : World) (v : Value) (x : UInt32) : Prop := w.ownsRow 0 3 1 v 32 (bitsV x 32)
theorem owns_base {w : World} {b b' e s n : Nat} {v : Value} {xs : List Value} (h : w.ownsRow b e s v n xs) (hb : b' ≤ b) : w.ownsRow b' e s v n xs := by
  obtain ⟨h1, h2 | ⟨g, cap, cur, h3, h4, h5⟩⟩ := h
  · exact ⟨h1, .inl h2⟩
  · exact ⟨h1, .inr ⟨g, cap, cur, h3, by omega, h5⟩⟩
theorem owns_keeps {S : Nat → Prop} {w w' : World} {b e s n : Nat} {v : Value} {xs : List Value} (h : w.ownsRow b e s v n xs) (hk : Keeps S w w') (hS : ∀ g, v.ownBlock = some g → ¬ S g) : w'.ownsRow b e s v n xs := by
  obtain ⟨h1, h2 | ⟨g, cap, cur, rfl, h4, h5, h6⟩⟩ := h
  · exact ⟨h1, .inl h2⟩
  · exact ⟨h1, .inr ⟨g, cap, cur, rfl, h4, hk.at_ h5 (hS g rfl), h6⟩⟩
theorem WordAt.keeps {w w' : World} {v : Value} {x : UInt32} (h : WordAt w v x) (hk : Still w w') : WordAt w' v x := owns_keeps h hk (fun _ _ => id)
theorem WordAt.open_ {w : World} {v : Value} {x : UInt32} (h : WordAt w v x) : ∃ g cap, v = .slice (some ⟨g, 0, none⟩) 32 cap ∧ 32 ≤ cap ∧ g < w.heap.size ∧ ∀ i, i < 32 → w.cell? ⟨g, i, none⟩ = some (.int .i64 (bit x i : Int)) := by
  obtain ⟨h1, ⟨_, h2⟩ | ⟨g, cap, cur, rfl, _, hg, hc, _, hcur, ht⟩⟩ := h
  · omega
  · refine ⟨g, cap, rfl, hc, lt_of_block hg, fun i hi => ?_⟩
    rw [cell_of_row w g i _ _ _ hg]
    have := congrArg (·[i]?) ht
    simp only [Nat.mul_one, List.getElem?_take, if_pos hi, bitsV_at x 32 i hi] at this
    simpa using this

theorem grown_keeps {w w' : World} {v : Value} (h : w.grownBy w' v.ownBlock) : Keeps (fun k => v.ownBlock = some k) w w' := ⟨h.os, h.tape, h.output, h.size, fun k hk hn => h.block k hk (fun e => hn e.symm)⟩
theorem own_ge {w : World} {b e s n : Nat} {v : Value} {xs : List Value} (h : w.ownsRow b e s v n xs) (g : Nat) (hg : v.ownBlock = some g) : b ≤ g := by
  obtain ⟨_, ⟨rfl, _⟩ | ⟨g', cap, cur, rfl, h4, _⟩⟩ := h
  · cases hg
  · cases hg; exact h4

theorem info_partsN {P : Program} {e : TypeId} {zero : Value} {a b : Nat} (h : (P.info? e).map (fun i => (i.zero, i.size, i.bytes)) = some (some zero, a, b)) : ∃ i, P.info? e = some i ∧ i.zero = some zero ∧ i.size = a ∧ i.bytes = b := by
  cases hq : P.info? e with
  | none => simp [hq] at h
  | some i =>
    simp only [hq, Option.map_some, Option.some.injEq, Prod.mk.injEq] at h
    exact ⟨i, rfl, h.1, h.2.1, h.2.2⟩

section
variable {P : Program} {ops : Array Oper} {rest : List Oper} {o : Oper} {a : Act} {Q : Exit → Act → World → Prop} {wr : World} {x0 : Value}
/-- append(s, x): the one new element lies in a block of its own. -/
theorem wpList_push (e t nb : Nat) (zero : Value) (ht : P.underlying t = some (.slice e)) (hi : (P.info? e).map (fun i => (i.zero, i.size, i.bytes)) = some (some zero, 1, nb)) (hz : zero.cells.size = 1) (hnb : nb ≤ 100) (h1 : x0.oneCell' = true)
    (hgd : o.guard = none) (s x : Operand) (ho : o.op = .call { callee := .builtin .append, args := #[s, x], argTypes := #[t, t] }) (base n : Nat) (v : Value) (xs : List Value) (hs : a.eval s = v) (hown : Hid (wr.ownsRow base e 1 v n xs))
    (c : Nat) (hx : a.eval x = .slice (some ⟨wr.heap.size, 0, none⟩) 1 c) (hn : n ≤ 1000) (hbase : base ≤ wr.heap.size)
    (h : ∀ v' w', Hid (w'.ownsRow base e 1 v' (n + 1) (xs ++ [x0])) → Hid (Keeps (fun k => v.ownBlock = some k) wr w') → wpList P ops Q rest (a.put o.dst v') w') :
    wpList P ops Q (o :: rest) a (wr.alloc (.cells #[x0] e (0, 0))) := by
  obtain ⟨i, hi1, hi2, hi3, hi4⟩ := info_partsN hi
  have hk : Still wr (wr.alloc (.cells #[x0] e (0, 0))) := (Keeps.refl _ _).alloc _
  refine wpList_append_own _ hgd s x t ho base e i zero 1 nb ht hi1 hi2 hi3 hi4 hz (by decide) v n xs hs (owns_keeps hown.out hk (fun _ _ => id)) _ 1 c [x0] hx rfl (cell_one_new _ _ _) (by intro u hu; rw [List.mem_singleton] at hu; subst hu; exact h1)
    (by unfold maxLen; omega) (by calc (n + 1) * nb ≤ 1001 * 100 := Nat.mul_le_mul (by omega) hnb
                                  _ ≤ _ := by decide) (Nat.le_trans hbase hk.size) ?_
  intro v' w' h2 h3 _
  exact h v' w' h2 (hk.still.trans (grown_keeps h3))
end

theorem step_push {P : Program} {ops : Array Oper} {o : Oper} {a : Act} {Q : Exit → Act → World → Prop} {K : Act → World → Prop} {E : Prop} {wr : World} {x0 : Value} (e t nb : Nat) (zero : Value) (ht : P.underlying t = some (.slice e)) (hi : (P.info? e).map (fun i => (i.zero, i.size, i.bytes)) = some (some zero, 1, nb))
    (hz : zero.cells.size = 1) (hnb : nb ≤ 100) (h1 : x0.oneCell' = true) (hw : Region.wanted o (yielded ops a.tmps) = true) (s x : Operand) (ho : o.op = .call { callee := .builtin .append, args := #[s, x], argTypes := #[t, t] }) (base n : Nat) (v : Value) (xs : List Value) (hs : a.eval s = v)
    (hown : Hid (wr.ownsRow base e 1 v n xs)) (c : Nat) (hx : a.eval x = .slice (some ⟨wr.heap.size, 0, none⟩) 1 c) (hn : n ≤ 1000) (hbase : base ≤ wr.heap.size)
    (h : ∀ v' w', Hid (w'.ownsRow base e 1 v' (n + 1) (xs ++ [x0])) → Hid (Keeps (fun k => v.ownBlock = some k) wr w') → K (a.put o.dst v') w') :
    if Region.wanted o (yielded ops a.tmps) = true then Oper.wp P o a (wr.alloc (.cells #[x0] e (0, 0))) K Q else E := by
  rw [if_pos hw]
  obtain ⟨i, hi1, hi2, hi3, hi4⟩ := info_partsN hi
  have hk : Still wr (wr.alloc (.cells #[x0] e (0, 0))) := (Keeps.refl _ _).alloc _
  refine wp_append_own _ s x t ho base e i zero 1 nb ht hi1 hi2 hi3 hi4 hz (by decide) v n xs hs (owns_keeps hown.out hk (fun _ _ => id)) _ 1 c [x0] hx rfl (cell_one_new _ _ _) (by intro u hu; rw [List.mem_singleton] at hu; subst hu; exact h1)
    (by unfold maxLen; omega) (by calc (n + 1) * nb ≤ 1001 * 100 := Nat.mul_le_mul (by omega) hnb
                                  _ ≤ _ := by decide) (Nat.le_trans hbase hk.size) ?_
  intro v' w' h2 h3 _
  exact h v' w' h2 (hk.still.trans (grown_keeps h3))

theorem info3 : (Tryd.prog.info? 3).map (fun i => (i.zero, i.size, i.bytes)) = some (some (.int .i64 0), 1, 8) := by kernel_rfl
theorem own_new (w : World) (b e : Nat) (hb : b ≤ w.heap.size) : (w.alloc (.cells #[] e (0, 0))).ownsRow b e 1 (.slice (some ⟨w.heap.size, 0, none⟩) 0 0) 0 [] :=
  ⟨rfl, .inr ⟨w.heap.size, 0, #[], rfl, hb, heap_alloc_new _ _, Nat.le_refl _, by decide, rfl, rfl⟩⟩

/-! ### word -/
def RelW (w wr : World) (x : UInt32) (v i : Value) : Prop := ∃ k : Nat, i = .int .i64 (31 - (k : Int)) ∧ k ≤ 32 ∧ Hid (wr.ownsRow w.heap.size 3 1 v k (bitsV x k)) ∧ Hid (Still w wr)
theorem relW {w wr : World} {x : UInt32} {v i : Value} (k : Nat) (h1 : i = .int .i64 (31 - (k : Int))) (h2 : k ≤ 32) (h3 : Hid (wr.ownsRow w.heap.size 3 1 v k (bitsV x k))) (h4 : Hid (Still w wr)) : RelW w wr x v i := ⟨k, h1, h2, h3, h4⟩

set_option maxHeartbeats 4000000 in
theorem word_any (w : World) (n : Nat) (x : UInt32) (hn : n = x.toNat) :
    Calls Tryd.prog 19 #[.int .u64 n] w fun e w' => ∃ v, e = .returned v ∧ WordAt w' v x ∧ Still w w' := by
  have HN := Lib.hid hn
  have hlt : n < 4294967296 := by rw [hn]; exact w_lt x
  clear hn
  have hown := own_new w w.heap.size 3 (Nat.le_refl _)
  have hk : Still w (w.alloc (.cells #[] 3 (0, 0))) := (Keeps.refl _ _).alloc _
  go_enter Tryd.func19, Tryd.ntmps19
  go_wp2_with fail
  generalize w.alloc (.cells #[] 3 (0, 0)) = w1 at hown hk ⊢
  have HO := Lib.hid hown
  have HK := Lib.hid hk
  clear hown hk
  go_loopw [3, 4] (fun v i wr => RelW w wr x v i) (fun _ i _ => match i with | .int _ z => (z + 1).toNat | _ => 0)
  case atStart => exact relW 0 rfl (by omega) HO HK
  case round =>
    clear HO HK
    obtain ⟨k, rfl, hk, hown, hst⟩ := hrel
    by_cases hlt2 : k < 32
    · have e0 : IntKind.u64.wrap (31 - (k : Int)) = 31 - (k : Int) := by rw [IntKind.wrap_u64]; omega
      have hZ : (wrap64 ((n : Int) / 2 ^ (31 - k))).tmod 2 = ((bit x k : Nat) : Int) := by
        have hle : n / 2 ^ (31 - k) ≤ n := Nat.div_le_self _ _
        obtain ⟨y, hy⟩ : ∃ y, y = n / 2 ^ (31 - k) := ⟨_, rfl⟩
        have hyi : (n : Int) / 2 ^ (31 - k) = (y : Int) := by rw [hy, Int.natCast_ediv, Int.natCast_pow]; rfl
        have hb : bit x k = y % 2 := by rw [hy, HN.out]; rfl
        rw [hyi, hb, show wrap64 (y : Int) = (y : Int) from by simp only [wrap64]; omega, Int.tmod_eq_emod_of_nonneg (by omega)]
        omega
      have hbase := hst.out.size
      have e1 : (k : Int) ≤ 31 := by omega
      go_wp2_with (with_reducible refine wpList_push (o := ⟨some 18, _, _, _, _, _⟩) 3 49 8 (.int .i64 0) Tryd.underlying49 info3 rfl (by omega) rfl rfl (.tmp 10) (.tmp 17) rfl w.heap.size k u3 _ rfl hown 1 rfl (by omega) hbase ?_; intro v' w4 ho4 hk4)
      have h1 : Keeps (fun i => w.heap.size ≤ i) wr w4 := hk4.out.mono (fun i _ e => own_ge hown.out i e)
      refine ⟨relW (k + 1) (by congr 1; omega) (by omega) (by rw [bitsV_next]; exact ho4) (hst.out.on h1 (fun i hi e => by omega)), ?_⟩
      show ((31 - (k : Int) - 1) + 1).toNat < ((31 - (k : Int)) + 1).toNat
      omega
    · obtain rfl : k = 32 := by omega
      go_wp2_with fail
      go_ret
      exact ⟨u3, rfl, owns_base hown.out (Nat.zero_le _), hst.out⟩

/-! ### number -/
theorem bits_num (x : UInt32) (k : Nat) (hk : k < 32) : x.toNat / 2 ^ (32 - (k + 1)) = 2 * (x.toNat / 2 ^ (32 - k)) + bit x k := by
  unfold bit
  have h1 : 32 - (k + 1) = 31 - k := by omega
  have h2 : 32 - k = (31 - k) + 1 := by omega
  rw [h1, h2, Nat.pow_succ, ← Nat.div_div_eq_div_mul]
  omega
def RelN (w wr : World) (x : UInt32) (nv i : Value) : Prop := ∃ k n : Nat, i = .int .i64 (k : Int) ∧ k ≤ 32 ∧ nv = .int .u64 (n : Int) ∧ n < 4294967296 ∧ Hid (n = x.toNat / 2 ^ (32 - k)) ∧ Hid (wr = w)
theorem relN {w wr : World} {x : UInt32} {nv i : Value} (k n : Nat) (h1 : i = .int .i64 (k : Int)) (h2 : k ≤ 32) (h3 : nv = .int .u64 (n : Int)) (h4 : n < 4294967296) (h5 : Hid (n = x.toNat / 2 ^ (32 - k))) (h6 : Hid (wr = w)) : RelN w wr x nv i := ⟨k, n, h1, h2, h3, h4, h5, h6⟩

set_option maxHeartbeats 4000000 in
theorem number_any (w : World) (v : Value) (x : UInt32) (h : WordAt w v x) :
    Calls Tryd.prog 24 #[v] w fun e w' => e = .returned (.int .u64 x.toNat) ∧ w' = w := by
  obtain ⟨g, cap, rfl, hcap, hg, hcell⟩ := h.open_
  have HC := Lib.hid hcell
  clear hcell h
  go_enter Tryd.func24, Tryd.ntmps24
  go_wp2_with fail
  go_loopw [3, 4] (fun nv i wr => RelN w wr x nv i) (fun _ i _ => 32 - (intOf i).toNat)
  case atStart => exact relN 0 0 rfl (by omega) rfl (by omega) (by have := w_lt x; rw [Nat.sub_zero]; exact (Nat.div_eq_of_lt this).symm) rfl
  case round =>
    obtain ⟨k, n, rfl, hk, rfl, hn, hnx, hw⟩ := hrel
    obtain rfl := hw.out
    by_cases hlt : k < 32
    · have c0 := HC.out k hlt
      obtain ⟨b, hb⟩ : ∃ b, b = bit x k := ⟨_, rfl⟩
      have hb2 : b < 2 := by rw [hb]; exact bit_lt x k
      rw [← hb] at c0
      obtain ⟨n1, hn1⟩ : ∃ n1, n1 = 2 * n + b := ⟨_, rfl⟩
      have hx1 : n1 = x.toNat / 2 ^ (32 - (k + 1)) := by rw [bits_num x k hlt, ← hnx.out, ← hb, hn1]
      have hn1' : n1 < 4294967296 := by rw [hx1]; exact Nat.lt_of_le_of_lt (Nat.div_le_self _ _) (w_lt x)
      have e1 : 2 * (n : Int) + (b : Int) = (n1 : Int) := by omega
      have HX1 := Lib.hid hx1
      clear hb hn1 hx1
      go_wp2_with fail
      refine ⟨relN (k + 1) n1 (by simp) (by omega) rfl hn1' HX1 rfl, by simp [intOf]; omega⟩
    · obtain rfl : k = 32 := by omega
      have HF := Lib.hid (show n = x.toNat by rw [hnx.out]; simp)
      clear hnx
      go_wp2_with fail
      go_ret
      exact ⟨by rw [← HF.out]; rfl, rfl⟩

/-! ### plus -/
set_option maxHeartbeats 4000000 in
theorem plus_any (w : World) (va vb : Value) (a b z : UInt32) (ha : WordAt w va a) (hb : WordAt w vb b) (hz : z = a + b) :
    Calls Tryd.prog 22 #[va, vb] w fun e w' => ∃ v, e = .returned v ∧ WordAt w' v z ∧ Still w w' := by
  have HA := Lib.hid ha
  have HB := Lib.hid hb
  obtain ⟨x, hx⟩ : ∃ x, x = a.toNat := ⟨_, rfl⟩
  obtain ⟨y, hy⟩ : ∃ y, y = b.toNat := ⟨_, rfl⟩
  obtain ⟨s, hs⟩ : ∃ s, s = (x + y) % 4294967296 := ⟨_, rfl⟩
  have HZ := Lib.hid (show s = z.toNat by rw [hs, hx, hy, hz, UInt32.toNat_add])
  have hx1 : x < 4294967296 := by rw [hx]; exact w_lt a
  have hy1 : y < 4294967296 := by rw [hy]; exact w_lt b
  have e1 : ((x : Int) + (y : Int)) % 4294967296 = (s : Int) := by omega
  have e2 : ((x : Int) + (y : Int)).tmod 4294967296 = (s : Int) := by rw [Int.tmod_eq_emod_of_nonneg (by omega)]; exact e1
  have HXA := Lib.hid hx
  have HYB := Lib.hid hy
  clear ha hb hx hy hs hz
  go_enter Tryd.func22, Tryd.ntmps22
  go_wp2_with fail
  have hq := number_any w va a HA.out
  refine hq.mono ?_
  clear hq
  rintro e w1 ⟨rfl, rfl⟩
  rw [← HXA.out]
  go_wp2_with fail
  have hq := number_any w1 vb b HB.out
  refine hq.mono ?_
  clear hq
  rintro e w2 ⟨rfl, rfl⟩
  rw [← HYB.out]
  go_wp2_with fail
  have hq := word_any w2 s z HZ.out
  refine hq.mono ?_
  clear hq
  rintro e w3 ⟨v, rfl, hv, hk⟩
  have HV := Lib.hid hv
  clear hv
  go_wp2_with fail
  go_ret
  exact ⟨v, rfl, HV.out, hk⟩

/-! ### odd -/
def RelO2 (w wr : World) (z : UInt32) (v i : Value) : Prop := ∃ k : Nat, i = .int .i64 (k : Int) ∧ k ≤ 32 ∧ Hid (wr.ownsRow w.heap.size 3 1 v k (bitsV z k)) ∧ Hid (Still w wr)
theorem relO2 {w wr : World} {z : UInt32} {v i : Value} (k : Nat) (h1 : i = .int .i64 (k : Int)) (h2 : k ≤ 32) (h3 : Hid (wr.ownsRow w.heap.size 3 1 v k (bitsV z k))) (h4 : Hid (Still w wr)) : RelO2 w wr z v i := ⟨k, h1, h2, h3, h4⟩

set_option maxHeartbeats 8000000 in
theorem odd_any (w : World) (va vb : Value) (a b z : UInt32) (ha : WordAt w va a) (hb : WordAt w vb b) (hz : z = a ^^^ b) :
    Calls Tryd.prog 21 #[va, vb] w fun e w' => ∃ v, e = .returned v ∧ WordAt w' v z ∧ Still w w' := by
  obtain ⟨ga, ca, rfl, hca, _, hcella⟩ := ha.open_
  obtain ⟨gb, cb, rfl, hcb, _, hcellb⟩ := hb.open_
  have HCA := Lib.hid hcella
  have HCB := Lib.hid hcellb
  have HZ := Lib.hid hz
  have hown := own_new w w.heap.size 3 (Nat.le_refl _)
  have hk : Still w (w.alloc (.cells #[] 3 (0, 0))) := (Keeps.refl _ _).alloc _
  clear ha hb hcella hcellb hz
  go_enter Tryd.func21, Tryd.ntmps21
  go_wp2_with fail
  generalize w.alloc (.cells #[] 3 (0, 0)) = w1 at hown hk ⊢
  have HO := Lib.hid hown
  have HK := Lib.hid hk
  clear hown hk
  go_loopw [5, 6] (fun v i wr => RelO2 w wr z v i) (fun _ i _ => 32 - (intOf i).toNat)
  case atStart => exact relO2 0 rfl (by omega) HO HK
  case round =>
    clear HO HK
    obtain ⟨k, rfl, hk, hown, hst⟩ := hrel
    by_cases hlt : k < 32
    · obtain ⟨p, hp⟩ : ∃ p, p = bit a k := ⟨_, rfl⟩
      obtain ⟨q, hq⟩ : ∃ q, q = bit b k := ⟨_, rfl⟩
      obtain ⟨r, hr⟩ : ∃ r, r = bit z k := ⟨_, rfl⟩
      have hp2 : p < 2 := by rw [hp]; exact bit_lt _ _
      have hq2 : q < 2 := by rw [hq]; exact bit_lt _ _
      have hrv : r = (p + q) % 2 := by rw [hr, hp, hq, HZ.out, bit_xor]
      have ca0 : wr.cell? ⟨ga, k, none⟩ = some (.int .i64 (p : Int)) := by rw [hp]; exact hst.out.cell (HCA.out k hlt) id
      have cb0 : wr.cell? ⟨gb, k, none⟩ = some (.int .i64 (q : Int)) := by rw [hq]; exact hst.out.cell (HCB.out k hlt) id
      have e0 : IntKind.i64.wrap ((p : Int) + (q : Int)) = (p : Int) + (q : Int) := IntWalk.i64_in _ (by omega)
      have e1 : ((p : Int) + (q : Int)).tmod 2 = (r : Int) := by rw [Int.tmod_eq_emod_of_nonneg (by omega)]; omega
      have e2 : ((p : Int) + (q : Int)) % 2 = (r : Int) := by omega
      have e3 : (k : Int) < 32 := by omega
      have e4 : (0 : Int) ≤ (k : Int) := by omega
      have HR := Lib.hid hr
      clear hp hq hr hrv
      go_wp2_with fail
      have HOD := Lib.hid (owns_keeps hown.out (show Still wr wr.drew from (Keeps.refl _ _).drew) (fun _ _ => id))
      have hbase : w.heap.size ≤ wr.drew.heap.size := hst.out.size
      refine wp_region_any (by kernel_rfl) ?_
      change wpAny _ _ _ _ _ _ _ (World.drew _)
      refine wpAny_take (i := 0) (oi := { dst := some 12, op := Go.Op.move (Go.Operand.tmp 5), type := 49, pos := "ref.go:29", after := #[], guard := none }) (v := ?vCA_1) rfl (by kernel_rfl) (by kernel_rfl) (by kernel_rfl) (fun _ _ _ h => h) (Or.inl ⟨by rfl, ?hCA_1⟩) ?rCA_1
      case hCA_1 => (intro wz; go_simp; try with_reducible rfl)
      simp only [Act.put, List.setIfInBounds_toArray, List.set_cons_zero, List.set_cons_succ]
      refine wpAny_take (i := 1) (oi := { dst := some 13, op := Go.Op.move (Go.Operand.tmp 0), type := 49, pos := "ref.go:29", after := #[], guard := none }) (v := ?vCA_2) rfl (by kernel_rfl) (by kernel_rfl) (by kernel_rfl) (fun _ _ _ h => h) (Or.inl ⟨by rfl, ?hCA_2⟩) ?rCA_2
      case hCA_2 => (intro wz; go_simp; try with_reducible rfl)
      simp only [Act.put, List.setIfInBounds_toArray, List.set_cons_zero, List.set_cons_succ]
      refine wpAny_take (i := 2) (oi := { dst := some 14, op := Go.Op.move (Go.Operand.tmp 6), type := 3, pos := "ref.go:29", after := #[], guard := none }) (v := ?vCA_3) rfl (by kernel_rfl) (by kernel_rfl) (by kernel_rfl) (fun _ _ _ h => h) (Or.inl ⟨by rfl, ?hCA_3⟩) ?rCA_3
      case hCA_3 => (intro wz; go_simp; try with_reducible rfl)
      simp only [Act.put, List.setIfInBounds_toArray, List.set_cons_zero, List.set_cons_succ]
      refine wpAny_take (i := 3) (oi := { dst := some 15, op := Go.Op.indexAddr 49 (Go.Operand.tmp 13) (Go.Operand.tmp 14), type := 0, pos := "ref.go:29", after := #[{ on := 1, ground := Go.Ground.data }, { on := 2, ground := Go.Ground.data }], guard := none }) (v := ?vCA_4) rfl (by kernel_rfl) (by kernel_rfl) (by kernel_rfl) (fun _ _ _ h => h) (Or.inl ⟨by rfl, ?hCA_4⟩) ?rCA_4
      case hCA_4 => (intro wz; go_simp; try with_reducible rfl)
      simp only [Act.put, List.setIfInBounds_toArray, List.set_cons_zero, List.set_cons_succ]
      refine wpAny_take (i := 5) (oi := { dst := some 17, op := Go.Op.move (Go.Operand.tmp 1), type := 49, pos := "ref.go:29", after := #[], guard := none }) (v := ?vCA_5) rfl (by kernel_rfl) (by kernel_rfl) (by kernel_rfl) (fun _ _ _ h => h) (Or.inl ⟨by rfl, ?hCA_5⟩) ?rCA_5
      case hCA_5 => (intro wz; go_simp; try with_reducible rfl)
      simp only [Act.put, List.setIfInBounds_toArray, List.set_cons_zero, List.set_cons_succ]
      refine wpAny_take (i := 6) (oi := { dst := some 18, op := Go.Op.move (Go.Operand.tmp 6), type := 3, pos := "ref.go:29", after := #[], guard := none }) (v := ?vCA_6) rfl (by kernel_rfl) (by kernel_rfl) (by kernel_rfl) (fun _ _ _ h => h) (Or.inl ⟨by rfl, ?hCA_6⟩) ?rCA_6
      case hCA_6 => (intro wz; go_simp; try with_reducible rfl)
      simp only [Act.put, List.setIfInBounds_toArray, List.set_cons_zero, List.set_cons_succ]
      refine wpAny_take (i := 7) (oi := { dst := some 19, op := Go.Op.indexAddr 49 (Go.Operand.tmp 17) (Go.Operand.tmp 18), type := 0, pos := "ref.go:29", after := #[{ on := 5, ground := Go.Ground.data }, { on := 6, ground := Go.Ground.data }], guard := none }) (v := ?vCA_7) rfl (by kernel_rfl) (by kernel_rfl) (by kernel_rfl) (fun _ _ _ h => h) (Or.inl ⟨by rfl, ?hCA_7⟩) ?rCA_7
      case hCA_7 => (intro wz; go_simp; try with_reducible rfl)
      simp only [Act.put, List.setIfInBounds_toArray, List.set_cons_zero, List.set_cons_succ]
      refine wpAny_ready (rs := [4, 8]) (by kernel_rfl) (by simp) ?_
      refine AllReady.cons (o := { dst := some 16, op := Go.Op.load 3 (Go.Operand.tmp 15), type := 3, pos := "ref.go:29", after := #[{ on := 3, ground := Go.Ground.data }], guard := none }) rfl (fun K hK => ?_) (AllReady.cons (o := { dst := some 20, op := Go.Op.load 3 (Go.Operand.tmp 19), type := 3, pos := "ref.go:29", after := #[{ on := 7, ground := Go.Ground.data }], guard := none }) rfl (fun K hK => ?_) (AllReady.nil))
      · skip
        go_simp
        refine hK _ _ ?_
        clear hK K
        try simp only [Act.put, List.setIfInBounds_toArray, List.set_cons_zero, List.set_cons_succ]
        refine wpAny_ready (rs := [8]) (by kernel_rfl) (by simp) ?_
        refine AllReady.cons (o := { dst := some 20, op := Go.Op.load 3 (Go.Operand.tmp 19), type := 3, pos := "ref.go:29", after := #[{ on := 7, ground := Go.Ground.data }], guard := none }) rfl (fun K hK => ?_) AllReady.nil
        go_simp
        refine hK _ _ ?_
        clear hK K
        try simp only [Act.put, List.setIfInBounds_toArray, List.set_cons_zero, List.set_cons_succ]
        refine wpAny_take (i := 9) (oi := { dst := some 21, op := Go.Op.binOp Go.BinOp.add 3 (Go.Operand.tmp 16) (Go.Operand.tmp 20) 3, type := 3, pos := "ref.go:29", after := #[{ on := 4, ground := Go.Ground.data }, { on := 8, ground := Go.Ground.data }], guard := none }) (v := ?vCA_8) rfl (by kernel_rfl) (by kernel_rfl) (by kernel_rfl) (fun _ _ _ h => h) (Or.inl ⟨by rfl, ?hCA_8⟩) ?rCA_8
        case hCA_8 => (intro wz; go_simp; try with_reducible rfl)
        simp only [Act.put, List.setIfInBounds_toArray, List.set_cons_zero, List.set_cons_succ]
        refine wpAny_take (i := 10) (oi := { dst := some 22, op := Go.Op.binOp Go.BinOp.rem 3 (Go.Operand.tmp 21) (Go.Operand.const (Go.Value.int Go.IntKind.i64 2)) 3, type := 3, pos := "ref.go:29", after := #[{ on := 9, ground := Go.Ground.data }], guard := none }) (v := ?vCA_9) rfl (by kernel_rfl) (by kernel_rfl) (by kernel_rfl) (fun _ _ _ h => h) (Or.inl ⟨by rfl, ?hCA_9⟩) ?rCA_9
        case hCA_9 => (intro wz; go_simp; try with_reducible rfl)
        simp only [Act.put, List.setIfInBounds_toArray, List.set_cons_zero, List.set_cons_succ]
        refine wpAny_ready (rs := [11]) (by kernel_rfl) (by simp) ?_
        refine AllReady.cons (o := { dst := some 23, op := Go.Op.buildSlice 49 1 #[(0, Go.Operand.tmp 22)], type := 49, pos := "ref.go:29", after := #[{ on := 10, ground := Go.Ground.data }], guard := none }) rfl (fun K hK => ?_) AllReady.nil
        go_simp
        refine hK _ _ ?_
        clear hK K
        try simp only [Act.put, List.setIfInBounds_toArray, List.set_cons_zero, List.set_cons_succ]
        refine wpAny_ready (rs := [12]) (by kernel_rfl) (by simp) ?_
        refine AllReady.cons (o := { dst := some 24, op := Go.Op.call { callee := Go.Callee.builtin Go.Builtin.append, args := #[Go.Operand.tmp 12, Go.Operand.tmp 23], argTypes := #[49, 49] }, type := 49, pos := "ref.go:29", after := #[{ on := 0, ground := Go.Ground.data }, { on := 11, ground := Go.Ground.data }], guard := none }) rfl (fun K hK => ?_) AllReady.nil
        refine step_push 3 49 8 (.int .i64 0) Tryd.underlying49 info3 rfl (by omega) rfl (by rfl) (.tmp 12) (.tmp 23) rfl w.heap.size k u5 _ rfl HOD 1 rfl (by omega) hbase ?_
        intro v' w4 ho4 hk4
        refine hK _ _ ?_
        clear hK K
        try simp only [Act.put, List.setIfInBounds_toArray, List.set_cons_zero, List.set_cons_succ]
        refine wpAny_take (i := 13) (oi := { dst := some 5, op := Go.Op.assign (Go.Operand.tmp 24), type := 49, pos := "ref.go:29", after := #[{ on := 12, ground := Go.Ground.data }, { on := 12, ground := Go.Ground.chain }, { on := 0, ground := Go.Ground.phase }, { on := 1, ground := Go.Ground.phase }, { on := 2, ground := Go.Ground.phase }, { on := 3, ground := Go.Ground.phase }, { on := 4, ground := Go.Ground.phase }, { on := 5, ground := Go.Ground.phase }, { on := 6, ground := Go.Ground.phase }, { on := 7, ground := Go.Ground.phase }, { on := 8, ground := Go.Ground.phase }, { on := 9, ground := Go.Ground.phase }, { on := 10, ground := Go.Ground.phase }, { on := 11, ground := Go.Ground.phase }, { on := 12, ground := Go.Ground.phase }], guard := none }) (v := ?vCA_10) rfl (by kernel_rfl) (by kernel_rfl) (by kernel_rfl) (fun _ _ _ h => h) (Or.inl ⟨by rfl, ?hCA_10⟩) ?rCA_10
        case hCA_10 => (intro wz; go_simp; try with_reducible rfl)
        simp only [Act.put, List.setIfInBounds_toArray, List.set_cons_zero, List.set_cons_succ]
        refine wpAny_done (by kernel_rfl) ?_ _
        have h1 : Keeps (fun i => w.heap.size ≤ i) wr.drew w4 := hk4.out.mono (fun i _ e => own_ge HOD.out i e)
        have HO4 := Lib.hid (show w4.ownsRow w.heap.size 3 1 v' (k + 1) (bitsV z (k + 1)) by rw [bitsV_next, ← HR.out]; exact ho4.out)
        have HK4 := Lib.hid (hst.out.on (T := fun _ => False) h1.drew_of (fun i hi e => by omega))
        clear ho4 hk4 h1
        go_wp2_with fail
        exact ⟨relO2 (k + 1) rfl (by omega) HO4 HK4, by simp [intOf]; omega⟩
      · skip
        go_simp
        refine hK _ _ ?_
        clear hK K
        try simp only [Act.put, List.setIfInBounds_toArray, List.set_cons_zero, List.set_cons_succ]
        refine wpAny_ready (rs := [4]) (by kernel_rfl) (by simp) ?_
        refine AllReady.cons (o := { dst := some 16, op := Go.Op.load 3 (Go.Operand.tmp 15), type := 3, pos := "ref.go:29", after := #[{ on := 3, ground := Go.Ground.data }], guard := none }) rfl (fun K hK => ?_) AllReady.nil
        go_simp
        refine hK _ _ ?_
        clear hK K
        try simp only [Act.put, List.setIfInBounds_toArray, List.set_cons_zero, List.set_cons_succ]
        refine wpAny_take (i := 9) (oi := { dst := some 21, op := Go.Op.binOp Go.BinOp.add 3 (Go.Operand.tmp 16) (Go.Operand.tmp 20) 3, type := 3, pos := "ref.go:29", after := #[{ on := 4, ground := Go.Ground.data }, { on := 8, ground := Go.Ground.data }], guard := none }) (v := ?vCA_11) rfl (by kernel_rfl) (by kernel_rfl) (by kernel_rfl) (fun _ _ _ h => h) (Or.inl ⟨by rfl, ?hCA_11⟩) ?rCA_11
        case hCA_11 => (intro wz; go_simp; try with_reducible rfl)
        simp only [Act.put, List.setIfInBounds_toArray, List.set_cons_zero, List.set_cons_succ]
        refine wpAny_take (i := 10) (oi := { dst := some 22, op := Go.Op.binOp Go.BinOp.rem 3 (Go.Operand.tmp 21) (Go.Operand.const (Go.Value.int Go.IntKind.i64 2)) 3, type := 3, pos := "ref.go:29", after := #[{ on := 9, ground := Go.Ground.data }], guard := none }) (v := ?vCA_12) rfl (by kernel_rfl) (by kernel_rfl) (by kernel_rfl) (fun _ _ _ h => h) (Or.inl ⟨by rfl, ?hCA_12⟩) ?rCA_12
        case hCA_12 => (intro wz; go_simp; try with_reducible rfl)
        simp only [Act.put, List.setIfInBounds_toArray, List.set_cons_zero, List.set_cons_succ]
        refine wpAny_ready (rs := [11]) (by kernel_rfl) (by simp) ?_
        refine AllReady.cons (o := { dst := some 23, op := Go.Op.buildSlice 49 1 #[(0, Go.Operand.tmp 22)], type := 49, pos := "ref.go:29", after := #[{ on := 10, ground := Go.Ground.data }], guard := none }) rfl (fun K hK => ?_) AllReady.nil
        go_simp
        refine hK _ _ ?_
        clear hK K
        try simp only [Act.put, List.setIfInBounds_toArray, List.set_cons_zero, List.set_cons_succ]
        refine wpAny_ready (rs := [12]) (by kernel_rfl) (by simp) ?_
        refine AllReady.cons (o := { dst := some 24, op := Go.Op.call { callee := Go.Callee.builtin Go.Builtin.append, args := #[Go.Operand.tmp 12, Go.Operand.tmp 23], argTypes := #[49, 49] }, type := 49, pos := "ref.go:29", after := #[{ on := 0, ground := Go.Ground.data }, { on := 11, ground := Go.Ground.data }], guard := none }) rfl (fun K hK => ?_) AllReady.nil
        refine step_push 3 49 8 (.int .i64 0) Tryd.underlying49 info3 rfl (by omega) rfl (by rfl) (.tmp 12) (.tmp 23) rfl w.heap.size k u5 _ rfl HOD 1 rfl (by omega) hbase ?_
        intro v' w4 ho4 hk4
        refine hK _ _ ?_
        clear hK K
        try simp only [Act.put, List.setIfInBounds_toArray, List.set_cons_zero, List.set_cons_succ]
        refine wpAny_take (i := 13) (oi := { dst := some 5, op := Go.Op.assign (Go.Operand.tmp 24), type := 49, pos := "ref.go:29", after := #[{ on := 12, ground := Go.Ground.data }, { on := 12, ground := Go.Ground.chain }, { on := 0, ground := Go.Ground.phase }, { on := 1, ground := Go.Ground.phase }, { on := 2, ground := Go.Ground.phase }, { on := 3, ground := Go.Ground.phase }, { on := 4, ground := Go.Ground.phase }, { on := 5, ground := Go.Ground.phase }, { on := 6, ground := Go.Ground.phase }, { on := 7, ground := Go.Ground.phase }, { on := 8, ground := Go.Ground.phase }, { on := 9, ground := Go.Ground.phase }, { on := 10, ground := Go.Ground.phase }, { on := 11, ground := Go.Ground.phase }, { on := 12, ground := Go.Ground.phase }], guard := none }) (v := ?vCA_13) rfl (by kernel_rfl) (by kernel_rfl) (by kernel_rfl) (fun _ _ _ h => h) (Or.inl ⟨by rfl, ?hCA_13⟩) ?rCA_13
        case hCA_13 => (intro wz; go_simp; try with_reducible rfl)
        simp only [Act.put, List.setIfInBounds_toArray, List.set_cons_zero, List.set_cons_succ]
        refine wpAny_done (by kernel_rfl) ?_ _
        have h1 : Keeps (fun i => w.heap.size ≤ i) wr.drew w4 := hk4.out.mono (fun i _ e => own_ge HOD.out i e)
        have HO4 := Lib.hid (show w4.ownsRow w.heap.size 3 1 v' (k + 1) (bitsV z (k + 1)) by rw [bitsV_next, ← HR.out]; exact ho4.out)
        have HK4 := Lib.hid (hst.out.on (T := fun _ => False) h1.drew_of (fun i hi e => by omega))
        clear ho4 hk4 h1
        go_wp2_with fail
        exact ⟨relO2 (k + 1) rfl (by omega) HO4 HK4, by simp [intOf]; omega⟩
    · obtain rfl : k = 32 := by omega
      go_wp2_with fail
      go_ret
      exact ⟨u5, rfl, owns_base hown.out (Nat.zero_le _), hst.out⟩
end Go.Proofs.YtogojfmaiphiaaaDoor
