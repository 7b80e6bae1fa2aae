/- The walk of ShaKeeps: whatever the input, the law returns true and leaves old memory alone. -/
import Derived.Test.YtogojfmaiphiaaaDoorAwake1
import Derived.LoopTactic
namespace Go.Proofs.YtogojfmaiphiaaaDoor
open Go.RowKit

theorem SliceOf.set {w : World} {g n : Nat} {l : List UInt8} (h : SliceOf w (some ⟨g, 0, none⟩) n l) (k : Nat) (hk : k < n) (c : UInt8) (z : Int) (hz : z = c.toNat) : SliceOf (w.setCell ⟨g, k, none⟩ (.int .u8 z)) (some ⟨g, 0, none⟩) n (l.set k c) := by
  subst hz
  obtain ⟨hl, hc⟩ := h
  refine ⟨by simpa using hl, fun hn => ?_⟩
  obtain ⟨g', off, he, hg, hcell⟩ := hc hn
  cases he
  refine ⟨g, 0, rfl, by simpa [World.setCell] using hg, fun j hj => ?_⟩
  have hj' : j < l.length := by simpa using hj
  rw [Nat.zero_add]
  by_cases e : k = j
  · subst e
    have hu := hcell k hj'
    rw [Nat.zero_add] at hu
    rw [World.cell?_setCell_same w _ _ hu]
    simp
  · have hu := hcell j hj'
    rw [Nat.zero_add] at hu
    rw [World.cell?_setCell_other w _ _ _ (by intro h; cases h; exact e rfl), hu]
    simp [List.getElem_set, e]
theorem fill_next (l : List UInt8) (k : Nat) (c : UInt8) (hk : k < l.length) : (List.replicate k c ++ l.drop k).set k c = List.replicate (k + 1) c ++ l.drop (k + 1) := by
  rw [List.set_append_right _ _ (by simp), List.length_replicate, Nat.sub_self, List.drop_eq_getElem_cons hk, List.set_cons_zero, List.replicate_succ']
  simp

def RelK (w wr : World) (g n : Nat) (l : List UInt8) (c : UInt8) (s : Sum) (i : Value) : Prop := ∃ k : Nat, i = .int .i64 k ∧ k ≤ n ∧ Hid (SliceOf wr (some ⟨g, 0, none⟩) n (List.replicate k c ++ l.drop k)) ∧ Hid (∀ j, j < n → wr.frozen? ⟨g, j, none⟩ = false) ∧
  Hid (SumAt wr w.heap.size s) ∧ Hid (Still w wr)
theorem relK {w wr : World} {g n : Nat} {l : List UInt8} {c : UInt8} {s : Sum} {i : Value} (k : Nat) (h1 : i = .int .i64 k) (h2 : k ≤ n) (h3 : Hid (SliceOf wr (some ⟨g, 0, none⟩) n (List.replicate k c ++ l.drop k))) (h4 : Hid (∀ j, j < n → wr.frozen? ⟨g, j, none⟩ = false))
    (h5 : Hid (SumAt wr w.heap.size s)) (h6 : Hid (Still w wr)) : RelK w wr g n l c s i := ⟨k, h1, h2, h3, h4, h5, h6⟩

set_option maxRecDepth 100000 in
set_option maxHeartbeats 4000000 in
theorem shaKeeps_far (a : ByteArray) (b : Int) (w : World) (h0 : Start w) (g1 : 200 < a.size) :
    Calls Tryd.prog 3 #[.string a, .int .u8 b] w fun e w' => e = .returned (.bool true) ∧ Below w.heap.size w w' := by
  go_enter Tryd.func3, Tryd.ntmps3
  go_wp2_with fail
  have hq := new_any w h0
  refine hq.mono ?_
  clear hq
  rintro e w1 ⟨rfl, hn1, hk1⟩
  go_wp2_with fail
  have hq := awake_any w1 (h0.keeps hk1 id)
  refine hq.mono ?_
  clear hq
  rintro e w2 ⟨rfl, hk2⟩
  go_wp2_with fail
  have hq := awake_any w2 ((h0.keeps hk1 id).keeps hk2 id)
  refine hq.mono ?_
  clear hq
  rintro e w3 ⟨rfl, hk3⟩
  have HF := Lib.hid ((hk1.trans hk2).trans hk3)
  clear hk1 hk2 hk3 hn1 h0
  go_wp2_with fail
  go_ret
  exact ⟨rfl, HF.out.below'⟩

set_option maxRecDepth 100000 in
set_option maxHeartbeats 8000000 in
theorem shaKeeps_near (a : ByteArray) (b : Nat) (c : UInt8) (hb : b = c.toNat) (w : World) (h0 : Start w) (ha : a.size ≤ 200) :
    Calls Tryd.prog 3 #[.string a, .int .u8 b] w fun e w' => e = .returned (.bool true) ∧ Below w.heap.size w w' := by
  have HB := Lib.hid hb
  have hb256 : b < 256 := by rw [hb]; exact UInt8.toNat_lt c
  have HL := Lib.hid (len_data a)
  have HLZ := Lib.hid (show (zeroB 20).length = 20 from rfl)
  have z1 := zero27
  clear hb
  go_enter Tryd.func3, Tryd.ntmps3
  go_wp2_with fail
  have hq := new_any w h0
  refine hq.mono ?_
  clear hq
  rintro e w1 ⟨rfl, hn1, hk1⟩
  go_wp2_with fail
  have hq := awake_any w1 (h0.keeps hk1 id)
  refine hq.mono ?_
  clear hq
  rintro e w2 ⟨rfl, hk2⟩
  have HK2 := Lib.hid (hk1.trans hk2)
  have HN2 := Lib.hid (hn1.keeps hk2 id)
  have HS := Lib.hid h0
  clear hk1 hk2 hn1 h0
  go_wp2_with (with_reducible refine wpList_bytes (o := ⟨some 23, _, _, _, _, _⟩) rfl _ _ _ rfl 5 Tryd.underlying9 Tryd.underlying25 Tryd.underlying5 a rfl ?_; intro w3 cc hk3 hz3 hc3 hs3 hf3)
  have hlt2 := HN2.out.lt
  have hq := add_any w3 w.heap.size Sum.init a.data.toList (some ⟨w2.heap.size, 0, none⟩) a.size cc (HN2.out.keeps hk3 id) hs3 hc3 (by intro ad h; cases h; show w2.heap.size ≠ _; omega) (by show 0 + a.size ≤ _; omega)
  refine hq.mono ?_
  clear hq
  rintro e w4 ⟨rfl, hn4, hk4⟩
  obtain ⟨g, hg⟩ : ∃ g, g = w2.heap.size := ⟨_, rfl⟩
  rw [← hg] at hs3 hf3 hz3 ⊢
  have hgw : w.heap.size < g := by omega
  obtain ⟨s, hs⟩ : ∃ s, s = Sum.init.add a.data.toList := ⟨_, rfl⟩
  rw [← hs] at hn4
  have hsn : s.n = a.size := by rw [hs, Sum.n_add, HL.out]; exact Nat.zero_add _
  have HSN := Lib.hid hsn
  have HSS := Lib.hid hs
  have hS : ∀ i, i < w.heap.size → ¬ i = w.heap.size := fun i hi e => by omega
  have HSL := Lib.hid (show SliceOf w4 (some ⟨g, 0, none⟩) a.size (List.replicate 0 c ++ a.data.toList.drop 0) from hs3.keeps hk4 (by intro ad h; cases h; show ¬ g = _; omega))
  have HFR := Lib.hid (show ∀ j, j < a.size → w4.frozen? ⟨g, j, none⟩ = false from fun j hj => (World.frozen?_of_block (w := w3) (hk4.block g hz3 (by omega))).trans (hf3 j hj))
  have HSU := Lib.hid hn4
  have HKK := Lib.hid ((HK2.out.trans hk3).on hk4 hS)
  clear hs3 hf3 hz3 hc3 hk3 hk4 hn4 hg hs hsn hS hlt2 HN2 HK2
  go_wp2_with fail
  go_loopw [7] (fun i wr => RelK w wr g a.size a.data.toList c s i) (fun i _ => a.size - (intOf i).toNat)
  case atStart => exact relK 0 rfl (by omega) HSL HFR HSU HKK
  case round =>
    clear HSL HFR HSU HKK
    obtain ⟨k, rfl, hk, hsl, hfr, hsu, hkk⟩ := hrel
    by_cases hlt : k < a.size
    · have cw : ∃ v, wr.cell? ⟨g, k, none⟩ = some v := by
        obtain ⟨g', off, he, _, hcell⟩ := hsl.out.2 (by omega)
        cases he
        have := hcell k (by rw [hsl.out.1]; exact hlt)
        rw [Nat.zero_add] at this
        exact ⟨_, this⟩
      obtain ⟨v, cw⟩ := cw
      have fw := hfr.out k hlt
      have HN1 := Lib.hid (show SliceOf (wr.setCell ⟨g, k, none⟩ (.int .u8 (b : Int))) (some ⟨g, 0, none⟩) a.size (List.replicate (k + 1) c ++ a.data.toList.drop (k + 1)) by
        have := hsl.out.set k hlt c b (by rw [HB.out])
        rwa [fill_next _ k c (by rw [HL.out]; exact hlt)] at this)
      have hkS : Keeps (fun i => i = g) wr (wr.setCell ⟨g, k, none⟩ (.int .u8 (b : Int))) := (Keeps.refl (fun i => i = g) wr).setCell (p := ⟨g, k, none⟩) rfl _
      have HN2 := Lib.hid (show ∀ j, j < a.size → (wr.setCell ⟨g, k, none⟩ (.int .u8 (b : Int))).frozen? ⟨g, j, none⟩ = false from fun j hj => by rw [World.frozen?_setCell]; exact hfr.out j hj)
      have HN3 := Lib.hid (hsu.out.keeps hkS (by omega))
      have HN4 := Lib.hid (hkk.out.on hkS (T := fun _ => False) (fun i hi h => by omega))
      clear hkS hsl hfr hsu hkk
      go_wp2_with fail
      first
      | (go_roundw
         case rel => exact relK (k + 1) rfl (by omega) HN1 HN2 HN3 HN4
         case measure => simp [intOf]; omega)
      | exact ⟨relK (k + 1) rfl (by omega) HN1 HN2 HN3 HN4, by simp [intOf]; omega⟩
    · obtain rfl : k = a.size := by omega
      have HM := Lib.hid (show SliceOf wr (some ⟨g, 0, none⟩) a.size (List.replicate a.size c) by have := hsl.out; rwa [List.drop_of_length_le (by rw [HL.out]; exact Nat.le_refl _), List.append_nil] at this)
      clear hsl hfr
      go_wp2_with fail
      have hq := told_any wr w.heap.size s hsu.out (by rw [HSN.out]; omega)
      refine hq.mono ?_
      clear hq
      rintro e w5 ⟨rfl, hk5⟩
      obtain ⟨d, hd⟩ : ∃ d, d = s.told := ⟨_, rfl⟩
      rw [← hd]
      have HD := Lib.hid (show d = sumOf a.data.toList by rw [hd, HSS.out]; rfl)
      have HLD := Lib.hid (show d.length = 20 by rw [hd]; exact length_told _)
      have HM5 := Lib.hid (HM.out.keeps hk5 (fun _ _ => id))
      have HK5 := Lib.hid (hkk.out.trans hk5)
      have HZ5 := Lib.hid (show BytesAt (w5.alloc (.cells (bts (zeroB 20)).toArray 27 (0, 0))) w5.heap.size 27 (zeroB 20) from heap_alloc_new _ _)
      have HKB := Lib.hid (show Still w5 (w5.alloc (.cells (bts (zeroB 20)).toArray 27 (0, 0))) from (Keeps.refl _ _).alloc _)
      clear hd hk5 hsu hkk
      go_wp2_with (with_reducible refine store27 (o := ⟨none, _, _, _, _, _⟩) rfl (.tmp 8) (.tmp 38) rfl w5.heap.size rfl d (zeroB 20) rfl HLD HLZ HZ5 ?_; intro w6 hb6 hk6)
      have hk56 := HKB.out.on (T := fun _ => False) hk6.out (fun i hi e => by omega)
      have HK6 := Lib.hid (HK5.out.trans hk56)
      have HB6 : ∀ w', Still w6 w' → Hid (BytesAt w' w5.heap.size 27 d) := fun w' h => hb6.out.keeps h id
      have HM6 : ∀ w', Still w6 w' → Hid (SliceOf w' (some ⟨g, 0, none⟩) a.size (List.replicate a.size c)) := fun w' h => HM5.out.keeps (hk56.trans h) (fun _ _ => id)
      have H06 : ∀ w', Still w6 w' → Hid (Start w') := fun w' h => HS.out.keeps (HK6.out.trans h) id
      have he := eq_same d HLD.out
      obtain ⟨q, hq⟩ : ∃ q : ByteArray, q = ⟨(List.replicate a.size c).toArray⟩ := ⟨_, rfl⟩
      have HQ := Lib.hid (show q.data.toList = List.replicate a.size c by rw [hq])
      clear hq hb6 hk6 hk56 HZ5 HKB HM5 HK5
      refine wp_region_any (by kernel_rfl) ?_
      change wpAny _ _ _ _ _ _ _ (World.drew _)
      refine wpAny_take (i := 1) (oi := { dst := some 40, op := Go.Op.move (Go.Operand.tmp 0), type := 9, pos := "law.go:107", after := #[], guard := none }) (v := ?vCA_1) rfl (by kernel_rfl) (by kernel_rfl) (by kernel_rfl) (fun _ _ _ h => h) (Or.inl ⟨by rfl, ?hCA_1⟩) ?rCA_1
      case hCA_1 => (intro wz; go_simp; try with_reducible rfl)
      simp only [Act.put, List.setIfInBounds_toArray, List.set_cons_zero, List.set_cons_succ]
      refine wpAny_ready (rs := [0, 2]) (by kernel_rfl) (by simp) ?_
      refine AllReady.cons (o := { dst := some 39, op := Go.Op.load 27 (Go.Operand.tmp 8), type := 27, pos := "law.go:107", after := #[], guard := none }) rfl (fun K hK => ?_) (AllReady.cons (o := { dst := some 41, op := Go.Op.convert 9 25 (Go.Operand.tmp 40), type := 25, pos := "law.go:107", after := #[{ on := 1, ground := Go.Ground.data }], guard := none }) rfl (fun K hK => ?_) (AllReady.nil))
      · skip
        refine step_load27 (by rfl) (.tmp 8) rfl w5.heap.size rfl d HLD (by first | exact HB6 _ (Keeps.refl _ _).drew | exact HB6 _ hk7.drew_of | exact HB6 _ hk68) ?_
        refine hK _ _ ?_
        clear hK K
        try simp only [Act.put, List.setIfInBounds_toArray, List.set_cons_zero, List.set_cons_succ]
        refine wpAny_ready (rs := [2]) (by kernel_rfl) (by simp) ?_
        refine AllReady.cons (o := { dst := some 41, op := Go.Op.convert 9 25 (Go.Operand.tmp 40), type := 25, pos := "law.go:107", after := #[{ on := 1, ground := Go.Ground.data }], guard := none }) rfl (fun K hK => ?_) AllReady.nil
        refine step_bytes2 (by rfl) (.tmp 40) 9 25 rfl 5 Tryd.underlying9 Tryd.underlying25 Tryd.underlying5 a rfl ?_
        intro w7 c7 hk7 hz7 hc7 hs7
        refine hK _ _ ?_
        clear hK K
        try simp only [Act.put, List.setIfInBounds_toArray, List.set_cons_zero, List.set_cons_succ]
        refine wpAny_ready (rs := [3]) (by kernel_rfl) (by simp) ?_
        refine AllReady.cons (o := { dst := some 42, op := Go.Op.call { callee := Go.Callee.value (Go.Operand.func 13), args := #[Go.Operand.tmp 41], argTypes := #[25] }, type := 27, pos := "law.go:107", after := #[{ on := 2, ground := Go.Ground.data }], guard := none }) rfl (fun K hK => ?_) AllReady.nil
        go_simp
        have hq := of_at w7 a.data.toList d (some ⟨w6.drew.heap.size, 0, none⟩) a.size c7 (H06 w7 hk7.drew_of).out hs7 hc7 (by intro ad h; cases h; exact hz7) (by omega) HD.out
        refine hq.mono ?_
        clear hq
        rintro e w8 ⟨rfl, hk8⟩
        have hk68 := hk7.drew_of.trans hk8
        refine hK _ _ ?_
        clear hK K
        try simp only [Act.put, List.setIfInBounds_toArray, List.set_cons_zero, List.set_cons_succ]
        refine wpAny_take (i := 4) (oi := { dst := some 43, op := Go.Op.binOp Go.BinOp.eql 27 (Go.Operand.tmp 39) (Go.Operand.tmp 42) 27, type := 4, pos := "law.go:107", after := #[{ on := 0, ground := Go.Ground.data }, { on := 3, ground := Go.Ground.data }], guard := none }) (v := ?vCA_2) rfl (by kernel_rfl) (by kernel_rfl) (by kernel_rfl) (fun _ _ _ h => h) (Or.inl ⟨by rfl, ?hCA_2⟩) ?rCA_2
        case hCA_2 => (intro wz; go_simp; try with_reducible rfl)
        simp only [Act.put, List.setIfInBounds_toArray, List.set_cons_zero, List.set_cons_succ]
        refine wpAny_take (i := 5) (oi := { dst := some 44, op := Go.Op.move (Go.Operand.tmp 43), type := 4, pos := "law.go:107", after := #[{ on := 4, ground := Go.Ground.data }, { on := 3, ground := Go.Ground.chain }], guard := none }) (v := ?vCA_3) rfl (by kernel_rfl) (by kernel_rfl) (by kernel_rfl) (fun _ _ _ h => h) (Or.inl ⟨by rfl, ?hCA_3⟩) ?rCA_3
        case hCA_3 => (intro wz; go_simp; try with_reducible rfl)
        simp only [Act.put, List.setIfInBounds_toArray, List.set_cons_zero, List.set_cons_succ]
        refine wpAny_take (i := 6) (oi := { dst := some 45, op := Go.Op.move (Go.Operand.tmp 6), type := 25, pos := "law.go:107", after := #[{ on := 5, ground := Go.Ground.guard }], guard := some (5, true) }) (v := ?vCA_4) rfl (by kernel_rfl) (by kernel_rfl) (by kernel_rfl) (fun _ _ _ h => h) (Or.inl ⟨by rfl, ?hCA_4⟩) ?rCA_4
        case hCA_4 => (intro wz; go_simp; try with_reducible rfl)
        simp only [Act.put, List.setIfInBounds_toArray, List.set_cons_zero, List.set_cons_succ]
        refine wpAny_take (i := 8) (oi := { dst := some 47, op := Go.Op.move (Go.Operand.tmp 0), type := 9, pos := "law.go:107", after := #[{ on := 5, ground := Go.Ground.guard }], guard := some (5, true) }) (v := ?vCA_5) rfl (by kernel_rfl) (by kernel_rfl) (by kernel_rfl) (fun _ _ _ h => h) (Or.inl ⟨by rfl, ?hCA_5⟩) ?rCA_5
        case hCA_5 => (intro wz; go_simp; try with_reducible rfl)
        simp only [Act.put, List.setIfInBounds_toArray, List.set_cons_zero, List.set_cons_succ]
        refine wpAny_take (i := 9) (oi := { dst := some 48, op := Go.Op.call { callee := Go.Callee.builtin Go.Builtin.len, args := #[Go.Operand.tmp 47], argTypes := #[9] }, type := 3, pos := "law.go:107", after := #[{ on := 8, ground := Go.Ground.data }, { on := 5, ground := Go.Ground.guard }], guard := some (5, true) }) (v := ?vCA_6) rfl (by kernel_rfl) (by kernel_rfl) (by kernel_rfl) (fun _ _ _ h => h) (Or.inl ⟨by rfl, ?hCA_6⟩) ?rCA_6
        case hCA_6 => (intro wz; go_simp; try with_reducible rfl)
        simp only [Act.put, List.setIfInBounds_toArray, List.set_cons_zero, List.set_cons_succ]
        refine wpAny_take (i := 10) (oi := { dst := some 49, op := Go.Op.move (Go.Operand.tmp 1), type := 5, pos := "law.go:107", after := #[{ on := 5, ground := Go.Ground.guard }], guard := some (5, true) }) (v := ?vCA_7) rfl (by kernel_rfl) (by kernel_rfl) (by kernel_rfl) (fun _ _ _ h => h) (Or.inl ⟨by rfl, ?hCA_7⟩) ?rCA_7
        case hCA_7 => (intro wz; go_simp; try with_reducible rfl)
        simp only [Act.put, List.setIfInBounds_toArray, List.set_cons_zero, List.set_cons_succ]
        refine wpAny_ready (rs := [7, 11]) (by kernel_rfl) (by simp) ?_
        refine AllReady.cons (o := { dst := some 46, op := Go.Op.convert 25 9 (Go.Operand.tmp 45), type := 9, pos := "law.go:107", after := #[{ on := 6, ground := Go.Ground.data }, { on := 5, ground := Go.Ground.guard }], guard := some (5, true) }) rfl (fun K hK => ?_) (AllReady.cons (o := { dst := some 50, op := Go.Op.call { callee := Go.Callee.value (Go.Operand.func 14), args := #[Go.Operand.tmp 48, Go.Operand.tmp 49], argTypes := #[3, 5] }, type := 9, pos := "law.go:107", after := #[{ on := 9, ground := Go.Ground.data }, { on := 10, ground := Go.Ground.data }, { on := 5, ground := Go.Ground.chain }, { on := 5, ground := Go.Ground.guard }], guard := some (5, true) }) rfl (fun K hK => ?_) (AllReady.nil))
        · skip
          refine step_string (by rfl) (.tmp 45) 25 9 rfl 5 Tryd.underlying25 Tryd.underlying5 Tryd.underlying9 _ _ _ _ q rfl (by first | exact (HM6 _ hk68).out | exact (HM6 _ (hk68.trans hk9)).out) HQ.out ?_
          refine hK _ _ ?_
          clear hK K
          try simp only [Act.put, List.setIfInBounds_toArray, List.set_cons_zero, List.set_cons_succ]
          refine wpAny_ready (rs := [11]) (by kernel_rfl) (by simp) ?_
          refine AllReady.cons (o := { dst := some 50, op := Go.Op.call { callee := Go.Callee.value (Go.Operand.func 14), args := #[Go.Operand.tmp 48, Go.Operand.tmp 49], argTypes := #[3, 5] }, type := 9, pos := "law.go:107", after := #[{ on := 9, ground := Go.Ground.data }, { on := 10, ground := Go.Ground.data }, { on := 5, ground := Go.Ground.chain }, { on := 5, ground := Go.Ground.guard }], guard := some (5, true) }) rfl (fun K hK => ?_) AllReady.nil
          go_simp
          have hq := fill_any w8 a.size b c HB.out q HQ.out (by omega)
          refine hq.mono ?_
          clear hq
          rintro e w9 ⟨rfl, hk9⟩
          refine hK _ _ ?_
          clear hK K
          try simp only [Act.put, List.setIfInBounds_toArray, List.set_cons_zero, List.set_cons_succ]
          refine wpAny_take (i := 12) (oi := { dst := some 51, op := Go.Op.binOp Go.BinOp.eql 9 (Go.Operand.tmp 46) (Go.Operand.tmp 50) 9, type := 4, pos := "law.go:107", after := #[{ on := 7, ground := Go.Ground.data }, { on := 11, ground := Go.Ground.data }, { on := 5, ground := Go.Ground.guard }], guard := some (5, true) }) (v := ?vCA_8) rfl (by kernel_rfl) (by kernel_rfl) (by kernel_rfl) (fun _ _ _ h => h) (Or.inl ⟨by rfl, ?hCA_8⟩) ?rCA_8
          case hCA_8 => (intro wz; go_simp; try with_reducible rfl)
          simp only [Act.put, List.setIfInBounds_toArray, List.set_cons_zero, List.set_cons_succ]
          refine wpAny_take (i := 13) (oi := { dst := some 52, op := Go.Op.pick (Go.Operand.tmp 44) (Go.Operand.tmp 51) (Go.Operand.const (Go.Value.bool false)), type := 4, pos := "law.go:107", after := #[{ on := 5, ground := Go.Ground.data }, { on := 12, ground := Go.Ground.data }], guard := none }) (v := ?vCA_9) rfl (by kernel_rfl) (by kernel_rfl) (by kernel_rfl) (fun _ _ _ h => h) (Or.inl ⟨by rfl, ?hCA_9⟩) ?rCA_9
          case hCA_9 => (intro wz; go_simp; try with_reducible rfl)
          simp only [Act.put, List.setIfInBounds_toArray, List.set_cons_zero, List.set_cons_succ]
          refine wpAny_take (i := 14) (oi := { dst := some 4, op := Go.Op.assign (Go.Operand.tmp 52), type := 4, pos := "law.go:107", after := #[{ on := 13, ground := Go.Ground.data }, { on := 11, ground := Go.Ground.chain }, { on := 0, ground := Go.Ground.phase }, { on := 1, ground := Go.Ground.phase }, { on := 2, ground := Go.Ground.phase }, { on := 3, ground := Go.Ground.phase }, { on := 4, ground := Go.Ground.phase }, { on := 5, ground := Go.Ground.phase }, { on := 6, ground := Go.Ground.phase }, { on := 7, ground := Go.Ground.phase }, { on := 8, ground := Go.Ground.phase }, { on := 9, ground := Go.Ground.phase }, { on := 10, ground := Go.Ground.phase }, { on := 11, ground := Go.Ground.phase }, { on := 12, ground := Go.Ground.phase }, { on := 13, ground := Go.Ground.phase }], guard := none }) (v := ?vCA_10) rfl (by kernel_rfl) (by kernel_rfl) (by kernel_rfl) (fun _ _ _ h => h) (Or.inl ⟨by rfl, ?hCA_10⟩) ?rCA_10
          case hCA_10 => (intro wz; go_simp; try with_reducible rfl)
          simp only [Act.put, List.setIfInBounds_toArray, List.set_cons_zero, List.set_cons_succ]
          refine wpAny_done (by kernel_rfl) ?_ _
          have HF := Lib.hid (HK6.out.trans (hk68.trans hk9))
          go_wp2_with fail
          go_ret
          exact ⟨rfl, HF.out.below'⟩
        · skip
          go_simp
          have hq := fill_any w8 a.size b c HB.out q HQ.out (by omega)
          refine hq.mono ?_
          clear hq
          rintro e w9 ⟨rfl, hk9⟩
          refine hK _ _ ?_
          clear hK K
          try simp only [Act.put, List.setIfInBounds_toArray, List.set_cons_zero, List.set_cons_succ]
          refine wpAny_ready (rs := [7]) (by kernel_rfl) (by simp) ?_
          refine AllReady.cons (o := { dst := some 46, op := Go.Op.convert 25 9 (Go.Operand.tmp 45), type := 9, pos := "law.go:107", after := #[{ on := 6, ground := Go.Ground.data }, { on := 5, ground := Go.Ground.guard }], guard := some (5, true) }) rfl (fun K hK => ?_) AllReady.nil
          refine step_string (by rfl) (.tmp 45) 25 9 rfl 5 Tryd.underlying25 Tryd.underlying5 Tryd.underlying9 _ _ _ _ q rfl (by first | exact (HM6 _ hk68).out | exact (HM6 _ (hk68.trans hk9)).out) HQ.out ?_
          refine hK _ _ ?_
          clear hK K
          try simp only [Act.put, List.setIfInBounds_toArray, List.set_cons_zero, List.set_cons_succ]
          refine wpAny_take (i := 12) (oi := { dst := some 51, op := Go.Op.binOp Go.BinOp.eql 9 (Go.Operand.tmp 46) (Go.Operand.tmp 50) 9, type := 4, pos := "law.go:107", after := #[{ on := 7, ground := Go.Ground.data }, { on := 11, ground := Go.Ground.data }, { on := 5, ground := Go.Ground.guard }], guard := some (5, true) }) (v := ?vCA_11) rfl (by kernel_rfl) (by kernel_rfl) (by kernel_rfl) (fun _ _ _ h => h) (Or.inl ⟨by rfl, ?hCA_11⟩) ?rCA_11
          case hCA_11 => (intro wz; go_simp; try with_reducible rfl)
          simp only [Act.put, List.setIfInBounds_toArray, List.set_cons_zero, List.set_cons_succ]
          refine wpAny_take (i := 13) (oi := { dst := some 52, op := Go.Op.pick (Go.Operand.tmp 44) (Go.Operand.tmp 51) (Go.Operand.const (Go.Value.bool false)), type := 4, pos := "law.go:107", after := #[{ on := 5, ground := Go.Ground.data }, { on := 12, ground := Go.Ground.data }], guard := none }) (v := ?vCA_12) rfl (by kernel_rfl) (by kernel_rfl) (by kernel_rfl) (fun _ _ _ h => h) (Or.inl ⟨by rfl, ?hCA_12⟩) ?rCA_12
          case hCA_12 => (intro wz; go_simp; try with_reducible rfl)
          simp only [Act.put, List.setIfInBounds_toArray, List.set_cons_zero, List.set_cons_succ]
          refine wpAny_take (i := 14) (oi := { dst := some 4, op := Go.Op.assign (Go.Operand.tmp 52), type := 4, pos := "law.go:107", after := #[{ on := 13, ground := Go.Ground.data }, { on := 11, ground := Go.Ground.chain }, { on := 0, ground := Go.Ground.phase }, { on := 1, ground := Go.Ground.phase }, { on := 2, ground := Go.Ground.phase }, { on := 3, ground := Go.Ground.phase }, { on := 4, ground := Go.Ground.phase }, { on := 5, ground := Go.Ground.phase }, { on := 6, ground := Go.Ground.phase }, { on := 7, ground := Go.Ground.phase }, { on := 8, ground := Go.Ground.phase }, { on := 9, ground := Go.Ground.phase }, { on := 10, ground := Go.Ground.phase }, { on := 11, ground := Go.Ground.phase }, { on := 12, ground := Go.Ground.phase }, { on := 13, ground := Go.Ground.phase }], guard := none }) (v := ?vCA_13) rfl (by kernel_rfl) (by kernel_rfl) (by kernel_rfl) (fun _ _ _ h => h) (Or.inl ⟨by rfl, ?hCA_13⟩) ?rCA_13
          case hCA_13 => (intro wz; go_simp; try with_reducible rfl)
          simp only [Act.put, List.setIfInBounds_toArray, List.set_cons_zero, List.set_cons_succ]
          refine wpAny_done (by kernel_rfl) ?_ _
          have HF := Lib.hid (HK6.out.trans (hk68.trans hk9))
          go_wp2_with fail
          go_ret
          exact ⟨rfl, HF.out.below'⟩
      · skip
        refine step_bytes2 (by rfl) (.tmp 40) 9 25 rfl 5 Tryd.underlying9 Tryd.underlying25 Tryd.underlying5 a rfl ?_
        intro w7 c7 hk7 hz7 hc7 hs7
        refine hK _ _ ?_
        clear hK K
        try simp only [Act.put, List.setIfInBounds_toArray, List.set_cons_zero, List.set_cons_succ]
        refine wpAny_ready (rs := [0, 3]) (by kernel_rfl) (by simp) ?_
        refine AllReady.cons (o := { dst := some 39, op := Go.Op.load 27 (Go.Operand.tmp 8), type := 27, pos := "law.go:107", after := #[], guard := none }) rfl (fun K hK => ?_) (AllReady.cons (o := { dst := some 42, op := Go.Op.call { callee := Go.Callee.value (Go.Operand.func 13), args := #[Go.Operand.tmp 41], argTypes := #[25] }, type := 27, pos := "law.go:107", after := #[{ on := 2, ground := Go.Ground.data }], guard := none }) rfl (fun K hK => ?_) (AllReady.nil))
        · skip
          refine step_load27 (by rfl) (.tmp 8) rfl w5.heap.size rfl d HLD (by first | exact HB6 _ (Keeps.refl _ _).drew | exact HB6 _ hk7.drew_of | exact HB6 _ hk68) ?_
          refine hK _ _ ?_
          clear hK K
          try simp only [Act.put, List.setIfInBounds_toArray, List.set_cons_zero, List.set_cons_succ]
          refine wpAny_ready (rs := [3]) (by kernel_rfl) (by simp) ?_
          refine AllReady.cons (o := { dst := some 42, op := Go.Op.call { callee := Go.Callee.value (Go.Operand.func 13), args := #[Go.Operand.tmp 41], argTypes := #[25] }, type := 27, pos := "law.go:107", after := #[{ on := 2, ground := Go.Ground.data }], guard := none }) rfl (fun K hK => ?_) AllReady.nil
          go_simp
          have hq := of_at w7 a.data.toList d (some ⟨w6.drew.heap.size, 0, none⟩) a.size c7 (H06 w7 hk7.drew_of).out hs7 hc7 (by intro ad h; cases h; exact hz7) (by omega) HD.out
          refine hq.mono ?_
          clear hq
          rintro e w8 ⟨rfl, hk8⟩
          have hk68 := hk7.drew_of.trans hk8
          refine hK _ _ ?_
          clear hK K
          try simp only [Act.put, List.setIfInBounds_toArray, List.set_cons_zero, List.set_cons_succ]
          refine wpAny_take (i := 4) (oi := { dst := some 43, op := Go.Op.binOp Go.BinOp.eql 27 (Go.Operand.tmp 39) (Go.Operand.tmp 42) 27, type := 4, pos := "law.go:107", after := #[{ on := 0, ground := Go.Ground.data }, { on := 3, ground := Go.Ground.data }], guard := none }) (v := ?vCA_14) rfl (by kernel_rfl) (by kernel_rfl) (by kernel_rfl) (fun _ _ _ h => h) (Or.inl ⟨by rfl, ?hCA_14⟩) ?rCA_14
          case hCA_14 => (intro wz; go_simp; try with_reducible rfl)
          simp only [Act.put, List.setIfInBounds_toArray, List.set_cons_zero, List.set_cons_succ]
          refine wpAny_take (i := 5) (oi := { dst := some 44, op := Go.Op.move (Go.Operand.tmp 43), type := 4, pos := "law.go:107", after := #[{ on := 4, ground := Go.Ground.data }, { on := 3, ground := Go.Ground.chain }], guard := none }) (v := ?vCA_15) rfl (by kernel_rfl) (by kernel_rfl) (by kernel_rfl) (fun _ _ _ h => h) (Or.inl ⟨by rfl, ?hCA_15⟩) ?rCA_15
          case hCA_15 => (intro wz; go_simp; try with_reducible rfl)
          simp only [Act.put, List.setIfInBounds_toArray, List.set_cons_zero, List.set_cons_succ]
          refine wpAny_take (i := 6) (oi := { dst := some 45, op := Go.Op.move (Go.Operand.tmp 6), type := 25, pos := "law.go:107", after := #[{ on := 5, ground := Go.Ground.guard }], guard := some (5, true) }) (v := ?vCA_16) rfl (by kernel_rfl) (by kernel_rfl) (by kernel_rfl) (fun _ _ _ h => h) (Or.inl ⟨by rfl, ?hCA_16⟩) ?rCA_16
          case hCA_16 => (intro wz; go_simp; try with_reducible rfl)
          simp only [Act.put, List.setIfInBounds_toArray, List.set_cons_zero, List.set_cons_succ]
          refine wpAny_take (i := 8) (oi := { dst := some 47, op := Go.Op.move (Go.Operand.tmp 0), type := 9, pos := "law.go:107", after := #[{ on := 5, ground := Go.Ground.guard }], guard := some (5, true) }) (v := ?vCA_17) rfl (by kernel_rfl) (by kernel_rfl) (by kernel_rfl) (fun _ _ _ h => h) (Or.inl ⟨by rfl, ?hCA_17⟩) ?rCA_17
          case hCA_17 => (intro wz; go_simp; try with_reducible rfl)
          simp only [Act.put, List.setIfInBounds_toArray, List.set_cons_zero, List.set_cons_succ]
          refine wpAny_take (i := 9) (oi := { dst := some 48, op := Go.Op.call { callee := Go.Callee.builtin Go.Builtin.len, args := #[Go.Operand.tmp 47], argTypes := #[9] }, type := 3, pos := "law.go:107", after := #[{ on := 8, ground := Go.Ground.data }, { on := 5, ground := Go.Ground.guard }], guard := some (5, true) }) (v := ?vCA_18) rfl (by kernel_rfl) (by kernel_rfl) (by kernel_rfl) (fun _ _ _ h => h) (Or.inl ⟨by rfl, ?hCA_18⟩) ?rCA_18
          case hCA_18 => (intro wz; go_simp; try with_reducible rfl)
          simp only [Act.put, List.setIfInBounds_toArray, List.set_cons_zero, List.set_cons_succ]
          refine wpAny_take (i := 10) (oi := { dst := some 49, op := Go.Op.move (Go.Operand.tmp 1), type := 5, pos := "law.go:107", after := #[{ on := 5, ground := Go.Ground.guard }], guard := some (5, true) }) (v := ?vCA_19) rfl (by kernel_rfl) (by kernel_rfl) (by kernel_rfl) (fun _ _ _ h => h) (Or.inl ⟨by rfl, ?hCA_19⟩) ?rCA_19
          case hCA_19 => (intro wz; go_simp; try with_reducible rfl)
          simp only [Act.put, List.setIfInBounds_toArray, List.set_cons_zero, List.set_cons_succ]
          refine wpAny_ready (rs := [7, 11]) (by kernel_rfl) (by simp) ?_
          refine AllReady.cons (o := { dst := some 46, op := Go.Op.convert 25 9 (Go.Operand.tmp 45), type := 9, pos := "law.go:107", after := #[{ on := 6, ground := Go.Ground.data }, { on := 5, ground := Go.Ground.guard }], guard := some (5, true) }) rfl (fun K hK => ?_) (AllReady.cons (o := { dst := some 50, op := Go.Op.call { callee := Go.Callee.value (Go.Operand.func 14), args := #[Go.Operand.tmp 48, Go.Operand.tmp 49], argTypes := #[3, 5] }, type := 9, pos := "law.go:107", after := #[{ on := 9, ground := Go.Ground.data }, { on := 10, ground := Go.Ground.data }, { on := 5, ground := Go.Ground.chain }, { on := 5, ground := Go.Ground.guard }], guard := some (5, true) }) rfl (fun K hK => ?_) (AllReady.nil))
          · skip
            refine step_string (by rfl) (.tmp 45) 25 9 rfl 5 Tryd.underlying25 Tryd.underlying5 Tryd.underlying9 _ _ _ _ q rfl (by first | exact (HM6 _ hk68).out | exact (HM6 _ (hk68.trans hk9)).out) HQ.out ?_
            refine hK _ _ ?_
            clear hK K
            try simp only [Act.put, List.setIfInBounds_toArray, List.set_cons_zero, List.set_cons_succ]
            refine wpAny_ready (rs := [11]) (by kernel_rfl) (by simp) ?_
            refine AllReady.cons (o := { dst := some 50, op := Go.Op.call { callee := Go.Callee.value (Go.Operand.func 14), args := #[Go.Operand.tmp 48, Go.Operand.tmp 49], argTypes := #[3, 5] }, type := 9, pos := "law.go:107", after := #[{ on := 9, ground := Go.Ground.data }, { on := 10, ground := Go.Ground.data }, { on := 5, ground := Go.Ground.chain }, { on := 5, ground := Go.Ground.guard }], guard := some (5, true) }) rfl (fun K hK => ?_) AllReady.nil
            go_simp
            have hq := fill_any w8 a.size b c HB.out q HQ.out (by omega)
            refine hq.mono ?_
            clear hq
            rintro e w9 ⟨rfl, hk9⟩
            refine hK _ _ ?_
            clear hK K
            try simp only [Act.put, List.setIfInBounds_toArray, List.set_cons_zero, List.set_cons_succ]
            refine wpAny_take (i := 12) (oi := { dst := some 51, op := Go.Op.binOp Go.BinOp.eql 9 (Go.Operand.tmp 46) (Go.Operand.tmp 50) 9, type := 4, pos := "law.go:107", after := #[{ on := 7, ground := Go.Ground.data }, { on := 11, ground := Go.Ground.data }, { on := 5, ground := Go.Ground.guard }], guard := some (5, true) }) (v := ?vCA_20) rfl (by kernel_rfl) (by kernel_rfl) (by kernel_rfl) (fun _ _ _ h => h) (Or.inl ⟨by rfl, ?hCA_20⟩) ?rCA_20
            case hCA_20 => (intro wz; go_simp; try with_reducible rfl)
            simp only [Act.put, List.setIfInBounds_toArray, List.set_cons_zero, List.set_cons_succ]
            refine wpAny_take (i := 13) (oi := { dst := some 52, op := Go.Op.pick (Go.Operand.tmp 44) (Go.Operand.tmp 51) (Go.Operand.const (Go.Value.bool false)), type := 4, pos := "law.go:107", after := #[{ on := 5, ground := Go.Ground.data }, { on := 12, ground := Go.Ground.data }], guard := none }) (v := ?vCA_21) rfl (by kernel_rfl) (by kernel_rfl) (by kernel_rfl) (fun _ _ _ h => h) (Or.inl ⟨by rfl, ?hCA_21⟩) ?rCA_21
            case hCA_21 => (intro wz; go_simp; try with_reducible rfl)
            simp only [Act.put, List.setIfInBounds_toArray, List.set_cons_zero, List.set_cons_succ]
            refine wpAny_take (i := 14) (oi := { dst := some 4, op := Go.Op.assign (Go.Operand.tmp 52), type := 4, pos := "law.go:107", after := #[{ on := 13, ground := Go.Ground.data }, { on := 11, ground := Go.Ground.chain }, { on := 0, ground := Go.Ground.phase }, { on := 1, ground := Go.Ground.phase }, { on := 2, ground := Go.Ground.phase }, { on := 3, ground := Go.Ground.phase }, { on := 4, ground := Go.Ground.phase }, { on := 5, ground := Go.Ground.phase }, { on := 6, ground := Go.Ground.phase }, { on := 7, ground := Go.Ground.phase }, { on := 8, ground := Go.Ground.phase }, { on := 9, ground := Go.Ground.phase }, { on := 10, ground := Go.Ground.phase }, { on := 11, ground := Go.Ground.phase }, { on := 12, ground := Go.Ground.phase }, { on := 13, ground := Go.Ground.phase }], guard := none }) (v := ?vCA_22) rfl (by kernel_rfl) (by kernel_rfl) (by kernel_rfl) (fun _ _ _ h => h) (Or.inl ⟨by rfl, ?hCA_22⟩) ?rCA_22
            case hCA_22 => (intro wz; go_simp; try with_reducible rfl)
            simp only [Act.put, List.setIfInBounds_toArray, List.set_cons_zero, List.set_cons_succ]
            refine wpAny_done (by kernel_rfl) ?_ _
            have HF := Lib.hid (HK6.out.trans (hk68.trans hk9))
            go_wp2_with fail
            go_ret
            exact ⟨rfl, HF.out.below'⟩
          · skip
            go_simp
            have hq := fill_any w8 a.size b c HB.out q HQ.out (by omega)
            refine hq.mono ?_
            clear hq
            rintro e w9 ⟨rfl, hk9⟩
            refine hK _ _ ?_
            clear hK K
            try simp only [Act.put, List.setIfInBounds_toArray, List.set_cons_zero, List.set_cons_succ]
            refine wpAny_ready (rs := [7]) (by kernel_rfl) (by simp) ?_
            refine AllReady.cons (o := { dst := some 46, op := Go.Op.convert 25 9 (Go.Operand.tmp 45), type := 9, pos := "law.go:107", after := #[{ on := 6, ground := Go.Ground.data }, { on := 5, ground := Go.Ground.guard }], guard := some (5, true) }) rfl (fun K hK => ?_) AllReady.nil
            refine step_string (by rfl) (.tmp 45) 25 9 rfl 5 Tryd.underlying25 Tryd.underlying5 Tryd.underlying9 _ _ _ _ q rfl (by first | exact (HM6 _ hk68).out | exact (HM6 _ (hk68.trans hk9)).out) HQ.out ?_
            refine hK _ _ ?_
            clear hK K
            try simp only [Act.put, List.setIfInBounds_toArray, List.set_cons_zero, List.set_cons_succ]
            refine wpAny_take (i := 12) (oi := { dst := some 51, op := Go.Op.binOp Go.BinOp.eql 9 (Go.Operand.tmp 46) (Go.Operand.tmp 50) 9, type := 4, pos := "law.go:107", after := #[{ on := 7, ground := Go.Ground.data }, { on := 11, ground := Go.Ground.data }, { on := 5, ground := Go.Ground.guard }], guard := some (5, true) }) (v := ?vCA_23) rfl (by kernel_rfl) (by kernel_rfl) (by kernel_rfl) (fun _ _ _ h => h) (Or.inl ⟨by rfl, ?hCA_23⟩) ?rCA_23
            case hCA_23 => (intro wz; go_simp; try with_reducible rfl)
            simp only [Act.put, List.setIfInBounds_toArray, List.set_cons_zero, List.set_cons_succ]
            refine wpAny_take (i := 13) (oi := { dst := some 52, op := Go.Op.pick (Go.Operand.tmp 44) (Go.Operand.tmp 51) (Go.Operand.const (Go.Value.bool false)), type := 4, pos := "law.go:107", after := #[{ on := 5, ground := Go.Ground.data }, { on := 12, ground := Go.Ground.data }], guard := none }) (v := ?vCA_24) rfl (by kernel_rfl) (by kernel_rfl) (by kernel_rfl) (fun _ _ _ h => h) (Or.inl ⟨by rfl, ?hCA_24⟩) ?rCA_24
            case hCA_24 => (intro wz; go_simp; try with_reducible rfl)
            simp only [Act.put, List.setIfInBounds_toArray, List.set_cons_zero, List.set_cons_succ]
            refine wpAny_take (i := 14) (oi := { dst := some 4, op := Go.Op.assign (Go.Operand.tmp 52), type := 4, pos := "law.go:107", after := #[{ on := 13, ground := Go.Ground.data }, { on := 11, ground := Go.Ground.chain }, { on := 0, ground := Go.Ground.phase }, { on := 1, ground := Go.Ground.phase }, { on := 2, ground := Go.Ground.phase }, { on := 3, ground := Go.Ground.phase }, { on := 4, ground := Go.Ground.phase }, { on := 5, ground := Go.Ground.phase }, { on := 6, ground := Go.Ground.phase }, { on := 7, ground := Go.Ground.phase }, { on := 8, ground := Go.Ground.phase }, { on := 9, ground := Go.Ground.phase }, { on := 10, ground := Go.Ground.phase }, { on := 11, ground := Go.Ground.phase }, { on := 12, ground := Go.Ground.phase }, { on := 13, ground := Go.Ground.phase }], guard := none }) (v := ?vCA_25) rfl (by kernel_rfl) (by kernel_rfl) (by kernel_rfl) (fun _ _ _ h => h) (Or.inl ⟨by rfl, ?hCA_25⟩) ?rCA_25
            case hCA_25 => (intro wz; go_simp; try with_reducible rfl)
            simp only [Act.put, List.setIfInBounds_toArray, List.set_cons_zero, List.set_cons_succ]
            refine wpAny_done (by kernel_rfl) ?_ _
            have HF := Lib.hid (HK6.out.trans (hk68.trans hk9))
            go_wp2_with fail
            go_ret
            exact ⟨rfl, HF.out.below'⟩
        · skip
          go_simp
          have hq := of_at w7 a.data.toList d (some ⟨w6.drew.heap.size, 0, none⟩) a.size c7 (H06 w7 hk7.drew_of).out hs7 hc7 (by intro ad h; cases h; exact hz7) (by omega) HD.out
          refine hq.mono ?_
          clear hq
          rintro e w8 ⟨rfl, hk8⟩
          have hk68 := hk7.drew_of.trans hk8
          refine hK _ _ ?_
          clear hK K
          try simp only [Act.put, List.setIfInBounds_toArray, List.set_cons_zero, List.set_cons_succ]
          refine wpAny_ready (rs := [0]) (by kernel_rfl) (by simp) ?_
          refine AllReady.cons (o := { dst := some 39, op := Go.Op.load 27 (Go.Operand.tmp 8), type := 27, pos := "law.go:107", after := #[], guard := none }) rfl (fun K hK => ?_) AllReady.nil
          refine step_load27 (by rfl) (.tmp 8) rfl w5.heap.size rfl d HLD (by first | exact HB6 _ (Keeps.refl _ _).drew | exact HB6 _ hk7.drew_of | exact HB6 _ hk68) ?_
          refine hK _ _ ?_
          clear hK K
          try simp only [Act.put, List.setIfInBounds_toArray, List.set_cons_zero, List.set_cons_succ]
          refine wpAny_take (i := 4) (oi := { dst := some 43, op := Go.Op.binOp Go.BinOp.eql 27 (Go.Operand.tmp 39) (Go.Operand.tmp 42) 27, type := 4, pos := "law.go:107", after := #[{ on := 0, ground := Go.Ground.data }, { on := 3, ground := Go.Ground.data }], guard := none }) (v := ?vCA_26) rfl (by kernel_rfl) (by kernel_rfl) (by kernel_rfl) (fun _ _ _ h => h) (Or.inl ⟨by rfl, ?hCA_26⟩) ?rCA_26
          case hCA_26 => (intro wz; go_simp; try with_reducible rfl)
          simp only [Act.put, List.setIfInBounds_toArray, List.set_cons_zero, List.set_cons_succ]
          refine wpAny_take (i := 5) (oi := { dst := some 44, op := Go.Op.move (Go.Operand.tmp 43), type := 4, pos := "law.go:107", after := #[{ on := 4, ground := Go.Ground.data }, { on := 3, ground := Go.Ground.chain }], guard := none }) (v := ?vCA_27) rfl (by kernel_rfl) (by kernel_rfl) (by kernel_rfl) (fun _ _ _ h => h) (Or.inl ⟨by rfl, ?hCA_27⟩) ?rCA_27
          case hCA_27 => (intro wz; go_simp; try with_reducible rfl)
          simp only [Act.put, List.setIfInBounds_toArray, List.set_cons_zero, List.set_cons_succ]
          refine wpAny_take (i := 6) (oi := { dst := some 45, op := Go.Op.move (Go.Operand.tmp 6), type := 25, pos := "law.go:107", after := #[{ on := 5, ground := Go.Ground.guard }], guard := some (5, true) }) (v := ?vCA_28) rfl (by kernel_rfl) (by kernel_rfl) (by kernel_rfl) (fun _ _ _ h => h) (Or.inl ⟨by rfl, ?hCA_28⟩) ?rCA_28
          case hCA_28 => (intro wz; go_simp; try with_reducible rfl)
          simp only [Act.put, List.setIfInBounds_toArray, List.set_cons_zero, List.set_cons_succ]
          refine wpAny_take (i := 8) (oi := { dst := some 47, op := Go.Op.move (Go.Operand.tmp 0), type := 9, pos := "law.go:107", after := #[{ on := 5, ground := Go.Ground.guard }], guard := some (5, true) }) (v := ?vCA_29) rfl (by kernel_rfl) (by kernel_rfl) (by kernel_rfl) (fun _ _ _ h => h) (Or.inl ⟨by rfl, ?hCA_29⟩) ?rCA_29
          case hCA_29 => (intro wz; go_simp; try with_reducible rfl)
          simp only [Act.put, List.setIfInBounds_toArray, List.set_cons_zero, List.set_cons_succ]
          refine wpAny_take (i := 9) (oi := { dst := some 48, op := Go.Op.call { callee := Go.Callee.builtin Go.Builtin.len, args := #[Go.Operand.tmp 47], argTypes := #[9] }, type := 3, pos := "law.go:107", after := #[{ on := 8, ground := Go.Ground.data }, { on := 5, ground := Go.Ground.guard }], guard := some (5, true) }) (v := ?vCA_30) rfl (by kernel_rfl) (by kernel_rfl) (by kernel_rfl) (fun _ _ _ h => h) (Or.inl ⟨by rfl, ?hCA_30⟩) ?rCA_30
          case hCA_30 => (intro wz; go_simp; try with_reducible rfl)
          simp only [Act.put, List.setIfInBounds_toArray, List.set_cons_zero, List.set_cons_succ]
          refine wpAny_take (i := 10) (oi := { dst := some 49, op := Go.Op.move (Go.Operand.tmp 1), type := 5, pos := "law.go:107", after := #[{ on := 5, ground := Go.Ground.guard }], guard := some (5, true) }) (v := ?vCA_31) rfl (by kernel_rfl) (by kernel_rfl) (by kernel_rfl) (fun _ _ _ h => h) (Or.inl ⟨by rfl, ?hCA_31⟩) ?rCA_31
          case hCA_31 => (intro wz; go_simp; try with_reducible rfl)
          simp only [Act.put, List.setIfInBounds_toArray, List.set_cons_zero, List.set_cons_succ]
          refine wpAny_ready (rs := [7, 11]) (by kernel_rfl) (by simp) ?_
          refine AllReady.cons (o := { dst := some 46, op := Go.Op.convert 25 9 (Go.Operand.tmp 45), type := 9, pos := "law.go:107", after := #[{ on := 6, ground := Go.Ground.data }, { on := 5, ground := Go.Ground.guard }], guard := some (5, true) }) rfl (fun K hK => ?_) (AllReady.cons (o := { dst := some 50, op := Go.Op.call { callee := Go.Callee.value (Go.Operand.func 14), args := #[Go.Operand.tmp 48, Go.Operand.tmp 49], argTypes := #[3, 5] }, type := 9, pos := "law.go:107", after := #[{ on := 9, ground := Go.Ground.data }, { on := 10, ground := Go.Ground.data }, { on := 5, ground := Go.Ground.chain }, { on := 5, ground := Go.Ground.guard }], guard := some (5, true) }) rfl (fun K hK => ?_) (AllReady.nil))
          · skip
            refine step_string (by rfl) (.tmp 45) 25 9 rfl 5 Tryd.underlying25 Tryd.underlying5 Tryd.underlying9 _ _ _ _ q rfl (by first | exact (HM6 _ hk68).out | exact (HM6 _ (hk68.trans hk9)).out) HQ.out ?_
            refine hK _ _ ?_
            clear hK K
            try simp only [Act.put, List.setIfInBounds_toArray, List.set_cons_zero, List.set_cons_succ]
            refine wpAny_ready (rs := [11]) (by kernel_rfl) (by simp) ?_
            refine AllReady.cons (o := { dst := some 50, op := Go.Op.call { callee := Go.Callee.value (Go.Operand.func 14), args := #[Go.Operand.tmp 48, Go.Operand.tmp 49], argTypes := #[3, 5] }, type := 9, pos := "law.go:107", after := #[{ on := 9, ground := Go.Ground.data }, { on := 10, ground := Go.Ground.data }, { on := 5, ground := Go.Ground.chain }, { on := 5, ground := Go.Ground.guard }], guard := some (5, true) }) rfl (fun K hK => ?_) AllReady.nil
            go_simp
            have hq := fill_any w8 a.size b c HB.out q HQ.out (by omega)
            refine hq.mono ?_
            clear hq
            rintro e w9 ⟨rfl, hk9⟩
            refine hK _ _ ?_
            clear hK K
            try simp only [Act.put, List.setIfInBounds_toArray, List.set_cons_zero, List.set_cons_succ]
            refine wpAny_take (i := 12) (oi := { dst := some 51, op := Go.Op.binOp Go.BinOp.eql 9 (Go.Operand.tmp 46) (Go.Operand.tmp 50) 9, type := 4, pos := "law.go:107", after := #[{ on := 7, ground := Go.Ground.data }, { on := 11, ground := Go.Ground.data }, { on := 5, ground := Go.Ground.guard }], guard := some (5, true) }) (v := ?vCA_32) rfl (by kernel_rfl) (by kernel_rfl) (by kernel_rfl) (fun _ _ _ h => h) (Or.inl ⟨by rfl, ?hCA_32⟩) ?rCA_32
            case hCA_32 => (intro wz; go_simp; try with_reducible rfl)
            simp only [Act.put, List.setIfInBounds_toArray, List.set_cons_zero, List.set_cons_succ]
            refine wpAny_take (i := 13) (oi := { dst := some 52, op := Go.Op.pick (Go.Operand.tmp 44) (Go.Operand.tmp 51) (Go.Operand.const (Go.Value.bool false)), type := 4, pos := "law.go:107", after := #[{ on := 5, ground := Go.Ground.data }, { on := 12, ground := Go.Ground.data }], guard := none }) (v := ?vCA_33) rfl (by kernel_rfl) (by kernel_rfl) (by kernel_rfl) (fun _ _ _ h => h) (Or.inl ⟨by rfl, ?hCA_33⟩) ?rCA_33
            case hCA_33 => (intro wz; go_simp; try with_reducible rfl)
            simp only [Act.put, List.setIfInBounds_toArray, List.set_cons_zero, List.set_cons_succ]
            refine wpAny_take (i := 14) (oi := { dst := some 4, op := Go.Op.assign (Go.Operand.tmp 52), type := 4, pos := "law.go:107", after := #[{ on := 13, ground := Go.Ground.data }, { on := 11, ground := Go.Ground.chain }, { on := 0, ground := Go.Ground.phase }, { on := 1, ground := Go.Ground.phase }, { on := 2, ground := Go.Ground.phase }, { on := 3, ground := Go.Ground.phase }, { on := 4, ground := Go.Ground.phase }, { on := 5, ground := Go.Ground.phase }, { on := 6, ground := Go.Ground.phase }, { on := 7, ground := Go.Ground.phase }, { on := 8, ground := Go.Ground.phase }, { on := 9, ground := Go.Ground.phase }, { on := 10, ground := Go.Ground.phase }, { on := 11, ground := Go.Ground.phase }, { on := 12, ground := Go.Ground.phase }, { on := 13, ground := Go.Ground.phase }], guard := none }) (v := ?vCA_34) rfl (by kernel_rfl) (by kernel_rfl) (by kernel_rfl) (fun _ _ _ h => h) (Or.inl ⟨by rfl, ?hCA_34⟩) ?rCA_34
            case hCA_34 => (intro wz; go_simp; try with_reducible rfl)
            simp only [Act.put, List.setIfInBounds_toArray, List.set_cons_zero, List.set_cons_succ]
            refine wpAny_done (by kernel_rfl) ?_ _
            have HF := Lib.hid (HK6.out.trans (hk68.trans hk9))
            go_wp2_with fail
            go_ret
            exact ⟨rfl, HF.out.below'⟩
          · skip
            go_simp
            have hq := fill_any w8 a.size b c HB.out q HQ.out (by omega)
            refine hq.mono ?_
            clear hq
            rintro e w9 ⟨rfl, hk9⟩
            refine hK _ _ ?_
            clear hK K
            try simp only [Act.put, List.setIfInBounds_toArray, List.set_cons_zero, List.set_cons_succ]
            refine wpAny_ready (rs := [7]) (by kernel_rfl) (by simp) ?_
            refine AllReady.cons (o := { dst := some 46, op := Go.Op.convert 25 9 (Go.Operand.tmp 45), type := 9, pos := "law.go:107", after := #[{ on := 6, ground := Go.Ground.data }, { on := 5, ground := Go.Ground.guard }], guard := some (5, true) }) rfl (fun K hK => ?_) AllReady.nil
            refine step_string (by rfl) (.tmp 45) 25 9 rfl 5 Tryd.underlying25 Tryd.underlying5 Tryd.underlying9 _ _ _ _ q rfl (by first | exact (HM6 _ hk68).out | exact (HM6 _ (hk68.trans hk9)).out) HQ.out ?_
            refine hK _ _ ?_
            clear hK K
            try simp only [Act.put, List.setIfInBounds_toArray, List.set_cons_zero, List.set_cons_succ]
            refine wpAny_take (i := 12) (oi := { dst := some 51, op := Go.Op.binOp Go.BinOp.eql 9 (Go.Operand.tmp 46) (Go.Operand.tmp 50) 9, type := 4, pos := "law.go:107", after := #[{ on := 7, ground := Go.Ground.data }, { on := 11, ground := Go.Ground.data }, { on := 5, ground := Go.Ground.guard }], guard := some (5, true) }) (v := ?vCA_35) rfl (by kernel_rfl) (by kernel_rfl) (by kernel_rfl) (fun _ _ _ h => h) (Or.inl ⟨by rfl, ?hCA_35⟩) ?rCA_35
            case hCA_35 => (intro wz; go_simp; try with_reducible rfl)
            simp only [Act.put, List.setIfInBounds_toArray, List.set_cons_zero, List.set_cons_succ]
            refine wpAny_take (i := 13) (oi := { dst := some 52, op := Go.Op.pick (Go.Operand.tmp 44) (Go.Operand.tmp 51) (Go.Operand.const (Go.Value.bool false)), type := 4, pos := "law.go:107", after := #[{ on := 5, ground := Go.Ground.data }, { on := 12, ground := Go.Ground.data }], guard := none }) (v := ?vCA_36) rfl (by kernel_rfl) (by kernel_rfl) (by kernel_rfl) (fun _ _ _ h => h) (Or.inl ⟨by rfl, ?hCA_36⟩) ?rCA_36
            case hCA_36 => (intro wz; go_simp; try with_reducible rfl)
            simp only [Act.put, List.setIfInBounds_toArray, List.set_cons_zero, List.set_cons_succ]
            refine wpAny_take (i := 14) (oi := { dst := some 4, op := Go.Op.assign (Go.Operand.tmp 52), type := 4, pos := "law.go:107", after := #[{ on := 13, ground := Go.Ground.data }, { on := 11, ground := Go.Ground.chain }, { on := 0, ground := Go.Ground.phase }, { on := 1, ground := Go.Ground.phase }, { on := 2, ground := Go.Ground.phase }, { on := 3, ground := Go.Ground.phase }, { on := 4, ground := Go.Ground.phase }, { on := 5, ground := Go.Ground.phase }, { on := 6, ground := Go.Ground.phase }, { on := 7, ground := Go.Ground.phase }, { on := 8, ground := Go.Ground.phase }, { on := 9, ground := Go.Ground.phase }, { on := 10, ground := Go.Ground.phase }, { on := 11, ground := Go.Ground.phase }, { on := 12, ground := Go.Ground.phase }, { on := 13, ground := Go.Ground.phase }], guard := none }) (v := ?vCA_37) rfl (by kernel_rfl) (by kernel_rfl) (by kernel_rfl) (fun _ _ _ h => h) (Or.inl ⟨by rfl, ?hCA_37⟩) ?rCA_37
            case hCA_37 => (intro wz; go_simp; try with_reducible rfl)
            simp only [Act.put, List.setIfInBounds_toArray, List.set_cons_zero, List.set_cons_succ]
            refine wpAny_done (by kernel_rfl) ?_ _
            have HF := Lib.hid (HK6.out.trans (hk68.trans hk9))
            go_wp2_with fail
            go_ret
            exact ⟨rfl, HF.out.below'⟩
end Go.Proofs.YtogojfmaiphiaaaDoor
