/- The walk of ShaNothing: whatever the input, the law returns true and leaves old memory alone. -/
import Derived.Test.YtogojfmaiphiaaaDoorBlocks
namespace Go.Proofs.YtogojfmaiphiaaaDoor
open Go.RowKit

set_option maxRecDepth 100000 in
set_option maxHeartbeats 4000000 in
theorem shaNothing_far (a b : ByteArray) (w : World) (h0 : Start w) (g1 : 200 < a.size ∨ 200 < b.size) :
    Calls Tryd.prog 8 #[.string a, .string b] w fun e w' => e = .returned (.bool true) ∧ Below w.heap.size w w' := by
  rcases (show 200 < a.size ∨ (¬ 200 < a.size ∧ 200 < b.size) by omega) with g | ⟨g, g2⟩
  all_goals
    clear g1
    go_enter Tryd.func8, Tryd.ntmps8
    go_wp2_with fail
    have hq := new_any w h0
    refine hq.mono ?_
    clear hq
    rintro e w1 ⟨rfl, hn1, hk1⟩
    have h1 := h0.keeps hk1 id
    go_wp2_with fail
    have hq := awake_any w1 h1
    refine hq.mono ?_
    clear hq
    rintro e w2 ⟨rfl, hk2⟩
    have h2 := h1.keeps hk2 id
    go_wp2_with fail
    have hq := awake_any w2 h2
    refine hq.mono ?_
    clear hq
    rintro e w3 ⟨rfl, hk3⟩
    have HF := Lib.hid ((hk1.trans hk2).trans hk3)
    clear hk1 hk2 hk3 hn1 h0 h1 h2
    go_wp2_with fail
    go_ret
    exact ⟨rfl, HF.out.below'⟩

/-- []byte(s) as one step of a region that draws its order, the new block under a name of its own. -/
theorem step_bytes3 {P : Program} {ops : Array Oper} {o : Oper} {a : Act} {w : World} {K : Act → World → Prop} {Q : Exit → Act → World → Prop} {E : Prop} (hw : Region.wanted o (yielded ops a.tmps) = true) (x : Operand) (src dst : TypeId)
    (ho : o.op = .convert src dst x) (e : TypeId) (hs : P.underlying src = some .string) (hd : P.underlying dst = some (.slice e)) (he : P.underlying e = some (.int .u8)) (s : ByteArray) (hx : a.eval x = .string s)
    (h : ∀ w' c g, Still w w' → g < w'.heap.size → s.size ≤ c → SliceOf w' (some ⟨g, 0, none⟩) s.size s.data.toList → K (a.put o.dst (.slice (some ⟨g, 0, none⟩) s.size c)) w') :
    if Region.wanted o (yielded ops a.tmps) = true then Oper.wp P o a w K Q else E :=
  step_bytes2 hw x src dst ho e hs hd he s hx (fun w' c h1 h2 h3 h4 => h w' c w.heap.size h1 h2 h3 h4)
/-- One sum behind a world that keeps the old memory. -/
def Lone (w wr : World) (s : Sum) : Prop := SumAt wr w.heap.size s ∧ Still w wr
theorem Lone.still {w wr w' : World} {s : Sum} (h : Lone w wr s) (hk : Still wr w') : Lone w w' s := ⟨h.1.keeps hk id, h.2.trans hk⟩
theorem Lone.next {w wr w' : World} {s s' : Sum} (h : Lone w wr s) (hs : SumAt w' w.heap.size s') (hk : Keeps (fun k => k = w.heap.size) wr w') : Lone w w' s' := ⟨hs, h.2.on hk (fun i hi e => by omega)⟩

set_option maxRecDepth 100000 in
set_option maxHeartbeats 16000000 in
theorem shaNothing_near (a b : ByteArray) (w : World) (h0 : Start w) (ha : a.size ≤ 200) (hb : b.size ≤ 200) :
    Calls Tryd.prog 8 #[.string a, .string b] w fun e w' => e = .returned (.bool true) ∧ Below w.heap.size w w' := by
  have HLA := Lib.hid (len_data a)
  have HLB := Lib.hid (len_data b)
  have HLZ := Lib.hid (show (zeroB 20).length = 20 from rfl)
  have z1 := zero27
  obtain ⟨s1, hs1⟩ : ∃ s, s = Sum.init.add a.data.toList := ⟨_, rfl⟩
  obtain ⟨s2, hs2⟩ : ∃ s, s = s1.add b.data.toList := ⟨_, rfl⟩
  have hn1 : s1.n = a.size := by rw [hs1, Sum.n_add, HLA.out]; exact Nat.zero_add _
  have hn2 : s2.n = a.size + b.size := by rw [hs2, Sum.n_add, HLB.out, hn1]
  obtain ⟨d, hd⟩ : ∃ d, d = s1.told := ⟨_, rfl⟩
  obtain ⟨d2, hd2⟩ : ∃ d, d = s2.told := ⟨_, rfl⟩
  obtain ⟨ab, hab⟩ : ∃ ab, ab = a ++ b := ⟨_, rfl⟩
  have habs : ab.size = a.size + b.size := by rw [hab, ByteArray.size_append]
  have habd : ab.data.toList = a.data.toList ++ b.data.toList := by rw [hab, data_append]
  have HS1 := Lib.hid hs1
  have HS2 := Lib.hid hs2
  have HN1 := Lib.hid hn1
  have HN2 := Lib.hid hn2
  have HD := Lib.hid hd
  have HD2 := Lib.hid hd2
  have HDS := Lib.hid (show d = sumOf a.data.toList by rw [hd, hs1]; rfl)
  have HDS2 := Lib.hid (show d2 = sumOf ab.data.toList by rw [hd2, hs2, hs1, habd, ← Sum.add_append]; rfl)
  have HLD := Lib.hid (show d.length = 20 by rw [hd]; exact length_told _)
  have HLD2 := Lib.hid (show d2.length = 20 by rw [hd2]; exact length_told _)
  have HABS := Lib.hid habs
  have hadd : ∀ w', (Op.stringOp .add a b).run Tryd.prog w' = .ok (.string ab) w' := fun w' => by
    rw [run_string_add_sum w' _ _ (by omega), hab]
  have HADD := Lib.hid hadd
  have HW := Lib.hid h0
  have he := eq_same d HLD.out
  have he2 := eq_same d2 HLD2.out
  have eN : (a.size : Int) + (b.size : Int) = ((a.size + b.size : Nat) : Int) := by omega
  obtain ⟨N, hN⟩ : ∃ N, N = a.size + b.size := ⟨_, rfl⟩
  have hNb : N ≤ 400 := by omega
  have eN2 : (a.size : Int) + (b.size : Int) = (N : Int) := by omega
  have eW : IntKind.u64.wrap (N : Int) = (N : Int) := by rw [IntKind.wrap_u64]; omega
  have eW2 : IntKind.i64.wrap (N : Int) = (N : Int) := IntWalk.i64_in _ (by omega)
  have HNN := Lib.hid (show N = s2.n by rw [hn2]; exact hN)
  have hN1 : N ≤ 400 := by omega
  clear hs1 hs2 hn1 hn2 hd hd2 hab habs habd hadd eN hN
  go_enter Tryd.func8, Tryd.ntmps8
  go_wp2_with fail
  have hq := new_any w h0
  refine hq.mono ?_
  clear hq
  rintro e w1 ⟨rfl, hn1, hk1⟩
  have h1 := h0.keeps hk1 id
  go_wp2_with fail
  have hq := awake_any w1 h1
  refine hq.mono ?_
  clear hq
  rintro e w2 ⟨rfl, hk2⟩
  have HT2 := Lib.hid (show Lone w w2 Sum.init from ⟨hn1.keeps hk2 id, hk1.trans hk2⟩)
  clear hn1 hk1 hk2 h1 h0
  go_wp2_with fail
  have hq := add_at w2 w.heap.size Sum.init Sum.init [] none 0 0 HT2.out.1 ⟨rfl, fun h => absurd h (by omega)⟩ (Nat.le_refl _) (by intro ad h; cases h) (by decide) rfl
  refine hq.mono ?_
  clear hq
  rintro e w3 ⟨rfl, hs3, hk3⟩
  have HT3 := Lib.hid (HT2.out.next hs3 hk3)
  clear hs3 hk3 HT2
  go_wp2_with (with_reducible refine wpList_bytes (o := ⟨some 30, _, _, _, _, _⟩) rfl _ _ _ rfl 5 Tryd.underlying9 Tryd.underlying25 Tryd.underlying5 a rfl ?_; intro w4 c4 hk4 hz4 hc4 hs4 hf4)
  have hT4 := HT3.out.still hk4
  have l1 := HT3.out.1.lt
  have hq := add_at w4 w.heap.size Sum.init s1 a.data.toList (some ⟨w3.heap.size, 0, none⟩) a.size c4 hT4.1 hs4 hc4 (by intro ad h; cases h; show w3.heap.size ≠ _; omega) (by show 0 + a.size ≤ _; omega) HS1.out
  refine hq.mono ?_
  clear hq
  rintro e w5 ⟨rfl, hs5, hk5⟩
  have HT5 := Lib.hid (hT4.next hs5 hk5)
  clear hs5 hk5 hT4 hk4 hz4 hc4 hs4 hf4 l1 HT3
  go_wp2_with fail
  have hq := told_at w5 w.heap.size s1 d HT5.out.1 (by rw [HN1.out]; omega) HD.out
  refine hq.mono ?_
  clear hq
  rintro e w6 ⟨rfl, hk6⟩
  have HT6 := Lib.hid (HT5.out.still hk6)
  have HZ6 := Lib.hid (show BytesAt (w6.alloc (.cells (bts (zeroB 20)).toArray 27 (0, 0))) w6.heap.size 27 (zeroB 20) from heap_alloc_new _ _)
  have HKB := Lib.hid (show Still w6 (w6.alloc (.cells (bts (zeroB 20)).toArray 27 (0, 0))) from (Keeps.refl _ _).alloc _)
  clear hk6 HT5
  go_wp2_with (with_reducible refine store27 (o := ⟨none, _, _, _, _, _⟩) rfl (.tmp 6) (.tmp 33) rfl w6.heap.size rfl d (zeroB 20) rfl HLD HLZ HZ6 ?_; intro w7 hb7 hk7)
  have hk67 := HKB.out.on (T := fun _ => False) hk7.out (fun i hi e => by omega)
  have HT7 := Lib.hid (HT6.out.still hk67)
  have HB7 := Lib.hid (show BytesAt w7 w6.heap.size 27 d from hb7.out)
  have l6 := HT6.out.1.lt
  clear hk67 hb7 hk7 HKB HZ6 HT6
  have hkA : Still w7 (w7.alloc (.cells #[] 5 (0, 0))) := (Keeps.refl _ _).alloc _
  have hT7A := HT7.out.still hkA
  have hq := add_at (w7.alloc (.cells #[] 5 (0, 0))) w.heap.size s1 s1 [] (some ⟨w7.heap.size, 0, none⟩) 0 0 hT7A.1 ⟨rfl, fun h => absurd h (by omega)⟩ (Nat.le_refl _) (by intro ad h; cases h; show w7.heap.size ≠ _; have := HT7.out.1.lt; omega) (by rw [HN1.out]; omega) rfl
  refine hq.mono ?_
  clear hq
  rintro e w8 ⟨rfl, hs8, hk8⟩
  have HT8 := Lib.hid (hT7A.next hs8 hk8)
  have HB8 := Lib.hid ((HB7.out.keeps hkA id).keeps hk8 (by omega))
  clear hT7A hkA hs8 hk8 HT7 HB7
  go_wp2_with fail
  have hq := told_at w8 w.heap.size s1 d HT8.out.1 (by rw [HN1.out]; omega) HD.out
  refine hq.mono ?_
  clear hq
  rintro e w9 ⟨rfl, hk9⟩
  have HT9 := Lib.hid (HT8.out.still hk9)
  have HB9 := Lib.hid (HB8.out.keeps hk9 id)
  have HZ9 := Lib.hid (show BytesAt (w9.alloc (.cells (bts (zeroB 20)).toArray 27 (0, 0))) w9.heap.size 27 (zeroB 20) from heap_alloc_new _ _)
  have HKB := Lib.hid (show Still w9 (w9.alloc (.cells (bts (zeroB 20)).toArray 27 (0, 0))) from (Keeps.refl _ _).alloc _)
  clear hk9 HT8 HB8
  go_wp2_with (first
    | (with_reducible refine store27 (o := ⟨none, _, _, _, _, _⟩) rfl (.tmp 7) (.tmp 38) rfl w9.heap.size rfl d (zeroB 20) rfl HLD HLZ HZ9 ?_; intro w10 hb10 hk10)
    | (with_reducible refine wpList_bytes (o := ⟨some 41, _, _, _, _, _⟩) rfl _ _ _ rfl 5 Tryd.underlying9 Tryd.underlying25 Tryd.underlying5 b rfl ?_; intro w11 c11 hk11 hz11 hc11 hs11 hf11))
  have hk910 := HKB.out.on (T := fun _ => False) hk10.out (fun i hi e => by omega)
  have hT10 := HT9.out.still hk910
  have hB10 := HB9.out.keeps hk910 id
  have hB10' := hb10.out
  have l9 := HT9.out.1.lt
  have l10 := hT10.1.lt
  have hT11 := hT10.still hk11
  have hq := add_at w11 w.heap.size s1 s2 b.data.toList (some ⟨w10.heap.size, 0, none⟩) b.size c11 hT11.1 hs11 hc11 (by intro ad h; cases h; show w10.heap.size ≠ _; omega) (by rw [HN1.out]; omega) HS2.out
  refine hq.mono ?_
  clear hq
  rintro e w12 ⟨rfl, hs12, hk12⟩
  have HT12 := Lib.hid (hT11.next hs12 hk12)
  have HB12 := Lib.hid ((hB10.keeps hk11 id).keeps hk12 (by omega))
  have HB12' := Lib.hid ((hB10'.keeps hk11 id).keeps hk12 (by omega))
  clear hk910 hT10 hB10 hB10' hT11 hs12 hk12 hk11 hz11 hc11 hs11 hf11 hb10 hk10 HKB HZ9 HT9 HB9 l10
  have HB1 : ∀ w', Still w12 w' → Hid (BytesAt w' w6.heap.size 27 d) := fun w' h => HB12.out.keeps h id
  have HB2 : ∀ w', Still w12 w' → Hid (BytesAt w' w9.heap.size 27 d) := fun w' h => HB12'.out.keeps h id
  have HT : ∀ w', Still w12 w' → Hid (Lone w w' s2) := fun w' h => HT12.out.still h
  have H0 : ∀ w', Still w12 w' → Hid (Start w') := fun w' h => HW.out.keeps (HT12.out.2.trans h) id
  have hadd := HADD.out
  go_wp2_with fail
  refine wp_region_any (by kernel_rfl) ?_
  change wpAny _ _ _ _ _ _ _ (World.drew _)
  refine wpAny_ready (rs := [0, 1]) (by kernel_rfl) (by simp) ?_
  refine AllReady.cons (o := { dst := some 43, op := Go.Op.load 27 (Go.Operand.tmp 6), type := 27, pos := "law.go:92", after := #[], guard := none }) rfl (fun K hK => ?_) (AllReady.cons (o := { dst := some 44, op := Go.Op.load 27 (Go.Operand.tmp 7), type := 27, pos := "law.go:92", after := #[], guard := none }) rfl (fun K hK => ?_) (AllReady.nil))
  · skip
    refine step_load27 (by rfl) (.tmp 6) rfl w6.heap.size rfl d HLD (HB1 _ (Keeps.refl _ _).drew) ?_
    refine hK _ _ ?_
    clear hK K
    try simp only [Act.put, List.setIfInBounds_toArray, List.set_cons_zero, List.set_cons_succ]
    refine wpAny_ready (rs := [1]) (by kernel_rfl) (by simp) ?_
    refine AllReady.cons (o := { dst := some 44, op := Go.Op.load 27 (Go.Operand.tmp 7), type := 27, pos := "law.go:92", after := #[], guard := none }) rfl (fun K hK => ?_) AllReady.nil
    refine step_load27 (by rfl) (.tmp 7) rfl w9.heap.size rfl d HLD (HB2 _ (Keeps.refl _ _).drew) ?_
    refine hK _ _ ?_
    clear hK K
    try simp only [Act.put, List.setIfInBounds_toArray, List.set_cons_zero, List.set_cons_succ]
    refine wpAny_take (i := 2) (oi := { dst := some 45, op := Go.Op.binOp Go.BinOp.eql 27 (Go.Operand.tmp 43) (Go.Operand.tmp 44) 27, type := 4, pos := "law.go:92", after := #[{ on := 0, ground := Go.Ground.data }, { on := 1, ground := Go.Ground.data }], guard := none }) (v := ?vCA_1) rfl (by kernel_rfl) (by kernel_rfl) (by kernel_rfl) (fun _ _ _ h => h) (Or.inl ⟨by rfl, ?hCA_1⟩) ?rCA_1
    case hCA_1 => (intro wz; go_simp; try with_reducible rfl)
    simp only [Act.put, List.setIfInBounds_toArray, List.set_cons_zero, List.set_cons_succ]
    refine wpAny_take (i := 3) (oi := { dst := some 46, op := Go.Op.move (Go.Operand.tmp 45), type := 4, pos := "law.go:92", after := #[{ on := 2, ground := Go.Ground.data }], guard := none }) (v := ?vCA_2) rfl (by kernel_rfl) (by kernel_rfl) (by kernel_rfl) (fun _ _ _ h => h) (Or.inl ⟨by rfl, ?hCA_2⟩) ?rCA_2
    case hCA_2 => (intro wz; go_simp; try with_reducible rfl)
    simp only [Act.put, List.setIfInBounds_toArray, List.set_cons_zero, List.set_cons_succ]
    refine wpAny_take (i := 5) (oi := { dst := some 48, op := Go.Op.move (Go.Operand.tmp 0), type := 9, pos := "law.go:92", after := #[{ on := 3, ground := Go.Ground.guard }], guard := some (3, true) }) (v := ?vCA_3) rfl (by kernel_rfl) (by kernel_rfl) (by kernel_rfl) (fun _ _ _ h => h) (Or.inl ⟨by rfl, ?hCA_3⟩) ?rCA_3
    case hCA_3 => (intro wz; go_simp; try with_reducible rfl)
    simp only [Act.put, List.setIfInBounds_toArray, List.set_cons_zero, List.set_cons_succ]
    refine wpAny_ready (rs := [4, 6]) (by kernel_rfl) (by simp) ?_
    refine AllReady.cons (o := { dst := some 47, op := Go.Op.load 27 (Go.Operand.tmp 6), type := 27, pos := "law.go:92", after := #[{ on := 3, ground := Go.Ground.guard }], guard := some (3, true) }) rfl (fun K hK => ?_) (AllReady.cons (o := { dst := some 49, op := Go.Op.convert 9 25 (Go.Operand.tmp 48), type := 25, pos := "law.go:92", after := #[{ on := 5, ground := Go.Ground.data }, { on := 3, ground := Go.Ground.guard }], guard := some (3, true) }) rfl (fun K hK => ?_) (AllReady.nil))
    · skip
      refine step_load27 (by rfl) (.tmp 6) rfl w6.heap.size rfl d HLD (by first | exact HB1 _ (Keeps.refl _ _).drew | exact HB1 _ hk13 | exact HB1 _ hk14) ?_
      refine hK _ _ ?_
      clear hK K
      try simp only [Act.put, List.setIfInBounds_toArray, List.set_cons_zero, List.set_cons_succ]
      refine wpAny_ready (rs := [6]) (by kernel_rfl) (by simp) ?_
      refine AllReady.cons (o := { dst := some 49, op := Go.Op.convert 9 25 (Go.Operand.tmp 48), type := 25, pos := "law.go:92", after := #[{ on := 5, ground := Go.Ground.data }, { on := 3, ground := Go.Ground.guard }], guard := some (3, true) }) rfl (fun K hK => ?_) AllReady.nil
      refine step_bytes3 (by rfl) (.tmp 48) 9 25 rfl 5 Tryd.underlying9 Tryd.underlying25 Tryd.underlying5 a rfl ?_
      intro w13 c13 g13 hk13' hz13 hc13 hs13
      have hk13 := hk13'.drew_of
      refine hK _ _ ?_
      clear hK K
      try simp only [Act.put, List.setIfInBounds_toArray, List.set_cons_zero, List.set_cons_succ]
      refine wpAny_ready (rs := [7]) (by kernel_rfl) (by simp) ?_
      refine AllReady.cons (o := { dst := some 50, op := Go.Op.call { callee := Go.Callee.value (Go.Operand.func 13), args := #[Go.Operand.tmp 49], argTypes := #[25] }, type := 27, pos := "law.go:92", after := #[{ on := 6, ground := Go.Ground.data }, { on := 3, ground := Go.Ground.chain }, { on := 3, ground := Go.Ground.guard }], guard := some (3, true) }) rfl (fun K hK => ?_) AllReady.nil
      go_simp
      have hq := of_at w13 a.data.toList d (some ⟨g13, 0, none⟩) a.size c13 (H0 w13 hk13).out hs13 hc13 (by intro ad h; cases h; exact hz13) (by omega) HDS.out
      refine hq.mono ?_
      clear hq
      rintro e w14 ⟨rfl, hk14'⟩
      have hk14 := hk13.trans hk14'
      refine hK _ _ ?_
      clear hK K
      try simp only [Act.put, List.setIfInBounds_toArray, List.set_cons_zero, List.set_cons_succ]
      refine wpAny_take (i := 8) (oi := { dst := some 51, op := Go.Op.binOp Go.BinOp.eql 27 (Go.Operand.tmp 47) (Go.Operand.tmp 50) 27, type := 4, pos := "law.go:92", after := #[{ on := 4, ground := Go.Ground.data }, { on := 7, ground := Go.Ground.data }, { on := 3, ground := Go.Ground.guard }], guard := some (3, true) }) (v := ?vCA_4) rfl (by kernel_rfl) (by kernel_rfl) (by kernel_rfl) (fun _ _ _ h => h) (Or.inl ⟨by rfl, ?hCA_4⟩) ?rCA_4
      case hCA_4 => (intro wz; go_simp; try with_reducible rfl)
      simp only [Act.put, List.setIfInBounds_toArray, List.set_cons_zero, List.set_cons_succ]
      refine wpAny_take (i := 9) (oi := { dst := some 52, op := Go.Op.pick (Go.Operand.tmp 46) (Go.Operand.tmp 51) (Go.Operand.const (Go.Value.bool false)), type := 4, pos := "law.go:92", after := #[{ on := 3, ground := Go.Ground.data }, { on := 8, ground := Go.Ground.data }], guard := none }) (v := ?vCA_5) rfl (by kernel_rfl) (by kernel_rfl) (by kernel_rfl) (fun _ _ _ h => h) (Or.inl ⟨by rfl, ?hCA_5⟩) ?rCA_5
      case hCA_5 => (intro wz; go_simp; try with_reducible rfl)
      simp only [Act.put, List.setIfInBounds_toArray, List.set_cons_zero, List.set_cons_succ]
      refine wpAny_take (i := 10) (oi := { dst := some 53, op := Go.Op.move (Go.Operand.tmp 52), type := 4, pos := "law.go:92", after := #[{ on := 9, ground := Go.Ground.data }, { on := 7, ground := Go.Ground.chain }], guard := none }) (v := ?vCA_6) rfl (by kernel_rfl) (by kernel_rfl) (by kernel_rfl) (fun _ _ _ h => h) (Or.inl ⟨by rfl, ?hCA_6⟩) ?rCA_6
      case hCA_6 => (intro wz; go_simp; try with_reducible rfl)
      simp only [Act.put, List.setIfInBounds_toArray, List.set_cons_zero, List.set_cons_succ]
      refine wpAny_take (i := 11) (oi := { dst := some 54, op := Go.Op.move (Go.Operand.tmp 5), type := 22, pos := "law.go:92", after := #[{ on := 10, ground := Go.Ground.guard }], guard := some (10, true) }) (v := ?vCA_7) rfl (by kernel_rfl) (by kernel_rfl) (by kernel_rfl) (fun _ _ _ h => h) (Or.inl ⟨by rfl, ?hCA_7⟩) ?rCA_7
      case hCA_7 => (intro wz; go_simp; try with_reducible rfl)
      simp only [Act.put, List.setIfInBounds_toArray, List.set_cons_zero, List.set_cons_succ]
      refine wpAny_take (i := 13) (oi := { dst := some 56, op := Go.Op.move (Go.Operand.tmp 0), type := 9, pos := "law.go:92", after := #[{ on := 10, ground := Go.Ground.guard }], guard := some (10, true) }) (v := ?vCA_8) rfl (by kernel_rfl) (by kernel_rfl) (by kernel_rfl) (fun _ _ _ h => h) (Or.inl ⟨by rfl, ?hCA_8⟩) ?rCA_8
      case hCA_8 => (intro wz; go_simp; try with_reducible rfl)
      simp only [Act.put, List.setIfInBounds_toArray, List.set_cons_zero, List.set_cons_succ]
      refine wpAny_take (i := 14) (oi := { dst := some 57, op := Go.Op.move (Go.Operand.tmp 1), type := 9, pos := "law.go:92", after := #[{ on := 10, ground := Go.Ground.guard }], guard := some (10, true) }) (v := ?vCA_9) rfl (by kernel_rfl) (by kernel_rfl) (by kernel_rfl) (fun _ _ _ h => h) (Or.inl ⟨by rfl, ?hCA_9⟩) ?rCA_9
      case hCA_9 => (intro wz; go_simp; try with_reducible rfl)
      simp only [Act.put, List.setIfInBounds_toArray, List.set_cons_zero, List.set_cons_succ]
      refine wpAny_take (i := 15) (oi := { dst := some 58, op := Go.Op.binOp Go.BinOp.add 9 (Go.Operand.tmp 56) (Go.Operand.tmp 57) 9, type := 9, pos := "law.go:92", after := #[{ on := 13, ground := Go.Ground.data }, { on := 14, ground := Go.Ground.data }, { on := 10, ground := Go.Ground.guard }], guard := some (10, true) }) (v := ?vCA_10) rfl (by kernel_rfl) (by kernel_rfl) (by kernel_rfl) (fun _ _ _ h => h) (Or.inl ⟨by rfl, ?hCA_10⟩) ?rCA_10
      case hCA_10 => (intro wz; go_simp; try with_reducible rfl)
      simp only [Act.put, List.setIfInBounds_toArray, List.set_cons_zero, List.set_cons_succ]
      refine wpAny_ready (rs := [12, 16]) (by kernel_rfl) (by simp) ?_
      refine AllReady.cons (o := { dst := some 55, op := Go.Op.call { callee := Go.Callee.value (Go.Operand.func 12), args := #[Go.Operand.tmp 54], argTypes := #[22] }, type := 27, pos := "law.go:92", after := #[{ on := 11, ground := Go.Ground.data }, { on := 10, ground := Go.Ground.chain }, { on := 10, ground := Go.Ground.guard }], guard := some (10, true) }) rfl (fun K hK => ?_) (AllReady.cons (o := { dst := some 59, op := Go.Op.convert 9 25 (Go.Operand.tmp 58), type := 25, pos := "law.go:92", after := #[{ on := 15, ground := Go.Ground.data }, { on := 10, ground := Go.Ground.guard }], guard := some (10, true) }) rfl (fun K hK => ?_) (AllReady.nil))
      · skip
        go_simp
        first
        | (have hq := told_at w15 w.heap.size s2 d2 (HT w15 hk15).out.1 (by rw [HN2.out]; omega) HD2.out
           refine hq.mono ?_
           clear hq
           rintro e w16 ⟨rfl, hk16'⟩
           have hk16 := hk15.trans hk16')
        | (have hq := told_at w14 w.heap.size s2 d2 (HT w14 hk14).out.1 (by rw [HN2.out]; omega) HD2.out
           refine hq.mono ?_
           clear hq
           rintro e w16 ⟨rfl, hk16'⟩
           have hk16 := hk14.trans hk16')
        refine hK _ _ ?_
        clear hK K
        try simp only [Act.put, List.setIfInBounds_toArray, List.set_cons_zero, List.set_cons_succ]
        refine wpAny_ready (rs := [16]) (by kernel_rfl) (by simp) ?_
        refine AllReady.cons (o := { dst := some 59, op := Go.Op.convert 9 25 (Go.Operand.tmp 58), type := 25, pos := "law.go:92", after := #[{ on := 15, ground := Go.Ground.data }, { on := 10, ground := Go.Ground.guard }], guard := some (10, true) }) rfl (fun K hK => ?_) AllReady.nil
        refine step_bytes3 (by rfl) (.tmp 58) 9 25 rfl 5 Tryd.underlying9 Tryd.underlying25 Tryd.underlying5 ab rfl ?_
        intro w15 c15 g15 hk15' hz15 hc15 hs15
        first
        | have hk15 := hk16.trans hk15'
        | have hk15 := hk14.trans hk15'
        refine hK _ _ ?_
        clear hK K
        try simp only [Act.put, List.setIfInBounds_toArray, List.set_cons_zero, List.set_cons_succ]
        refine wpAny_ready (rs := [17]) (by kernel_rfl) (by simp) ?_
        refine AllReady.cons (o := { dst := some 60, op := Go.Op.call { callee := Go.Callee.value (Go.Operand.func 13), args := #[Go.Operand.tmp 59], argTypes := #[25] }, type := 27, pos := "law.go:92", after := #[{ on := 16, ground := Go.Ground.data }, { on := 12, ground := Go.Ground.chain }, { on := 10, ground := Go.Ground.guard }], guard := some (10, true) }) rfl (fun K hK => ?_) AllReady.nil
        go_simp
        first
        | (have hq := of_at w15 ab.data.toList d2 (some ⟨g15, 0, none⟩) ab.size c15 (H0 w15 hk15).out hs15 hc15 (by intro ad h; cases h; exact hz15) (by rw [HABS.out]; omega) HDS2.out
           refine hq.mono ?_
           clear hq
           rintro e w17 ⟨rfl, hk17'⟩
           have hk17 := hk15.trans hk17')
        | (have hq := of_at w16 ab.data.toList d2 (some ⟨g15, 0, none⟩) ab.size c15 (H0 w16 hk16).out (hs15.keeps hk16' (fun _ _ => id)) hc15 (by intro ad h; cases h; exact Nat.lt_of_lt_of_le hz15 hk16'.size) (by rw [HABS.out]; omega) HDS2.out
           refine hq.mono ?_
           clear hq
           rintro e w17 ⟨rfl, hk17'⟩
           have hk17 := hk16.trans hk17')
        refine hK _ _ ?_
        clear hK K
        try simp only [Act.put, List.setIfInBounds_toArray, List.set_cons_zero, List.set_cons_succ]
        refine wpAny_take (i := 18) (oi := { dst := some 61, op := Go.Op.binOp Go.BinOp.eql 27 (Go.Operand.tmp 55) (Go.Operand.tmp 60) 27, type := 4, pos := "law.go:92", after := #[{ on := 12, ground := Go.Ground.data }, { on := 17, ground := Go.Ground.data }, { on := 10, ground := Go.Ground.guard }], guard := some (10, true) }) (v := ?vCA_11) rfl (by kernel_rfl) (by kernel_rfl) (by kernel_rfl) (fun _ _ _ h => h) (Or.inl ⟨by rfl, ?hCA_11⟩) ?rCA_11
        case hCA_11 => (intro wz; go_simp; try with_reducible rfl)
        simp only [Act.put, List.setIfInBounds_toArray, List.set_cons_zero, List.set_cons_succ]
        refine wpAny_take (i := 19) (oi := { dst := some 62, op := Go.Op.pick (Go.Operand.tmp 53) (Go.Operand.tmp 61) (Go.Operand.const (Go.Value.bool false)), type := 4, pos := "law.go:92", after := #[{ on := 10, ground := Go.Ground.data }, { on := 18, ground := Go.Ground.data }], guard := none }) (v := ?vCA_12) rfl (by kernel_rfl) (by kernel_rfl) (by kernel_rfl) (fun _ _ _ h => h) (Or.inl ⟨by rfl, ?hCA_12⟩) ?rCA_12
        case hCA_12 => (intro wz; go_simp; try with_reducible rfl)
        simp only [Act.put, List.setIfInBounds_toArray, List.set_cons_zero, List.set_cons_succ]
        refine wpAny_take (i := 20) (oi := { dst := some 63, op := Go.Op.move (Go.Operand.tmp 62), type := 4, pos := "law.go:92", after := #[{ on := 19, ground := Go.Ground.data }, { on := 17, ground := Go.Ground.chain }], guard := none }) (v := ?vCA_13) rfl (by kernel_rfl) (by kernel_rfl) (by kernel_rfl) (fun _ _ _ h => h) (Or.inl ⟨by rfl, ?hCA_13⟩) ?rCA_13
        case hCA_13 => (intro wz; go_simp; try with_reducible rfl)
        simp only [Act.put, List.setIfInBounds_toArray, List.set_cons_zero, List.set_cons_succ]
        refine wpAny_take (i := 21) (oi := { dst := some 64, op := Go.Op.move (Go.Operand.tmp 5), type := 22, pos := "law.go:92", after := #[{ on := 20, ground := Go.Ground.guard }], guard := some (20, true) }) (v := ?vCA_14) rfl (by kernel_rfl) (by kernel_rfl) (by kernel_rfl) (fun _ _ _ h => h) (Or.inl ⟨by rfl, ?hCA_14⟩) ?rCA_14
        case hCA_14 => (intro wz; go_simp; try with_reducible rfl)
        simp only [Act.put, List.setIfInBounds_toArray, List.set_cons_zero, List.set_cons_succ]
        refine wpAny_take (i := 23) (oi := { dst := some 66, op := Go.Op.move (Go.Operand.tmp 0), type := 9, pos := "law.go:92", after := #[{ on := 20, ground := Go.Ground.guard }], guard := some (20, true) }) (v := ?vCA_15) rfl (by kernel_rfl) (by kernel_rfl) (by kernel_rfl) (fun _ _ _ h => h) (Or.inl ⟨by rfl, ?hCA_15⟩) ?rCA_15
        case hCA_15 => (intro wz; go_simp; try with_reducible rfl)
        simp only [Act.put, List.setIfInBounds_toArray, List.set_cons_zero, List.set_cons_succ]
        refine wpAny_take (i := 24) (oi := { dst := some 67, op := Go.Op.call { callee := Go.Callee.builtin Go.Builtin.len, args := #[Go.Operand.tmp 66], argTypes := #[9] }, type := 3, pos := "law.go:92", after := #[{ on := 23, ground := Go.Ground.data }, { on := 20, ground := Go.Ground.guard }], guard := some (20, true) }) (v := ?vCA_16) rfl (by kernel_rfl) (by kernel_rfl) (by kernel_rfl) (fun _ _ _ h => h) (Or.inl ⟨by rfl, ?hCA_16⟩) ?rCA_16
        case hCA_16 => (intro wz; go_simp; try with_reducible rfl)
        simp only [Act.put, List.setIfInBounds_toArray, List.set_cons_zero, List.set_cons_succ]
        refine wpAny_take (i := 25) (oi := { dst := some 68, op := Go.Op.move (Go.Operand.tmp 1), type := 9, pos := "law.go:92", after := #[{ on := 20, ground := Go.Ground.guard }], guard := some (20, true) }) (v := ?vCA_17) rfl (by kernel_rfl) (by kernel_rfl) (by kernel_rfl) (fun _ _ _ h => h) (Or.inl ⟨by rfl, ?hCA_17⟩) ?rCA_17
        case hCA_17 => (intro wz; go_simp; try with_reducible rfl)
        simp only [Act.put, List.setIfInBounds_toArray, List.set_cons_zero, List.set_cons_succ]
        refine wpAny_take (i := 26) (oi := { dst := some 69, op := Go.Op.call { callee := Go.Callee.builtin Go.Builtin.len, args := #[Go.Operand.tmp 68], argTypes := #[9] }, type := 3, pos := "law.go:92", after := #[{ on := 25, ground := Go.Ground.data }, { on := 20, ground := Go.Ground.guard }], guard := some (20, true) }) (v := ?vCA_18) rfl (by kernel_rfl) (by kernel_rfl) (by kernel_rfl) (fun _ _ _ h => h) (Or.inl ⟨by rfl, ?hCA_18⟩) ?rCA_18
        case hCA_18 => (intro wz; go_simp; try with_reducible rfl)
        simp only [Act.put, List.setIfInBounds_toArray, List.set_cons_zero, List.set_cons_succ]
        refine wpAny_take (i := 27) (oi := { dst := some 70, op := Go.Op.binOp Go.BinOp.add 3 (Go.Operand.tmp 67) (Go.Operand.tmp 69) 3, type := 3, pos := "law.go:92", after := #[{ on := 24, ground := Go.Ground.data }, { on := 26, ground := Go.Ground.data }, { on := 20, ground := Go.Ground.guard }], guard := some (20, true) }) (v := ?vCA_19) rfl (by kernel_rfl) (by kernel_rfl) (by kernel_rfl) (fun _ _ _ h => h) (Or.inl ⟨by rfl, ?hCA_19⟩) ?rCA_19
        case hCA_19 => (intro wz; go_simp; try with_reducible rfl)
        simp only [Act.put, List.setIfInBounds_toArray, List.set_cons_zero, List.set_cons_succ]
        refine wpAny_take (i := 28) (oi := { dst := some 71, op := Go.Op.convert 3 32 (Go.Operand.tmp 70), type := 32, pos := "law.go:92", after := #[{ on := 27, ground := Go.Ground.data }, { on := 20, ground := Go.Ground.guard }], guard := some (20, true) }) (v := ?vCA_20) rfl (by kernel_rfl) (by kernel_rfl) (by kernel_rfl) (fun _ _ _ h => h) (Or.inl ⟨by rfl, ?hCA_20⟩) ?rCA_20
        case hCA_20 => (intro wz; go_simp; try with_reducible rfl)
        simp only [Act.put, List.setIfInBounds_toArray, List.set_cons_zero, List.set_cons_succ]
        refine wpAny_ready (rs := [22]) (by kernel_rfl) (by simp) ?_
        refine AllReady.cons (o := { dst := some 65, op := Go.Op.call { callee := Go.Callee.value (Go.Operand.func 15), args := #[Go.Operand.tmp 64], argTypes := #[22] }, type := 32, pos := "law.go:92", after := #[{ on := 21, ground := Go.Ground.data }, { on := 20, ground := Go.Ground.chain }, { on := 20, ground := Go.Ground.guard }], guard := some (20, true) }) rfl (fun K hK => ?_) AllReady.nil
        go_simp
        have hq := len_any w17 w.heap.size s2 N (HT w17 hk17).out.1 HNN.out
        refine hq.mono ?_
        clear hq
        rintro e w18 ⟨rfl, rfl⟩
        refine hK _ _ ?_
        clear hK K
        try simp only [Act.put, List.setIfInBounds_toArray, List.set_cons_zero, List.set_cons_succ]
        refine wpAny_take (i := 29) (oi := { dst := some 72, op := Go.Op.binOp Go.BinOp.eql 32 (Go.Operand.tmp 65) (Go.Operand.tmp 71) 32, type := 4, pos := "law.go:92", after := #[{ on := 22, ground := Go.Ground.data }, { on := 28, ground := Go.Ground.data }, { on := 20, ground := Go.Ground.guard }], guard := some (20, true) }) (v := ?vCA_21) rfl (by kernel_rfl) (by kernel_rfl) (by kernel_rfl) (fun _ _ _ h => h) (Or.inl ⟨by rfl, ?hCA_21⟩) ?rCA_21
        case hCA_21 => (intro wz; go_simp; try with_reducible rfl)
        simp only [Act.put, List.setIfInBounds_toArray, List.set_cons_zero, List.set_cons_succ]
        refine wpAny_take (i := 30) (oi := { dst := some 73, op := Go.Op.pick (Go.Operand.tmp 63) (Go.Operand.tmp 72) (Go.Operand.const (Go.Value.bool false)), type := 4, pos := "law.go:92", after := #[{ on := 20, ground := Go.Ground.data }, { on := 29, ground := Go.Ground.data }], guard := none }) (v := ?vCA_22) rfl (by kernel_rfl) (by kernel_rfl) (by kernel_rfl) (fun _ _ _ h => h) (Or.inl ⟨by rfl, ?hCA_22⟩) ?rCA_22
        case hCA_22 => (intro wz; go_simp; try with_reducible rfl)
        simp only [Act.put, List.setIfInBounds_toArray, List.set_cons_zero, List.set_cons_succ]
        refine wpAny_take (i := 31) (oi := { dst := some 4, op := Go.Op.assign (Go.Operand.tmp 73), type := 4, pos := "law.go:92", after := #[{ on := 30, ground := Go.Ground.data }, { on := 22, ground := Go.Ground.chain }, { on := 0, ground := Go.Ground.phase }, { on := 1, ground := Go.Ground.phase }, { on := 2, ground := Go.Ground.phase }, { on := 3, ground := Go.Ground.phase }, { on := 4, ground := Go.Ground.phase }, { on := 5, ground := Go.Ground.phase }, { on := 6, ground := Go.Ground.phase }, { on := 7, ground := Go.Ground.phase }, { on := 8, ground := Go.Ground.phase }, { on := 9, ground := Go.Ground.phase }, { on := 10, ground := Go.Ground.phase }, { on := 11, ground := Go.Ground.phase }, { on := 12, ground := Go.Ground.phase }, { on := 13, ground := Go.Ground.phase }, { on := 14, ground := Go.Ground.phase }, { on := 15, ground := Go.Ground.phase }, { on := 16, ground := Go.Ground.phase }, { on := 17, ground := Go.Ground.phase }, { on := 18, ground := Go.Ground.phase }, { on := 19, ground := Go.Ground.phase }, { on := 20, ground := Go.Ground.phase }, { on := 21, ground := Go.Ground.phase }, { on := 22, ground := Go.Ground.phase }, { on := 23, ground := Go.Ground.phase }, { on := 24, ground := Go.Ground.phase }, { on := 25, ground := Go.Ground.phase }, { on := 26, ground := Go.Ground.phase }, { on := 27, ground := Go.Ground.phase }, { on := 28, ground := Go.Ground.phase }, { on := 29, ground := Go.Ground.phase }, { on := 30, ground := Go.Ground.phase }], guard := none }) (v := ?vCA_23) rfl (by kernel_rfl) (by kernel_rfl) (by kernel_rfl) (fun _ _ _ h => h) (Or.inl ⟨by rfl, ?hCA_23⟩) ?rCA_23
        case hCA_23 => (intro wz; go_simp; try with_reducible rfl)
        simp only [Act.put, List.setIfInBounds_toArray, List.set_cons_zero, List.set_cons_succ]
        refine wpAny_done (by kernel_rfl) ?_ _
        have HF := Lib.hid (HT w17 hk17).out.2
        go_wp2_with fail
        go_ret
        exact ⟨rfl, HF.out.below'⟩
      · skip
        refine step_bytes3 (by rfl) (.tmp 58) 9 25 rfl 5 Tryd.underlying9 Tryd.underlying25 Tryd.underlying5 ab rfl ?_
        intro w15 c15 g15 hk15' hz15 hc15 hs15
        first
        | have hk15 := hk16.trans hk15'
        | have hk15 := hk14.trans hk15'
        refine hK _ _ ?_
        clear hK K
        try simp only [Act.put, List.setIfInBounds_toArray, List.set_cons_zero, List.set_cons_succ]
        refine wpAny_ready (rs := [12]) (by kernel_rfl) (by simp) ?_
        refine AllReady.cons (o := { dst := some 55, op := Go.Op.call { callee := Go.Callee.value (Go.Operand.func 12), args := #[Go.Operand.tmp 54], argTypes := #[22] }, type := 27, pos := "law.go:92", after := #[{ on := 11, ground := Go.Ground.data }, { on := 10, ground := Go.Ground.chain }, { on := 10, ground := Go.Ground.guard }], guard := some (10, true) }) rfl (fun K hK => ?_) AllReady.nil
        go_simp
        first
        | (have hq := told_at w15 w.heap.size s2 d2 (HT w15 hk15).out.1 (by rw [HN2.out]; omega) HD2.out
           refine hq.mono ?_
           clear hq
           rintro e w16 ⟨rfl, hk16'⟩
           have hk16 := hk15.trans hk16')
        | (have hq := told_at w14 w.heap.size s2 d2 (HT w14 hk14).out.1 (by rw [HN2.out]; omega) HD2.out
           refine hq.mono ?_
           clear hq
           rintro e w16 ⟨rfl, hk16'⟩
           have hk16 := hk14.trans hk16')
        refine hK _ _ ?_
        clear hK K
        try simp only [Act.put, List.setIfInBounds_toArray, List.set_cons_zero, List.set_cons_succ]
        refine wpAny_ready (rs := [17]) (by kernel_rfl) (by simp) ?_
        refine AllReady.cons (o := { dst := some 60, op := Go.Op.call { callee := Go.Callee.value (Go.Operand.func 13), args := #[Go.Operand.tmp 59], argTypes := #[25] }, type := 27, pos := "law.go:92", after := #[{ on := 16, ground := Go.Ground.data }, { on := 12, ground := Go.Ground.chain }, { on := 10, ground := Go.Ground.guard }], guard := some (10, true) }) rfl (fun K hK => ?_) AllReady.nil
        go_simp
        first
        | (have hq := of_at w15 ab.data.toList d2 (some ⟨g15, 0, none⟩) ab.size c15 (H0 w15 hk15).out hs15 hc15 (by intro ad h; cases h; exact hz15) (by rw [HABS.out]; omega) HDS2.out
           refine hq.mono ?_
           clear hq
           rintro e w17 ⟨rfl, hk17'⟩
           have hk17 := hk15.trans hk17')
        | (have hq := of_at w16 ab.data.toList d2 (some ⟨g15, 0, none⟩) ab.size c15 (H0 w16 hk16).out (hs15.keeps hk16' (fun _ _ => id)) hc15 (by intro ad h; cases h; exact Nat.lt_of_lt_of_le hz15 hk16'.size) (by rw [HABS.out]; omega) HDS2.out
           refine hq.mono ?_
           clear hq
           rintro e w17 ⟨rfl, hk17'⟩
           have hk17 := hk16.trans hk17')
        refine hK _ _ ?_
        clear hK K
        try simp only [Act.put, List.setIfInBounds_toArray, List.set_cons_zero, List.set_cons_succ]
        refine wpAny_take (i := 18) (oi := { dst := some 61, op := Go.Op.binOp Go.BinOp.eql 27 (Go.Operand.tmp 55) (Go.Operand.tmp 60) 27, type := 4, pos := "law.go:92", after := #[{ on := 12, ground := Go.Ground.data }, { on := 17, ground := Go.Ground.data }, { on := 10, ground := Go.Ground.guard }], guard := some (10, true) }) (v := ?vCA_24) rfl (by kernel_rfl) (by kernel_rfl) (by kernel_rfl) (fun _ _ _ h => h) (Or.inl ⟨by rfl, ?hCA_24⟩) ?rCA_24
        case hCA_24 => (intro wz; go_simp; try with_reducible rfl)
        simp only [Act.put, List.setIfInBounds_toArray, List.set_cons_zero, List.set_cons_succ]
        refine wpAny_take (i := 19) (oi := { dst := some 62, op := Go.Op.pick (Go.Operand.tmp 53) (Go.Operand.tmp 61) (Go.Operand.const (Go.Value.bool false)), type := 4, pos := "law.go:92", after := #[{ on := 10, ground := Go.Ground.data }, { on := 18, ground := Go.Ground.data }], guard := none }) (v := ?vCA_25) rfl (by kernel_rfl) (by kernel_rfl) (by kernel_rfl) (fun _ _ _ h => h) (Or.inl ⟨by rfl, ?hCA_25⟩) ?rCA_25
        case hCA_25 => (intro wz; go_simp; try with_reducible rfl)
        simp only [Act.put, List.setIfInBounds_toArray, List.set_cons_zero, List.set_cons_succ]
        refine wpAny_take (i := 20) (oi := { dst := some 63, op := Go.Op.move (Go.Operand.tmp 62), type := 4, pos := "law.go:92", after := #[{ on := 19, ground := Go.Ground.data }, { on := 17, ground := Go.Ground.chain }], guard := none }) (v := ?vCA_26) rfl (by kernel_rfl) (by kernel_rfl) (by kernel_rfl) (fun _ _ _ h => h) (Or.inl ⟨by rfl, ?hCA_26⟩) ?rCA_26
        case hCA_26 => (intro wz; go_simp; try with_reducible rfl)
        simp only [Act.put, List.setIfInBounds_toArray, List.set_cons_zero, List.set_cons_succ]
        refine wpAny_take (i := 21) (oi := { dst := some 64, op := Go.Op.move (Go.Operand.tmp 5), type := 22, pos := "law.go:92", after := #[{ on := 20, ground := Go.Ground.guard }], guard := some (20, true) }) (v := ?vCA_27) rfl (by kernel_rfl) (by kernel_rfl) (by kernel_rfl) (fun _ _ _ h => h) (Or.inl ⟨by rfl, ?hCA_27⟩) ?rCA_27
        case hCA_27 => (intro wz; go_simp; try with_reducible rfl)
        simp only [Act.put, List.setIfInBounds_toArray, List.set_cons_zero, List.set_cons_succ]
        refine wpAny_take (i := 23) (oi := { dst := some 66, op := Go.Op.move (Go.Operand.tmp 0), type := 9, pos := "law.go:92", after := #[{ on := 20, ground := Go.Ground.guard }], guard := some (20, true) }) (v := ?vCA_28) rfl (by kernel_rfl) (by kernel_rfl) (by kernel_rfl) (fun _ _ _ h => h) (Or.inl ⟨by rfl, ?hCA_28⟩) ?rCA_28
        case hCA_28 => (intro wz; go_simp; try with_reducible rfl)
        simp only [Act.put, List.setIfInBounds_toArray, List.set_cons_zero, List.set_cons_succ]
        refine wpAny_take (i := 24) (oi := { dst := some 67, op := Go.Op.call { callee := Go.Callee.builtin Go.Builtin.len, args := #[Go.Operand.tmp 66], argTypes := #[9] }, type := 3, pos := "law.go:92", after := #[{ on := 23, ground := Go.Ground.data }, { on := 20, ground := Go.Ground.guard }], guard := some (20, true) }) (v := ?vCA_29) rfl (by kernel_rfl) (by kernel_rfl) (by kernel_rfl) (fun _ _ _ h => h) (Or.inl ⟨by rfl, ?hCA_29⟩) ?rCA_29
        case hCA_29 => (intro wz; go_simp; try with_reducible rfl)
        simp only [Act.put, List.setIfInBounds_toArray, List.set_cons_zero, List.set_cons_succ]
        refine wpAny_take (i := 25) (oi := { dst := some 68, op := Go.Op.move (Go.Operand.tmp 1), type := 9, pos := "law.go:92", after := #[{ on := 20, ground := Go.Ground.guard }], guard := some (20, true) }) (v := ?vCA_30) rfl (by kernel_rfl) (by kernel_rfl) (by kernel_rfl) (fun _ _ _ h => h) (Or.inl ⟨by rfl, ?hCA_30⟩) ?rCA_30
        case hCA_30 => (intro wz; go_simp; try with_reducible rfl)
        simp only [Act.put, List.setIfInBounds_toArray, List.set_cons_zero, List.set_cons_succ]
        refine wpAny_take (i := 26) (oi := { dst := some 69, op := Go.Op.call { callee := Go.Callee.builtin Go.Builtin.len, args := #[Go.Operand.tmp 68], argTypes := #[9] }, type := 3, pos := "law.go:92", after := #[{ on := 25, ground := Go.Ground.data }, { on := 20, ground := Go.Ground.guard }], guard := some (20, true) }) (v := ?vCA_31) rfl (by kernel_rfl) (by kernel_rfl) (by kernel_rfl) (fun _ _ _ h => h) (Or.inl ⟨by rfl, ?hCA_31⟩) ?rCA_31
        case hCA_31 => (intro wz; go_simp; try with_reducible rfl)
        simp only [Act.put, List.setIfInBounds_toArray, List.set_cons_zero, List.set_cons_succ]
        refine wpAny_take (i := 27) (oi := { dst := some 70, op := Go.Op.binOp Go.BinOp.add 3 (Go.Operand.tmp 67) (Go.Operand.tmp 69) 3, type := 3, pos := "law.go:92", after := #[{ on := 24, ground := Go.Ground.data }, { on := 26, ground := Go.Ground.data }, { on := 20, ground := Go.Ground.guard }], guard := some (20, true) }) (v := ?vCA_32) rfl (by kernel_rfl) (by kernel_rfl) (by kernel_rfl) (fun _ _ _ h => h) (Or.inl ⟨by rfl, ?hCA_32⟩) ?rCA_32
        case hCA_32 => (intro wz; go_simp; try with_reducible rfl)
        simp only [Act.put, List.setIfInBounds_toArray, List.set_cons_zero, List.set_cons_succ]
        refine wpAny_take (i := 28) (oi := { dst := some 71, op := Go.Op.convert 3 32 (Go.Operand.tmp 70), type := 32, pos := "law.go:92", after := #[{ on := 27, ground := Go.Ground.data }, { on := 20, ground := Go.Ground.guard }], guard := some (20, true) }) (v := ?vCA_33) rfl (by kernel_rfl) (by kernel_rfl) (by kernel_rfl) (fun _ _ _ h => h) (Or.inl ⟨by rfl, ?hCA_33⟩) ?rCA_33
        case hCA_33 => (intro wz; go_simp; try with_reducible rfl)
        simp only [Act.put, List.setIfInBounds_toArray, List.set_cons_zero, List.set_cons_succ]
        refine wpAny_ready (rs := [22]) (by kernel_rfl) (by simp) ?_
        refine AllReady.cons (o := { dst := some 65, op := Go.Op.call { callee := Go.Callee.value (Go.Operand.func 15), args := #[Go.Operand.tmp 64], argTypes := #[22] }, type := 32, pos := "law.go:92", after := #[{ on := 21, ground := Go.Ground.data }, { on := 20, ground := Go.Ground.chain }, { on := 20, ground := Go.Ground.guard }], guard := some (20, true) }) rfl (fun K hK => ?_) AllReady.nil
        go_simp
        have hq := len_any w17 w.heap.size s2 N (HT w17 hk17).out.1 HNN.out
        refine hq.mono ?_
        clear hq
        rintro e w18 ⟨rfl, rfl⟩
        refine hK _ _ ?_
        clear hK K
        try simp only [Act.put, List.setIfInBounds_toArray, List.set_cons_zero, List.set_cons_succ]
        refine wpAny_take (i := 29) (oi := { dst := some 72, op := Go.Op.binOp Go.BinOp.eql 32 (Go.Operand.tmp 65) (Go.Operand.tmp 71) 32, type := 4, pos := "law.go:92", after := #[{ on := 22, ground := Go.Ground.data }, { on := 28, ground := Go.Ground.data }, { on := 20, ground := Go.Ground.guard }], guard := some (20, true) }) (v := ?vCA_34) rfl (by kernel_rfl) (by kernel_rfl) (by kernel_rfl) (fun _ _ _ h => h) (Or.inl ⟨by rfl, ?hCA_34⟩) ?rCA_34
        case hCA_34 => (intro wz; go_simp; try with_reducible rfl)
        simp only [Act.put, List.setIfInBounds_toArray, List.set_cons_zero, List.set_cons_succ]
        refine wpAny_take (i := 30) (oi := { dst := some 73, op := Go.Op.pick (Go.Operand.tmp 63) (Go.Operand.tmp 72) (Go.Operand.const (Go.Value.bool false)), type := 4, pos := "law.go:92", after := #[{ on := 20, ground := Go.Ground.data }, { on := 29, ground := Go.Ground.data }], guard := none }) (v := ?vCA_35) rfl (by kernel_rfl) (by kernel_rfl) (by kernel_rfl) (fun _ _ _ h => h) (Or.inl ⟨by rfl, ?hCA_35⟩) ?rCA_35
        case hCA_35 => (intro wz; go_simp; try with_reducible rfl)
        simp only [Act.put, List.setIfInBounds_toArray, List.set_cons_zero, List.set_cons_succ]
        refine wpAny_take (i := 31) (oi := { dst := some 4, op := Go.Op.assign (Go.Operand.tmp 73), type := 4, pos := "law.go:92", after := #[{ on := 30, ground := Go.Ground.data }, { on := 22, ground := Go.Ground.chain }, { on := 0, ground := Go.Ground.phase }, { on := 1, ground := Go.Ground.phase }, { on := 2, ground := Go.Ground.phase }, { on := 3, ground := Go.Ground.phase }, { on := 4, ground := Go.Ground.phase }, { on := 5, ground := Go.Ground.phase }, { on := 6, ground := Go.Ground.phase }, { on := 7, ground := Go.Ground.phase }, { on := 8, ground := Go.Ground.phase }, { on := 9, ground := Go.Ground.phase }, { on := 10, ground := Go.Ground.phase }, { on := 11, ground := Go.Ground.phase }, { on := 12, ground := Go.Ground.phase }, { on := 13, ground := Go.Ground.phase }, { on := 14, ground := Go.Ground.phase }, { on := 15, ground := Go.Ground.phase }, { on := 16, ground := Go.Ground.phase }, { on := 17, ground := Go.Ground.phase }, { on := 18, ground := Go.Ground.phase }, { on := 19, ground := Go.Ground.phase }, { on := 20, ground := Go.Ground.phase }, { on := 21, ground := Go.Ground.phase }, { on := 22, ground := Go.Ground.phase }, { on := 23, ground := Go.Ground.phase }, { on := 24, ground := Go.Ground.phase }, { on := 25, ground := Go.Ground.phase }, { on := 26, ground := Go.Ground.phase }, { on := 27, ground := Go.Ground.phase }, { on := 28, ground := Go.Ground.phase }, { on := 29, ground := Go.Ground.phase }, { on := 30, ground := Go.Ground.phase }], guard := none }) (v := ?vCA_36) rfl (by kernel_rfl) (by kernel_rfl) (by kernel_rfl) (fun _ _ _ h => h) (Or.inl ⟨by rfl, ?hCA_36⟩) ?rCA_36
        case hCA_36 => (intro wz; go_simp; try with_reducible rfl)
        simp only [Act.put, List.setIfInBounds_toArray, List.set_cons_zero, List.set_cons_succ]
        refine wpAny_done (by kernel_rfl) ?_ _
        have HF := Lib.hid (HT w17 hk17).out.2
        go_wp2_with fail
        go_ret
        exact ⟨rfl, HF.out.below'⟩
    · skip
      refine step_bytes3 (by rfl) (.tmp 48) 9 25 rfl 5 Tryd.underlying9 Tryd.underlying25 Tryd.underlying5 a rfl ?_
      intro w13 c13 g13 hk13' hz13 hc13 hs13
      have hk13 := hk13'.drew_of
      refine hK _ _ ?_
      clear hK K
      try simp only [Act.put, List.setIfInBounds_toArray, List.set_cons_zero, List.set_cons_succ]
      refine wpAny_ready (rs := [4, 7]) (by kernel_rfl) (by simp) ?_
      refine AllReady.cons (o := { dst := some 47, op := Go.Op.load 27 (Go.Operand.tmp 6), type := 27, pos := "law.go:92", after := #[{ on := 3, ground := Go.Ground.guard }], guard := some (3, true) }) rfl (fun K hK => ?_) (AllReady.cons (o := { dst := some 50, op := Go.Op.call { callee := Go.Callee.value (Go.Operand.func 13), args := #[Go.Operand.tmp 49], argTypes := #[25] }, type := 27, pos := "law.go:92", after := #[{ on := 6, ground := Go.Ground.data }, { on := 3, ground := Go.Ground.chain }, { on := 3, ground := Go.Ground.guard }], guard := some (3, true) }) rfl (fun K hK => ?_) (AllReady.nil))
      · skip
        refine step_load27 (by rfl) (.tmp 6) rfl w6.heap.size rfl d HLD (by first | exact HB1 _ (Keeps.refl _ _).drew | exact HB1 _ hk13 | exact HB1 _ hk14) ?_
        refine hK _ _ ?_
        clear hK K
        try simp only [Act.put, List.setIfInBounds_toArray, List.set_cons_zero, List.set_cons_succ]
        refine wpAny_ready (rs := [7]) (by kernel_rfl) (by simp) ?_
        refine AllReady.cons (o := { dst := some 50, op := Go.Op.call { callee := Go.Callee.value (Go.Operand.func 13), args := #[Go.Operand.tmp 49], argTypes := #[25] }, type := 27, pos := "law.go:92", after := #[{ on := 6, ground := Go.Ground.data }, { on := 3, ground := Go.Ground.chain }, { on := 3, ground := Go.Ground.guard }], guard := some (3, true) }) rfl (fun K hK => ?_) AllReady.nil
        go_simp
        have hq := of_at w13 a.data.toList d (some ⟨g13, 0, none⟩) a.size c13 (H0 w13 hk13).out hs13 hc13 (by intro ad h; cases h; exact hz13) (by omega) HDS.out
        refine hq.mono ?_
        clear hq
        rintro e w14 ⟨rfl, hk14'⟩
        have hk14 := hk13.trans hk14'
        refine hK _ _ ?_
        clear hK K
        try simp only [Act.put, List.setIfInBounds_toArray, List.set_cons_zero, List.set_cons_succ]
        refine wpAny_take (i := 8) (oi := { dst := some 51, op := Go.Op.binOp Go.BinOp.eql 27 (Go.Operand.tmp 47) (Go.Operand.tmp 50) 27, type := 4, pos := "law.go:92", after := #[{ on := 4, ground := Go.Ground.data }, { on := 7, ground := Go.Ground.data }, { on := 3, ground := Go.Ground.guard }], guard := some (3, true) }) (v := ?vCA_37) rfl (by kernel_rfl) (by kernel_rfl) (by kernel_rfl) (fun _ _ _ h => h) (Or.inl ⟨by rfl, ?hCA_37⟩) ?rCA_37
        case hCA_37 => (intro wz; go_simp; try with_reducible rfl)
        simp only [Act.put, List.setIfInBounds_toArray, List.set_cons_zero, List.set_cons_succ]
        refine wpAny_take (i := 9) (oi := { dst := some 52, op := Go.Op.pick (Go.Operand.tmp 46) (Go.Operand.tmp 51) (Go.Operand.const (Go.Value.bool false)), type := 4, pos := "law.go:92", after := #[{ on := 3, ground := Go.Ground.data }, { on := 8, ground := Go.Ground.data }], guard := none }) (v := ?vCA_38) rfl (by kernel_rfl) (by kernel_rfl) (by kernel_rfl) (fun _ _ _ h => h) (Or.inl ⟨by rfl, ?hCA_38⟩) ?rCA_38
        case hCA_38 => (intro wz; go_simp; try with_reducible rfl)
        simp only [Act.put, List.setIfInBounds_toArray, List.set_cons_zero, List.set_cons_succ]
        refine wpAny_take (i := 10) (oi := { dst := some 53, op := Go.Op.move (Go.Operand.tmp 52), type := 4, pos := "law.go:92", after := #[{ on := 9, ground := Go.Ground.data }, { on := 7, ground := Go.Ground.chain }], guard := none }) (v := ?vCA_39) rfl (by kernel_rfl) (by kernel_rfl) (by kernel_rfl) (fun _ _ _ h => h) (Or.inl ⟨by rfl, ?hCA_39⟩) ?rCA_39
        case hCA_39 => (intro wz; go_simp; try with_reducible rfl)
        simp only [Act.put, List.setIfInBounds_toArray, List.set_cons_zero, List.set_cons_succ]
        refine wpAny_take (i := 11) (oi := { dst := some 54, op := Go.Op.move (Go.Operand.tmp 5), type := 22, pos := "law.go:92", after := #[{ on := 10, ground := Go.Ground.guard }], guard := some (10, true) }) (v := ?vCA_40) rfl (by kernel_rfl) (by kernel_rfl) (by kernel_rfl) (fun _ _ _ h => h) (Or.inl ⟨by rfl, ?hCA_40⟩) ?rCA_40
        case hCA_40 => (intro wz; go_simp; try with_reducible rfl)
        simp only [Act.put, List.setIfInBounds_toArray, List.set_cons_zero, List.set_cons_succ]
        refine wpAny_take (i := 13) (oi := { dst := some 56, op := Go.Op.move (Go.Operand.tmp 0), type := 9, pos := "law.go:92", after := #[{ on := 10, ground := Go.Ground.guard }], guard := some (10, true) }) (v := ?vCA_41) rfl (by kernel_rfl) (by kernel_rfl) (by kernel_rfl) (fun _ _ _ h => h) (Or.inl ⟨by rfl, ?hCA_41⟩) ?rCA_41
        case hCA_41 => (intro wz; go_simp; try with_reducible rfl)
        simp only [Act.put, List.setIfInBounds_toArray, List.set_cons_zero, List.set_cons_succ]
        refine wpAny_take (i := 14) (oi := { dst := some 57, op := Go.Op.move (Go.Operand.tmp 1), type := 9, pos := "law.go:92", after := #[{ on := 10, ground := Go.Ground.guard }], guard := some (10, true) }) (v := ?vCA_42) rfl (by kernel_rfl) (by kernel_rfl) (by kernel_rfl) (fun _ _ _ h => h) (Or.inl ⟨by rfl, ?hCA_42⟩) ?rCA_42
        case hCA_42 => (intro wz; go_simp; try with_reducible rfl)
        simp only [Act.put, List.setIfInBounds_toArray, List.set_cons_zero, List.set_cons_succ]
        refine wpAny_take (i := 15) (oi := { dst := some 58, op := Go.Op.binOp Go.BinOp.add 9 (Go.Operand.tmp 56) (Go.Operand.tmp 57) 9, type := 9, pos := "law.go:92", after := #[{ on := 13, ground := Go.Ground.data }, { on := 14, ground := Go.Ground.data }, { on := 10, ground := Go.Ground.guard }], guard := some (10, true) }) (v := ?vCA_43) rfl (by kernel_rfl) (by kernel_rfl) (by kernel_rfl) (fun _ _ _ h => h) (Or.inl ⟨by rfl, ?hCA_43⟩) ?rCA_43
        case hCA_43 => (intro wz; go_simp; try with_reducible rfl)
        simp only [Act.put, List.setIfInBounds_toArray, List.set_cons_zero, List.set_cons_succ]
        refine wpAny_ready (rs := [12, 16]) (by kernel_rfl) (by simp) ?_
        refine AllReady.cons (o := { dst := some 55, op := Go.Op.call { callee := Go.Callee.value (Go.Operand.func 12), args := #[Go.Operand.tmp 54], argTypes := #[22] }, type := 27, pos := "law.go:92", after := #[{ on := 11, ground := Go.Ground.data }, { on := 10, ground := Go.Ground.chain }, { on := 10, ground := Go.Ground.guard }], guard := some (10, true) }) rfl (fun K hK => ?_) (AllReady.cons (o := { dst := some 59, op := Go.Op.convert 9 25 (Go.Operand.tmp 58), type := 25, pos := "law.go:92", after := #[{ on := 15, ground := Go.Ground.data }, { on := 10, ground := Go.Ground.guard }], guard := some (10, true) }) rfl (fun K hK => ?_) (AllReady.nil))
        · skip
          go_simp
          first
          | (have hq := told_at w15 w.heap.size s2 d2 (HT w15 hk15).out.1 (by rw [HN2.out]; omega) HD2.out
             refine hq.mono ?_
             clear hq
             rintro e w16 ⟨rfl, hk16'⟩
             have hk16 := hk15.trans hk16')
          | (have hq := told_at w14 w.heap.size s2 d2 (HT w14 hk14).out.1 (by rw [HN2.out]; omega) HD2.out
             refine hq.mono ?_
             clear hq
             rintro e w16 ⟨rfl, hk16'⟩
             have hk16 := hk14.trans hk16')
          refine hK _ _ ?_
          clear hK K
          try simp only [Act.put, List.setIfInBounds_toArray, List.set_cons_zero, List.set_cons_succ]
          refine wpAny_ready (rs := [16]) (by kernel_rfl) (by simp) ?_
          refine AllReady.cons (o := { dst := some 59, op := Go.Op.convert 9 25 (Go.Operand.tmp 58), type := 25, pos := "law.go:92", after := #[{ on := 15, ground := Go.Ground.data }, { on := 10, ground := Go.Ground.guard }], guard := some (10, true) }) rfl (fun K hK => ?_) AllReady.nil
          refine step_bytes3 (by rfl) (.tmp 58) 9 25 rfl 5 Tryd.underlying9 Tryd.underlying25 Tryd.underlying5 ab rfl ?_
          intro w15 c15 g15 hk15' hz15 hc15 hs15
          first
          | have hk15 := hk16.trans hk15'
          | have hk15 := hk14.trans hk15'
          refine hK _ _ ?_
          clear hK K
          try simp only [Act.put, List.setIfInBounds_toArray, List.set_cons_zero, List.set_cons_succ]
          refine wpAny_ready (rs := [17]) (by kernel_rfl) (by simp) ?_
          refine AllReady.cons (o := { dst := some 60, op := Go.Op.call { callee := Go.Callee.value (Go.Operand.func 13), args := #[Go.Operand.tmp 59], argTypes := #[25] }, type := 27, pos := "law.go:92", after := #[{ on := 16, ground := Go.Ground.data }, { on := 12, ground := Go.Ground.chain }, { on := 10, ground := Go.Ground.guard }], guard := some (10, true) }) rfl (fun K hK => ?_) AllReady.nil
          go_simp
          first
          | (have hq := of_at w15 ab.data.toList d2 (some ⟨g15, 0, none⟩) ab.size c15 (H0 w15 hk15).out hs15 hc15 (by intro ad h; cases h; exact hz15) (by rw [HABS.out]; omega) HDS2.out
             refine hq.mono ?_
             clear hq
             rintro e w17 ⟨rfl, hk17'⟩
             have hk17 := hk15.trans hk17')
          | (have hq := of_at w16 ab.data.toList d2 (some ⟨g15, 0, none⟩) ab.size c15 (H0 w16 hk16).out (hs15.keeps hk16' (fun _ _ => id)) hc15 (by intro ad h; cases h; exact Nat.lt_of_lt_of_le hz15 hk16'.size) (by rw [HABS.out]; omega) HDS2.out
             refine hq.mono ?_
             clear hq
             rintro e w17 ⟨rfl, hk17'⟩
             have hk17 := hk16.trans hk17')
          refine hK _ _ ?_
          clear hK K
          try simp only [Act.put, List.setIfInBounds_toArray, List.set_cons_zero, List.set_cons_succ]
          refine wpAny_take (i := 18) (oi := { dst := some 61, op := Go.Op.binOp Go.BinOp.eql 27 (Go.Operand.tmp 55) (Go.Operand.tmp 60) 27, type := 4, pos := "law.go:92", after := #[{ on := 12, ground := Go.Ground.data }, { on := 17, ground := Go.Ground.data }, { on := 10, ground := Go.Ground.guard }], guard := some (10, true) }) (v := ?vCA_44) rfl (by kernel_rfl) (by kernel_rfl) (by kernel_rfl) (fun _ _ _ h => h) (Or.inl ⟨by rfl, ?hCA_44⟩) ?rCA_44
          case hCA_44 => (intro wz; go_simp; try with_reducible rfl)
          simp only [Act.put, List.setIfInBounds_toArray, List.set_cons_zero, List.set_cons_succ]
          refine wpAny_take (i := 19) (oi := { dst := some 62, op := Go.Op.pick (Go.Operand.tmp 53) (Go.Operand.tmp 61) (Go.Operand.const (Go.Value.bool false)), type := 4, pos := "law.go:92", after := #[{ on := 10, ground := Go.Ground.data }, { on := 18, ground := Go.Ground.data }], guard := none }) (v := ?vCA_45) rfl (by kernel_rfl) (by kernel_rfl) (by kernel_rfl) (fun _ _ _ h => h) (Or.inl ⟨by rfl, ?hCA_45⟩) ?rCA_45
          case hCA_45 => (intro wz; go_simp; try with_reducible rfl)
          simp only [Act.put, List.setIfInBounds_toArray, List.set_cons_zero, List.set_cons_succ]
          refine wpAny_take (i := 20) (oi := { dst := some 63, op := Go.Op.move (Go.Operand.tmp 62), type := 4, pos := "law.go:92", after := #[{ on := 19, ground := Go.Ground.data }, { on := 17, ground := Go.Ground.chain }], guard := none }) (v := ?vCA_46) rfl (by kernel_rfl) (by kernel_rfl) (by kernel_rfl) (fun _ _ _ h => h) (Or.inl ⟨by rfl, ?hCA_46⟩) ?rCA_46
          case hCA_46 => (intro wz; go_simp; try with_reducible rfl)
          simp only [Act.put, List.setIfInBounds_toArray, List.set_cons_zero, List.set_cons_succ]
          refine wpAny_take (i := 21) (oi := { dst := some 64, op := Go.Op.move (Go.Operand.tmp 5), type := 22, pos := "law.go:92", after := #[{ on := 20, ground := Go.Ground.guard }], guard := some (20, true) }) (v := ?vCA_47) rfl (by kernel_rfl) (by kernel_rfl) (by kernel_rfl) (fun _ _ _ h => h) (Or.inl ⟨by rfl, ?hCA_47⟩) ?rCA_47
          case hCA_47 => (intro wz; go_simp; try with_reducible rfl)
          simp only [Act.put, List.setIfInBounds_toArray, List.set_cons_zero, List.set_cons_succ]
          refine wpAny_take (i := 23) (oi := { dst := some 66, op := Go.Op.move (Go.Operand.tmp 0), type := 9, pos := "law.go:92", after := #[{ on := 20, ground := Go.Ground.guard }], guard := some (20, true) }) (v := ?vCA_48) rfl (by kernel_rfl) (by kernel_rfl) (by kernel_rfl) (fun _ _ _ h => h) (Or.inl ⟨by rfl, ?hCA_48⟩) ?rCA_48
          case hCA_48 => (intro wz; go_simp; try with_reducible rfl)
          simp only [Act.put, List.setIfInBounds_toArray, List.set_cons_zero, List.set_cons_succ]
          refine wpAny_take (i := 24) (oi := { dst := some 67, op := Go.Op.call { callee := Go.Callee.builtin Go.Builtin.len, args := #[Go.Operand.tmp 66], argTypes := #[9] }, type := 3, pos := "law.go:92", after := #[{ on := 23, ground := Go.Ground.data }, { on := 20, ground := Go.Ground.guard }], guard := some (20, true) }) (v := ?vCA_49) rfl (by kernel_rfl) (by kernel_rfl) (by kernel_rfl) (fun _ _ _ h => h) (Or.inl ⟨by rfl, ?hCA_49⟩) ?rCA_49
          case hCA_49 => (intro wz; go_simp; try with_reducible rfl)
          simp only [Act.put, List.setIfInBounds_toArray, List.set_cons_zero, List.set_cons_succ]
          refine wpAny_take (i := 25) (oi := { dst := some 68, op := Go.Op.move (Go.Operand.tmp 1), type := 9, pos := "law.go:92", after := #[{ on := 20, ground := Go.Ground.guard }], guard := some (20, true) }) (v := ?vCA_50) rfl (by kernel_rfl) (by kernel_rfl) (by kernel_rfl) (fun _ _ _ h => h) (Or.inl ⟨by rfl, ?hCA_50⟩) ?rCA_50
          case hCA_50 => (intro wz; go_simp; try with_reducible rfl)
          simp only [Act.put, List.setIfInBounds_toArray, List.set_cons_zero, List.set_cons_succ]
          refine wpAny_take (i := 26) (oi := { dst := some 69, op := Go.Op.call { callee := Go.Callee.builtin Go.Builtin.len, args := #[Go.Operand.tmp 68], argTypes := #[9] }, type := 3, pos := "law.go:92", after := #[{ on := 25, ground := Go.Ground.data }, { on := 20, ground := Go.Ground.guard }], guard := some (20, true) }) (v := ?vCA_51) rfl (by kernel_rfl) (by kernel_rfl) (by kernel_rfl) (fun _ _ _ h => h) (Or.inl ⟨by rfl, ?hCA_51⟩) ?rCA_51
          case hCA_51 => (intro wz; go_simp; try with_reducible rfl)
          simp only [Act.put, List.setIfInBounds_toArray, List.set_cons_zero, List.set_cons_succ]
          refine wpAny_take (i := 27) (oi := { dst := some 70, op := Go.Op.binOp Go.BinOp.add 3 (Go.Operand.tmp 67) (Go.Operand.tmp 69) 3, type := 3, pos := "law.go:92", after := #[{ on := 24, ground := Go.Ground.data }, { on := 26, ground := Go.Ground.data }, { on := 20, ground := Go.Ground.guard }], guard := some (20, true) }) (v := ?vCA_52) rfl (by kernel_rfl) (by kernel_rfl) (by kernel_rfl) (fun _ _ _ h => h) (Or.inl ⟨by rfl, ?hCA_52⟩) ?rCA_52
          case hCA_52 => (intro wz; go_simp; try with_reducible rfl)
          simp only [Act.put, List.setIfInBounds_toArray, List.set_cons_zero, List.set_cons_succ]
          refine wpAny_take (i := 28) (oi := { dst := some 71, op := Go.Op.convert 3 32 (Go.Operand.tmp 70), type := 32, pos := "law.go:92", after := #[{ on := 27, ground := Go.Ground.data }, { on := 20, ground := Go.Ground.guard }], guard := some (20, true) }) (v := ?vCA_53) rfl (by kernel_rfl) (by kernel_rfl) (by kernel_rfl) (fun _ _ _ h => h) (Or.inl ⟨by rfl, ?hCA_53⟩) ?rCA_53
          case hCA_53 => (intro wz; go_simp; try with_reducible rfl)
          simp only [Act.put, List.setIfInBounds_toArray, List.set_cons_zero, List.set_cons_succ]
          refine wpAny_ready (rs := [22]) (by kernel_rfl) (by simp) ?_
          refine AllReady.cons (o := { dst := some 65, op := Go.Op.call { callee := Go.Callee.value (Go.Operand.func 15), args := #[Go.Operand.tmp 64], argTypes := #[22] }, type := 32, pos := "law.go:92", after := #[{ on := 21, ground := Go.Ground.data }, { on := 20, ground := Go.Ground.chain }, { on := 20, ground := Go.Ground.guard }], guard := some (20, true) }) rfl (fun K hK => ?_) AllReady.nil
          go_simp
          have hq := len_any w17 w.heap.size s2 N (HT w17 hk17).out.1 HNN.out
          refine hq.mono ?_
          clear hq
          rintro e w18 ⟨rfl, rfl⟩
          refine hK _ _ ?_
          clear hK K
          try simp only [Act.put, List.setIfInBounds_toArray, List.set_cons_zero, List.set_cons_succ]
          refine wpAny_take (i := 29) (oi := { dst := some 72, op := Go.Op.binOp Go.BinOp.eql 32 (Go.Operand.tmp 65) (Go.Operand.tmp 71) 32, type := 4, pos := "law.go:92", after := #[{ on := 22, ground := Go.Ground.data }, { on := 28, ground := Go.Ground.data }, { on := 20, ground := Go.Ground.guard }], guard := some (20, true) }) (v := ?vCA_54) rfl (by kernel_rfl) (by kernel_rfl) (by kernel_rfl) (fun _ _ _ h => h) (Or.inl ⟨by rfl, ?hCA_54⟩) ?rCA_54
          case hCA_54 => (intro wz; go_simp; try with_reducible rfl)
          simp only [Act.put, List.setIfInBounds_toArray, List.set_cons_zero, List.set_cons_succ]
          refine wpAny_take (i := 30) (oi := { dst := some 73, op := Go.Op.pick (Go.Operand.tmp 63) (Go.Operand.tmp 72) (Go.Operand.const (Go.Value.bool false)), type := 4, pos := "law.go:92", after := #[{ on := 20, ground := Go.Ground.data }, { on := 29, ground := Go.Ground.data }], guard := none }) (v := ?vCA_55) rfl (by kernel_rfl) (by kernel_rfl) (by kernel_rfl) (fun _ _ _ h => h) (Or.inl ⟨by rfl, ?hCA_55⟩) ?rCA_55
          case hCA_55 => (intro wz; go_simp; try with_reducible rfl)
          simp only [Act.put, List.setIfInBounds_toArray, List.set_cons_zero, List.set_cons_succ]
          refine wpAny_take (i := 31) (oi := { dst := some 4, op := Go.Op.assign (Go.Operand.tmp 73), type := 4, pos := "law.go:92", after := #[{ on := 30, ground := Go.Ground.data }, { on := 22, ground := Go.Ground.chain }, { on := 0, ground := Go.Ground.phase }, { on := 1, ground := Go.Ground.phase }, { on := 2, ground := Go.Ground.phase }, { on := 3, ground := Go.Ground.phase }, { on := 4, ground := Go.Ground.phase }, { on := 5, ground := Go.Ground.phase }, { on := 6, ground := Go.Ground.phase }, { on := 7, ground := Go.Ground.phase }, { on := 8, ground := Go.Ground.phase }, { on := 9, ground := Go.Ground.phase }, { on := 10, ground := Go.Ground.phase }, { on := 11, ground := Go.Ground.phase }, { on := 12, ground := Go.Ground.phase }, { on := 13, ground := Go.Ground.phase }, { on := 14, ground := Go.Ground.phase }, { on := 15, ground := Go.Ground.phase }, { on := 16, ground := Go.Ground.phase }, { on := 17, ground := Go.Ground.phase }, { on := 18, ground := Go.Ground.phase }, { on := 19, ground := Go.Ground.phase }, { on := 20, ground := Go.Ground.phase }, { on := 21, ground := Go.Ground.phase }, { on := 22, ground := Go.Ground.phase }, { on := 23, ground := Go.Ground.phase }, { on := 24, ground := Go.Ground.phase }, { on := 25, ground := Go.Ground.phase }, { on := 26, ground := Go.Ground.phase }, { on := 27, ground := Go.Ground.phase }, { on := 28, ground := Go.Ground.phase }, { on := 29, ground := Go.Ground.phase }, { on := 30, ground := Go.Ground.phase }], guard := none }) (v := ?vCA_56) rfl (by kernel_rfl) (by kernel_rfl) (by kernel_rfl) (fun _ _ _ h => h) (Or.inl ⟨by rfl, ?hCA_56⟩) ?rCA_56
          case hCA_56 => (intro wz; go_simp; try with_reducible rfl)
          simp only [Act.put, List.setIfInBounds_toArray, List.set_cons_zero, List.set_cons_succ]
          refine wpAny_done (by kernel_rfl) ?_ _
          have HF := Lib.hid (HT w17 hk17).out.2
          go_wp2_with fail
          go_ret
          exact ⟨rfl, HF.out.below'⟩
        · skip
          refine step_bytes3 (by rfl) (.tmp 58) 9 25 rfl 5 Tryd.underlying9 Tryd.underlying25 Tryd.underlying5 ab rfl ?_
          intro w15 c15 g15 hk15' hz15 hc15 hs15
          first
          | have hk15 := hk16.trans hk15'
          | have hk15 := hk14.trans hk15'
          refine hK _ _ ?_
          clear hK K
          try simp only [Act.put, List.setIfInBounds_toArray, List.set_cons_zero, List.set_cons_succ]
          refine wpAny_ready (rs := [12]) (by kernel_rfl) (by simp) ?_
          refine AllReady.cons (o := { dst := some 55, op := Go.Op.call { callee := Go.Callee.value (Go.Operand.func 12), args := #[Go.Operand.tmp 54], argTypes := #[22] }, type := 27, pos := "law.go:92", after := #[{ on := 11, ground := Go.Ground.data }, { on := 10, ground := Go.Ground.chain }, { on := 10, ground := Go.Ground.guard }], guard := some (10, true) }) rfl (fun K hK => ?_) AllReady.nil
          go_simp
          first
          | (have hq := told_at w15 w.heap.size s2 d2 (HT w15 hk15).out.1 (by rw [HN2.out]; omega) HD2.out
             refine hq.mono ?_
             clear hq
             rintro e w16 ⟨rfl, hk16'⟩
             have hk16 := hk15.trans hk16')
          | (have hq := told_at w14 w.heap.size s2 d2 (HT w14 hk14).out.1 (by rw [HN2.out]; omega) HD2.out
             refine hq.mono ?_
             clear hq
             rintro e w16 ⟨rfl, hk16'⟩
             have hk16 := hk14.trans hk16')
          refine hK _ _ ?_
          clear hK K
          try simp only [Act.put, List.setIfInBounds_toArray, List.set_cons_zero, List.set_cons_succ]
          refine wpAny_ready (rs := [17]) (by kernel_rfl) (by simp) ?_
          refine AllReady.cons (o := { dst := some 60, op := Go.Op.call { callee := Go.Callee.value (Go.Operand.func 13), args := #[Go.Operand.tmp 59], argTypes := #[25] }, type := 27, pos := "law.go:92", after := #[{ on := 16, ground := Go.Ground.data }, { on := 12, ground := Go.Ground.chain }, { on := 10, ground := Go.Ground.guard }], guard := some (10, true) }) rfl (fun K hK => ?_) AllReady.nil
          go_simp
          first
          | (have hq := of_at w15 ab.data.toList d2 (some ⟨g15, 0, none⟩) ab.size c15 (H0 w15 hk15).out hs15 hc15 (by intro ad h; cases h; exact hz15) (by rw [HABS.out]; omega) HDS2.out
             refine hq.mono ?_
             clear hq
             rintro e w17 ⟨rfl, hk17'⟩
             have hk17 := hk15.trans hk17')
          | (have hq := of_at w16 ab.data.toList d2 (some ⟨g15, 0, none⟩) ab.size c15 (H0 w16 hk16).out (hs15.keeps hk16' (fun _ _ => id)) hc15 (by intro ad h; cases h; exact Nat.lt_of_lt_of_le hz15 hk16'.size) (by rw [HABS.out]; omega) HDS2.out
             refine hq.mono ?_
             clear hq
             rintro e w17 ⟨rfl, hk17'⟩
             have hk17 := hk16.trans hk17')
          refine hK _ _ ?_
          clear hK K
          try simp only [Act.put, List.setIfInBounds_toArray, List.set_cons_zero, List.set_cons_succ]
          refine wpAny_take (i := 18) (oi := { dst := some 61, op := Go.Op.binOp Go.BinOp.eql 27 (Go.Operand.tmp 55) (Go.Operand.tmp 60) 27, type := 4, pos := "law.go:92", after := #[{ on := 12, ground := Go.Ground.data }, { on := 17, ground := Go.Ground.data }, { on := 10, ground := Go.Ground.guard }], guard := some (10, true) }) (v := ?vCA_57) rfl (by kernel_rfl) (by kernel_rfl) (by kernel_rfl) (fun _ _ _ h => h) (Or.inl ⟨by rfl, ?hCA_57⟩) ?rCA_57
          case hCA_57 => (intro wz; go_simp; try with_reducible rfl)
          simp only [Act.put, List.setIfInBounds_toArray, List.set_cons_zero, List.set_cons_succ]
          refine wpAny_take (i := 19) (oi := { dst := some 62, op := Go.Op.pick (Go.Operand.tmp 53) (Go.Operand.tmp 61) (Go.Operand.const (Go.Value.bool false)), type := 4, pos := "law.go:92", after := #[{ on := 10, ground := Go.Ground.data }, { on := 18, ground := Go.Ground.data }], guard := none }) (v := ?vCA_58) rfl (by kernel_rfl) (by kernel_rfl) (by kernel_rfl) (fun _ _ _ h => h) (Or.inl ⟨by rfl, ?hCA_58⟩) ?rCA_58
          case hCA_58 => (intro wz; go_simp; try with_reducible rfl)
          simp only [Act.put, List.setIfInBounds_toArray, List.set_cons_zero, List.set_cons_succ]
          refine wpAny_take (i := 20) (oi := { dst := some 63, op := Go.Op.move (Go.Operand.tmp 62), type := 4, pos := "law.go:92", after := #[{ on := 19, ground := Go.Ground.data }, { on := 17, ground := Go.Ground.chain }], guard := none }) (v := ?vCA_59) rfl (by kernel_rfl) (by kernel_rfl) (by kernel_rfl) (fun _ _ _ h => h) (Or.inl ⟨by rfl, ?hCA_59⟩) ?rCA_59
          case hCA_59 => (intro wz; go_simp; try with_reducible rfl)
          simp only [Act.put, List.setIfInBounds_toArray, List.set_cons_zero, List.set_cons_succ]
          refine wpAny_take (i := 21) (oi := { dst := some 64, op := Go.Op.move (Go.Operand.tmp 5), type := 22, pos := "law.go:92", after := #[{ on := 20, ground := Go.Ground.guard }], guard := some (20, true) }) (v := ?vCA_60) rfl (by kernel_rfl) (by kernel_rfl) (by kernel_rfl) (fun _ _ _ h => h) (Or.inl ⟨by rfl, ?hCA_60⟩) ?rCA_60
          case hCA_60 => (intro wz; go_simp; try with_reducible rfl)
          simp only [Act.put, List.setIfInBounds_toArray, List.set_cons_zero, List.set_cons_succ]
          refine wpAny_take (i := 23) (oi := { dst := some 66, op := Go.Op.move (Go.Operand.tmp 0), type := 9, pos := "law.go:92", after := #[{ on := 20, ground := Go.Ground.guard }], guard := some (20, true) }) (v := ?vCA_61) rfl (by kernel_rfl) (by kernel_rfl) (by kernel_rfl) (fun _ _ _ h => h) (Or.inl ⟨by rfl, ?hCA_61⟩) ?rCA_61
          case hCA_61 => (intro wz; go_simp; try with_reducible rfl)
          simp only [Act.put, List.setIfInBounds_toArray, List.set_cons_zero, List.set_cons_succ]
          refine wpAny_take (i := 24) (oi := { dst := some 67, op := Go.Op.call { callee := Go.Callee.builtin Go.Builtin.len, args := #[Go.Operand.tmp 66], argTypes := #[9] }, type := 3, pos := "law.go:92", after := #[{ on := 23, ground := Go.Ground.data }, { on := 20, ground := Go.Ground.guard }], guard := some (20, true) }) (v := ?vCA_62) rfl (by kernel_rfl) (by kernel_rfl) (by kernel_rfl) (fun _ _ _ h => h) (Or.inl ⟨by rfl, ?hCA_62⟩) ?rCA_62
          case hCA_62 => (intro wz; go_simp; try with_reducible rfl)
          simp only [Act.put, List.setIfInBounds_toArray, List.set_cons_zero, List.set_cons_succ]
          refine wpAny_take (i := 25) (oi := { dst := some 68, op := Go.Op.move (Go.Operand.tmp 1), type := 9, pos := "law.go:92", after := #[{ on := 20, ground := Go.Ground.guard }], guard := some (20, true) }) (v := ?vCA_63) rfl (by kernel_rfl) (by kernel_rfl) (by kernel_rfl) (fun _ _ _ h => h) (Or.inl ⟨by rfl, ?hCA_63⟩) ?rCA_63
          case hCA_63 => (intro wz; go_simp; try with_reducible rfl)
          simp only [Act.put, List.setIfInBounds_toArray, List.set_cons_zero, List.set_cons_succ]
          refine wpAny_take (i := 26) (oi := { dst := some 69, op := Go.Op.call { callee := Go.Callee.builtin Go.Builtin.len, args := #[Go.Operand.tmp 68], argTypes := #[9] }, type := 3, pos := "law.go:92", after := #[{ on := 25, ground := Go.Ground.data }, { on := 20, ground := Go.Ground.guard }], guard := some (20, true) }) (v := ?vCA_64) rfl (by kernel_rfl) (by kernel_rfl) (by kernel_rfl) (fun _ _ _ h => h) (Or.inl ⟨by rfl, ?hCA_64⟩) ?rCA_64
          case hCA_64 => (intro wz; go_simp; try with_reducible rfl)
          simp only [Act.put, List.setIfInBounds_toArray, List.set_cons_zero, List.set_cons_succ]
          refine wpAny_take (i := 27) (oi := { dst := some 70, op := Go.Op.binOp Go.BinOp.add 3 (Go.Operand.tmp 67) (Go.Operand.tmp 69) 3, type := 3, pos := "law.go:92", after := #[{ on := 24, ground := Go.Ground.data }, { on := 26, ground := Go.Ground.data }, { on := 20, ground := Go.Ground.guard }], guard := some (20, true) }) (v := ?vCA_65) rfl (by kernel_rfl) (by kernel_rfl) (by kernel_rfl) (fun _ _ _ h => h) (Or.inl ⟨by rfl, ?hCA_65⟩) ?rCA_65
          case hCA_65 => (intro wz; go_simp; try with_reducible rfl)
          simp only [Act.put, List.setIfInBounds_toArray, List.set_cons_zero, List.set_cons_succ]
          refine wpAny_take (i := 28) (oi := { dst := some 71, op := Go.Op.convert 3 32 (Go.Operand.tmp 70), type := 32, pos := "law.go:92", after := #[{ on := 27, ground := Go.Ground.data }, { on := 20, ground := Go.Ground.guard }], guard := some (20, true) }) (v := ?vCA_66) rfl (by kernel_rfl) (by kernel_rfl) (by kernel_rfl) (fun _ _ _ h => h) (Or.inl ⟨by rfl, ?hCA_66⟩) ?rCA_66
          case hCA_66 => (intro wz; go_simp; try with_reducible rfl)
          simp only [Act.put, List.setIfInBounds_toArray, List.set_cons_zero, List.set_cons_succ]
          refine wpAny_ready (rs := [22]) (by kernel_rfl) (by simp) ?_
          refine AllReady.cons (o := { dst := some 65, op := Go.Op.call { callee := Go.Callee.value (Go.Operand.func 15), args := #[Go.Operand.tmp 64], argTypes := #[22] }, type := 32, pos := "law.go:92", after := #[{ on := 21, ground := Go.Ground.data }, { on := 20, ground := Go.Ground.chain }, { on := 20, ground := Go.Ground.guard }], guard := some (20, true) }) rfl (fun K hK => ?_) AllReady.nil
          go_simp
          have hq := len_any w17 w.heap.size s2 N (HT w17 hk17).out.1 HNN.out
          refine hq.mono ?_
          clear hq
          rintro e w18 ⟨rfl, rfl⟩
          refine hK _ _ ?_
          clear hK K
          try simp only [Act.put, List.setIfInBounds_toArray, List.set_cons_zero, List.set_cons_succ]
          refine wpAny_take (i := 29) (oi := { dst := some 72, op := Go.Op.binOp Go.BinOp.eql 32 (Go.Operand.tmp 65) (Go.Operand.tmp 71) 32, type := 4, pos := "law.go:92", after := #[{ on := 22, ground := Go.Ground.data }, { on := 28, ground := Go.Ground.data }, { on := 20, ground := Go.Ground.guard }], guard := some (20, true) }) (v := ?vCA_67) rfl (by kernel_rfl) (by kernel_rfl) (by kernel_rfl) (fun _ _ _ h => h) (Or.inl ⟨by rfl, ?hCA_67⟩) ?rCA_67
          case hCA_67 => (intro wz; go_simp; try with_reducible rfl)
          simp only [Act.put, List.setIfInBounds_toArray, List.set_cons_zero, List.set_cons_succ]
          refine wpAny_take (i := 30) (oi := { dst := some 73, op := Go.Op.pick (Go.Operand.tmp 63) (Go.Operand.tmp 72) (Go.Operand.const (Go.Value.bool false)), type := 4, pos := "law.go:92", after := #[{ on := 20, ground := Go.Ground.data }, { on := 29, ground := Go.Ground.data }], guard := none }) (v := ?vCA_68) rfl (by kernel_rfl) (by kernel_rfl) (by kernel_rfl) (fun _ _ _ h => h) (Or.inl ⟨by rfl, ?hCA_68⟩) ?rCA_68
          case hCA_68 => (intro wz; go_simp; try with_reducible rfl)
          simp only [Act.put, List.setIfInBounds_toArray, List.set_cons_zero, List.set_cons_succ]
          refine wpAny_take (i := 31) (oi := { dst := some 4, op := Go.Op.assign (Go.Operand.tmp 73), type := 4, pos := "law.go:92", after := #[{ on := 30, ground := Go.Ground.data }, { on := 22, ground := Go.Ground.chain }, { on := 0, ground := Go.Ground.phase }, { on := 1, ground := Go.Ground.phase }, { on := 2, ground := Go.Ground.phase }, { on := 3, ground := Go.Ground.phase }, { on := 4, ground := Go.Ground.phase }, { on := 5, ground := Go.Ground.phase }, { on := 6, ground := Go.Ground.phase }, { on := 7, ground := Go.Ground.phase }, { on := 8, ground := Go.Ground.phase }, { on := 9, ground := Go.Ground.phase }, { on := 10, ground := Go.Ground.phase }, { on := 11, ground := Go.Ground.phase }, { on := 12, ground := Go.Ground.phase }, { on := 13, ground := Go.Ground.phase }, { on := 14, ground := Go.Ground.phase }, { on := 15, ground := Go.Ground.phase }, { on := 16, ground := Go.Ground.phase }, { on := 17, ground := Go.Ground.phase }, { on := 18, ground := Go.Ground.phase }, { on := 19, ground := Go.Ground.phase }, { on := 20, ground := Go.Ground.phase }, { on := 21, ground := Go.Ground.phase }, { on := 22, ground := Go.Ground.phase }, { on := 23, ground := Go.Ground.phase }, { on := 24, ground := Go.Ground.phase }, { on := 25, ground := Go.Ground.phase }, { on := 26, ground := Go.Ground.phase }, { on := 27, ground := Go.Ground.phase }, { on := 28, ground := Go.Ground.phase }, { on := 29, ground := Go.Ground.phase }, { on := 30, ground := Go.Ground.phase }], guard := none }) (v := ?vCA_69) rfl (by kernel_rfl) (by kernel_rfl) (by kernel_rfl) (fun _ _ _ h => h) (Or.inl ⟨by rfl, ?hCA_69⟩) ?rCA_69
          case hCA_69 => (intro wz; go_simp; try with_reducible rfl)
          simp only [Act.put, List.setIfInBounds_toArray, List.set_cons_zero, List.set_cons_succ]
          refine wpAny_done (by kernel_rfl) ?_ _
          have HF := Lib.hid (HT w17 hk17).out.2
          go_wp2_with fail
          go_ret
          exact ⟨rfl, HF.out.below'⟩
      · skip
        go_simp
        have hq := of_at w13 a.data.toList d (some ⟨g13, 0, none⟩) a.size c13 (H0 w13 hk13).out hs13 hc13 (by intro ad h; cases h; exact hz13) (by omega) HDS.out
        refine hq.mono ?_
        clear hq
        rintro e w14 ⟨rfl, hk14'⟩
        have hk14 := hk13.trans hk14'
        refine hK _ _ ?_
        clear hK K
        try simp only [Act.put, List.setIfInBounds_toArray, List.set_cons_zero, List.set_cons_succ]
        refine wpAny_ready (rs := [4]) (by kernel_rfl) (by simp) ?_
        refine AllReady.cons (o := { dst := some 47, op := Go.Op.load 27 (Go.Operand.tmp 6), type := 27, pos := "law.go:92", after := #[{ on := 3, ground := Go.Ground.guard }], guard := some (3, true) }) rfl (fun K hK => ?_) AllReady.nil
        refine step_load27 (by rfl) (.tmp 6) rfl w6.heap.size rfl d HLD (by first | exact HB1 _ (Keeps.refl _ _).drew | exact HB1 _ hk13 | exact HB1 _ hk14) ?_
        refine hK _ _ ?_
        clear hK K
        try simp only [Act.put, List.setIfInBounds_toArray, List.set_cons_zero, List.set_cons_succ]
        refine wpAny_take (i := 8) (oi := { dst := some 51, op := Go.Op.binOp Go.BinOp.eql 27 (Go.Operand.tmp 47) (Go.Operand.tmp 50) 27, type := 4, pos := "law.go:92", after := #[{ on := 4, ground := Go.Ground.data }, { on := 7, ground := Go.Ground.data }, { on := 3, ground := Go.Ground.guard }], guard := some (3, true) }) (v := ?vCA_70) rfl (by kernel_rfl) (by kernel_rfl) (by kernel_rfl) (fun _ _ _ h => h) (Or.inl ⟨by rfl, ?hCA_70⟩) ?rCA_70
        case hCA_70 => (intro wz; go_simp; try with_reducible rfl)
        simp only [Act.put, List.setIfInBounds_toArray, List.set_cons_zero, List.set_cons_succ]
        refine wpAny_take (i := 9) (oi := { dst := some 52, op := Go.Op.pick (Go.Operand.tmp 46) (Go.Operand.tmp 51) (Go.Operand.const (Go.Value.bool false)), type := 4, pos := "law.go:92", after := #[{ on := 3, ground := Go.Ground.data }, { on := 8, ground := Go.Ground.data }], guard := none }) (v := ?vCA_71) rfl (by kernel_rfl) (by kernel_rfl) (by kernel_rfl) (fun _ _ _ h => h) (Or.inl ⟨by rfl, ?hCA_71⟩) ?rCA_71
        case hCA_71 => (intro wz; go_simp; try with_reducible rfl)
        simp only [Act.put, List.setIfInBounds_toArray, List.set_cons_zero, List.set_cons_succ]
        refine wpAny_take (i := 10) (oi := { dst := some 53, op := Go.Op.move (Go.Operand.tmp 52), type := 4, pos := "law.go:92", after := #[{ on := 9, ground := Go.Ground.data }, { on := 7, ground := Go.Ground.chain }], guard := none }) (v := ?vCA_72) rfl (by kernel_rfl) (by kernel_rfl) (by kernel_rfl) (fun _ _ _ h => h) (Or.inl ⟨by rfl, ?hCA_72⟩) ?rCA_72
        case hCA_72 => (intro wz; go_simp; try with_reducible rfl)
        simp only [Act.put, List.setIfInBounds_toArray, List.set_cons_zero, List.set_cons_succ]
        refine wpAny_take (i := 11) (oi := { dst := some 54, op := Go.Op.move (Go.Operand.tmp 5), type := 22, pos := "law.go:92", after := #[{ on := 10, ground := Go.Ground.guard }], guard := some (10, true) }) (v := ?vCA_73) rfl (by kernel_rfl) (by kernel_rfl) (by kernel_rfl) (fun _ _ _ h => h) (Or.inl ⟨by rfl, ?hCA_73⟩) ?rCA_73
        case hCA_73 => (intro wz; go_simp; try with_reducible rfl)
        simp only [Act.put, List.setIfInBounds_toArray, List.set_cons_zero, List.set_cons_succ]
        refine wpAny_take (i := 13) (oi := { dst := some 56, op := Go.Op.move (Go.Operand.tmp 0), type := 9, pos := "law.go:92", after := #[{ on := 10, ground := Go.Ground.guard }], guard := some (10, true) }) (v := ?vCA_74) rfl (by kernel_rfl) (by kernel_rfl) (by kernel_rfl) (fun _ _ _ h => h) (Or.inl ⟨by rfl, ?hCA_74⟩) ?rCA_74
        case hCA_74 => (intro wz; go_simp; try with_reducible rfl)
        simp only [Act.put, List.setIfInBounds_toArray, List.set_cons_zero, List.set_cons_succ]
        refine wpAny_take (i := 14) (oi := { dst := some 57, op := Go.Op.move (Go.Operand.tmp 1), type := 9, pos := "law.go:92", after := #[{ on := 10, ground := Go.Ground.guard }], guard := some (10, true) }) (v := ?vCA_75) rfl (by kernel_rfl) (by kernel_rfl) (by kernel_rfl) (fun _ _ _ h => h) (Or.inl ⟨by rfl, ?hCA_75⟩) ?rCA_75
        case hCA_75 => (intro wz; go_simp; try with_reducible rfl)
        simp only [Act.put, List.setIfInBounds_toArray, List.set_cons_zero, List.set_cons_succ]
        refine wpAny_take (i := 15) (oi := { dst := some 58, op := Go.Op.binOp Go.BinOp.add 9 (Go.Operand.tmp 56) (Go.Operand.tmp 57) 9, type := 9, pos := "law.go:92", after := #[{ on := 13, ground := Go.Ground.data }, { on := 14, ground := Go.Ground.data }, { on := 10, ground := Go.Ground.guard }], guard := some (10, true) }) (v := ?vCA_76) rfl (by kernel_rfl) (by kernel_rfl) (by kernel_rfl) (fun _ _ _ h => h) (Or.inl ⟨by rfl, ?hCA_76⟩) ?rCA_76
        case hCA_76 => (intro wz; go_simp; try with_reducible rfl)
        simp only [Act.put, List.setIfInBounds_toArray, List.set_cons_zero, List.set_cons_succ]
        refine wpAny_ready (rs := [12, 16]) (by kernel_rfl) (by simp) ?_
        refine AllReady.cons (o := { dst := some 55, op := Go.Op.call { callee := Go.Callee.value (Go.Operand.func 12), args := #[Go.Operand.tmp 54], argTypes := #[22] }, type := 27, pos := "law.go:92", after := #[{ on := 11, ground := Go.Ground.data }, { on := 10, ground := Go.Ground.chain }, { on := 10, ground := Go.Ground.guard }], guard := some (10, true) }) rfl (fun K hK => ?_) (AllReady.cons (o := { dst := some 59, op := Go.Op.convert 9 25 (Go.Operand.tmp 58), type := 25, pos := "law.go:92", after := #[{ on := 15, ground := Go.Ground.data }, { on := 10, ground := Go.Ground.guard }], guard := some (10, true) }) rfl (fun K hK => ?_) (AllReady.nil))
        · skip
          go_simp
          first
          | (have hq := told_at w15 w.heap.size s2 d2 (HT w15 hk15).out.1 (by rw [HN2.out]; omega) HD2.out
             refine hq.mono ?_
             clear hq
             rintro e w16 ⟨rfl, hk16'⟩
             have hk16 := hk15.trans hk16')
          | (have hq := told_at w14 w.heap.size s2 d2 (HT w14 hk14).out.1 (by rw [HN2.out]; omega) HD2.out
             refine hq.mono ?_
             clear hq
             rintro e w16 ⟨rfl, hk16'⟩
             have hk16 := hk14.trans hk16')
          refine hK _ _ ?_
          clear hK K
          try simp only [Act.put, List.setIfInBounds_toArray, List.set_cons_zero, List.set_cons_succ]
          refine wpAny_ready (rs := [16]) (by kernel_rfl) (by simp) ?_
          refine AllReady.cons (o := { dst := some 59, op := Go.Op.convert 9 25 (Go.Operand.tmp 58), type := 25, pos := "law.go:92", after := #[{ on := 15, ground := Go.Ground.data }, { on := 10, ground := Go.Ground.guard }], guard := some (10, true) }) rfl (fun K hK => ?_) AllReady.nil
          refine step_bytes3 (by rfl) (.tmp 58) 9 25 rfl 5 Tryd.underlying9 Tryd.underlying25 Tryd.underlying5 ab rfl ?_
          intro w15 c15 g15 hk15' hz15 hc15 hs15
          first
          | have hk15 := hk16.trans hk15'
          | have hk15 := hk14.trans hk15'
          refine hK _ _ ?_
          clear hK K
          try simp only [Act.put, List.setIfInBounds_toArray, List.set_cons_zero, List.set_cons_succ]
          refine wpAny_ready (rs := [17]) (by kernel_rfl) (by simp) ?_
          refine AllReady.cons (o := { dst := some 60, op := Go.Op.call { callee := Go.Callee.value (Go.Operand.func 13), args := #[Go.Operand.tmp 59], argTypes := #[25] }, type := 27, pos := "law.go:92", after := #[{ on := 16, ground := Go.Ground.data }, { on := 12, ground := Go.Ground.chain }, { on := 10, ground := Go.Ground.guard }], guard := some (10, true) }) rfl (fun K hK => ?_) AllReady.nil
          go_simp
          first
          | (have hq := of_at w15 ab.data.toList d2 (some ⟨g15, 0, none⟩) ab.size c15 (H0 w15 hk15).out hs15 hc15 (by intro ad h; cases h; exact hz15) (by rw [HABS.out]; omega) HDS2.out
             refine hq.mono ?_
             clear hq
             rintro e w17 ⟨rfl, hk17'⟩
             have hk17 := hk15.trans hk17')
          | (have hq := of_at w16 ab.data.toList d2 (some ⟨g15, 0, none⟩) ab.size c15 (H0 w16 hk16).out (hs15.keeps hk16' (fun _ _ => id)) hc15 (by intro ad h; cases h; exact Nat.lt_of_lt_of_le hz15 hk16'.size) (by rw [HABS.out]; omega) HDS2.out
             refine hq.mono ?_
             clear hq
             rintro e w17 ⟨rfl, hk17'⟩
             have hk17 := hk16.trans hk17')
          refine hK _ _ ?_
          clear hK K
          try simp only [Act.put, List.setIfInBounds_toArray, List.set_cons_zero, List.set_cons_succ]
          refine wpAny_take (i := 18) (oi := { dst := some 61, op := Go.Op.binOp Go.BinOp.eql 27 (Go.Operand.tmp 55) (Go.Operand.tmp 60) 27, type := 4, pos := "law.go:92", after := #[{ on := 12, ground := Go.Ground.data }, { on := 17, ground := Go.Ground.data }, { on := 10, ground := Go.Ground.guard }], guard := some (10, true) }) (v := ?vCA_77) rfl (by kernel_rfl) (by kernel_rfl) (by kernel_rfl) (fun _ _ _ h => h) (Or.inl ⟨by rfl, ?hCA_77⟩) ?rCA_77
          case hCA_77 => (intro wz; go_simp; try with_reducible rfl)
          simp only [Act.put, List.setIfInBounds_toArray, List.set_cons_zero, List.set_cons_succ]
          refine wpAny_take (i := 19) (oi := { dst := some 62, op := Go.Op.pick (Go.Operand.tmp 53) (Go.Operand.tmp 61) (Go.Operand.const (Go.Value.bool false)), type := 4, pos := "law.go:92", after := #[{ on := 10, ground := Go.Ground.data }, { on := 18, ground := Go.Ground.data }], guard := none }) (v := ?vCA_78) rfl (by kernel_rfl) (by kernel_rfl) (by kernel_rfl) (fun _ _ _ h => h) (Or.inl ⟨by rfl, ?hCA_78⟩) ?rCA_78
          case hCA_78 => (intro wz; go_simp; try with_reducible rfl)
          simp only [Act.put, List.setIfInBounds_toArray, List.set_cons_zero, List.set_cons_succ]
          refine wpAny_take (i := 20) (oi := { dst := some 63, op := Go.Op.move (Go.Operand.tmp 62), type := 4, pos := "law.go:92", after := #[{ on := 19, ground := Go.Ground.data }, { on := 17, ground := Go.Ground.chain }], guard := none }) (v := ?vCA_79) rfl (by kernel_rfl) (by kernel_rfl) (by kernel_rfl) (fun _ _ _ h => h) (Or.inl ⟨by rfl, ?hCA_79⟩) ?rCA_79
          case hCA_79 => (intro wz; go_simp; try with_reducible rfl)
          simp only [Act.put, List.setIfInBounds_toArray, List.set_cons_zero, List.set_cons_succ]
          refine wpAny_take (i := 21) (oi := { dst := some 64, op := Go.Op.move (Go.Operand.tmp 5), type := 22, pos := "law.go:92", after := #[{ on := 20, ground := Go.Ground.guard }], guard := some (20, true) }) (v := ?vCA_80) rfl (by kernel_rfl) (by kernel_rfl) (by kernel_rfl) (fun _ _ _ h => h) (Or.inl ⟨by rfl, ?hCA_80⟩) ?rCA_80
          case hCA_80 => (intro wz; go_simp; try with_reducible rfl)
          simp only [Act.put, List.setIfInBounds_toArray, List.set_cons_zero, List.set_cons_succ]
          refine wpAny_take (i := 23) (oi := { dst := some 66, op := Go.Op.move (Go.Operand.tmp 0), type := 9, pos := "law.go:92", after := #[{ on := 20, ground := Go.Ground.guard }], guard := some (20, true) }) (v := ?vCA_81) rfl (by kernel_rfl) (by kernel_rfl) (by kernel_rfl) (fun _ _ _ h => h) (Or.inl ⟨by rfl, ?hCA_81⟩) ?rCA_81
          case hCA_81 => (intro wz; go_simp; try with_reducible rfl)
          simp only [Act.put, List.setIfInBounds_toArray, List.set_cons_zero, List.set_cons_succ]
          refine wpAny_take (i := 24) (oi := { dst := some 67, op := Go.Op.call { callee := Go.Callee.builtin Go.Builtin.len, args := #[Go.Operand.tmp 66], argTypes := #[9] }, type := 3, pos := "law.go:92", after := #[{ on := 23, ground := Go.Ground.data }, { on := 20, ground := Go.Ground.guard }], guard := some (20, true) }) (v := ?vCA_82) rfl (by kernel_rfl) (by kernel_rfl) (by kernel_rfl) (fun _ _ _ h => h) (Or.inl ⟨by rfl, ?hCA_82⟩) ?rCA_82
          case hCA_82 => (intro wz; go_simp; try with_reducible rfl)
          simp only [Act.put, List.setIfInBounds_toArray, List.set_cons_zero, List.set_cons_succ]
          refine wpAny_take (i := 25) (oi := { dst := some 68, op := Go.Op.move (Go.Operand.tmp 1), type := 9, pos := "law.go:92", after := #[{ on := 20, ground := Go.Ground.guard }], guard := some (20, true) }) (v := ?vCA_83) rfl (by kernel_rfl) (by kernel_rfl) (by kernel_rfl) (fun _ _ _ h => h) (Or.inl ⟨by rfl, ?hCA_83⟩) ?rCA_83
          case hCA_83 => (intro wz; go_simp; try with_reducible rfl)
          simp only [Act.put, List.setIfInBounds_toArray, List.set_cons_zero, List.set_cons_succ]
          refine wpAny_take (i := 26) (oi := { dst := some 69, op := Go.Op.call { callee := Go.Callee.builtin Go.Builtin.len, args := #[Go.Operand.tmp 68], argTypes := #[9] }, type := 3, pos := "law.go:92", after := #[{ on := 25, ground := Go.Ground.data }, { on := 20, ground := Go.Ground.guard }], guard := some (20, true) }) (v := ?vCA_84) rfl (by kernel_rfl) (by kernel_rfl) (by kernel_rfl) (fun _ _ _ h => h) (Or.inl ⟨by rfl, ?hCA_84⟩) ?rCA_84
          case hCA_84 => (intro wz; go_simp; try with_reducible rfl)
          simp only [Act.put, List.setIfInBounds_toArray, List.set_cons_zero, List.set_cons_succ]
          refine wpAny_take (i := 27) (oi := { dst := some 70, op := Go.Op.binOp Go.BinOp.add 3 (Go.Operand.tmp 67) (Go.Operand.tmp 69) 3, type := 3, pos := "law.go:92", after := #[{ on := 24, ground := Go.Ground.data }, { on := 26, ground := Go.Ground.data }, { on := 20, ground := Go.Ground.guard }], guard := some (20, true) }) (v := ?vCA_85) rfl (by kernel_rfl) (by kernel_rfl) (by kernel_rfl) (fun _ _ _ h => h) (Or.inl ⟨by rfl, ?hCA_85⟩) ?rCA_85
          case hCA_85 => (intro wz; go_simp; try with_reducible rfl)
          simp only [Act.put, List.setIfInBounds_toArray, List.set_cons_zero, List.set_cons_succ]
          refine wpAny_take (i := 28) (oi := { dst := some 71, op := Go.Op.convert 3 32 (Go.Operand.tmp 70), type := 32, pos := "law.go:92", after := #[{ on := 27, ground := Go.Ground.data }, { on := 20, ground := Go.Ground.guard }], guard := some (20, true) }) (v := ?vCA_86) rfl (by kernel_rfl) (by kernel_rfl) (by kernel_rfl) (fun _ _ _ h => h) (Or.inl ⟨by rfl, ?hCA_86⟩) ?rCA_86
          case hCA_86 => (intro wz; go_simp; try with_reducible rfl)
          simp only [Act.put, List.setIfInBounds_toArray, List.set_cons_zero, List.set_cons_succ]
          refine wpAny_ready (rs := [22]) (by kernel_rfl) (by simp) ?_
          refine AllReady.cons (o := { dst := some 65, op := Go.Op.call { callee := Go.Callee.value (Go.Operand.func 15), args := #[Go.Operand.tmp 64], argTypes := #[22] }, type := 32, pos := "law.go:92", after := #[{ on := 21, ground := Go.Ground.data }, { on := 20, ground := Go.Ground.chain }, { on := 20, ground := Go.Ground.guard }], guard := some (20, true) }) rfl (fun K hK => ?_) AllReady.nil
          go_simp
          have hq := len_any w17 w.heap.size s2 N (HT w17 hk17).out.1 HNN.out
          refine hq.mono ?_
          clear hq
          rintro e w18 ⟨rfl, rfl⟩
          refine hK _ _ ?_
          clear hK K
          try simp only [Act.put, List.setIfInBounds_toArray, List.set_cons_zero, List.set_cons_succ]
          refine wpAny_take (i := 29) (oi := { dst := some 72, op := Go.Op.binOp Go.BinOp.eql 32 (Go.Operand.tmp 65) (Go.Operand.tmp 71) 32, type := 4, pos := "law.go:92", after := #[{ on := 22, ground := Go.Ground.data }, { on := 28, ground := Go.Ground.data }, { on := 20, ground := Go.Ground.guard }], guard := some (20, true) }) (v := ?vCA_87) rfl (by kernel_rfl) (by kernel_rfl) (by kernel_rfl) (fun _ _ _ h => h) (Or.inl ⟨by rfl, ?hCA_87⟩) ?rCA_87
          case hCA_87 => (intro wz; go_simp; try with_reducible rfl)
          simp only [Act.put, List.setIfInBounds_toArray, List.set_cons_zero, List.set_cons_succ]
          refine wpAny_take (i := 30) (oi := { dst := some 73, op := Go.Op.pick (Go.Operand.tmp 63) (Go.Operand.tmp 72) (Go.Operand.const (Go.Value.bool false)), type := 4, pos := "law.go:92", after := #[{ on := 20, ground := Go.Ground.data }, { on := 29, ground := Go.Ground.data }], guard := none }) (v := ?vCA_88) rfl (by kernel_rfl) (by kernel_rfl) (by kernel_rfl) (fun _ _ _ h => h) (Or.inl ⟨by rfl, ?hCA_88⟩) ?rCA_88
          case hCA_88 => (intro wz; go_simp; try with_reducible rfl)
          simp only [Act.put, List.setIfInBounds_toArray, List.set_cons_zero, List.set_cons_succ]
          refine wpAny_take (i := 31) (oi := { dst := some 4, op := Go.Op.assign (Go.Operand.tmp 73), type := 4, pos := "law.go:92", after := #[{ on := 30, ground := Go.Ground.data }, { on := 22, ground := Go.Ground.chain }, { on := 0, ground := Go.Ground.phase }, { on := 1, ground := Go.Ground.phase }, { on := 2, ground := Go.Ground.phase }, { on := 3, ground := Go.Ground.phase }, { on := 4, ground := Go.Ground.phase }, { on := 5, ground := Go.Ground.phase }, { on := 6, ground := Go.Ground.phase }, { on := 7, ground := Go.Ground.phase }, { on := 8, ground := Go.Ground.phase }, { on := 9, ground := Go.Ground.phase }, { on := 10, ground := Go.Ground.phase }, { on := 11, ground := Go.Ground.phase }, { on := 12, ground := Go.Ground.phase }, { on := 13, ground := Go.Ground.phase }, { on := 14, ground := Go.Ground.phase }, { on := 15, ground := Go.Ground.phase }, { on := 16, ground := Go.Ground.phase }, { on := 17, ground := Go.Ground.phase }, { on := 18, ground := Go.Ground.phase }, { on := 19, ground := Go.Ground.phase }, { on := 20, ground := Go.Ground.phase }, { on := 21, ground := Go.Ground.phase }, { on := 22, ground := Go.Ground.phase }, { on := 23, ground := Go.Ground.phase }, { on := 24, ground := Go.Ground.phase }, { on := 25, ground := Go.Ground.phase }, { on := 26, ground := Go.Ground.phase }, { on := 27, ground := Go.Ground.phase }, { on := 28, ground := Go.Ground.phase }, { on := 29, ground := Go.Ground.phase }, { on := 30, ground := Go.Ground.phase }], guard := none }) (v := ?vCA_89) rfl (by kernel_rfl) (by kernel_rfl) (by kernel_rfl) (fun _ _ _ h => h) (Or.inl ⟨by rfl, ?hCA_89⟩) ?rCA_89
          case hCA_89 => (intro wz; go_simp; try with_reducible rfl)
          simp only [Act.put, List.setIfInBounds_toArray, List.set_cons_zero, List.set_cons_succ]
          refine wpAny_done (by kernel_rfl) ?_ _
          have HF := Lib.hid (HT w17 hk17).out.2
          go_wp2_with fail
          go_ret
          exact ⟨rfl, HF.out.below'⟩
        · skip
          refine step_bytes3 (by rfl) (.tmp 58) 9 25 rfl 5 Tryd.underlying9 Tryd.underlying25 Tryd.underlying5 ab rfl ?_
          intro w15 c15 g15 hk15' hz15 hc15 hs15
          first
          | have hk15 := hk16.trans hk15'
          | have hk15 := hk14.trans hk15'
          refine hK _ _ ?_
          clear hK K
          try simp only [Act.put, List.setIfInBounds_toArray, List.set_cons_zero, List.set_cons_succ]
          refine wpAny_ready (rs := [12]) (by kernel_rfl) (by simp) ?_
          refine AllReady.cons (o := { dst := some 55, op := Go.Op.call { callee := Go.Callee.value (Go.Operand.func 12), args := #[Go.Operand.tmp 54], argTypes := #[22] }, type := 27, pos := "law.go:92", after := #[{ on := 11, ground := Go.Ground.data }, { on := 10, ground := Go.Ground.chain }, { on := 10, ground := Go.Ground.guard }], guard := some (10, true) }) rfl (fun K hK => ?_) AllReady.nil
          go_simp
          first
          | (have hq := told_at w15 w.heap.size s2 d2 (HT w15 hk15).out.1 (by rw [HN2.out]; omega) HD2.out
             refine hq.mono ?_
             clear hq
             rintro e w16 ⟨rfl, hk16'⟩
             have hk16 := hk15.trans hk16')
          | (have hq := told_at w14 w.heap.size s2 d2 (HT w14 hk14).out.1 (by rw [HN2.out]; omega) HD2.out
             refine hq.mono ?_
             clear hq
             rintro e w16 ⟨rfl, hk16'⟩
             have hk16 := hk14.trans hk16')
          refine hK _ _ ?_
          clear hK K
          try simp only [Act.put, List.setIfInBounds_toArray, List.set_cons_zero, List.set_cons_succ]
          refine wpAny_ready (rs := [17]) (by kernel_rfl) (by simp) ?_
          refine AllReady.cons (o := { dst := some 60, op := Go.Op.call { callee := Go.Callee.value (Go.Operand.func 13), args := #[Go.Operand.tmp 59], argTypes := #[25] }, type := 27, pos := "law.go:92", after := #[{ on := 16, ground := Go.Ground.data }, { on := 12, ground := Go.Ground.chain }, { on := 10, ground := Go.Ground.guard }], guard := some (10, true) }) rfl (fun K hK => ?_) AllReady.nil
          go_simp
          first
          | (have hq := of_at w15 ab.data.toList d2 (some ⟨g15, 0, none⟩) ab.size c15 (H0 w15 hk15).out hs15 hc15 (by intro ad h; cases h; exact hz15) (by rw [HABS.out]; omega) HDS2.out
             refine hq.mono ?_
             clear hq
             rintro e w17 ⟨rfl, hk17'⟩
             have hk17 := hk15.trans hk17')
          | (have hq := of_at w16 ab.data.toList d2 (some ⟨g15, 0, none⟩) ab.size c15 (H0 w16 hk16).out (hs15.keeps hk16' (fun _ _ => id)) hc15 (by intro ad h; cases h; exact Nat.lt_of_lt_of_le hz15 hk16'.size) (by rw [HABS.out]; omega) HDS2.out
             refine hq.mono ?_
             clear hq
             rintro e w17 ⟨rfl, hk17'⟩
             have hk17 := hk16.trans hk17')
          refine hK _ _ ?_
          clear hK K
          try simp only [Act.put, List.setIfInBounds_toArray, List.set_cons_zero, List.set_cons_succ]
          refine wpAny_take (i := 18) (oi := { dst := some 61, op := Go.Op.binOp Go.BinOp.eql 27 (Go.Operand.tmp 55) (Go.Operand.tmp 60) 27, type := 4, pos := "law.go:92", after := #[{ on := 12, ground := Go.Ground.data }, { on := 17, ground := Go.Ground.data }, { on := 10, ground := Go.Ground.guard }], guard := some (10, true) }) (v := ?vCA_90) rfl (by kernel_rfl) (by kernel_rfl) (by kernel_rfl) (fun _ _ _ h => h) (Or.inl ⟨by rfl, ?hCA_90⟩) ?rCA_90
          case hCA_90 => (intro wz; go_simp; try with_reducible rfl)
          simp only [Act.put, List.setIfInBounds_toArray, List.set_cons_zero, List.set_cons_succ]
          refine wpAny_take (i := 19) (oi := { dst := some 62, op := Go.Op.pick (Go.Operand.tmp 53) (Go.Operand.tmp 61) (Go.Operand.const (Go.Value.bool false)), type := 4, pos := "law.go:92", after := #[{ on := 10, ground := Go.Ground.data }, { on := 18, ground := Go.Ground.data }], guard := none }) (v := ?vCA_91) rfl (by kernel_rfl) (by kernel_rfl) (by kernel_rfl) (fun _ _ _ h => h) (Or.inl ⟨by rfl, ?hCA_91⟩) ?rCA_91
          case hCA_91 => (intro wz; go_simp; try with_reducible rfl)
          simp only [Act.put, List.setIfInBounds_toArray, List.set_cons_zero, List.set_cons_succ]
          refine wpAny_take (i := 20) (oi := { dst := some 63, op := Go.Op.move (Go.Operand.tmp 62), type := 4, pos := "law.go:92", after := #[{ on := 19, ground := Go.Ground.data }, { on := 17, ground := Go.Ground.chain }], guard := none }) (v := ?vCA_92) rfl (by kernel_rfl) (by kernel_rfl) (by kernel_rfl) (fun _ _ _ h => h) (Or.inl ⟨by rfl, ?hCA_92⟩) ?rCA_92
          case hCA_92 => (intro wz; go_simp; try with_reducible rfl)
          simp only [Act.put, List.setIfInBounds_toArray, List.set_cons_zero, List.set_cons_succ]
          refine wpAny_take (i := 21) (oi := { dst := some 64, op := Go.Op.move (Go.Operand.tmp 5), type := 22, pos := "law.go:92", after := #[{ on := 20, ground := Go.Ground.guard }], guard := some (20, true) }) (v := ?vCA_93) rfl (by kernel_rfl) (by kernel_rfl) (by kernel_rfl) (fun _ _ _ h => h) (Or.inl ⟨by rfl, ?hCA_93⟩) ?rCA_93
          case hCA_93 => (intro wz; go_simp; try with_reducible rfl)
          simp only [Act.put, List.setIfInBounds_toArray, List.set_cons_zero, List.set_cons_succ]
          refine wpAny_take (i := 23) (oi := { dst := some 66, op := Go.Op.move (Go.Operand.tmp 0), type := 9, pos := "law.go:92", after := #[{ on := 20, ground := Go.Ground.guard }], guard := some (20, true) }) (v := ?vCA_94) rfl (by kernel_rfl) (by kernel_rfl) (by kernel_rfl) (fun _ _ _ h => h) (Or.inl ⟨by rfl, ?hCA_94⟩) ?rCA_94
          case hCA_94 => (intro wz; go_simp; try with_reducible rfl)
          simp only [Act.put, List.setIfInBounds_toArray, List.set_cons_zero, List.set_cons_succ]
          refine wpAny_take (i := 24) (oi := { dst := some 67, op := Go.Op.call { callee := Go.Callee.builtin Go.Builtin.len, args := #[Go.Operand.tmp 66], argTypes := #[9] }, type := 3, pos := "law.go:92", after := #[{ on := 23, ground := Go.Ground.data }, { on := 20, ground := Go.Ground.guard }], guard := some (20, true) }) (v := ?vCA_95) rfl (by kernel_rfl) (by kernel_rfl) (by kernel_rfl) (fun _ _ _ h => h) (Or.inl ⟨by rfl, ?hCA_95⟩) ?rCA_95
          case hCA_95 => (intro wz; go_simp; try with_reducible rfl)
          simp only [Act.put, List.setIfInBounds_toArray, List.set_cons_zero, List.set_cons_succ]
          refine wpAny_take (i := 25) (oi := { dst := some 68, op := Go.Op.move (Go.Operand.tmp 1), type := 9, pos := "law.go:92", after := #[{ on := 20, ground := Go.Ground.guard }], guard := some (20, true) }) (v := ?vCA_96) rfl (by kernel_rfl) (by kernel_rfl) (by kernel_rfl) (fun _ _ _ h => h) (Or.inl ⟨by rfl, ?hCA_96⟩) ?rCA_96
          case hCA_96 => (intro wz; go_simp; try with_reducible rfl)
          simp only [Act.put, List.setIfInBounds_toArray, List.set_cons_zero, List.set_cons_succ]
          refine wpAny_take (i := 26) (oi := { dst := some 69, op := Go.Op.call { callee := Go.Callee.builtin Go.Builtin.len, args := #[Go.Operand.tmp 68], argTypes := #[9] }, type := 3, pos := "law.go:92", after := #[{ on := 25, ground := Go.Ground.data }, { on := 20, ground := Go.Ground.guard }], guard := some (20, true) }) (v := ?vCA_97) rfl (by kernel_rfl) (by kernel_rfl) (by kernel_rfl) (fun _ _ _ h => h) (Or.inl ⟨by rfl, ?hCA_97⟩) ?rCA_97
          case hCA_97 => (intro wz; go_simp; try with_reducible rfl)
          simp only [Act.put, List.setIfInBounds_toArray, List.set_cons_zero, List.set_cons_succ]
          refine wpAny_take (i := 27) (oi := { dst := some 70, op := Go.Op.binOp Go.BinOp.add 3 (Go.Operand.tmp 67) (Go.Operand.tmp 69) 3, type := 3, pos := "law.go:92", after := #[{ on := 24, ground := Go.Ground.data }, { on := 26, ground := Go.Ground.data }, { on := 20, ground := Go.Ground.guard }], guard := some (20, true) }) (v := ?vCA_98) rfl (by kernel_rfl) (by kernel_rfl) (by kernel_rfl) (fun _ _ _ h => h) (Or.inl ⟨by rfl, ?hCA_98⟩) ?rCA_98
          case hCA_98 => (intro wz; go_simp; try with_reducible rfl)
          simp only [Act.put, List.setIfInBounds_toArray, List.set_cons_zero, List.set_cons_succ]
          refine wpAny_take (i := 28) (oi := { dst := some 71, op := Go.Op.convert 3 32 (Go.Operand.tmp 70), type := 32, pos := "law.go:92", after := #[{ on := 27, ground := Go.Ground.data }, { on := 20, ground := Go.Ground.guard }], guard := some (20, true) }) (v := ?vCA_99) rfl (by kernel_rfl) (by kernel_rfl) (by kernel_rfl) (fun _ _ _ h => h) (Or.inl ⟨by rfl, ?hCA_99⟩) ?rCA_99
          case hCA_99 => (intro wz; go_simp; try with_reducible rfl)
          simp only [Act.put, List.setIfInBounds_toArray, List.set_cons_zero, List.set_cons_succ]
          refine wpAny_ready (rs := [22]) (by kernel_rfl) (by simp) ?_
          refine AllReady.cons (o := { dst := some 65, op := Go.Op.call { callee := Go.Callee.value (Go.Operand.func 15), args := #[Go.Operand.tmp 64], argTypes := #[22] }, type := 32, pos := "law.go:92", after := #[{ on := 21, ground := Go.Ground.data }, { on := 20, ground := Go.Ground.chain }, { on := 20, ground := Go.Ground.guard }], guard := some (20, true) }) rfl (fun K hK => ?_) AllReady.nil
          go_simp
          have hq := len_any w17 w.heap.size s2 N (HT w17 hk17).out.1 HNN.out
          refine hq.mono ?_
          clear hq
          rintro e w18 ⟨rfl, rfl⟩
          refine hK _ _ ?_
          clear hK K
          try simp only [Act.put, List.setIfInBounds_toArray, List.set_cons_zero, List.set_cons_succ]
          refine wpAny_take (i := 29) (oi := { dst := some 72, op := Go.Op.binOp Go.BinOp.eql 32 (Go.Operand.tmp 65) (Go.Operand.tmp 71) 32, type := 4, pos := "law.go:92", after := #[{ on := 22, ground := Go.Ground.data }, { on := 28, ground := Go.Ground.data }, { on := 20, ground := Go.Ground.guard }], guard := some (20, true) }) (v := ?vCA_100) rfl (by kernel_rfl) (by kernel_rfl) (by kernel_rfl) (fun _ _ _ h => h) (Or.inl ⟨by rfl, ?hCA_100⟩) ?rCA_100
          case hCA_100 => (intro wz; go_simp; try with_reducible rfl)
          simp only [Act.put, List.setIfInBounds_toArray, List.set_cons_zero, List.set_cons_succ]
          refine wpAny_take (i := 30) (oi := { dst := some 73, op := Go.Op.pick (Go.Operand.tmp 63) (Go.Operand.tmp 72) (Go.Operand.const (Go.Value.bool false)), type := 4, pos := "law.go:92", after := #[{ on := 20, ground := Go.Ground.data }, { on := 29, ground := Go.Ground.data }], guard := none }) (v := ?vCA_101) rfl (by kernel_rfl) (by kernel_rfl) (by kernel_rfl) (fun _ _ _ h => h) (Or.inl ⟨by rfl, ?hCA_101⟩) ?rCA_101
          case hCA_101 => (intro wz; go_simp; try with_reducible rfl)
          simp only [Act.put, List.setIfInBounds_toArray, List.set_cons_zero, List.set_cons_succ]
          refine wpAny_take (i := 31) (oi := { dst := some 4, op := Go.Op.assign (Go.Operand.tmp 73), type := 4, pos := "law.go:92", after := #[{ on := 30, ground := Go.Ground.data }, { on := 22, ground := Go.Ground.chain }, { on := 0, ground := Go.Ground.phase }, { on := 1, ground := Go.Ground.phase }, { on := 2, ground := Go.Ground.phase }, { on := 3, ground := Go.Ground.phase }, { on := 4, ground := Go.Ground.phase }, { on := 5, ground := Go.Ground.phase }, { on := 6, ground := Go.Ground.phase }, { on := 7, ground := Go.Ground.phase }, { on := 8, ground := Go.Ground.phase }, { on := 9, ground := Go.Ground.phase }, { on := 10, ground := Go.Ground.phase }, { on := 11, ground := Go.Ground.phase }, { on := 12, ground := Go.Ground.phase }, { on := 13, ground := Go.Ground.phase }, { on := 14, ground := Go.Ground.phase }, { on := 15, ground := Go.Ground.phase }, { on := 16, ground := Go.Ground.phase }, { on := 17, ground := Go.Ground.phase }, { on := 18, ground := Go.Ground.phase }, { on := 19, ground := Go.Ground.phase }, { on := 20, ground := Go.Ground.phase }, { on := 21, ground := Go.Ground.phase }, { on := 22, ground := Go.Ground.phase }, { on := 23, ground := Go.Ground.phase }, { on := 24, ground := Go.Ground.phase }, { on := 25, ground := Go.Ground.phase }, { on := 26, ground := Go.Ground.phase }, { on := 27, ground := Go.Ground.phase }, { on := 28, ground := Go.Ground.phase }, { on := 29, ground := Go.Ground.phase }, { on := 30, ground := Go.Ground.phase }], guard := none }) (v := ?vCA_102) rfl (by kernel_rfl) (by kernel_rfl) (by kernel_rfl) (fun _ _ _ h => h) (Or.inl ⟨by rfl, ?hCA_102⟩) ?rCA_102
          case hCA_102 => (intro wz; go_simp; try with_reducible rfl)
          simp only [Act.put, List.setIfInBounds_toArray, List.set_cons_zero, List.set_cons_succ]
          refine wpAny_done (by kernel_rfl) ?_ _
          have HF := Lib.hid (HT w17 hk17).out.2
          go_wp2_with fail
          go_ret
          exact ⟨rfl, HF.out.below'⟩
  · skip
    refine step_load27 (by rfl) (.tmp 7) rfl w9.heap.size rfl d HLD (HB2 _ (Keeps.refl _ _).drew) ?_
    refine hK _ _ ?_
    clear hK K
    try simp only [Act.put, List.setIfInBounds_toArray, List.set_cons_zero, List.set_cons_succ]
    refine wpAny_ready (rs := [0]) (by kernel_rfl) (by simp) ?_
    refine AllReady.cons (o := { dst := some 43, op := Go.Op.load 27 (Go.Operand.tmp 6), type := 27, pos := "law.go:92", after := #[], guard := none }) rfl (fun K hK => ?_) AllReady.nil
    refine step_load27 (by rfl) (.tmp 6) rfl w6.heap.size rfl d HLD (HB1 _ (Keeps.refl _ _).drew) ?_
    refine hK _ _ ?_
    clear hK K
    try simp only [Act.put, List.setIfInBounds_toArray, List.set_cons_zero, List.set_cons_succ]
    refine wpAny_take (i := 2) (oi := { dst := some 45, op := Go.Op.binOp Go.BinOp.eql 27 (Go.Operand.tmp 43) (Go.Operand.tmp 44) 27, type := 4, pos := "law.go:92", after := #[{ on := 0, ground := Go.Ground.data }, { on := 1, ground := Go.Ground.data }], guard := none }) (v := ?vCA_103) rfl (by kernel_rfl) (by kernel_rfl) (by kernel_rfl) (fun _ _ _ h => h) (Or.inl ⟨by rfl, ?hCA_103⟩) ?rCA_103
    case hCA_103 => (intro wz; go_simp; try with_reducible rfl)
    simp only [Act.put, List.setIfInBounds_toArray, List.set_cons_zero, List.set_cons_succ]
    refine wpAny_take (i := 3) (oi := { dst := some 46, op := Go.Op.move (Go.Operand.tmp 45), type := 4, pos := "law.go:92", after := #[{ on := 2, ground := Go.Ground.data }], guard := none }) (v := ?vCA_104) rfl (by kernel_rfl) (by kernel_rfl) (by kernel_rfl) (fun _ _ _ h => h) (Or.inl ⟨by rfl, ?hCA_104⟩) ?rCA_104
    case hCA_104 => (intro wz; go_simp; try with_reducible rfl)
    simp only [Act.put, List.setIfInBounds_toArray, List.set_cons_zero, List.set_cons_succ]
    refine wpAny_take (i := 5) (oi := { dst := some 48, op := Go.Op.move (Go.Operand.tmp 0), type := 9, pos := "law.go:92", after := #[{ on := 3, ground := Go.Ground.guard }], guard := some (3, true) }) (v := ?vCA_105) rfl (by kernel_rfl) (by kernel_rfl) (by kernel_rfl) (fun _ _ _ h => h) (Or.inl ⟨by rfl, ?hCA_105⟩) ?rCA_105
    case hCA_105 => (intro wz; go_simp; try with_reducible rfl)
    simp only [Act.put, List.setIfInBounds_toArray, List.set_cons_zero, List.set_cons_succ]
    refine wpAny_ready (rs := [4, 6]) (by kernel_rfl) (by simp) ?_
    refine AllReady.cons (o := { dst := some 47, op := Go.Op.load 27 (Go.Operand.tmp 6), type := 27, pos := "law.go:92", after := #[{ on := 3, ground := Go.Ground.guard }], guard := some (3, true) }) rfl (fun K hK => ?_) (AllReady.cons (o := { dst := some 49, op := Go.Op.convert 9 25 (Go.Operand.tmp 48), type := 25, pos := "law.go:92", after := #[{ on := 5, ground := Go.Ground.data }, { on := 3, ground := Go.Ground.guard }], guard := some (3, true) }) rfl (fun K hK => ?_) (AllReady.nil))
    · skip
      refine step_load27 (by rfl) (.tmp 6) rfl w6.heap.size rfl d HLD (by first | exact HB1 _ (Keeps.refl _ _).drew | exact HB1 _ hk13 | exact HB1 _ hk14) ?_
      refine hK _ _ ?_
      clear hK K
      try simp only [Act.put, List.setIfInBounds_toArray, List.set_cons_zero, List.set_cons_succ]
      refine wpAny_ready (rs := [6]) (by kernel_rfl) (by simp) ?_
      refine AllReady.cons (o := { dst := some 49, op := Go.Op.convert 9 25 (Go.Operand.tmp 48), type := 25, pos := "law.go:92", after := #[{ on := 5, ground := Go.Ground.data }, { on := 3, ground := Go.Ground.guard }], guard := some (3, true) }) rfl (fun K hK => ?_) AllReady.nil
      refine step_bytes3 (by rfl) (.tmp 48) 9 25 rfl 5 Tryd.underlying9 Tryd.underlying25 Tryd.underlying5 a rfl ?_
      intro w13 c13 g13 hk13' hz13 hc13 hs13
      have hk13 := hk13'.drew_of
      refine hK _ _ ?_
      clear hK K
      try simp only [Act.put, List.setIfInBounds_toArray, List.set_cons_zero, List.set_cons_succ]
      refine wpAny_ready (rs := [7]) (by kernel_rfl) (by simp) ?_
      refine AllReady.cons (o := { dst := some 50, op := Go.Op.call { callee := Go.Callee.value (Go.Operand.func 13), args := #[Go.Operand.tmp 49], argTypes := #[25] }, type := 27, pos := "law.go:92", after := #[{ on := 6, ground := Go.Ground.data }, { on := 3, ground := Go.Ground.chain }, { on := 3, ground := Go.Ground.guard }], guard := some (3, true) }) rfl (fun K hK => ?_) AllReady.nil
      go_simp
      have hq := of_at w13 a.data.toList d (some ⟨g13, 0, none⟩) a.size c13 (H0 w13 hk13).out hs13 hc13 (by intro ad h; cases h; exact hz13) (by omega) HDS.out
      refine hq.mono ?_
      clear hq
      rintro e w14 ⟨rfl, hk14'⟩
      have hk14 := hk13.trans hk14'
      refine hK _ _ ?_
      clear hK K
      try simp only [Act.put, List.setIfInBounds_toArray, List.set_cons_zero, List.set_cons_succ]
      refine wpAny_take (i := 8) (oi := { dst := some 51, op := Go.Op.binOp Go.BinOp.eql 27 (Go.Operand.tmp 47) (Go.Operand.tmp 50) 27, type := 4, pos := "law.go:92", after := #[{ on := 4, ground := Go.Ground.data }, { on := 7, ground := Go.Ground.data }, { on := 3, ground := Go.Ground.guard }], guard := some (3, true) }) (v := ?vCA_106) rfl (by kernel_rfl) (by kernel_rfl) (by kernel_rfl) (fun _ _ _ h => h) (Or.inl ⟨by rfl, ?hCA_106⟩) ?rCA_106
      case hCA_106 => (intro wz; go_simp; try with_reducible rfl)
      simp only [Act.put, List.setIfInBounds_toArray, List.set_cons_zero, List.set_cons_succ]
      refine wpAny_take (i := 9) (oi := { dst := some 52, op := Go.Op.pick (Go.Operand.tmp 46) (Go.Operand.tmp 51) (Go.Operand.const (Go.Value.bool false)), type := 4, pos := "law.go:92", after := #[{ on := 3, ground := Go.Ground.data }, { on := 8, ground := Go.Ground.data }], guard := none }) (v := ?vCA_107) rfl (by kernel_rfl) (by kernel_rfl) (by kernel_rfl) (fun _ _ _ h => h) (Or.inl ⟨by rfl, ?hCA_107⟩) ?rCA_107
      case hCA_107 => (intro wz; go_simp; try with_reducible rfl)
      simp only [Act.put, List.setIfInBounds_toArray, List.set_cons_zero, List.set_cons_succ]
      refine wpAny_take (i := 10) (oi := { dst := some 53, op := Go.Op.move (Go.Operand.tmp 52), type := 4, pos := "law.go:92", after := #[{ on := 9, ground := Go.Ground.data }, { on := 7, ground := Go.Ground.chain }], guard := none }) (v := ?vCA_108) rfl (by kernel_rfl) (by kernel_rfl) (by kernel_rfl) (fun _ _ _ h => h) (Or.inl ⟨by rfl, ?hCA_108⟩) ?rCA_108
      case hCA_108 => (intro wz; go_simp; try with_reducible rfl)
      simp only [Act.put, List.setIfInBounds_toArray, List.set_cons_zero, List.set_cons_succ]
      refine wpAny_take (i := 11) (oi := { dst := some 54, op := Go.Op.move (Go.Operand.tmp 5), type := 22, pos := "law.go:92", after := #[{ on := 10, ground := Go.Ground.guard }], guard := some (10, true) }) (v := ?vCA_109) rfl (by kernel_rfl) (by kernel_rfl) (by kernel_rfl) (fun _ _ _ h => h) (Or.inl ⟨by rfl, ?hCA_109⟩) ?rCA_109
      case hCA_109 => (intro wz; go_simp; try with_reducible rfl)
      simp only [Act.put, List.setIfInBounds_toArray, List.set_cons_zero, List.set_cons_succ]
      refine wpAny_take (i := 13) (oi := { dst := some 56, op := Go.Op.move (Go.Operand.tmp 0), type := 9, pos := "law.go:92", after := #[{ on := 10, ground := Go.Ground.guard }], guard := some (10, true) }) (v := ?vCA_110) rfl (by kernel_rfl) (by kernel_rfl) (by kernel_rfl) (fun _ _ _ h => h) (Or.inl ⟨by rfl, ?hCA_110⟩) ?rCA_110
      case hCA_110 => (intro wz; go_simp; try with_reducible rfl)
      simp only [Act.put, List.setIfInBounds_toArray, List.set_cons_zero, List.set_cons_succ]
      refine wpAny_take (i := 14) (oi := { dst := some 57, op := Go.Op.move (Go.Operand.tmp 1), type := 9, pos := "law.go:92", after := #[{ on := 10, ground := Go.Ground.guard }], guard := some (10, true) }) (v := ?vCA_111) rfl (by kernel_rfl) (by kernel_rfl) (by kernel_rfl) (fun _ _ _ h => h) (Or.inl ⟨by rfl, ?hCA_111⟩) ?rCA_111
      case hCA_111 => (intro wz; go_simp; try with_reducible rfl)
      simp only [Act.put, List.setIfInBounds_toArray, List.set_cons_zero, List.set_cons_succ]
      refine wpAny_take (i := 15) (oi := { dst := some 58, op := Go.Op.binOp Go.BinOp.add 9 (Go.Operand.tmp 56) (Go.Operand.tmp 57) 9, type := 9, pos := "law.go:92", after := #[{ on := 13, ground := Go.Ground.data }, { on := 14, ground := Go.Ground.data }, { on := 10, ground := Go.Ground.guard }], guard := some (10, true) }) (v := ?vCA_112) rfl (by kernel_rfl) (by kernel_rfl) (by kernel_rfl) (fun _ _ _ h => h) (Or.inl ⟨by rfl, ?hCA_112⟩) ?rCA_112
      case hCA_112 => (intro wz; go_simp; try with_reducible rfl)
      simp only [Act.put, List.setIfInBounds_toArray, List.set_cons_zero, List.set_cons_succ]
      refine wpAny_ready (rs := [12, 16]) (by kernel_rfl) (by simp) ?_
      refine AllReady.cons (o := { dst := some 55, op := Go.Op.call { callee := Go.Callee.value (Go.Operand.func 12), args := #[Go.Operand.tmp 54], argTypes := #[22] }, type := 27, pos := "law.go:92", after := #[{ on := 11, ground := Go.Ground.data }, { on := 10, ground := Go.Ground.chain }, { on := 10, ground := Go.Ground.guard }], guard := some (10, true) }) rfl (fun K hK => ?_) (AllReady.cons (o := { dst := some 59, op := Go.Op.convert 9 25 (Go.Operand.tmp 58), type := 25, pos := "law.go:92", after := #[{ on := 15, ground := Go.Ground.data }, { on := 10, ground := Go.Ground.guard }], guard := some (10, true) }) rfl (fun K hK => ?_) (AllReady.nil))
      · skip
        go_simp
        first
        | (have hq := told_at w15 w.heap.size s2 d2 (HT w15 hk15).out.1 (by rw [HN2.out]; omega) HD2.out
           refine hq.mono ?_
           clear hq
           rintro e w16 ⟨rfl, hk16'⟩
           have hk16 := hk15.trans hk16')
        | (have hq := told_at w14 w.heap.size s2 d2 (HT w14 hk14).out.1 (by rw [HN2.out]; omega) HD2.out
           refine hq.mono ?_
           clear hq
           rintro e w16 ⟨rfl, hk16'⟩
           have hk16 := hk14.trans hk16')
        refine hK _ _ ?_
        clear hK K
        try simp only [Act.put, List.setIfInBounds_toArray, List.set_cons_zero, List.set_cons_succ]
        refine wpAny_ready (rs := [16]) (by kernel_rfl) (by simp) ?_
        refine AllReady.cons (o := { dst := some 59, op := Go.Op.convert 9 25 (Go.Operand.tmp 58), type := 25, pos := "law.go:92", after := #[{ on := 15, ground := Go.Ground.data }, { on := 10, ground := Go.Ground.guard }], guard := some (10, true) }) rfl (fun K hK => ?_) AllReady.nil
        refine step_bytes3 (by rfl) (.tmp 58) 9 25 rfl 5 Tryd.underlying9 Tryd.underlying25 Tryd.underlying5 ab rfl ?_
        intro w15 c15 g15 hk15' hz15 hc15 hs15
        first
        | have hk15 := hk16.trans hk15'
        | have hk15 := hk14.trans hk15'
        refine hK _ _ ?_
        clear hK K
        try simp only [Act.put, List.setIfInBounds_toArray, List.set_cons_zero, List.set_cons_succ]
        refine wpAny_ready (rs := [17]) (by kernel_rfl) (by simp) ?_
        refine AllReady.cons (o := { dst := some 60, op := Go.Op.call { callee := Go.Callee.value (Go.Operand.func 13), args := #[Go.Operand.tmp 59], argTypes := #[25] }, type := 27, pos := "law.go:92", after := #[{ on := 16, ground := Go.Ground.data }, { on := 12, ground := Go.Ground.chain }, { on := 10, ground := Go.Ground.guard }], guard := some (10, true) }) rfl (fun K hK => ?_) AllReady.nil
        go_simp
        first
        | (have hq := of_at w15 ab.data.toList d2 (some ⟨g15, 0, none⟩) ab.size c15 (H0 w15 hk15).out hs15 hc15 (by intro ad h; cases h; exact hz15) (by rw [HABS.out]; omega) HDS2.out
           refine hq.mono ?_
           clear hq
           rintro e w17 ⟨rfl, hk17'⟩
           have hk17 := hk15.trans hk17')
        | (have hq := of_at w16 ab.data.toList d2 (some ⟨g15, 0, none⟩) ab.size c15 (H0 w16 hk16).out (hs15.keeps hk16' (fun _ _ => id)) hc15 (by intro ad h; cases h; exact Nat.lt_of_lt_of_le hz15 hk16'.size) (by rw [HABS.out]; omega) HDS2.out
           refine hq.mono ?_
           clear hq
           rintro e w17 ⟨rfl, hk17'⟩
           have hk17 := hk16.trans hk17')
        refine hK _ _ ?_
        clear hK K
        try simp only [Act.put, List.setIfInBounds_toArray, List.set_cons_zero, List.set_cons_succ]
        refine wpAny_take (i := 18) (oi := { dst := some 61, op := Go.Op.binOp Go.BinOp.eql 27 (Go.Operand.tmp 55) (Go.Operand.tmp 60) 27, type := 4, pos := "law.go:92", after := #[{ on := 12, ground := Go.Ground.data }, { on := 17, ground := Go.Ground.data }, { on := 10, ground := Go.Ground.guard }], guard := some (10, true) }) (v := ?vCA_113) rfl (by kernel_rfl) (by kernel_rfl) (by kernel_rfl) (fun _ _ _ h => h) (Or.inl ⟨by rfl, ?hCA_113⟩) ?rCA_113
        case hCA_113 => (intro wz; go_simp; try with_reducible rfl)
        simp only [Act.put, List.setIfInBounds_toArray, List.set_cons_zero, List.set_cons_succ]
        refine wpAny_take (i := 19) (oi := { dst := some 62, op := Go.Op.pick (Go.Operand.tmp 53) (Go.Operand.tmp 61) (Go.Operand.const (Go.Value.bool false)), type := 4, pos := "law.go:92", after := #[{ on := 10, ground := Go.Ground.data }, { on := 18, ground := Go.Ground.data }], guard := none }) (v := ?vCA_114) rfl (by kernel_rfl) (by kernel_rfl) (by kernel_rfl) (fun _ _ _ h => h) (Or.inl ⟨by rfl, ?hCA_114⟩) ?rCA_114
        case hCA_114 => (intro wz; go_simp; try with_reducible rfl)
        simp only [Act.put, List.setIfInBounds_toArray, List.set_cons_zero, List.set_cons_succ]
        refine wpAny_take (i := 20) (oi := { dst := some 63, op := Go.Op.move (Go.Operand.tmp 62), type := 4, pos := "law.go:92", after := #[{ on := 19, ground := Go.Ground.data }, { on := 17, ground := Go.Ground.chain }], guard := none }) (v := ?vCA_115) rfl (by kernel_rfl) (by kernel_rfl) (by kernel_rfl) (fun _ _ _ h => h) (Or.inl ⟨by rfl, ?hCA_115⟩) ?rCA_115
        case hCA_115 => (intro wz; go_simp; try with_reducible rfl)
        simp only [Act.put, List.setIfInBounds_toArray, List.set_cons_zero, List.set_cons_succ]
        refine wpAny_take (i := 21) (oi := { dst := some 64, op := Go.Op.move (Go.Operand.tmp 5), type := 22, pos := "law.go:92", after := #[{ on := 20, ground := Go.Ground.guard }], guard := some (20, true) }) (v := ?vCA_116) rfl (by kernel_rfl) (by kernel_rfl) (by kernel_rfl) (fun _ _ _ h => h) (Or.inl ⟨by rfl, ?hCA_116⟩) ?rCA_116
        case hCA_116 => (intro wz; go_simp; try with_reducible rfl)
        simp only [Act.put, List.setIfInBounds_toArray, List.set_cons_zero, List.set_cons_succ]
        refine wpAny_take (i := 23) (oi := { dst := some 66, op := Go.Op.move (Go.Operand.tmp 0), type := 9, pos := "law.go:92", after := #[{ on := 20, ground := Go.Ground.guard }], guard := some (20, true) }) (v := ?vCA_117) rfl (by kernel_rfl) (by kernel_rfl) (by kernel_rfl) (fun _ _ _ h => h) (Or.inl ⟨by rfl, ?hCA_117⟩) ?rCA_117
        case hCA_117 => (intro wz; go_simp; try with_reducible rfl)
        simp only [Act.put, List.setIfInBounds_toArray, List.set_cons_zero, List.set_cons_succ]
        refine wpAny_take (i := 24) (oi := { dst := some 67, op := Go.Op.call { callee := Go.Callee.builtin Go.Builtin.len, args := #[Go.Operand.tmp 66], argTypes := #[9] }, type := 3, pos := "law.go:92", after := #[{ on := 23, ground := Go.Ground.data }, { on := 20, ground := Go.Ground.guard }], guard := some (20, true) }) (v := ?vCA_118) rfl (by kernel_rfl) (by kernel_rfl) (by kernel_rfl) (fun _ _ _ h => h) (Or.inl ⟨by rfl, ?hCA_118⟩) ?rCA_118
        case hCA_118 => (intro wz; go_simp; try with_reducible rfl)
        simp only [Act.put, List.setIfInBounds_toArray, List.set_cons_zero, List.set_cons_succ]
        refine wpAny_take (i := 25) (oi := { dst := some 68, op := Go.Op.move (Go.Operand.tmp 1), type := 9, pos := "law.go:92", after := #[{ on := 20, ground := Go.Ground.guard }], guard := some (20, true) }) (v := ?vCA_119) rfl (by kernel_rfl) (by kernel_rfl) (by kernel_rfl) (fun _ _ _ h => h) (Or.inl ⟨by rfl, ?hCA_119⟩) ?rCA_119
        case hCA_119 => (intro wz; go_simp; try with_reducible rfl)
        simp only [Act.put, List.setIfInBounds_toArray, List.set_cons_zero, List.set_cons_succ]
        refine wpAny_take (i := 26) (oi := { dst := some 69, op := Go.Op.call { callee := Go.Callee.builtin Go.Builtin.len, args := #[Go.Operand.tmp 68], argTypes := #[9] }, type := 3, pos := "law.go:92", after := #[{ on := 25, ground := Go.Ground.data }, { on := 20, ground := Go.Ground.guard }], guard := some (20, true) }) (v := ?vCA_120) rfl (by kernel_rfl) (by kernel_rfl) (by kernel_rfl) (fun _ _ _ h => h) (Or.inl ⟨by rfl, ?hCA_120⟩) ?rCA_120
        case hCA_120 => (intro wz; go_simp; try with_reducible rfl)
        simp only [Act.put, List.setIfInBounds_toArray, List.set_cons_zero, List.set_cons_succ]
        refine wpAny_take (i := 27) (oi := { dst := some 70, op := Go.Op.binOp Go.BinOp.add 3 (Go.Operand.tmp 67) (Go.Operand.tmp 69) 3, type := 3, pos := "law.go:92", after := #[{ on := 24, ground := Go.Ground.data }, { on := 26, ground := Go.Ground.data }, { on := 20, ground := Go.Ground.guard }], guard := some (20, true) }) (v := ?vCA_121) rfl (by kernel_rfl) (by kernel_rfl) (by kernel_rfl) (fun _ _ _ h => h) (Or.inl ⟨by rfl, ?hCA_121⟩) ?rCA_121
        case hCA_121 => (intro wz; go_simp; try with_reducible rfl)
        simp only [Act.put, List.setIfInBounds_toArray, List.set_cons_zero, List.set_cons_succ]
        refine wpAny_take (i := 28) (oi := { dst := some 71, op := Go.Op.convert 3 32 (Go.Operand.tmp 70), type := 32, pos := "law.go:92", after := #[{ on := 27, ground := Go.Ground.data }, { on := 20, ground := Go.Ground.guard }], guard := some (20, true) }) (v := ?vCA_122) rfl (by kernel_rfl) (by kernel_rfl) (by kernel_rfl) (fun _ _ _ h => h) (Or.inl ⟨by rfl, ?hCA_122⟩) ?rCA_122
        case hCA_122 => (intro wz; go_simp; try with_reducible rfl)
        simp only [Act.put, List.setIfInBounds_toArray, List.set_cons_zero, List.set_cons_succ]
        refine wpAny_ready (rs := [22]) (by kernel_rfl) (by simp) ?_
        refine AllReady.cons (o := { dst := some 65, op := Go.Op.call { callee := Go.Callee.value (Go.Operand.func 15), args := #[Go.Operand.tmp 64], argTypes := #[22] }, type := 32, pos := "law.go:92", after := #[{ on := 21, ground := Go.Ground.data }, { on := 20, ground := Go.Ground.chain }, { on := 20, ground := Go.Ground.guard }], guard := some (20, true) }) rfl (fun K hK => ?_) AllReady.nil
        go_simp
        have hq := len_any w17 w.heap.size s2 N (HT w17 hk17).out.1 HNN.out
        refine hq.mono ?_
        clear hq
        rintro e w18 ⟨rfl, rfl⟩
        refine hK _ _ ?_
        clear hK K
        try simp only [Act.put, List.setIfInBounds_toArray, List.set_cons_zero, List.set_cons_succ]
        refine wpAny_take (i := 29) (oi := { dst := some 72, op := Go.Op.binOp Go.BinOp.eql 32 (Go.Operand.tmp 65) (Go.Operand.tmp 71) 32, type := 4, pos := "law.go:92", after := #[{ on := 22, ground := Go.Ground.data }, { on := 28, ground := Go.Ground.data }, { on := 20, ground := Go.Ground.guard }], guard := some (20, true) }) (v := ?vCA_123) rfl (by kernel_rfl) (by kernel_rfl) (by kernel_rfl) (fun _ _ _ h => h) (Or.inl ⟨by rfl, ?hCA_123⟩) ?rCA_123
        case hCA_123 => (intro wz; go_simp; try with_reducible rfl)
        simp only [Act.put, List.setIfInBounds_toArray, List.set_cons_zero, List.set_cons_succ]
        refine wpAny_take (i := 30) (oi := { dst := some 73, op := Go.Op.pick (Go.Operand.tmp 63) (Go.Operand.tmp 72) (Go.Operand.const (Go.Value.bool false)), type := 4, pos := "law.go:92", after := #[{ on := 20, ground := Go.Ground.data }, { on := 29, ground := Go.Ground.data }], guard := none }) (v := ?vCA_124) rfl (by kernel_rfl) (by kernel_rfl) (by kernel_rfl) (fun _ _ _ h => h) (Or.inl ⟨by rfl, ?hCA_124⟩) ?rCA_124
        case hCA_124 => (intro wz; go_simp; try with_reducible rfl)
        simp only [Act.put, List.setIfInBounds_toArray, List.set_cons_zero, List.set_cons_succ]
        refine wpAny_take (i := 31) (oi := { dst := some 4, op := Go.Op.assign (Go.Operand.tmp 73), type := 4, pos := "law.go:92", after := #[{ on := 30, ground := Go.Ground.data }, { on := 22, ground := Go.Ground.chain }, { on := 0, ground := Go.Ground.phase }, { on := 1, ground := Go.Ground.phase }, { on := 2, ground := Go.Ground.phase }, { on := 3, ground := Go.Ground.phase }, { on := 4, ground := Go.Ground.phase }, { on := 5, ground := Go.Ground.phase }, { on := 6, ground := Go.Ground.phase }, { on := 7, ground := Go.Ground.phase }, { on := 8, ground := Go.Ground.phase }, { on := 9, ground := Go.Ground.phase }, { on := 10, ground := Go.Ground.phase }, { on := 11, ground := Go.Ground.phase }, { on := 12, ground := Go.Ground.phase }, { on := 13, ground := Go.Ground.phase }, { on := 14, ground := Go.Ground.phase }, { on := 15, ground := Go.Ground.phase }, { on := 16, ground := Go.Ground.phase }, { on := 17, ground := Go.Ground.phase }, { on := 18, ground := Go.Ground.phase }, { on := 19, ground := Go.Ground.phase }, { on := 20, ground := Go.Ground.phase }, { on := 21, ground := Go.Ground.phase }, { on := 22, ground := Go.Ground.phase }, { on := 23, ground := Go.Ground.phase }, { on := 24, ground := Go.Ground.phase }, { on := 25, ground := Go.Ground.phase }, { on := 26, ground := Go.Ground.phase }, { on := 27, ground := Go.Ground.phase }, { on := 28, ground := Go.Ground.phase }, { on := 29, ground := Go.Ground.phase }, { on := 30, ground := Go.Ground.phase }], guard := none }) (v := ?vCA_125) rfl (by kernel_rfl) (by kernel_rfl) (by kernel_rfl) (fun _ _ _ h => h) (Or.inl ⟨by rfl, ?hCA_125⟩) ?rCA_125
        case hCA_125 => (intro wz; go_simp; try with_reducible rfl)
        simp only [Act.put, List.setIfInBounds_toArray, List.set_cons_zero, List.set_cons_succ]
        refine wpAny_done (by kernel_rfl) ?_ _
        have HF := Lib.hid (HT w17 hk17).out.2
        go_wp2_with fail
        go_ret
        exact ⟨rfl, HF.out.below'⟩
      · skip
        refine step_bytes3 (by rfl) (.tmp 58) 9 25 rfl 5 Tryd.underlying9 Tryd.underlying25 Tryd.underlying5 ab rfl ?_
        intro w15 c15 g15 hk15' hz15 hc15 hs15
        first
        | have hk15 := hk16.trans hk15'
        | have hk15 := hk14.trans hk15'
        refine hK _ _ ?_
        clear hK K
        try simp only [Act.put, List.setIfInBounds_toArray, List.set_cons_zero, List.set_cons_succ]
        refine wpAny_ready (rs := [12]) (by kernel_rfl) (by simp) ?_
        refine AllReady.cons (o := { dst := some 55, op := Go.Op.call { callee := Go.Callee.value (Go.Operand.func 12), args := #[Go.Operand.tmp 54], argTypes := #[22] }, type := 27, pos := "law.go:92", after := #[{ on := 11, ground := Go.Ground.data }, { on := 10, ground := Go.Ground.chain }, { on := 10, ground := Go.Ground.guard }], guard := some (10, true) }) rfl (fun K hK => ?_) AllReady.nil
        go_simp
        first
        | (have hq := told_at w15 w.heap.size s2 d2 (HT w15 hk15).out.1 (by rw [HN2.out]; omega) HD2.out
           refine hq.mono ?_
           clear hq
           rintro e w16 ⟨rfl, hk16'⟩
           have hk16 := hk15.trans hk16')
        | (have hq := told_at w14 w.heap.size s2 d2 (HT w14 hk14).out.1 (by rw [HN2.out]; omega) HD2.out
           refine hq.mono ?_
           clear hq
           rintro e w16 ⟨rfl, hk16'⟩
           have hk16 := hk14.trans hk16')
        refine hK _ _ ?_
        clear hK K
        try simp only [Act.put, List.setIfInBounds_toArray, List.set_cons_zero, List.set_cons_succ]
        refine wpAny_ready (rs := [17]) (by kernel_rfl) (by simp) ?_
        refine AllReady.cons (o := { dst := some 60, op := Go.Op.call { callee := Go.Callee.value (Go.Operand.func 13), args := #[Go.Operand.tmp 59], argTypes := #[25] }, type := 27, pos := "law.go:92", after := #[{ on := 16, ground := Go.Ground.data }, { on := 12, ground := Go.Ground.chain }, { on := 10, ground := Go.Ground.guard }], guard := some (10, true) }) rfl (fun K hK => ?_) AllReady.nil
        go_simp
        first
        | (have hq := of_at w15 ab.data.toList d2 (some ⟨g15, 0, none⟩) ab.size c15 (H0 w15 hk15).out hs15 hc15 (by intro ad h; cases h; exact hz15) (by rw [HABS.out]; omega) HDS2.out
           refine hq.mono ?_
           clear hq
           rintro e w17 ⟨rfl, hk17'⟩
           have hk17 := hk15.trans hk17')
        | (have hq := of_at w16 ab.data.toList d2 (some ⟨g15, 0, none⟩) ab.size c15 (H0 w16 hk16).out (hs15.keeps hk16' (fun _ _ => id)) hc15 (by intro ad h; cases h; exact Nat.lt_of_lt_of_le hz15 hk16'.size) (by rw [HABS.out]; omega) HDS2.out
           refine hq.mono ?_
           clear hq
           rintro e w17 ⟨rfl, hk17'⟩
           have hk17 := hk16.trans hk17')
        refine hK _ _ ?_
        clear hK K
        try simp only [Act.put, List.setIfInBounds_toArray, List.set_cons_zero, List.set_cons_succ]
        refine wpAny_take (i := 18) (oi := { dst := some 61, op := Go.Op.binOp Go.BinOp.eql 27 (Go.Operand.tmp 55) (Go.Operand.tmp 60) 27, type := 4, pos := "law.go:92", after := #[{ on := 12, ground := Go.Ground.data }, { on := 17, ground := Go.Ground.data }, { on := 10, ground := Go.Ground.guard }], guard := some (10, true) }) (v := ?vCA_126) rfl (by kernel_rfl) (by kernel_rfl) (by kernel_rfl) (fun _ _ _ h => h) (Or.inl ⟨by rfl, ?hCA_126⟩) ?rCA_126
        case hCA_126 => (intro wz; go_simp; try with_reducible rfl)
        simp only [Act.put, List.setIfInBounds_toArray, List.set_cons_zero, List.set_cons_succ]
        refine wpAny_take (i := 19) (oi := { dst := some 62, op := Go.Op.pick (Go.Operand.tmp 53) (Go.Operand.tmp 61) (Go.Operand.const (Go.Value.bool false)), type := 4, pos := "law.go:92", after := #[{ on := 10, ground := Go.Ground.data }, { on := 18, ground := Go.Ground.data }], guard := none }) (v := ?vCA_127) rfl (by kernel_rfl) (by kernel_rfl) (by kernel_rfl) (fun _ _ _ h => h) (Or.inl ⟨by rfl, ?hCA_127⟩) ?rCA_127
        case hCA_127 => (intro wz; go_simp; try with_reducible rfl)
        simp only [Act.put, List.setIfInBounds_toArray, List.set_cons_zero, List.set_cons_succ]
        refine wpAny_take (i := 20) (oi := { dst := some 63, op := Go.Op.move (Go.Operand.tmp 62), type := 4, pos := "law.go:92", after := #[{ on := 19, ground := Go.Ground.data }, { on := 17, ground := Go.Ground.chain }], guard := none }) (v := ?vCA_128) rfl (by kernel_rfl) (by kernel_rfl) (by kernel_rfl) (fun _ _ _ h => h) (Or.inl ⟨by rfl, ?hCA_128⟩) ?rCA_128
        case hCA_128 => (intro wz; go_simp; try with_reducible rfl)
        simp only [Act.put, List.setIfInBounds_toArray, List.set_cons_zero, List.set_cons_succ]
        refine wpAny_take (i := 21) (oi := { dst := some 64, op := Go.Op.move (Go.Operand.tmp 5), type := 22, pos := "law.go:92", after := #[{ on := 20, ground := Go.Ground.guard }], guard := some (20, true) }) (v := ?vCA_129) rfl (by kernel_rfl) (by kernel_rfl) (by kernel_rfl) (fun _ _ _ h => h) (Or.inl ⟨by rfl, ?hCA_129⟩) ?rCA_129
        case hCA_129 => (intro wz; go_simp; try with_reducible rfl)
        simp only [Act.put, List.setIfInBounds_toArray, List.set_cons_zero, List.set_cons_succ]
        refine wpAny_take (i := 23) (oi := { dst := some 66, op := Go.Op.move (Go.Operand.tmp 0), type := 9, pos := "law.go:92", after := #[{ on := 20, ground := Go.Ground.guard }], guard := some (20, true) }) (v := ?vCA_130) rfl (by kernel_rfl) (by kernel_rfl) (by kernel_rfl) (fun _ _ _ h => h) (Or.inl ⟨by rfl, ?hCA_130⟩) ?rCA_130
        case hCA_130 => (intro wz; go_simp; try with_reducible rfl)
        simp only [Act.put, List.setIfInBounds_toArray, List.set_cons_zero, List.set_cons_succ]
        refine wpAny_take (i := 24) (oi := { dst := some 67, op := Go.Op.call { callee := Go.Callee.builtin Go.Builtin.len, args := #[Go.Operand.tmp 66], argTypes := #[9] }, type := 3, pos := "law.go:92", after := #[{ on := 23, ground := Go.Ground.data }, { on := 20, ground := Go.Ground.guard }], guard := some (20, true) }) (v := ?vCA_131) rfl (by kernel_rfl) (by kernel_rfl) (by kernel_rfl) (fun _ _ _ h => h) (Or.inl ⟨by rfl, ?hCA_131⟩) ?rCA_131
        case hCA_131 => (intro wz; go_simp; try with_reducible rfl)
        simp only [Act.put, List.setIfInBounds_toArray, List.set_cons_zero, List.set_cons_succ]
        refine wpAny_take (i := 25) (oi := { dst := some 68, op := Go.Op.move (Go.Operand.tmp 1), type := 9, pos := "law.go:92", after := #[{ on := 20, ground := Go.Ground.guard }], guard := some (20, true) }) (v := ?vCA_132) rfl (by kernel_rfl) (by kernel_rfl) (by kernel_rfl) (fun _ _ _ h => h) (Or.inl ⟨by rfl, ?hCA_132⟩) ?rCA_132
        case hCA_132 => (intro wz; go_simp; try with_reducible rfl)
        simp only [Act.put, List.setIfInBounds_toArray, List.set_cons_zero, List.set_cons_succ]
        refine wpAny_take (i := 26) (oi := { dst := some 69, op := Go.Op.call { callee := Go.Callee.builtin Go.Builtin.len, args := #[Go.Operand.tmp 68], argTypes := #[9] }, type := 3, pos := "law.go:92", after := #[{ on := 25, ground := Go.Ground.data }, { on := 20, ground := Go.Ground.guard }], guard := some (20, true) }) (v := ?vCA_133) rfl (by kernel_rfl) (by kernel_rfl) (by kernel_rfl) (fun _ _ _ h => h) (Or.inl ⟨by rfl, ?hCA_133⟩) ?rCA_133
        case hCA_133 => (intro wz; go_simp; try with_reducible rfl)
        simp only [Act.put, List.setIfInBounds_toArray, List.set_cons_zero, List.set_cons_succ]
        refine wpAny_take (i := 27) (oi := { dst := some 70, op := Go.Op.binOp Go.BinOp.add 3 (Go.Operand.tmp 67) (Go.Operand.tmp 69) 3, type := 3, pos := "law.go:92", after := #[{ on := 24, ground := Go.Ground.data }, { on := 26, ground := Go.Ground.data }, { on := 20, ground := Go.Ground.guard }], guard := some (20, true) }) (v := ?vCA_134) rfl (by kernel_rfl) (by kernel_rfl) (by kernel_rfl) (fun _ _ _ h => h) (Or.inl ⟨by rfl, ?hCA_134⟩) ?rCA_134
        case hCA_134 => (intro wz; go_simp; try with_reducible rfl)
        simp only [Act.put, List.setIfInBounds_toArray, List.set_cons_zero, List.set_cons_succ]
        refine wpAny_take (i := 28) (oi := { dst := some 71, op := Go.Op.convert 3 32 (Go.Operand.tmp 70), type := 32, pos := "law.go:92", after := #[{ on := 27, ground := Go.Ground.data }, { on := 20, ground := Go.Ground.guard }], guard := some (20, true) }) (v := ?vCA_135) rfl (by kernel_rfl) (by kernel_rfl) (by kernel_rfl) (fun _ _ _ h => h) (Or.inl ⟨by rfl, ?hCA_135⟩) ?rCA_135
        case hCA_135 => (intro wz; go_simp; try with_reducible rfl)
        simp only [Act.put, List.setIfInBounds_toArray, List.set_cons_zero, List.set_cons_succ]
        refine wpAny_ready (rs := [22]) (by kernel_rfl) (by simp) ?_
        refine AllReady.cons (o := { dst := some 65, op := Go.Op.call { callee := Go.Callee.value (Go.Operand.func 15), args := #[Go.Operand.tmp 64], argTypes := #[22] }, type := 32, pos := "law.go:92", after := #[{ on := 21, ground := Go.Ground.data }, { on := 20, ground := Go.Ground.chain }, { on := 20, ground := Go.Ground.guard }], guard := some (20, true) }) rfl (fun K hK => ?_) AllReady.nil
        go_simp
        have hq := len_any w17 w.heap.size s2 N (HT w17 hk17).out.1 HNN.out
        refine hq.mono ?_
        clear hq
        rintro e w18 ⟨rfl, rfl⟩
        refine hK _ _ ?_
        clear hK K
        try simp only [Act.put, List.setIfInBounds_toArray, List.set_cons_zero, List.set_cons_succ]
        refine wpAny_take (i := 29) (oi := { dst := some 72, op := Go.Op.binOp Go.BinOp.eql 32 (Go.Operand.tmp 65) (Go.Operand.tmp 71) 32, type := 4, pos := "law.go:92", after := #[{ on := 22, ground := Go.Ground.data }, { on := 28, ground := Go.Ground.data }, { on := 20, ground := Go.Ground.guard }], guard := some (20, true) }) (v := ?vCA_136) rfl (by kernel_rfl) (by kernel_rfl) (by kernel_rfl) (fun _ _ _ h => h) (Or.inl ⟨by rfl, ?hCA_136⟩) ?rCA_136
        case hCA_136 => (intro wz; go_simp; try with_reducible rfl)
        simp only [Act.put, List.setIfInBounds_toArray, List.set_cons_zero, List.set_cons_succ]
        refine wpAny_take (i := 30) (oi := { dst := some 73, op := Go.Op.pick (Go.Operand.tmp 63) (Go.Operand.tmp 72) (Go.Operand.const (Go.Value.bool false)), type := 4, pos := "law.go:92", after := #[{ on := 20, ground := Go.Ground.data }, { on := 29, ground := Go.Ground.data }], guard := none }) (v := ?vCA_137) rfl (by kernel_rfl) (by kernel_rfl) (by kernel_rfl) (fun _ _ _ h => h) (Or.inl ⟨by rfl, ?hCA_137⟩) ?rCA_137
        case hCA_137 => (intro wz; go_simp; try with_reducible rfl)
        simp only [Act.put, List.setIfInBounds_toArray, List.set_cons_zero, List.set_cons_succ]
        refine wpAny_take (i := 31) (oi := { dst := some 4, op := Go.Op.assign (Go.Operand.tmp 73), type := 4, pos := "law.go:92", after := #[{ on := 30, ground := Go.Ground.data }, { on := 22, ground := Go.Ground.chain }, { on := 0, ground := Go.Ground.phase }, { on := 1, ground := Go.Ground.phase }, { on := 2, ground := Go.Ground.phase }, { on := 3, ground := Go.Ground.phase }, { on := 4, ground := Go.Ground.phase }, { on := 5, ground := Go.Ground.phase }, { on := 6, ground := Go.Ground.phase }, { on := 7, ground := Go.Ground.phase }, { on := 8, ground := Go.Ground.phase }, { on := 9, ground := Go.Ground.phase }, { on := 10, ground := Go.Ground.phase }, { on := 11, ground := Go.Ground.phase }, { on := 12, ground := Go.Ground.phase }, { on := 13, ground := Go.Ground.phase }, { on := 14, ground := Go.Ground.phase }, { on := 15, ground := Go.Ground.phase }, { on := 16, ground := Go.Ground.phase }, { on := 17, ground := Go.Ground.phase }, { on := 18, ground := Go.Ground.phase }, { on := 19, ground := Go.Ground.phase }, { on := 20, ground := Go.Ground.phase }, { on := 21, ground := Go.Ground.phase }, { on := 22, ground := Go.Ground.phase }, { on := 23, ground := Go.Ground.phase }, { on := 24, ground := Go.Ground.phase }, { on := 25, ground := Go.Ground.phase }, { on := 26, ground := Go.Ground.phase }, { on := 27, ground := Go.Ground.phase }, { on := 28, ground := Go.Ground.phase }, { on := 29, ground := Go.Ground.phase }, { on := 30, ground := Go.Ground.phase }], guard := none }) (v := ?vCA_138) rfl (by kernel_rfl) (by kernel_rfl) (by kernel_rfl) (fun _ _ _ h => h) (Or.inl ⟨by rfl, ?hCA_138⟩) ?rCA_138
        case hCA_138 => (intro wz; go_simp; try with_reducible rfl)
        simp only [Act.put, List.setIfInBounds_toArray, List.set_cons_zero, List.set_cons_succ]
        refine wpAny_done (by kernel_rfl) ?_ _
        have HF := Lib.hid (HT w17 hk17).out.2
        go_wp2_with fail
        go_ret
        exact ⟨rfl, HF.out.below'⟩
    · skip
      refine step_bytes3 (by rfl) (.tmp 48) 9 25 rfl 5 Tryd.underlying9 Tryd.underlying25 Tryd.underlying5 a rfl ?_
      intro w13 c13 g13 hk13' hz13 hc13 hs13
      have hk13 := hk13'.drew_of
      refine hK _ _ ?_
      clear hK K
      try simp only [Act.put, List.setIfInBounds_toArray, List.set_cons_zero, List.set_cons_succ]
      refine wpAny_ready (rs := [4, 7]) (by kernel_rfl) (by simp) ?_
      refine AllReady.cons (o := { dst := some 47, op := Go.Op.load 27 (Go.Operand.tmp 6), type := 27, pos := "law.go:92", after := #[{ on := 3, ground := Go.Ground.guard }], guard := some (3, true) }) rfl (fun K hK => ?_) (AllReady.cons (o := { dst := some 50, op := Go.Op.call { callee := Go.Callee.value (Go.Operand.func 13), args := #[Go.Operand.tmp 49], argTypes := #[25] }, type := 27, pos := "law.go:92", after := #[{ on := 6, ground := Go.Ground.data }, { on := 3, ground := Go.Ground.chain }, { on := 3, ground := Go.Ground.guard }], guard := some (3, true) }) rfl (fun K hK => ?_) (AllReady.nil))
      · skip
        refine step_load27 (by rfl) (.tmp 6) rfl w6.heap.size rfl d HLD (by first | exact HB1 _ (Keeps.refl _ _).drew | exact HB1 _ hk13 | exact HB1 _ hk14) ?_
        refine hK _ _ ?_
        clear hK K
        try simp only [Act.put, List.setIfInBounds_toArray, List.set_cons_zero, List.set_cons_succ]
        refine wpAny_ready (rs := [7]) (by kernel_rfl) (by simp) ?_
        refine AllReady.cons (o := { dst := some 50, op := Go.Op.call { callee := Go.Callee.value (Go.Operand.func 13), args := #[Go.Operand.tmp 49], argTypes := #[25] }, type := 27, pos := "law.go:92", after := #[{ on := 6, ground := Go.Ground.data }, { on := 3, ground := Go.Ground.chain }, { on := 3, ground := Go.Ground.guard }], guard := some (3, true) }) rfl (fun K hK => ?_) AllReady.nil
        go_simp
        have hq := of_at w13 a.data.toList d (some ⟨g13, 0, none⟩) a.size c13 (H0 w13 hk13).out hs13 hc13 (by intro ad h; cases h; exact hz13) (by omega) HDS.out
        refine hq.mono ?_
        clear hq
        rintro e w14 ⟨rfl, hk14'⟩
        have hk14 := hk13.trans hk14'
        refine hK _ _ ?_
        clear hK K
        try simp only [Act.put, List.setIfInBounds_toArray, List.set_cons_zero, List.set_cons_succ]
        refine wpAny_take (i := 8) (oi := { dst := some 51, op := Go.Op.binOp Go.BinOp.eql 27 (Go.Operand.tmp 47) (Go.Operand.tmp 50) 27, type := 4, pos := "law.go:92", after := #[{ on := 4, ground := Go.Ground.data }, { on := 7, ground := Go.Ground.data }, { on := 3, ground := Go.Ground.guard }], guard := some (3, true) }) (v := ?vCA_139) rfl (by kernel_rfl) (by kernel_rfl) (by kernel_rfl) (fun _ _ _ h => h) (Or.inl ⟨by rfl, ?hCA_139⟩) ?rCA_139
        case hCA_139 => (intro wz; go_simp; try with_reducible rfl)
        simp only [Act.put, List.setIfInBounds_toArray, List.set_cons_zero, List.set_cons_succ]
        refine wpAny_take (i := 9) (oi := { dst := some 52, op := Go.Op.pick (Go.Operand.tmp 46) (Go.Operand.tmp 51) (Go.Operand.const (Go.Value.bool false)), type := 4, pos := "law.go:92", after := #[{ on := 3, ground := Go.Ground.data }, { on := 8, ground := Go.Ground.data }], guard := none }) (v := ?vCA_140) rfl (by kernel_rfl) (by kernel_rfl) (by kernel_rfl) (fun _ _ _ h => h) (Or.inl ⟨by rfl, ?hCA_140⟩) ?rCA_140
        case hCA_140 => (intro wz; go_simp; try with_reducible rfl)
        simp only [Act.put, List.setIfInBounds_toArray, List.set_cons_zero, List.set_cons_succ]
        refine wpAny_take (i := 10) (oi := { dst := some 53, op := Go.Op.move (Go.Operand.tmp 52), type := 4, pos := "law.go:92", after := #[{ on := 9, ground := Go.Ground.data }, { on := 7, ground := Go.Ground.chain }], guard := none }) (v := ?vCA_141) rfl (by kernel_rfl) (by kernel_rfl) (by kernel_rfl) (fun _ _ _ h => h) (Or.inl ⟨by rfl, ?hCA_141⟩) ?rCA_141
        case hCA_141 => (intro wz; go_simp; try with_reducible rfl)
        simp only [Act.put, List.setIfInBounds_toArray, List.set_cons_zero, List.set_cons_succ]
        refine wpAny_take (i := 11) (oi := { dst := some 54, op := Go.Op.move (Go.Operand.tmp 5), type := 22, pos := "law.go:92", after := #[{ on := 10, ground := Go.Ground.guard }], guard := some (10, true) }) (v := ?vCA_142) rfl (by kernel_rfl) (by kernel_rfl) (by kernel_rfl) (fun _ _ _ h => h) (Or.inl ⟨by rfl, ?hCA_142⟩) ?rCA_142
        case hCA_142 => (intro wz; go_simp; try with_reducible rfl)
        simp only [Act.put, List.setIfInBounds_toArray, List.set_cons_zero, List.set_cons_succ]
        refine wpAny_take (i := 13) (oi := { dst := some 56, op := Go.Op.move (Go.Operand.tmp 0), type := 9, pos := "law.go:92", after := #[{ on := 10, ground := Go.Ground.guard }], guard := some (10, true) }) (v := ?vCA_143) rfl (by kernel_rfl) (by kernel_rfl) (by kernel_rfl) (fun _ _ _ h => h) (Or.inl ⟨by rfl, ?hCA_143⟩) ?rCA_143
        case hCA_143 => (intro wz; go_simp; try with_reducible rfl)
        simp only [Act.put, List.setIfInBounds_toArray, List.set_cons_zero, List.set_cons_succ]
        refine wpAny_take (i := 14) (oi := { dst := some 57, op := Go.Op.move (Go.Operand.tmp 1), type := 9, pos := "law.go:92", after := #[{ on := 10, ground := Go.Ground.guard }], guard := some (10, true) }) (v := ?vCA_144) rfl (by kernel_rfl) (by kernel_rfl) (by kernel_rfl) (fun _ _ _ h => h) (Or.inl ⟨by rfl, ?hCA_144⟩) ?rCA_144
        case hCA_144 => (intro wz; go_simp; try with_reducible rfl)
        simp only [Act.put, List.setIfInBounds_toArray, List.set_cons_zero, List.set_cons_succ]
        refine wpAny_take (i := 15) (oi := { dst := some 58, op := Go.Op.binOp Go.BinOp.add 9 (Go.Operand.tmp 56) (Go.Operand.tmp 57) 9, type := 9, pos := "law.go:92", after := #[{ on := 13, ground := Go.Ground.data }, { on := 14, ground := Go.Ground.data }, { on := 10, ground := Go.Ground.guard }], guard := some (10, true) }) (v := ?vCA_145) rfl (by kernel_rfl) (by kernel_rfl) (by kernel_rfl) (fun _ _ _ h => h) (Or.inl ⟨by rfl, ?hCA_145⟩) ?rCA_145
        case hCA_145 => (intro wz; go_simp; try with_reducible rfl)
        simp only [Act.put, List.setIfInBounds_toArray, List.set_cons_zero, List.set_cons_succ]
        refine wpAny_ready (rs := [12, 16]) (by kernel_rfl) (by simp) ?_
        refine AllReady.cons (o := { dst := some 55, op := Go.Op.call { callee := Go.Callee.value (Go.Operand.func 12), args := #[Go.Operand.tmp 54], argTypes := #[22] }, type := 27, pos := "law.go:92", after := #[{ on := 11, ground := Go.Ground.data }, { on := 10, ground := Go.Ground.chain }, { on := 10, ground := Go.Ground.guard }], guard := some (10, true) }) rfl (fun K hK => ?_) (AllReady.cons (o := { dst := some 59, op := Go.Op.convert 9 25 (Go.Operand.tmp 58), type := 25, pos := "law.go:92", after := #[{ on := 15, ground := Go.Ground.data }, { on := 10, ground := Go.Ground.guard }], guard := some (10, true) }) rfl (fun K hK => ?_) (AllReady.nil))
        · skip
          go_simp
          first
          | (have hq := told_at w15 w.heap.size s2 d2 (HT w15 hk15).out.1 (by rw [HN2.out]; omega) HD2.out
             refine hq.mono ?_
             clear hq
             rintro e w16 ⟨rfl, hk16'⟩
             have hk16 := hk15.trans hk16')
          | (have hq := told_at w14 w.heap.size s2 d2 (HT w14 hk14).out.1 (by rw [HN2.out]; omega) HD2.out
             refine hq.mono ?_
             clear hq
             rintro e w16 ⟨rfl, hk16'⟩
             have hk16 := hk14.trans hk16')
          refine hK _ _ ?_
          clear hK K
          try simp only [Act.put, List.setIfInBounds_toArray, List.set_cons_zero, List.set_cons_succ]
          refine wpAny_ready (rs := [16]) (by kernel_rfl) (by simp) ?_
          refine AllReady.cons (o := { dst := some 59, op := Go.Op.convert 9 25 (Go.Operand.tmp 58), type := 25, pos := "law.go:92", after := #[{ on := 15, ground := Go.Ground.data }, { on := 10, ground := Go.Ground.guard }], guard := some (10, true) }) rfl (fun K hK => ?_) AllReady.nil
          refine step_bytes3 (by rfl) (.tmp 58) 9 25 rfl 5 Tryd.underlying9 Tryd.underlying25 Tryd.underlying5 ab rfl ?_
          intro w15 c15 g15 hk15' hz15 hc15 hs15
          first
          | have hk15 := hk16.trans hk15'
          | have hk15 := hk14.trans hk15'
          refine hK _ _ ?_
          clear hK K
          try simp only [Act.put, List.setIfInBounds_toArray, List.set_cons_zero, List.set_cons_succ]
          refine wpAny_ready (rs := [17]) (by kernel_rfl) (by simp) ?_
          refine AllReady.cons (o := { dst := some 60, op := Go.Op.call { callee := Go.Callee.value (Go.Operand.func 13), args := #[Go.Operand.tmp 59], argTypes := #[25] }, type := 27, pos := "law.go:92", after := #[{ on := 16, ground := Go.Ground.data }, { on := 12, ground := Go.Ground.chain }, { on := 10, ground := Go.Ground.guard }], guard := some (10, true) }) rfl (fun K hK => ?_) AllReady.nil
          go_simp
          first
          | (have hq := of_at w15 ab.data.toList d2 (some ⟨g15, 0, none⟩) ab.size c15 (H0 w15 hk15).out hs15 hc15 (by intro ad h; cases h; exact hz15) (by rw [HABS.out]; omega) HDS2.out
             refine hq.mono ?_
             clear hq
             rintro e w17 ⟨rfl, hk17'⟩
             have hk17 := hk15.trans hk17')
          | (have hq := of_at w16 ab.data.toList d2 (some ⟨g15, 0, none⟩) ab.size c15 (H0 w16 hk16).out (hs15.keeps hk16' (fun _ _ => id)) hc15 (by intro ad h; cases h; exact Nat.lt_of_lt_of_le hz15 hk16'.size) (by rw [HABS.out]; omega) HDS2.out
             refine hq.mono ?_
             clear hq
             rintro e w17 ⟨rfl, hk17'⟩
             have hk17 := hk16.trans hk17')
          refine hK _ _ ?_
          clear hK K
          try simp only [Act.put, List.setIfInBounds_toArray, List.set_cons_zero, List.set_cons_succ]
          refine wpAny_take (i := 18) (oi := { dst := some 61, op := Go.Op.binOp Go.BinOp.eql 27 (Go.Operand.tmp 55) (Go.Operand.tmp 60) 27, type := 4, pos := "law.go:92", after := #[{ on := 12, ground := Go.Ground.data }, { on := 17, ground := Go.Ground.data }, { on := 10, ground := Go.Ground.guard }], guard := some (10, true) }) (v := ?vCA_146) rfl (by kernel_rfl) (by kernel_rfl) (by kernel_rfl) (fun _ _ _ h => h) (Or.inl ⟨by rfl, ?hCA_146⟩) ?rCA_146
          case hCA_146 => (intro wz; go_simp; try with_reducible rfl)
          simp only [Act.put, List.setIfInBounds_toArray, List.set_cons_zero, List.set_cons_succ]
          refine wpAny_take (i := 19) (oi := { dst := some 62, op := Go.Op.pick (Go.Operand.tmp 53) (Go.Operand.tmp 61) (Go.Operand.const (Go.Value.bool false)), type := 4, pos := "law.go:92", after := #[{ on := 10, ground := Go.Ground.data }, { on := 18, ground := Go.Ground.data }], guard := none }) (v := ?vCA_147) rfl (by kernel_rfl) (by kernel_rfl) (by kernel_rfl) (fun _ _ _ h => h) (Or.inl ⟨by rfl, ?hCA_147⟩) ?rCA_147
          case hCA_147 => (intro wz; go_simp; try with_reducible rfl)
          simp only [Act.put, List.setIfInBounds_toArray, List.set_cons_zero, List.set_cons_succ]
          refine wpAny_take (i := 20) (oi := { dst := some 63, op := Go.Op.move (Go.Operand.tmp 62), type := 4, pos := "law.go:92", after := #[{ on := 19, ground := Go.Ground.data }, { on := 17, ground := Go.Ground.chain }], guard := none }) (v := ?vCA_148) rfl (by kernel_rfl) (by kernel_rfl) (by kernel_rfl) (fun _ _ _ h => h) (Or.inl ⟨by rfl, ?hCA_148⟩) ?rCA_148
          case hCA_148 => (intro wz; go_simp; try with_reducible rfl)
          simp only [Act.put, List.setIfInBounds_toArray, List.set_cons_zero, List.set_cons_succ]
          refine wpAny_take (i := 21) (oi := { dst := some 64, op := Go.Op.move (Go.Operand.tmp 5), type := 22, pos := "law.go:92", after := #[{ on := 20, ground := Go.Ground.guard }], guard := some (20, true) }) (v := ?vCA_149) rfl (by kernel_rfl) (by kernel_rfl) (by kernel_rfl) (fun _ _ _ h => h) (Or.inl ⟨by rfl, ?hCA_149⟩) ?rCA_149
          case hCA_149 => (intro wz; go_simp; try with_reducible rfl)
          simp only [Act.put, List.setIfInBounds_toArray, List.set_cons_zero, List.set_cons_succ]
          refine wpAny_take (i := 23) (oi := { dst := some 66, op := Go.Op.move (Go.Operand.tmp 0), type := 9, pos := "law.go:92", after := #[{ on := 20, ground := Go.Ground.guard }], guard := some (20, true) }) (v := ?vCA_150) rfl (by kernel_rfl) (by kernel_rfl) (by kernel_rfl) (fun _ _ _ h => h) (Or.inl ⟨by rfl, ?hCA_150⟩) ?rCA_150
          case hCA_150 => (intro wz; go_simp; try with_reducible rfl)
          simp only [Act.put, List.setIfInBounds_toArray, List.set_cons_zero, List.set_cons_succ]
          refine wpAny_take (i := 24) (oi := { dst := some 67, op := Go.Op.call { callee := Go.Callee.builtin Go.Builtin.len, args := #[Go.Operand.tmp 66], argTypes := #[9] }, type := 3, pos := "law.go:92", after := #[{ on := 23, ground := Go.Ground.data }, { on := 20, ground := Go.Ground.guard }], guard := some (20, true) }) (v := ?vCA_151) rfl (by kernel_rfl) (by kernel_rfl) (by kernel_rfl) (fun _ _ _ h => h) (Or.inl ⟨by rfl, ?hCA_151⟩) ?rCA_151
          case hCA_151 => (intro wz; go_simp; try with_reducible rfl)
          simp only [Act.put, List.setIfInBounds_toArray, List.set_cons_zero, List.set_cons_succ]
          refine wpAny_take (i := 25) (oi := { dst := some 68, op := Go.Op.move (Go.Operand.tmp 1), type := 9, pos := "law.go:92", after := #[{ on := 20, ground := Go.Ground.guard }], guard := some (20, true) }) (v := ?vCA_152) rfl (by kernel_rfl) (by kernel_rfl) (by kernel_rfl) (fun _ _ _ h => h) (Or.inl ⟨by rfl, ?hCA_152⟩) ?rCA_152
          case hCA_152 => (intro wz; go_simp; try with_reducible rfl)
          simp only [Act.put, List.setIfInBounds_toArray, List.set_cons_zero, List.set_cons_succ]
          refine wpAny_take (i := 26) (oi := { dst := some 69, op := Go.Op.call { callee := Go.Callee.builtin Go.Builtin.len, args := #[Go.Operand.tmp 68], argTypes := #[9] }, type := 3, pos := "law.go:92", after := #[{ on := 25, ground := Go.Ground.data }, { on := 20, ground := Go.Ground.guard }], guard := some (20, true) }) (v := ?vCA_153) rfl (by kernel_rfl) (by kernel_rfl) (by kernel_rfl) (fun _ _ _ h => h) (Or.inl ⟨by rfl, ?hCA_153⟩) ?rCA_153
          case hCA_153 => (intro wz; go_simp; try with_reducible rfl)
          simp only [Act.put, List.setIfInBounds_toArray, List.set_cons_zero, List.set_cons_succ]
          refine wpAny_take (i := 27) (oi := { dst := some 70, op := Go.Op.binOp Go.BinOp.add 3 (Go.Operand.tmp 67) (Go.Operand.tmp 69) 3, type := 3, pos := "law.go:92", after := #[{ on := 24, ground := Go.Ground.data }, { on := 26, ground := Go.Ground.data }, { on := 20, ground := Go.Ground.guard }], guard := some (20, true) }) (v := ?vCA_154) rfl (by kernel_rfl) (by kernel_rfl) (by kernel_rfl) (fun _ _ _ h => h) (Or.inl ⟨by rfl, ?hCA_154⟩) ?rCA_154
          case hCA_154 => (intro wz; go_simp; try with_reducible rfl)
          simp only [Act.put, List.setIfInBounds_toArray, List.set_cons_zero, List.set_cons_succ]
          refine wpAny_take (i := 28) (oi := { dst := some 71, op := Go.Op.convert 3 32 (Go.Operand.tmp 70), type := 32, pos := "law.go:92", after := #[{ on := 27, ground := Go.Ground.data }, { on := 20, ground := Go.Ground.guard }], guard := some (20, true) }) (v := ?vCA_155) rfl (by kernel_rfl) (by kernel_rfl) (by kernel_rfl) (fun _ _ _ h => h) (Or.inl ⟨by rfl, ?hCA_155⟩) ?rCA_155
          case hCA_155 => (intro wz; go_simp; try with_reducible rfl)
          simp only [Act.put, List.setIfInBounds_toArray, List.set_cons_zero, List.set_cons_succ]
          refine wpAny_ready (rs := [22]) (by kernel_rfl) (by simp) ?_
          refine AllReady.cons (o := { dst := some 65, op := Go.Op.call { callee := Go.Callee.value (Go.Operand.func 15), args := #[Go.Operand.tmp 64], argTypes := #[22] }, type := 32, pos := "law.go:92", after := #[{ on := 21, ground := Go.Ground.data }, { on := 20, ground := Go.Ground.chain }, { on := 20, ground := Go.Ground.guard }], guard := some (20, true) }) rfl (fun K hK => ?_) AllReady.nil
          go_simp
          have hq := len_any w17 w.heap.size s2 N (HT w17 hk17).out.1 HNN.out
          refine hq.mono ?_
          clear hq
          rintro e w18 ⟨rfl, rfl⟩
          refine hK _ _ ?_
          clear hK K
          try simp only [Act.put, List.setIfInBounds_toArray, List.set_cons_zero, List.set_cons_succ]
          refine wpAny_take (i := 29) (oi := { dst := some 72, op := Go.Op.binOp Go.BinOp.eql 32 (Go.Operand.tmp 65) (Go.Operand.tmp 71) 32, type := 4, pos := "law.go:92", after := #[{ on := 22, ground := Go.Ground.data }, { on := 28, ground := Go.Ground.data }, { on := 20, ground := Go.Ground.guard }], guard := some (20, true) }) (v := ?vCA_156) rfl (by kernel_rfl) (by kernel_rfl) (by kernel_rfl) (fun _ _ _ h => h) (Or.inl ⟨by rfl, ?hCA_156⟩) ?rCA_156
          case hCA_156 => (intro wz; go_simp; try with_reducible rfl)
          simp only [Act.put, List.setIfInBounds_toArray, List.set_cons_zero, List.set_cons_succ]
          refine wpAny_take (i := 30) (oi := { dst := some 73, op := Go.Op.pick (Go.Operand.tmp 63) (Go.Operand.tmp 72) (Go.Operand.const (Go.Value.bool false)), type := 4, pos := "law.go:92", after := #[{ on := 20, ground := Go.Ground.data }, { on := 29, ground := Go.Ground.data }], guard := none }) (v := ?vCA_157) rfl (by kernel_rfl) (by kernel_rfl) (by kernel_rfl) (fun _ _ _ h => h) (Or.inl ⟨by rfl, ?hCA_157⟩) ?rCA_157
          case hCA_157 => (intro wz; go_simp; try with_reducible rfl)
          simp only [Act.put, List.setIfInBounds_toArray, List.set_cons_zero, List.set_cons_succ]
          refine wpAny_take (i := 31) (oi := { dst := some 4, op := Go.Op.assign (Go.Operand.tmp 73), type := 4, pos := "law.go:92", after := #[{ on := 30, ground := Go.Ground.data }, { on := 22, ground := Go.Ground.chain }, { on := 0, ground := Go.Ground.phase }, { on := 1, ground := Go.Ground.phase }, { on := 2, ground := Go.Ground.phase }, { on := 3, ground := Go.Ground.phase }, { on := 4, ground := Go.Ground.phase }, { on := 5, ground := Go.Ground.phase }, { on := 6, ground := Go.Ground.phase }, { on := 7, ground := Go.Ground.phase }, { on := 8, ground := Go.Ground.phase }, { on := 9, ground := Go.Ground.phase }, { on := 10, ground := Go.Ground.phase }, { on := 11, ground := Go.Ground.phase }, { on := 12, ground := Go.Ground.phase }, { on := 13, ground := Go.Ground.phase }, { on := 14, ground := Go.Ground.phase }, { on := 15, ground := Go.Ground.phase }, { on := 16, ground := Go.Ground.phase }, { on := 17, ground := Go.Ground.phase }, { on := 18, ground := Go.Ground.phase }, { on := 19, ground := Go.Ground.phase }, { on := 20, ground := Go.Ground.phase }, { on := 21, ground := Go.Ground.phase }, { on := 22, ground := Go.Ground.phase }, { on := 23, ground := Go.Ground.phase }, { on := 24, ground := Go.Ground.phase }, { on := 25, ground := Go.Ground.phase }, { on := 26, ground := Go.Ground.phase }, { on := 27, ground := Go.Ground.phase }, { on := 28, ground := Go.Ground.phase }, { on := 29, ground := Go.Ground.phase }, { on := 30, ground := Go.Ground.phase }], guard := none }) (v := ?vCA_158) rfl (by kernel_rfl) (by kernel_rfl) (by kernel_rfl) (fun _ _ _ h => h) (Or.inl ⟨by rfl, ?hCA_158⟩) ?rCA_158
          case hCA_158 => (intro wz; go_simp; try with_reducible rfl)
          simp only [Act.put, List.setIfInBounds_toArray, List.set_cons_zero, List.set_cons_succ]
          refine wpAny_done (by kernel_rfl) ?_ _
          have HF := Lib.hid (HT w17 hk17).out.2
          go_wp2_with fail
          go_ret
          exact ⟨rfl, HF.out.below'⟩
        · skip
          refine step_bytes3 (by rfl) (.tmp 58) 9 25 rfl 5 Tryd.underlying9 Tryd.underlying25 Tryd.underlying5 ab rfl ?_
          intro w15 c15 g15 hk15' hz15 hc15 hs15
          first
          | have hk15 := hk16.trans hk15'
          | have hk15 := hk14.trans hk15'
          refine hK _ _ ?_
          clear hK K
          try simp only [Act.put, List.setIfInBounds_toArray, List.set_cons_zero, List.set_cons_succ]
          refine wpAny_ready (rs := [12]) (by kernel_rfl) (by simp) ?_
          refine AllReady.cons (o := { dst := some 55, op := Go.Op.call { callee := Go.Callee.value (Go.Operand.func 12), args := #[Go.Operand.tmp 54], argTypes := #[22] }, type := 27, pos := "law.go:92", after := #[{ on := 11, ground := Go.Ground.data }, { on := 10, ground := Go.Ground.chain }, { on := 10, ground := Go.Ground.guard }], guard := some (10, true) }) rfl (fun K hK => ?_) AllReady.nil
          go_simp
          first
          | (have hq := told_at w15 w.heap.size s2 d2 (HT w15 hk15).out.1 (by rw [HN2.out]; omega) HD2.out
             refine hq.mono ?_
             clear hq
             rintro e w16 ⟨rfl, hk16'⟩
             have hk16 := hk15.trans hk16')
          | (have hq := told_at w14 w.heap.size s2 d2 (HT w14 hk14).out.1 (by rw [HN2.out]; omega) HD2.out
             refine hq.mono ?_
             clear hq
             rintro e w16 ⟨rfl, hk16'⟩
             have hk16 := hk14.trans hk16')
          refine hK _ _ ?_
          clear hK K
          try simp only [Act.put, List.setIfInBounds_toArray, List.set_cons_zero, List.set_cons_succ]
          refine wpAny_ready (rs := [17]) (by kernel_rfl) (by simp) ?_
          refine AllReady.cons (o := { dst := some 60, op := Go.Op.call { callee := Go.Callee.value (Go.Operand.func 13), args := #[Go.Operand.tmp 59], argTypes := #[25] }, type := 27, pos := "law.go:92", after := #[{ on := 16, ground := Go.Ground.data }, { on := 12, ground := Go.Ground.chain }, { on := 10, ground := Go.Ground.guard }], guard := some (10, true) }) rfl (fun K hK => ?_) AllReady.nil
          go_simp
          first
          | (have hq := of_at w15 ab.data.toList d2 (some ⟨g15, 0, none⟩) ab.size c15 (H0 w15 hk15).out hs15 hc15 (by intro ad h; cases h; exact hz15) (by rw [HABS.out]; omega) HDS2.out
             refine hq.mono ?_
             clear hq
             rintro e w17 ⟨rfl, hk17'⟩
             have hk17 := hk15.trans hk17')
          | (have hq := of_at w16 ab.data.toList d2 (some ⟨g15, 0, none⟩) ab.size c15 (H0 w16 hk16).out (hs15.keeps hk16' (fun _ _ => id)) hc15 (by intro ad h; cases h; exact Nat.lt_of_lt_of_le hz15 hk16'.size) (by rw [HABS.out]; omega) HDS2.out
             refine hq.mono ?_
             clear hq
             rintro e w17 ⟨rfl, hk17'⟩
             have hk17 := hk16.trans hk17')
          refine hK _ _ ?_
          clear hK K
          try simp only [Act.put, List.setIfInBounds_toArray, List.set_cons_zero, List.set_cons_succ]
          refine wpAny_take (i := 18) (oi := { dst := some 61, op := Go.Op.binOp Go.BinOp.eql 27 (Go.Operand.tmp 55) (Go.Operand.tmp 60) 27, type := 4, pos := "law.go:92", after := #[{ on := 12, ground := Go.Ground.data }, { on := 17, ground := Go.Ground.data }, { on := 10, ground := Go.Ground.guard }], guard := some (10, true) }) (v := ?vCA_159) rfl (by kernel_rfl) (by kernel_rfl) (by kernel_rfl) (fun _ _ _ h => h) (Or.inl ⟨by rfl, ?hCA_159⟩) ?rCA_159
          case hCA_159 => (intro wz; go_simp; try with_reducible rfl)
          simp only [Act.put, List.setIfInBounds_toArray, List.set_cons_zero, List.set_cons_succ]
          refine wpAny_take (i := 19) (oi := { dst := some 62, op := Go.Op.pick (Go.Operand.tmp 53) (Go.Operand.tmp 61) (Go.Operand.const (Go.Value.bool false)), type := 4, pos := "law.go:92", after := #[{ on := 10, ground := Go.Ground.data }, { on := 18, ground := Go.Ground.data }], guard := none }) (v := ?vCA_160) rfl (by kernel_rfl) (by kernel_rfl) (by kernel_rfl) (fun _ _ _ h => h) (Or.inl ⟨by rfl, ?hCA_160⟩) ?rCA_160
          case hCA_160 => (intro wz; go_simp; try with_reducible rfl)
          simp only [Act.put, List.setIfInBounds_toArray, List.set_cons_zero, List.set_cons_succ]
          refine wpAny_take (i := 20) (oi := { dst := some 63, op := Go.Op.move (Go.Operand.tmp 62), type := 4, pos := "law.go:92", after := #[{ on := 19, ground := Go.Ground.data }, { on := 17, ground := Go.Ground.chain }], guard := none }) (v := ?vCA_161) rfl (by kernel_rfl) (by kernel_rfl) (by kernel_rfl) (fun _ _ _ h => h) (Or.inl ⟨by rfl, ?hCA_161⟩) ?rCA_161
          case hCA_161 => (intro wz; go_simp; try with_reducible rfl)
          simp only [Act.put, List.setIfInBounds_toArray, List.set_cons_zero, List.set_cons_succ]
          refine wpAny_take (i := 21) (oi := { dst := some 64, op := Go.Op.move (Go.Operand.tmp 5), type := 22, pos := "law.go:92", after := #[{ on := 20, ground := Go.Ground.guard }], guard := some (20, true) }) (v := ?vCA_162) rfl (by kernel_rfl) (by kernel_rfl) (by kernel_rfl) (fun _ _ _ h => h) (Or.inl ⟨by rfl, ?hCA_162⟩) ?rCA_162
          case hCA_162 => (intro wz; go_simp; try with_reducible rfl)
          simp only [Act.put, List.setIfInBounds_toArray, List.set_cons_zero, List.set_cons_succ]
          refine wpAny_take (i := 23) (oi := { dst := some 66, op := Go.Op.move (Go.Operand.tmp 0), type := 9, pos := "law.go:92", after := #[{ on := 20, ground := Go.Ground.guard }], guard := some (20, true) }) (v := ?vCA_163) rfl (by kernel_rfl) (by kernel_rfl) (by kernel_rfl) (fun _ _ _ h => h) (Or.inl ⟨by rfl, ?hCA_163⟩) ?rCA_163
          case hCA_163 => (intro wz; go_simp; try with_reducible rfl)
          simp only [Act.put, List.setIfInBounds_toArray, List.set_cons_zero, List.set_cons_succ]
          refine wpAny_take (i := 24) (oi := { dst := some 67, op := Go.Op.call { callee := Go.Callee.builtin Go.Builtin.len, args := #[Go.Operand.tmp 66], argTypes := #[9] }, type := 3, pos := "law.go:92", after := #[{ on := 23, ground := Go.Ground.data }, { on := 20, ground := Go.Ground.guard }], guard := some (20, true) }) (v := ?vCA_164) rfl (by kernel_rfl) (by kernel_rfl) (by kernel_rfl) (fun _ _ _ h => h) (Or.inl ⟨by rfl, ?hCA_164⟩) ?rCA_164
          case hCA_164 => (intro wz; go_simp; try with_reducible rfl)
          simp only [Act.put, List.setIfInBounds_toArray, List.set_cons_zero, List.set_cons_succ]
          refine wpAny_take (i := 25) (oi := { dst := some 68, op := Go.Op.move (Go.Operand.tmp 1), type := 9, pos := "law.go:92", after := #[{ on := 20, ground := Go.Ground.guard }], guard := some (20, true) }) (v := ?vCA_165) rfl (by kernel_rfl) (by kernel_rfl) (by kernel_rfl) (fun _ _ _ h => h) (Or.inl ⟨by rfl, ?hCA_165⟩) ?rCA_165
          case hCA_165 => (intro wz; go_simp; try with_reducible rfl)
          simp only [Act.put, List.setIfInBounds_toArray, List.set_cons_zero, List.set_cons_succ]
          refine wpAny_take (i := 26) (oi := { dst := some 69, op := Go.Op.call { callee := Go.Callee.builtin Go.Builtin.len, args := #[Go.Operand.tmp 68], argTypes := #[9] }, type := 3, pos := "law.go:92", after := #[{ on := 25, ground := Go.Ground.data }, { on := 20, ground := Go.Ground.guard }], guard := some (20, true) }) (v := ?vCA_166) rfl (by kernel_rfl) (by kernel_rfl) (by kernel_rfl) (fun _ _ _ h => h) (Or.inl ⟨by rfl, ?hCA_166⟩) ?rCA_166
          case hCA_166 => (intro wz; go_simp; try with_reducible rfl)
          simp only [Act.put, List.setIfInBounds_toArray, List.set_cons_zero, List.set_cons_succ]
          refine wpAny_take (i := 27) (oi := { dst := some 70, op := Go.Op.binOp Go.BinOp.add 3 (Go.Operand.tmp 67) (Go.Operand.tmp 69) 3, type := 3, pos := "law.go:92", after := #[{ on := 24, ground := Go.Ground.data }, { on := 26, ground := Go.Ground.data }, { on := 20, ground := Go.Ground.guard }], guard := some (20, true) }) (v := ?vCA_167) rfl (by kernel_rfl) (by kernel_rfl) (by kernel_rfl) (fun _ _ _ h => h) (Or.inl ⟨by rfl, ?hCA_167⟩) ?rCA_167
          case hCA_167 => (intro wz; go_simp; try with_reducible rfl)
          simp only [Act.put, List.setIfInBounds_toArray, List.set_cons_zero, List.set_cons_succ]
          refine wpAny_take (i := 28) (oi := { dst := some 71, op := Go.Op.convert 3 32 (Go.Operand.tmp 70), type := 32, pos := "law.go:92", after := #[{ on := 27, ground := Go.Ground.data }, { on := 20, ground := Go.Ground.guard }], guard := some (20, true) }) (v := ?vCA_168) rfl (by kernel_rfl) (by kernel_rfl) (by kernel_rfl) (fun _ _ _ h => h) (Or.inl ⟨by rfl, ?hCA_168⟩) ?rCA_168
          case hCA_168 => (intro wz; go_simp; try with_reducible rfl)
          simp only [Act.put, List.setIfInBounds_toArray, List.set_cons_zero, List.set_cons_succ]
          refine wpAny_ready (rs := [22]) (by kernel_rfl) (by simp) ?_
          refine AllReady.cons (o := { dst := some 65, op := Go.Op.call { callee := Go.Callee.value (Go.Operand.func 15), args := #[Go.Operand.tmp 64], argTypes := #[22] }, type := 32, pos := "law.go:92", after := #[{ on := 21, ground := Go.Ground.data }, { on := 20, ground := Go.Ground.chain }, { on := 20, ground := Go.Ground.guard }], guard := some (20, true) }) rfl (fun K hK => ?_) AllReady.nil
          go_simp
          have hq := len_any w17 w.heap.size s2 N (HT w17 hk17).out.1 HNN.out
          refine hq.mono ?_
          clear hq
          rintro e w18 ⟨rfl, rfl⟩
          refine hK _ _ ?_
          clear hK K
          try simp only [Act.put, List.setIfInBounds_toArray, List.set_cons_zero, List.set_cons_succ]
          refine wpAny_take (i := 29) (oi := { dst := some 72, op := Go.Op.binOp Go.BinOp.eql 32 (Go.Operand.tmp 65) (Go.Operand.tmp 71) 32, type := 4, pos := "law.go:92", after := #[{ on := 22, ground := Go.Ground.data }, { on := 28, ground := Go.Ground.data }, { on := 20, ground := Go.Ground.guard }], guard := some (20, true) }) (v := ?vCA_169) rfl (by kernel_rfl) (by kernel_rfl) (by kernel_rfl) (fun _ _ _ h => h) (Or.inl ⟨by rfl, ?hCA_169⟩) ?rCA_169
          case hCA_169 => (intro wz; go_simp; try with_reducible rfl)
          simp only [Act.put, List.setIfInBounds_toArray, List.set_cons_zero, List.set_cons_succ]
          refine wpAny_take (i := 30) (oi := { dst := some 73, op := Go.Op.pick (Go.Operand.tmp 63) (Go.Operand.tmp 72) (Go.Operand.const (Go.Value.bool false)), type := 4, pos := "law.go:92", after := #[{ on := 20, ground := Go.Ground.data }, { on := 29, ground := Go.Ground.data }], guard := none }) (v := ?vCA_170) rfl (by kernel_rfl) (by kernel_rfl) (by kernel_rfl) (fun _ _ _ h => h) (Or.inl ⟨by rfl, ?hCA_170⟩) ?rCA_170
          case hCA_170 => (intro wz; go_simp; try with_reducible rfl)
          simp only [Act.put, List.setIfInBounds_toArray, List.set_cons_zero, List.set_cons_succ]
          refine wpAny_take (i := 31) (oi := { dst := some 4, op := Go.Op.assign (Go.Operand.tmp 73), type := 4, pos := "law.go:92", after := #[{ on := 30, ground := Go.Ground.data }, { on := 22, ground := Go.Ground.chain }, { on := 0, ground := Go.Ground.phase }, { on := 1, ground := Go.Ground.phase }, { on := 2, ground := Go.Ground.phase }, { on := 3, ground := Go.Ground.phase }, { on := 4, ground := Go.Ground.phase }, { on := 5, ground := Go.Ground.phase }, { on := 6, ground := Go.Ground.phase }, { on := 7, ground := Go.Ground.phase }, { on := 8, ground := Go.Ground.phase }, { on := 9, ground := Go.Ground.phase }, { on := 10, ground := Go.Ground.phase }, { on := 11, ground := Go.Ground.phase }, { on := 12, ground := Go.Ground.phase }, { on := 13, ground := Go.Ground.phase }, { on := 14, ground := Go.Ground.phase }, { on := 15, ground := Go.Ground.phase }, { on := 16, ground := Go.Ground.phase }, { on := 17, ground := Go.Ground.phase }, { on := 18, ground := Go.Ground.phase }, { on := 19, ground := Go.Ground.phase }, { on := 20, ground := Go.Ground.phase }, { on := 21, ground := Go.Ground.phase }, { on := 22, ground := Go.Ground.phase }, { on := 23, ground := Go.Ground.phase }, { on := 24, ground := Go.Ground.phase }, { on := 25, ground := Go.Ground.phase }, { on := 26, ground := Go.Ground.phase }, { on := 27, ground := Go.Ground.phase }, { on := 28, ground := Go.Ground.phase }, { on := 29, ground := Go.Ground.phase }, { on := 30, ground := Go.Ground.phase }], guard := none }) (v := ?vCA_171) rfl (by kernel_rfl) (by kernel_rfl) (by kernel_rfl) (fun _ _ _ h => h) (Or.inl ⟨by rfl, ?hCA_171⟩) ?rCA_171
          case hCA_171 => (intro wz; go_simp; try with_reducible rfl)
          simp only [Act.put, List.setIfInBounds_toArray, List.set_cons_zero, List.set_cons_succ]
          refine wpAny_done (by kernel_rfl) ?_ _
          have HF := Lib.hid (HT w17 hk17).out.2
          go_wp2_with fail
          go_ret
          exact ⟨rfl, HF.out.below'⟩
      · skip
        go_simp
        have hq := of_at w13 a.data.toList d (some ⟨g13, 0, none⟩) a.size c13 (H0 w13 hk13).out hs13 hc13 (by intro ad h; cases h; exact hz13) (by omega) HDS.out
        refine hq.mono ?_
        clear hq
        rintro e w14 ⟨rfl, hk14'⟩
        have hk14 := hk13.trans hk14'
        refine hK _ _ ?_
        clear hK K
        try simp only [Act.put, List.setIfInBounds_toArray, List.set_cons_zero, List.set_cons_succ]
        refine wpAny_ready (rs := [4]) (by kernel_rfl) (by simp) ?_
        refine AllReady.cons (o := { dst := some 47, op := Go.Op.load 27 (Go.Operand.tmp 6), type := 27, pos := "law.go:92", after := #[{ on := 3, ground := Go.Ground.guard }], guard := some (3, true) }) rfl (fun K hK => ?_) AllReady.nil
        refine step_load27 (by rfl) (.tmp 6) rfl w6.heap.size rfl d HLD (by first | exact HB1 _ (Keeps.refl _ _).drew | exact HB1 _ hk13 | exact HB1 _ hk14) ?_
        refine hK _ _ ?_
        clear hK K
        try simp only [Act.put, List.setIfInBounds_toArray, List.set_cons_zero, List.set_cons_succ]
        refine wpAny_take (i := 8) (oi := { dst := some 51, op := Go.Op.binOp Go.BinOp.eql 27 (Go.Operand.tmp 47) (Go.Operand.tmp 50) 27, type := 4, pos := "law.go:92", after := #[{ on := 4, ground := Go.Ground.data }, { on := 7, ground := Go.Ground.data }, { on := 3, ground := Go.Ground.guard }], guard := some (3, true) }) (v := ?vCA_172) rfl (by kernel_rfl) (by kernel_rfl) (by kernel_rfl) (fun _ _ _ h => h) (Or.inl ⟨by rfl, ?hCA_172⟩) ?rCA_172
        case hCA_172 => (intro wz; go_simp; try with_reducible rfl)
        simp only [Act.put, List.setIfInBounds_toArray, List.set_cons_zero, List.set_cons_succ]
        refine wpAny_take (i := 9) (oi := { dst := some 52, op := Go.Op.pick (Go.Operand.tmp 46) (Go.Operand.tmp 51) (Go.Operand.const (Go.Value.bool false)), type := 4, pos := "law.go:92", after := #[{ on := 3, ground := Go.Ground.data }, { on := 8, ground := Go.Ground.data }], guard := none }) (v := ?vCA_173) rfl (by kernel_rfl) (by kernel_rfl) (by kernel_rfl) (fun _ _ _ h => h) (Or.inl ⟨by rfl, ?hCA_173⟩) ?rCA_173
        case hCA_173 => (intro wz; go_simp; try with_reducible rfl)
        simp only [Act.put, List.setIfInBounds_toArray, List.set_cons_zero, List.set_cons_succ]
        refine wpAny_take (i := 10) (oi := { dst := some 53, op := Go.Op.move (Go.Operand.tmp 52), type := 4, pos := "law.go:92", after := #[{ on := 9, ground := Go.Ground.data }, { on := 7, ground := Go.Ground.chain }], guard := none }) (v := ?vCA_174) rfl (by kernel_rfl) (by kernel_rfl) (by kernel_rfl) (fun _ _ _ h => h) (Or.inl ⟨by rfl, ?hCA_174⟩) ?rCA_174
        case hCA_174 => (intro wz; go_simp; try with_reducible rfl)
        simp only [Act.put, List.setIfInBounds_toArray, List.set_cons_zero, List.set_cons_succ]
        refine wpAny_take (i := 11) (oi := { dst := some 54, op := Go.Op.move (Go.Operand.tmp 5), type := 22, pos := "law.go:92", after := #[{ on := 10, ground := Go.Ground.guard }], guard := some (10, true) }) (v := ?vCA_175) rfl (by kernel_rfl) (by kernel_rfl) (by kernel_rfl) (fun _ _ _ h => h) (Or.inl ⟨by rfl, ?hCA_175⟩) ?rCA_175
        case hCA_175 => (intro wz; go_simp; try with_reducible rfl)
        simp only [Act.put, List.setIfInBounds_toArray, List.set_cons_zero, List.set_cons_succ]
        refine wpAny_take (i := 13) (oi := { dst := some 56, op := Go.Op.move (Go.Operand.tmp 0), type := 9, pos := "law.go:92", after := #[{ on := 10, ground := Go.Ground.guard }], guard := some (10, true) }) (v := ?vCA_176) rfl (by kernel_rfl) (by kernel_rfl) (by kernel_rfl) (fun _ _ _ h => h) (Or.inl ⟨by rfl, ?hCA_176⟩) ?rCA_176
        case hCA_176 => (intro wz; go_simp; try with_reducible rfl)
        simp only [Act.put, List.setIfInBounds_toArray, List.set_cons_zero, List.set_cons_succ]
        refine wpAny_take (i := 14) (oi := { dst := some 57, op := Go.Op.move (Go.Operand.tmp 1), type := 9, pos := "law.go:92", after := #[{ on := 10, ground := Go.Ground.guard }], guard := some (10, true) }) (v := ?vCA_177) rfl (by kernel_rfl) (by kernel_rfl) (by kernel_rfl) (fun _ _ _ h => h) (Or.inl ⟨by rfl, ?hCA_177⟩) ?rCA_177
        case hCA_177 => (intro wz; go_simp; try with_reducible rfl)
        simp only [Act.put, List.setIfInBounds_toArray, List.set_cons_zero, List.set_cons_succ]
        refine wpAny_take (i := 15) (oi := { dst := some 58, op := Go.Op.binOp Go.BinOp.add 9 (Go.Operand.tmp 56) (Go.Operand.tmp 57) 9, type := 9, pos := "law.go:92", after := #[{ on := 13, ground := Go.Ground.data }, { on := 14, ground := Go.Ground.data }, { on := 10, ground := Go.Ground.guard }], guard := some (10, true) }) (v := ?vCA_178) rfl (by kernel_rfl) (by kernel_rfl) (by kernel_rfl) (fun _ _ _ h => h) (Or.inl ⟨by rfl, ?hCA_178⟩) ?rCA_178
        case hCA_178 => (intro wz; go_simp; try with_reducible rfl)
        simp only [Act.put, List.setIfInBounds_toArray, List.set_cons_zero, List.set_cons_succ]
        refine wpAny_ready (rs := [12, 16]) (by kernel_rfl) (by simp) ?_
        refine AllReady.cons (o := { dst := some 55, op := Go.Op.call { callee := Go.Callee.value (Go.Operand.func 12), args := #[Go.Operand.tmp 54], argTypes := #[22] }, type := 27, pos := "law.go:92", after := #[{ on := 11, ground := Go.Ground.data }, { on := 10, ground := Go.Ground.chain }, { on := 10, ground := Go.Ground.guard }], guard := some (10, true) }) rfl (fun K hK => ?_) (AllReady.cons (o := { dst := some 59, op := Go.Op.convert 9 25 (Go.Operand.tmp 58), type := 25, pos := "law.go:92", after := #[{ on := 15, ground := Go.Ground.data }, { on := 10, ground := Go.Ground.guard }], guard := some (10, true) }) rfl (fun K hK => ?_) (AllReady.nil))
        · skip
          go_simp
          first
          | (have hq := told_at w15 w.heap.size s2 d2 (HT w15 hk15).out.1 (by rw [HN2.out]; omega) HD2.out
             refine hq.mono ?_
             clear hq
             rintro e w16 ⟨rfl, hk16'⟩
             have hk16 := hk15.trans hk16')
          | (have hq := told_at w14 w.heap.size s2 d2 (HT w14 hk14).out.1 (by rw [HN2.out]; omega) HD2.out
             refine hq.mono ?_
             clear hq
             rintro e w16 ⟨rfl, hk16'⟩
             have hk16 := hk14.trans hk16')
          refine hK _ _ ?_
          clear hK K
          try simp only [Act.put, List.setIfInBounds_toArray, List.set_cons_zero, List.set_cons_succ]
          refine wpAny_ready (rs := [16]) (by kernel_rfl) (by simp) ?_
          refine AllReady.cons (o := { dst := some 59, op := Go.Op.convert 9 25 (Go.Operand.tmp 58), type := 25, pos := "law.go:92", after := #[{ on := 15, ground := Go.Ground.data }, { on := 10, ground := Go.Ground.guard }], guard := some (10, true) }) rfl (fun K hK => ?_) AllReady.nil
          refine step_bytes3 (by rfl) (.tmp 58) 9 25 rfl 5 Tryd.underlying9 Tryd.underlying25 Tryd.underlying5 ab rfl ?_
          intro w15 c15 g15 hk15' hz15 hc15 hs15
          first
          | have hk15 := hk16.trans hk15'
          | have hk15 := hk14.trans hk15'
          refine hK _ _ ?_
          clear hK K
          try simp only [Act.put, List.setIfInBounds_toArray, List.set_cons_zero, List.set_cons_succ]
          refine wpAny_ready (rs := [17]) (by kernel_rfl) (by simp) ?_
          refine AllReady.cons (o := { dst := some 60, op := Go.Op.call { callee := Go.Callee.value (Go.Operand.func 13), args := #[Go.Operand.tmp 59], argTypes := #[25] }, type := 27, pos := "law.go:92", after := #[{ on := 16, ground := Go.Ground.data }, { on := 12, ground := Go.Ground.chain }, { on := 10, ground := Go.Ground.guard }], guard := some (10, true) }) rfl (fun K hK => ?_) AllReady.nil
          go_simp
          first
          | (have hq := of_at w15 ab.data.toList d2 (some ⟨g15, 0, none⟩) ab.size c15 (H0 w15 hk15).out hs15 hc15 (by intro ad h; cases h; exact hz15) (by rw [HABS.out]; omega) HDS2.out
             refine hq.mono ?_
             clear hq
             rintro e w17 ⟨rfl, hk17'⟩
             have hk17 := hk15.trans hk17')
          | (have hq := of_at w16 ab.data.toList d2 (some ⟨g15, 0, none⟩) ab.size c15 (H0 w16 hk16).out (hs15.keeps hk16' (fun _ _ => id)) hc15 (by intro ad h; cases h; exact Nat.lt_of_lt_of_le hz15 hk16'.size) (by rw [HABS.out]; omega) HDS2.out
             refine hq.mono ?_
             clear hq
             rintro e w17 ⟨rfl, hk17'⟩
             have hk17 := hk16.trans hk17')
          refine hK _ _ ?_
          clear hK K
          try simp only [Act.put, List.setIfInBounds_toArray, List.set_cons_zero, List.set_cons_succ]
          refine wpAny_take (i := 18) (oi := { dst := some 61, op := Go.Op.binOp Go.BinOp.eql 27 (Go.Operand.tmp 55) (Go.Operand.tmp 60) 27, type := 4, pos := "law.go:92", after := #[{ on := 12, ground := Go.Ground.data }, { on := 17, ground := Go.Ground.data }, { on := 10, ground := Go.Ground.guard }], guard := some (10, true) }) (v := ?vCA_179) rfl (by kernel_rfl) (by kernel_rfl) (by kernel_rfl) (fun _ _ _ h => h) (Or.inl ⟨by rfl, ?hCA_179⟩) ?rCA_179
          case hCA_179 => (intro wz; go_simp; try with_reducible rfl)
          simp only [Act.put, List.setIfInBounds_toArray, List.set_cons_zero, List.set_cons_succ]
          refine wpAny_take (i := 19) (oi := { dst := some 62, op := Go.Op.pick (Go.Operand.tmp 53) (Go.Operand.tmp 61) (Go.Operand.const (Go.Value.bool false)), type := 4, pos := "law.go:92", after := #[{ on := 10, ground := Go.Ground.data }, { on := 18, ground := Go.Ground.data }], guard := none }) (v := ?vCA_180) rfl (by kernel_rfl) (by kernel_rfl) (by kernel_rfl) (fun _ _ _ h => h) (Or.inl ⟨by rfl, ?hCA_180⟩) ?rCA_180
          case hCA_180 => (intro wz; go_simp; try with_reducible rfl)
          simp only [Act.put, List.setIfInBounds_toArray, List.set_cons_zero, List.set_cons_succ]
          refine wpAny_take (i := 20) (oi := { dst := some 63, op := Go.Op.move (Go.Operand.tmp 62), type := 4, pos := "law.go:92", after := #[{ on := 19, ground := Go.Ground.data }, { on := 17, ground := Go.Ground.chain }], guard := none }) (v := ?vCA_181) rfl (by kernel_rfl) (by kernel_rfl) (by kernel_rfl) (fun _ _ _ h => h) (Or.inl ⟨by rfl, ?hCA_181⟩) ?rCA_181
          case hCA_181 => (intro wz; go_simp; try with_reducible rfl)
          simp only [Act.put, List.setIfInBounds_toArray, List.set_cons_zero, List.set_cons_succ]
          refine wpAny_take (i := 21) (oi := { dst := some 64, op := Go.Op.move (Go.Operand.tmp 5), type := 22, pos := "law.go:92", after := #[{ on := 20, ground := Go.Ground.guard }], guard := some (20, true) }) (v := ?vCA_182) rfl (by kernel_rfl) (by kernel_rfl) (by kernel_rfl) (fun _ _ _ h => h) (Or.inl ⟨by rfl, ?hCA_182⟩) ?rCA_182
          case hCA_182 => (intro wz; go_simp; try with_reducible rfl)
          simp only [Act.put, List.setIfInBounds_toArray, List.set_cons_zero, List.set_cons_succ]
          refine wpAny_take (i := 23) (oi := { dst := some 66, op := Go.Op.move (Go.Operand.tmp 0), type := 9, pos := "law.go:92", after := #[{ on := 20, ground := Go.Ground.guard }], guard := some (20, true) }) (v := ?vCA_183) rfl (by kernel_rfl) (by kernel_rfl) (by kernel_rfl) (fun _ _ _ h => h) (Or.inl ⟨by rfl, ?hCA_183⟩) ?rCA_183
          case hCA_183 => (intro wz; go_simp; try with_reducible rfl)
          simp only [Act.put, List.setIfInBounds_toArray, List.set_cons_zero, List.set_cons_succ]
          refine wpAny_take (i := 24) (oi := { dst := some 67, op := Go.Op.call { callee := Go.Callee.builtin Go.Builtin.len, args := #[Go.Operand.tmp 66], argTypes := #[9] }, type := 3, pos := "law.go:92", after := #[{ on := 23, ground := Go.Ground.data }, { on := 20, ground := Go.Ground.guard }], guard := some (20, true) }) (v := ?vCA_184) rfl (by kernel_rfl) (by kernel_rfl) (by kernel_rfl) (fun _ _ _ h => h) (Or.inl ⟨by rfl, ?hCA_184⟩) ?rCA_184
          case hCA_184 => (intro wz; go_simp; try with_reducible rfl)
          simp only [Act.put, List.setIfInBounds_toArray, List.set_cons_zero, List.set_cons_succ]
          refine wpAny_take (i := 25) (oi := { dst := some 68, op := Go.Op.move (Go.Operand.tmp 1), type := 9, pos := "law.go:92", after := #[{ on := 20, ground := Go.Ground.guard }], guard := some (20, true) }) (v := ?vCA_185) rfl (by kernel_rfl) (by kernel_rfl) (by kernel_rfl) (fun _ _ _ h => h) (Or.inl ⟨by rfl, ?hCA_185⟩) ?rCA_185
          case hCA_185 => (intro wz; go_simp; try with_reducible rfl)
          simp only [Act.put, List.setIfInBounds_toArray, List.set_cons_zero, List.set_cons_succ]
          refine wpAny_take (i := 26) (oi := { dst := some 69, op := Go.Op.call { callee := Go.Callee.builtin Go.Builtin.len, args := #[Go.Operand.tmp 68], argTypes := #[9] }, type := 3, pos := "law.go:92", after := #[{ on := 25, ground := Go.Ground.data }, { on := 20, ground := Go.Ground.guard }], guard := some (20, true) }) (v := ?vCA_186) rfl (by kernel_rfl) (by kernel_rfl) (by kernel_rfl) (fun _ _ _ h => h) (Or.inl ⟨by rfl, ?hCA_186⟩) ?rCA_186
          case hCA_186 => (intro wz; go_simp; try with_reducible rfl)
          simp only [Act.put, List.setIfInBounds_toArray, List.set_cons_zero, List.set_cons_succ]
          refine wpAny_take (i := 27) (oi := { dst := some 70, op := Go.Op.binOp Go.BinOp.add 3 (Go.Operand.tmp 67) (Go.Operand.tmp 69) 3, type := 3, pos := "law.go:92", after := #[{ on := 24, ground := Go.Ground.data }, { on := 26, ground := Go.Ground.data }, { on := 20, ground := Go.Ground.guard }], guard := some (20, true) }) (v := ?vCA_187) rfl (by kernel_rfl) (by kernel_rfl) (by kernel_rfl) (fun _ _ _ h => h) (Or.inl ⟨by rfl, ?hCA_187⟩) ?rCA_187
          case hCA_187 => (intro wz; go_simp; try with_reducible rfl)
          simp only [Act.put, List.setIfInBounds_toArray, List.set_cons_zero, List.set_cons_succ]
          refine wpAny_take (i := 28) (oi := { dst := some 71, op := Go.Op.convert 3 32 (Go.Operand.tmp 70), type := 32, pos := "law.go:92", after := #[{ on := 27, ground := Go.Ground.data }, { on := 20, ground := Go.Ground.guard }], guard := some (20, true) }) (v := ?vCA_188) rfl (by kernel_rfl) (by kernel_rfl) (by kernel_rfl) (fun _ _ _ h => h) (Or.inl ⟨by rfl, ?hCA_188⟩) ?rCA_188
          case hCA_188 => (intro wz; go_simp; try with_reducible rfl)
          simp only [Act.put, List.setIfInBounds_toArray, List.set_cons_zero, List.set_cons_succ]
          refine wpAny_ready (rs := [22]) (by kernel_rfl) (by simp) ?_
          refine AllReady.cons (o := { dst := some 65, op := Go.Op.call { callee := Go.Callee.value (Go.Operand.func 15), args := #[Go.Operand.tmp 64], argTypes := #[22] }, type := 32, pos := "law.go:92", after := #[{ on := 21, ground := Go.Ground.data }, { on := 20, ground := Go.Ground.chain }, { on := 20, ground := Go.Ground.guard }], guard := some (20, true) }) rfl (fun K hK => ?_) AllReady.nil
          go_simp
          have hq := len_any w17 w.heap.size s2 N (HT w17 hk17).out.1 HNN.out
          refine hq.mono ?_
          clear hq
          rintro e w18 ⟨rfl, rfl⟩
          refine hK _ _ ?_
          clear hK K
          try simp only [Act.put, List.setIfInBounds_toArray, List.set_cons_zero, List.set_cons_succ]
          refine wpAny_take (i := 29) (oi := { dst := some 72, op := Go.Op.binOp Go.BinOp.eql 32 (Go.Operand.tmp 65) (Go.Operand.tmp 71) 32, type := 4, pos := "law.go:92", after := #[{ on := 22, ground := Go.Ground.data }, { on := 28, ground := Go.Ground.data }, { on := 20, ground := Go.Ground.guard }], guard := some (20, true) }) (v := ?vCA_189) rfl (by kernel_rfl) (by kernel_rfl) (by kernel_rfl) (fun _ _ _ h => h) (Or.inl ⟨by rfl, ?hCA_189⟩) ?rCA_189
          case hCA_189 => (intro wz; go_simp; try with_reducible rfl)
          simp only [Act.put, List.setIfInBounds_toArray, List.set_cons_zero, List.set_cons_succ]
          refine wpAny_take (i := 30) (oi := { dst := some 73, op := Go.Op.pick (Go.Operand.tmp 63) (Go.Operand.tmp 72) (Go.Operand.const (Go.Value.bool false)), type := 4, pos := "law.go:92", after := #[{ on := 20, ground := Go.Ground.data }, { on := 29, ground := Go.Ground.data }], guard := none }) (v := ?vCA_190) rfl (by kernel_rfl) (by kernel_rfl) (by kernel_rfl) (fun _ _ _ h => h) (Or.inl ⟨by rfl, ?hCA_190⟩) ?rCA_190
          case hCA_190 => (intro wz; go_simp; try with_reducible rfl)
          simp only [Act.put, List.setIfInBounds_toArray, List.set_cons_zero, List.set_cons_succ]
          refine wpAny_take (i := 31) (oi := { dst := some 4, op := Go.Op.assign (Go.Operand.tmp 73), type := 4, pos := "law.go:92", after := #[{ on := 30, ground := Go.Ground.data }, { on := 22, ground := Go.Ground.chain }, { on := 0, ground := Go.Ground.phase }, { on := 1, ground := Go.Ground.phase }, { on := 2, ground := Go.Ground.phase }, { on := 3, ground := Go.Ground.phase }, { on := 4, ground := Go.Ground.phase }, { on := 5, ground := Go.Ground.phase }, { on := 6, ground := Go.Ground.phase }, { on := 7, ground := Go.Ground.phase }, { on := 8, ground := Go.Ground.phase }, { on := 9, ground := Go.Ground.phase }, { on := 10, ground := Go.Ground.phase }, { on := 11, ground := Go.Ground.phase }, { on := 12, ground := Go.Ground.phase }, { on := 13, ground := Go.Ground.phase }, { on := 14, ground := Go.Ground.phase }, { on := 15, ground := Go.Ground.phase }, { on := 16, ground := Go.Ground.phase }, { on := 17, ground := Go.Ground.phase }, { on := 18, ground := Go.Ground.phase }, { on := 19, ground := Go.Ground.phase }, { on := 20, ground := Go.Ground.phase }, { on := 21, ground := Go.Ground.phase }, { on := 22, ground := Go.Ground.phase }, { on := 23, ground := Go.Ground.phase }, { on := 24, ground := Go.Ground.phase }, { on := 25, ground := Go.Ground.phase }, { on := 26, ground := Go.Ground.phase }, { on := 27, ground := Go.Ground.phase }, { on := 28, ground := Go.Ground.phase }, { on := 29, ground := Go.Ground.phase }, { on := 30, ground := Go.Ground.phase }], guard := none }) (v := ?vCA_191) rfl (by kernel_rfl) (by kernel_rfl) (by kernel_rfl) (fun _ _ _ h => h) (Or.inl ⟨by rfl, ?hCA_191⟩) ?rCA_191
          case hCA_191 => (intro wz; go_simp; try with_reducible rfl)
          simp only [Act.put, List.setIfInBounds_toArray, List.set_cons_zero, List.set_cons_succ]
          refine wpAny_done (by kernel_rfl) ?_ _
          have HF := Lib.hid (HT w17 hk17).out.2
          go_wp2_with fail
          go_ret
          exact ⟨rfl, HF.out.below'⟩
        · skip
          refine step_bytes3 (by rfl) (.tmp 58) 9 25 rfl 5 Tryd.underlying9 Tryd.underlying25 Tryd.underlying5 ab rfl ?_
          intro w15 c15 g15 hk15' hz15 hc15 hs15
          first
          | have hk15 := hk16.trans hk15'
          | have hk15 := hk14.trans hk15'
          refine hK _ _ ?_
          clear hK K
          try simp only [Act.put, List.setIfInBounds_toArray, List.set_cons_zero, List.set_cons_succ]
          refine wpAny_ready (rs := [12]) (by kernel_rfl) (by simp) ?_
          refine AllReady.cons (o := { dst := some 55, op := Go.Op.call { callee := Go.Callee.value (Go.Operand.func 12), args := #[Go.Operand.tmp 54], argTypes := #[22] }, type := 27, pos := "law.go:92", after := #[{ on := 11, ground := Go.Ground.data }, { on := 10, ground := Go.Ground.chain }, { on := 10, ground := Go.Ground.guard }], guard := some (10, true) }) rfl (fun K hK => ?_) AllReady.nil
          go_simp
          first
          | (have hq := told_at w15 w.heap.size s2 d2 (HT w15 hk15).out.1 (by rw [HN2.out]; omega) HD2.out
             refine hq.mono ?_
             clear hq
             rintro e w16 ⟨rfl, hk16'⟩
             have hk16 := hk15.trans hk16')
          | (have hq := told_at w14 w.heap.size s2 d2 (HT w14 hk14).out.1 (by rw [HN2.out]; omega) HD2.out
             refine hq.mono ?_
             clear hq
             rintro e w16 ⟨rfl, hk16'⟩
             have hk16 := hk14.trans hk16')
          refine hK _ _ ?_
          clear hK K
          try simp only [Act.put, List.setIfInBounds_toArray, List.set_cons_zero, List.set_cons_succ]
          refine wpAny_ready (rs := [17]) (by kernel_rfl) (by simp) ?_
          refine AllReady.cons (o := { dst := some 60, op := Go.Op.call { callee := Go.Callee.value (Go.Operand.func 13), args := #[Go.Operand.tmp 59], argTypes := #[25] }, type := 27, pos := "law.go:92", after := #[{ on := 16, ground := Go.Ground.data }, { on := 12, ground := Go.Ground.chain }, { on := 10, ground := Go.Ground.guard }], guard := some (10, true) }) rfl (fun K hK => ?_) AllReady.nil
          go_simp
          first
          | (have hq := of_at w15 ab.data.toList d2 (some ⟨g15, 0, none⟩) ab.size c15 (H0 w15 hk15).out hs15 hc15 (by intro ad h; cases h; exact hz15) (by rw [HABS.out]; omega) HDS2.out
             refine hq.mono ?_
             clear hq
             rintro e w17 ⟨rfl, hk17'⟩
             have hk17 := hk15.trans hk17')
          | (have hq := of_at w16 ab.data.toList d2 (some ⟨g15, 0, none⟩) ab.size c15 (H0 w16 hk16).out (hs15.keeps hk16' (fun _ _ => id)) hc15 (by intro ad h; cases h; exact Nat.lt_of_lt_of_le hz15 hk16'.size) (by rw [HABS.out]; omega) HDS2.out
             refine hq.mono ?_
             clear hq
             rintro e w17 ⟨rfl, hk17'⟩
             have hk17 := hk16.trans hk17')
          refine hK _ _ ?_
          clear hK K
          try simp only [Act.put, List.setIfInBounds_toArray, List.set_cons_zero, List.set_cons_succ]
          refine wpAny_take (i := 18) (oi := { dst := some 61, op := Go.Op.binOp Go.BinOp.eql 27 (Go.Operand.tmp 55) (Go.Operand.tmp 60) 27, type := 4, pos := "law.go:92", after := #[{ on := 12, ground := Go.Ground.data }, { on := 17, ground := Go.Ground.data }, { on := 10, ground := Go.Ground.guard }], guard := some (10, true) }) (v := ?vCA_192) rfl (by kernel_rfl) (by kernel_rfl) (by kernel_rfl) (fun _ _ _ h => h) (Or.inl ⟨by rfl, ?hCA_192⟩) ?rCA_192
          case hCA_192 => (intro wz; go_simp; try with_reducible rfl)
          simp only [Act.put, List.setIfInBounds_toArray, List.set_cons_zero, List.set_cons_succ]
          refine wpAny_take (i := 19) (oi := { dst := some 62, op := Go.Op.pick (Go.Operand.tmp 53) (Go.Operand.tmp 61) (Go.Operand.const (Go.Value.bool false)), type := 4, pos := "law.go:92", after := #[{ on := 10, ground := Go.Ground.data }, { on := 18, ground := Go.Ground.data }], guard := none }) (v := ?vCA_193) rfl (by kernel_rfl) (by kernel_rfl) (by kernel_rfl) (fun _ _ _ h => h) (Or.inl ⟨by rfl, ?hCA_193⟩) ?rCA_193
          case hCA_193 => (intro wz; go_simp; try with_reducible rfl)
          simp only [Act.put, List.setIfInBounds_toArray, List.set_cons_zero, List.set_cons_succ]
          refine wpAny_take (i := 20) (oi := { dst := some 63, op := Go.Op.move (Go.Operand.tmp 62), type := 4, pos := "law.go:92", after := #[{ on := 19, ground := Go.Ground.data }, { on := 17, ground := Go.Ground.chain }], guard := none }) (v := ?vCA_194) rfl (by kernel_rfl) (by kernel_rfl) (by kernel_rfl) (fun _ _ _ h => h) (Or.inl ⟨by rfl, ?hCA_194⟩) ?rCA_194
          case hCA_194 => (intro wz; go_simp; try with_reducible rfl)
          simp only [Act.put, List.setIfInBounds_toArray, List.set_cons_zero, List.set_cons_succ]
          refine wpAny_take (i := 21) (oi := { dst := some 64, op := Go.Op.move (Go.Operand.tmp 5), type := 22, pos := "law.go:92", after := #[{ on := 20, ground := Go.Ground.guard }], guard := some (20, true) }) (v := ?vCA_195) rfl (by kernel_rfl) (by kernel_rfl) (by kernel_rfl) (fun _ _ _ h => h) (Or.inl ⟨by rfl, ?hCA_195⟩) ?rCA_195
          case hCA_195 => (intro wz; go_simp; try with_reducible rfl)
          simp only [Act.put, List.setIfInBounds_toArray, List.set_cons_zero, List.set_cons_succ]
          refine wpAny_take (i := 23) (oi := { dst := some 66, op := Go.Op.move (Go.Operand.tmp 0), type := 9, pos := "law.go:92", after := #[{ on := 20, ground := Go.Ground.guard }], guard := some (20, true) }) (v := ?vCA_196) rfl (by kernel_rfl) (by kernel_rfl) (by kernel_rfl) (fun _ _ _ h => h) (Or.inl ⟨by rfl, ?hCA_196⟩) ?rCA_196
          case hCA_196 => (intro wz; go_simp; try with_reducible rfl)
          simp only [Act.put, List.setIfInBounds_toArray, List.set_cons_zero, List.set_cons_succ]
          refine wpAny_take (i := 24) (oi := { dst := some 67, op := Go.Op.call { callee := Go.Callee.builtin Go.Builtin.len, args := #[Go.Operand.tmp 66], argTypes := #[9] }, type := 3, pos := "law.go:92", after := #[{ on := 23, ground := Go.Ground.data }, { on := 20, ground := Go.Ground.guard }], guard := some (20, true) }) (v := ?vCA_197) rfl (by kernel_rfl) (by kernel_rfl) (by kernel_rfl) (fun _ _ _ h => h) (Or.inl ⟨by rfl, ?hCA_197⟩) ?rCA_197
          case hCA_197 => (intro wz; go_simp; try with_reducible rfl)
          simp only [Act.put, List.setIfInBounds_toArray, List.set_cons_zero, List.set_cons_succ]
          refine wpAny_take (i := 25) (oi := { dst := some 68, op := Go.Op.move (Go.Operand.tmp 1), type := 9, pos := "law.go:92", after := #[{ on := 20, ground := Go.Ground.guard }], guard := some (20, true) }) (v := ?vCA_198) rfl (by kernel_rfl) (by kernel_rfl) (by kernel_rfl) (fun _ _ _ h => h) (Or.inl ⟨by rfl, ?hCA_198⟩) ?rCA_198
          case hCA_198 => (intro wz; go_simp; try with_reducible rfl)
          simp only [Act.put, List.setIfInBounds_toArray, List.set_cons_zero, List.set_cons_succ]
          refine wpAny_take (i := 26) (oi := { dst := some 69, op := Go.Op.call { callee := Go.Callee.builtin Go.Builtin.len, args := #[Go.Operand.tmp 68], argTypes := #[9] }, type := 3, pos := "law.go:92", after := #[{ on := 25, ground := Go.Ground.data }, { on := 20, ground := Go.Ground.guard }], guard := some (20, true) }) (v := ?vCA_199) rfl (by kernel_rfl) (by kernel_rfl) (by kernel_rfl) (fun _ _ _ h => h) (Or.inl ⟨by rfl, ?hCA_199⟩) ?rCA_199
          case hCA_199 => (intro wz; go_simp; try with_reducible rfl)
          simp only [Act.put, List.setIfInBounds_toArray, List.set_cons_zero, List.set_cons_succ]
          refine wpAny_take (i := 27) (oi := { dst := some 70, op := Go.Op.binOp Go.BinOp.add 3 (Go.Operand.tmp 67) (Go.Operand.tmp 69) 3, type := 3, pos := "law.go:92", after := #[{ on := 24, ground := Go.Ground.data }, { on := 26, ground := Go.Ground.data }, { on := 20, ground := Go.Ground.guard }], guard := some (20, true) }) (v := ?vCA_200) rfl (by kernel_rfl) (by kernel_rfl) (by kernel_rfl) (fun _ _ _ h => h) (Or.inl ⟨by rfl, ?hCA_200⟩) ?rCA_200
          case hCA_200 => (intro wz; go_simp; try with_reducible rfl)
          simp only [Act.put, List.setIfInBounds_toArray, List.set_cons_zero, List.set_cons_succ]
          refine wpAny_take (i := 28) (oi := { dst := some 71, op := Go.Op.convert 3 32 (Go.Operand.tmp 70), type := 32, pos := "law.go:92", after := #[{ on := 27, ground := Go.Ground.data }, { on := 20, ground := Go.Ground.guard }], guard := some (20, true) }) (v := ?vCA_201) rfl (by kernel_rfl) (by kernel_rfl) (by kernel_rfl) (fun _ _ _ h => h) (Or.inl ⟨by rfl, ?hCA_201⟩) ?rCA_201
          case hCA_201 => (intro wz; go_simp; try with_reducible rfl)
          simp only [Act.put, List.setIfInBounds_toArray, List.set_cons_zero, List.set_cons_succ]
          refine wpAny_ready (rs := [22]) (by kernel_rfl) (by simp) ?_
          refine AllReady.cons (o := { dst := some 65, op := Go.Op.call { callee := Go.Callee.value (Go.Operand.func 15), args := #[Go.Operand.tmp 64], argTypes := #[22] }, type := 32, pos := "law.go:92", after := #[{ on := 21, ground := Go.Ground.data }, { on := 20, ground := Go.Ground.chain }, { on := 20, ground := Go.Ground.guard }], guard := some (20, true) }) rfl (fun K hK => ?_) AllReady.nil
          go_simp
          have hq := len_any w17 w.heap.size s2 N (HT w17 hk17).out.1 HNN.out
          refine hq.mono ?_
          clear hq
          rintro e w18 ⟨rfl, rfl⟩
          refine hK _ _ ?_
          clear hK K
          try simp only [Act.put, List.setIfInBounds_toArray, List.set_cons_zero, List.set_cons_succ]
          refine wpAny_take (i := 29) (oi := { dst := some 72, op := Go.Op.binOp Go.BinOp.eql 32 (Go.Operand.tmp 65) (Go.Operand.tmp 71) 32, type := 4, pos := "law.go:92", after := #[{ on := 22, ground := Go.Ground.data }, { on := 28, ground := Go.Ground.data }, { on := 20, ground := Go.Ground.guard }], guard := some (20, true) }) (v := ?vCA_202) rfl (by kernel_rfl) (by kernel_rfl) (by kernel_rfl) (fun _ _ _ h => h) (Or.inl ⟨by rfl, ?hCA_202⟩) ?rCA_202
          case hCA_202 => (intro wz; go_simp; try with_reducible rfl)
          simp only [Act.put, List.setIfInBounds_toArray, List.set_cons_zero, List.set_cons_succ]
          refine wpAny_take (i := 30) (oi := { dst := some 73, op := Go.Op.pick (Go.Operand.tmp 63) (Go.Operand.tmp 72) (Go.Operand.const (Go.Value.bool false)), type := 4, pos := "law.go:92", after := #[{ on := 20, ground := Go.Ground.data }, { on := 29, ground := Go.Ground.data }], guard := none }) (v := ?vCA_203) rfl (by kernel_rfl) (by kernel_rfl) (by kernel_rfl) (fun _ _ _ h => h) (Or.inl ⟨by rfl, ?hCA_203⟩) ?rCA_203
          case hCA_203 => (intro wz; go_simp; try with_reducible rfl)
          simp only [Act.put, List.setIfInBounds_toArray, List.set_cons_zero, List.set_cons_succ]
          refine wpAny_take (i := 31) (oi := { dst := some 4, op := Go.Op.assign (Go.Operand.tmp 73), type := 4, pos := "law.go:92", after := #[{ on := 30, ground := Go.Ground.data }, { on := 22, ground := Go.Ground.chain }, { on := 0, ground := Go.Ground.phase }, { on := 1, ground := Go.Ground.phase }, { on := 2, ground := Go.Ground.phase }, { on := 3, ground := Go.Ground.phase }, { on := 4, ground := Go.Ground.phase }, { on := 5, ground := Go.Ground.phase }, { on := 6, ground := Go.Ground.phase }, { on := 7, ground := Go.Ground.phase }, { on := 8, ground := Go.Ground.phase }, { on := 9, ground := Go.Ground.phase }, { on := 10, ground := Go.Ground.phase }, { on := 11, ground := Go.Ground.phase }, { on := 12, ground := Go.Ground.phase }, { on := 13, ground := Go.Ground.phase }, { on := 14, ground := Go.Ground.phase }, { on := 15, ground := Go.Ground.phase }, { on := 16, ground := Go.Ground.phase }, { on := 17, ground := Go.Ground.phase }, { on := 18, ground := Go.Ground.phase }, { on := 19, ground := Go.Ground.phase }, { on := 20, ground := Go.Ground.phase }, { on := 21, ground := Go.Ground.phase }, { on := 22, ground := Go.Ground.phase }, { on := 23, ground := Go.Ground.phase }, { on := 24, ground := Go.Ground.phase }, { on := 25, ground := Go.Ground.phase }, { on := 26, ground := Go.Ground.phase }, { on := 27, ground := Go.Ground.phase }, { on := 28, ground := Go.Ground.phase }, { on := 29, ground := Go.Ground.phase }, { on := 30, ground := Go.Ground.phase }], guard := none }) (v := ?vCA_204) rfl (by kernel_rfl) (by kernel_rfl) (by kernel_rfl) (fun _ _ _ h => h) (Or.inl ⟨by rfl, ?hCA_204⟩) ?rCA_204
          case hCA_204 => (intro wz; go_simp; try with_reducible rfl)
          simp only [Act.put, List.setIfInBounds_toArray, List.set_cons_zero, List.set_cons_succ]
          refine wpAny_done (by kernel_rfl) ?_ _
          have HF := Lib.hid (HT w17 hk17).out.2
          go_wp2_with fail
          go_ret
          exact ⟨rfl, HF.out.below'⟩
end Go.Proofs.YtogojfmaiphiaaaDoor
