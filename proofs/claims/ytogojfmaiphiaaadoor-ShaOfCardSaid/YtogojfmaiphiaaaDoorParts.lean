/- The walk of ShaParts: whatever the input, the law returns true and leaves old memory alone. -/
import Derived.Test.YtogojfmaiphiaaaDoorNothing
import Derived.Test.YtogojfmaiphiaaaDoorSTexts
namespace Go.Proofs.YtogojfmaiphiaaaDoor
open Go.RowKit

set_option maxRecDepth 100000 in
set_option maxHeartbeats 4000000 in
theorem shaParts_far (A : Option Addr) (len cap : Nat) (w : World) (h0 : Start w) (g1 : 20 < len) :
    Calls Tryd.prog 6 #[.slice A len cap] w fun e w' => e = .returned (.bool true) ∧ Below w.heap.size w w' := by
  go_enter Tryd.func6, Tryd.ntmps6
  go_wp2_with fail
  have hq := new_any w h0
  refine hq.mono ?_
  clear hq
  rintro e w1 ⟨rfl, hn1, hk1⟩
  have h1 := h0.keeps hk1 id
  go_wp2_with fail
  have hq := awake_any w1 h1
  refine hq.mono ?_
  clear hq
  rintro e w2 ⟨rfl, hk2⟩
  have h2 := h1.keeps hk2 id
  go_wp2_with fail
  have hq := awake_any w2 h2
  refine hq.mono ?_
  clear hq
  rintro e w3 ⟨rfl, hk3⟩
  have HF := Lib.hid ((hk1.trans hk2).trans hk3)
  clear hk1 hk2 hk3 hn1 h0 h1 h2
  go_wp2_with fail
  go_ret
  exact ⟨rfl, HF.out.below'⟩

def RelS (w wr : World) (len : Nat) (x i : Value) : Prop := ∃ (k : Nat) (all : ByteArray), i = .int .i64 k ∧ k ≤ len ∧ x = .string all ∧ all.size ≤ 200 * k ∧ Hid (Lone w wr (Sum.init.add all.data.toList))
theorem relS {w wr : World} {len : Nat} {x i : Value} (k : Nat) (all : ByteArray) (h1 : i = .int .i64 k) (h2 : k ≤ len) (h3 : x = .string all) (h4 : all.size ≤ 200 * k) (h5 : Hid (Lone w wr (Sum.init.add all.data.toList))) : RelS w wr len x i := ⟨k, all, h1, h2, h3, h4, h5⟩
theorem init_n (a : ByteArray) : (Sum.init.add a.data.toList).n = a.size := by rw [Sum.n_add, len_data]; exact Nat.zero_add _

set_option maxRecDepth 100000 in
set_option maxHeartbeats 16000000 in
theorem shaParts_near (A : Option Addr) (len cap : Nat) (w : World) (h0 : Start w) (hl : len ≤ 20) (hT : Texts w A len) :
    Calls Tryd.prog 6 #[.slice A len cap] w fun e w' => e = .returned (.bool true) ∧ Below w.heap.size w w' := by
  have HLZ := Lib.hid (show (zeroB 20).length = 20 from rfl)
  have z1 := zero27
  have HW := Lib.hid h0
  have HX := Lib.hid hT
  clear hT
  go_enter Tryd.func6, Tryd.ntmps6
  go_wp2_with fail
  have hq := new_any w h0
  refine hq.mono ?_
  clear hq
  rintro e w1 ⟨rfl, hn1, hk1⟩
  have h1 := h0.keeps hk1 id
  go_wp2_with fail
  have hq := awake_any w1 h1
  refine hq.mono ?_
  clear hq
  rintro e w2 ⟨rfl, hk2⟩
  have HT2 := Lib.hid (show Lone w w2 (Sum.init.add (⟨#[]⟩ : ByteArray).data.toList) from ⟨hn1.keeps hk2 id, hk1.trans hk2⟩)
  clear hn1 hk1 hk2 h1 h0
  go_wp2_with fail
  go_loopw [4, 5] (fun x i wr => RelS w wr len x i) (fun _ i _ => len - (intOf i).toNat)
  case atStart => exact relS 0 ⟨#[]⟩ rfl (by omega) rfl (by show 0 ≤ _; omega) HT2
  case round =>
    clear HT2
    obtain ⟨k, all, rfl, hk, rfl, hall, hT⟩ := hrel
    by_cases hlt : k < len
    · obtain ⟨g, off, rfl, hg, hcell⟩ := HX.out (by omega)
      obtain ⟨s, hs⟩ := hcell k hlt
      have HCS := Lib.hid hs
      have c0 : wr.cell? ⟨g, off + k, none⟩ = some (.string s) := hT.out.2.cell hs id
      clear hcell hs
      by_cases hbig : 200 < s.size
      · have HF := Lib.hid hT.out.2
        clear hT
        go_wp2_with fail
        go_ret
        exact ⟨rfl, HF.out.below'⟩
      · obtain ⟨all', hall'⟩ : ∃ a, a = all ++ s := ⟨_, rfl⟩
        have hsz : all'.size = all.size + s.size := by rw [hall', ByteArray.size_append]
        have hdt : all'.data.toList = all.data.toList ++ s.data.toList := by rw [hall', data_append]
        have hadd : ∀ w', (Op.stringOp .add all s).run Tryd.prog w' = .ok (.string all') w' := fun w' => by
          rw [run_string_add_sum w' _ _ (by omega), hall']
        obtain ⟨sum, hsum⟩ : ∃ x, x = (Sum.init.add all.data.toList).add s.data.toList := ⟨_, rfl⟩
        have hsm : sum = Sum.init.add all'.data.toList := by rw [hsum, hdt, Sum.add_append]
        have hb' : all'.size ≤ 200 * (k + 1) := by omega
        have hle : all'.size ≤ 5000 := by omega
        have eW : IntKind.u64.wrap (all'.size : Int) = (all'.size : Int) := by rw [IntKind.wrap_u64]; omega
        have HN := Lib.hid (show sum.n = all'.size by rw [hsm, init_n])
        obtain ⟨d, hd⟩ : ∃ d, d = sum.told := ⟨_, rfl⟩
        have HD := Lib.hid hd
        have HDS := Lib.hid (show d = sumOf all'.data.toList by rw [hd, hsm]; rfl)
        have HLD := Lib.hid (show d.length = 20 by rw [hd]; exact length_told _)
        have he := eq_same d HLD.out
        have HSU := Lib.hid hsum
        have HSM := Lib.hid hsm
        have l1 := hT.out.1.lt
        have hA := init_n all
        have HA := Lib.hid hA
        clear hall' hsz hdt hsum hsm hd hA
        go_wp2_with (with_reducible refine wpList_bytes (o := ⟨some 37, _, _, _, _, _⟩) rfl _ _ _ rfl 5 Tryd.underlying9 Tryd.underlying25 Tryd.underlying5 s rfl ?_; intro w3 c3 hk3 hz3 hc3 hs3 hf3)
        have hT3 := hT.out.still hk3
        have hq := add_at w3 w.heap.size (Sum.init.add all.data.toList) sum s.data.toList (some ⟨wr.heap.size, 0, none⟩) s.size c3 hT3.1 hs3 hc3 (by intro ad h; cases h; show wr.heap.size ≠ _; omega) (by rw [HA.out]; omega) HSU.out
        refine hq.mono ?_
        clear hq
        rintro e w4 ⟨rfl, hs4, hk4⟩
        have HT4 := Lib.hid (hT3.next hs4 hk4)
        have c4 : w4.cell? ⟨g, off + k, none⟩ = some (.string s) := HT4.out.2.cell HCS.out id
        clear hT3 hs4 hk4 hk3 hz3 hc3 hs3 hf3 hT c0 l1
        go_wp2_with fail
        have hq := told_at w4 w.heap.size sum d HT4.out.1 (by rw [HN.out]; omega) HD.out
        refine hq.mono ?_
        clear hq
        rintro e w5 ⟨rfl, hk5⟩
        have HT5 := Lib.hid (HT4.out.still hk5)
        have HZ5 := Lib.hid (show BytesAt (w5.alloc (.cells (bts (zeroB 20)).toArray 27 (0, 0))) w5.heap.size 27 (zeroB 20) from heap_alloc_new _ _)
        have HKB := Lib.hid (show Still w5 (w5.alloc (.cells (bts (zeroB 20)).toArray 27 (0, 0))) from (Keeps.refl _ _).alloc _)
        clear hk5 HT4 c4
        go_wp2_with (with_reducible refine store27 (o := ⟨none, _, _, _, _, _⟩) rfl (.tmp 6) (.tmp 46) rfl w5.heap.size rfl d (zeroB 20) rfl HLD HLZ HZ5 ?_; intro w6 hb6 hk6)
        have hk56 := HKB.out.on (T := fun _ => False) hk6.out (fun i hi e => by omega)
        have HT6 := Lib.hid (HT5.out.still hk56)
        have HB1 : ∀ w', Still w6 w' → Hid (BytesAt w' w5.heap.size 27 d) := fun w' h => hb6.out.keeps h id
        have HT : ∀ w', Still w6 w' → Hid (Lone w w' sum) := fun w' h => HT6.out.still h
        have H0 : ∀ w', Still w6 w' → Hid (Start w') := fun w' h => HW.out.keeps (HT6.out.2.trans h) id
        clear hk56 hb6 hk6 HKB HZ5 HT5
        refine wp_region_any (by kernel_rfl) ?_
        change wpAny _ _ _ _ _ _ _ (World.drew _)
        refine wpAny_take (i := 1) (oi := { dst := some 48, op := Go.Op.move (Go.Operand.tmp 4), type := 9, pos := "law.go:46", after := #[], guard := none }) (v := ?vCA_1) rfl (by kernel_rfl) (by kernel_rfl) (by kernel_rfl) (fun _ _ _ h => h) (Or.inl ⟨by rfl, ?hCA_1⟩) ?rCA_1
        case hCA_1 => (intro wz; go_simp; try with_reducible rfl)
        simp only [Act.put, List.setIfInBounds_toArray, List.set_cons_zero, List.set_cons_succ]
        refine wpAny_ready (rs := [0, 2]) (by kernel_rfl) (by simp) ?_
        refine AllReady.cons (o := { dst := some 47, op := Go.Op.load 27 (Go.Operand.tmp 6), type := 27, pos := "law.go:46", after := #[], guard := none }) rfl (fun K hK => ?_) (AllReady.cons (o := { dst := some 49, op := Go.Op.convert 9 25 (Go.Operand.tmp 48), type := 25, pos := "law.go:46", after := #[{ on := 1, ground := Go.Ground.data }], guard := none }) rfl (fun K hK => ?_) (AllReady.nil))
        · skip
          refine step_load27 (by rfl) (.tmp 6) rfl w5.heap.size rfl d HLD (by first | exact HB1 _ (Keeps.refl _ _).drew | exact HB1 _ hk7 | exact HB1 _ hk8) ?_
          refine hK _ _ ?_
          clear hK K
          try simp only [Act.put, List.setIfInBounds_toArray, List.set_cons_zero, List.set_cons_succ]
          refine wpAny_ready (rs := [2]) (by kernel_rfl) (by simp) ?_
          refine AllReady.cons (o := { dst := some 49, op := Go.Op.convert 9 25 (Go.Operand.tmp 48), type := 25, pos := "law.go:46", after := #[{ on := 1, ground := Go.Ground.data }], guard := none }) rfl (fun K hK => ?_) AllReady.nil
          refine step_bytes3 (by rfl) (.tmp 48) 9 25 rfl 5 Tryd.underlying9 Tryd.underlying25 Tryd.underlying5 all' rfl ?_
          intro w7 c7 g7 hk7' hz7 hc7 hs7
          have hk7 := hk7'.drew_of
          refine hK _ _ ?_
          clear hK K
          try simp only [Act.put, List.setIfInBounds_toArray, List.set_cons_zero, List.set_cons_succ]
          refine wpAny_ready (rs := [3]) (by kernel_rfl) (by simp) ?_
          refine AllReady.cons (o := { dst := some 50, op := Go.Op.call { callee := Go.Callee.value (Go.Operand.func 13), args := #[Go.Operand.tmp 49], argTypes := #[25] }, type := 27, pos := "law.go:46", after := #[{ on := 2, ground := Go.Ground.data }], guard := none }) rfl (fun K hK => ?_) AllReady.nil
          go_simp
          have hq := of_at w7 all'.data.toList d (some ⟨g7, 0, none⟩) all'.size c7 (H0 w7 hk7).out hs7 hc7 (by intro ad h; cases h; exact hz7) (by omega) HDS.out
          refine hq.mono ?_
          clear hq
          rintro e w8 ⟨rfl, hk8'⟩
          have hk8 := hk7.trans hk8'
          refine hK _ _ ?_
          clear hK K
          try simp only [Act.put, List.setIfInBounds_toArray, List.set_cons_zero, List.set_cons_succ]
          refine wpAny_take (i := 4) (oi := { dst := some 51, op := Go.Op.binOp Go.BinOp.neq 27 (Go.Operand.tmp 47) (Go.Operand.tmp 50) 27, type := 4, pos := "law.go:46", after := #[{ on := 0, ground := Go.Ground.data }, { on := 3, ground := Go.Ground.data }], guard := none }) (v := ?vCA_2) rfl (by kernel_rfl) (by kernel_rfl) (by kernel_rfl) (fun _ _ _ h => h) (Or.inl ⟨by rfl, ?hCA_2⟩) ?rCA_2
          case hCA_2 => (intro wz; go_simp; try with_reducible rfl)
          simp only [Act.put, List.setIfInBounds_toArray, List.set_cons_zero, List.set_cons_succ]
          refine wpAny_take (i := 5) (oi := { dst := some 52, op := Go.Op.move (Go.Operand.tmp 51), type := 4, pos := "law.go:46", after := #[{ on := 4, ground := Go.Ground.data }, { on := 3, ground := Go.Ground.chain }], guard := none }) (v := ?vCA_3) rfl (by kernel_rfl) (by kernel_rfl) (by kernel_rfl) (fun _ _ _ h => h) (Or.inl ⟨by rfl, ?hCA_3⟩) ?rCA_3
          case hCA_3 => (intro wz; go_simp; try with_reducible rfl)
          simp only [Act.put, List.setIfInBounds_toArray, List.set_cons_zero, List.set_cons_succ]
          refine wpAny_take (i := 6) (oi := { dst := some 53, op := Go.Op.move (Go.Operand.tmp 3), type := 22, pos := "law.go:46", after := #[{ on := 5, ground := Go.Ground.guard }], guard := some (5, false) }) (v := ?vCA_4) rfl (by kernel_rfl) (by kernel_rfl) (by kernel_rfl) (fun _ _ _ h => h) (Or.inl ⟨by rfl, ?hCA_4⟩) ?rCA_4
          case hCA_4 => (intro wz; go_simp; try with_reducible rfl)
          simp only [Act.put, List.setIfInBounds_toArray, List.set_cons_zero, List.set_cons_succ]
          refine wpAny_ready (rs := [7, 8]) (by kernel_rfl) (by simp) ?_
          refine AllReady.cons (o := { dst := some 54, op := Go.Op.call { callee := Go.Callee.value (Go.Operand.func 12), args := #[Go.Operand.tmp 53], argTypes := #[22] }, type := 27, pos := "law.go:46", after := #[{ on := 6, ground := Go.Ground.data }, { on := 5, ground := Go.Ground.chain }, { on := 5, ground := Go.Ground.guard }], guard := some (5, false) }) rfl (fun K hK => ?_) (AllReady.cons (o := { dst := some 55, op := Go.Op.load 27 (Go.Operand.tmp 6), type := 27, pos := "law.go:46", after := #[{ on := 5, ground := Go.Ground.guard }], guard := some (5, false) }) rfl (fun K hK => ?_) (AllReady.nil))
          · skip
            go_simp
            have hq := told_at w8 w.heap.size sum d (HT w8 hk8).out.1 (by rw [HN.out]; omega) HD.out
            refine hq.mono ?_
            clear hq
            rintro e w9 ⟨rfl, hk9'⟩
            have hk9 := hk8.trans hk9'
            refine hK _ _ ?_
            clear hK K
            try simp only [Act.put, List.setIfInBounds_toArray, List.set_cons_zero, List.set_cons_succ]
            refine wpAny_ready (rs := [8]) (by kernel_rfl) (by simp) ?_
            refine AllReady.cons (o := { dst := some 55, op := Go.Op.load 27 (Go.Operand.tmp 6), type := 27, pos := "law.go:46", after := #[{ on := 5, ground := Go.Ground.guard }], guard := some (5, false) }) rfl (fun K hK => ?_) AllReady.nil
            refine step_load27 (by rfl) (.tmp 6) rfl w5.heap.size rfl d HLD (by first | exact HB1 _ hk9 | exact HB1 _ hk8) ?_
            refine hK _ _ ?_
            clear hK K
            try simp only [Act.put, List.setIfInBounds_toArray, List.set_cons_zero, List.set_cons_succ]
            refine wpAny_take (i := 9) (oi := { dst := some 56, op := Go.Op.binOp Go.BinOp.neq 27 (Go.Operand.tmp 54) (Go.Operand.tmp 55) 27, type := 4, pos := "law.go:46", after := #[{ on := 7, ground := Go.Ground.data }, { on := 8, ground := Go.Ground.data }, { on := 5, ground := Go.Ground.guard }], guard := some (5, false) }) (v := ?vCA_5) rfl (by kernel_rfl) (by kernel_rfl) (by kernel_rfl) (fun _ _ _ h => h) (Or.inl ⟨by rfl, ?hCA_5⟩) ?rCA_5
            case hCA_5 => (intro wz; go_simp; try with_reducible rfl)
            simp only [Act.put, List.setIfInBounds_toArray, List.set_cons_zero, List.set_cons_succ]
            refine wpAny_take (i := 10) (oi := { dst := some 57, op := Go.Op.pick (Go.Operand.tmp 52) (Go.Operand.const (Go.Value.bool true)) (Go.Operand.tmp 56), type := 4, pos := "law.go:46", after := #[{ on := 5, ground := Go.Ground.data }, { on := 9, ground := Go.Ground.data }], guard := none }) (v := ?vCA_6) rfl (by kernel_rfl) (by kernel_rfl) (by kernel_rfl) (fun _ _ _ h => h) (Or.inl ⟨by rfl, ?hCA_6⟩) ?rCA_6
            case hCA_6 => (intro wz; go_simp; try with_reducible rfl)
            simp only [Act.put, List.setIfInBounds_toArray, List.set_cons_zero, List.set_cons_succ]
            refine wpAny_take (i := 11) (oi := { dst := some 58, op := Go.Op.move (Go.Operand.tmp 57), type := 4, pos := "law.go:46", after := #[{ on := 10, ground := Go.Ground.data }, { on := 7, ground := Go.Ground.chain }], guard := none }) (v := ?vCA_7) rfl (by kernel_rfl) (by kernel_rfl) (by kernel_rfl) (fun _ _ _ h => h) (Or.inl ⟨by rfl, ?hCA_7⟩) ?rCA_7
            case hCA_7 => (intro wz; go_simp; try with_reducible rfl)
            simp only [Act.put, List.setIfInBounds_toArray, List.set_cons_zero, List.set_cons_succ]
            refine wpAny_take (i := 12) (oi := { dst := some 59, op := Go.Op.move (Go.Operand.tmp 3), type := 22, pos := "law.go:46", after := #[{ on := 11, ground := Go.Ground.guard }], guard := some (11, false) }) (v := ?vCA_8) rfl (by kernel_rfl) (by kernel_rfl) (by kernel_rfl) (fun _ _ _ h => h) (Or.inl ⟨by rfl, ?hCA_8⟩) ?rCA_8
            case hCA_8 => (intro wz; go_simp; try with_reducible rfl)
            simp only [Act.put, List.setIfInBounds_toArray, List.set_cons_zero, List.set_cons_succ]
            refine wpAny_take (i := 14) (oi := { dst := some 61, op := Go.Op.move (Go.Operand.tmp 4), type := 9, pos := "law.go:46", after := #[{ on := 11, ground := Go.Ground.guard }], guard := some (11, false) }) (v := ?vCA_9) rfl (by kernel_rfl) (by kernel_rfl) (by kernel_rfl) (fun _ _ _ h => h) (Or.inl ⟨by rfl, ?hCA_9⟩) ?rCA_9
            case hCA_9 => (intro wz; go_simp; try with_reducible rfl)
            simp only [Act.put, List.setIfInBounds_toArray, List.set_cons_zero, List.set_cons_succ]
            refine wpAny_take (i := 15) (oi := { dst := some 62, op := Go.Op.call { callee := Go.Callee.builtin Go.Builtin.len, args := #[Go.Operand.tmp 61], argTypes := #[9] }, type := 3, pos := "law.go:46", after := #[{ on := 14, ground := Go.Ground.data }, { on := 11, ground := Go.Ground.guard }], guard := some (11, false) }) (v := ?vCA_10) rfl (by kernel_rfl) (by kernel_rfl) (by kernel_rfl) (fun _ _ _ h => h) (Or.inl ⟨by rfl, ?hCA_10⟩) ?rCA_10
            case hCA_10 => (intro wz; go_simp; try with_reducible rfl)
            simp only [Act.put, List.setIfInBounds_toArray, List.set_cons_zero, List.set_cons_succ]
            refine wpAny_take (i := 16) (oi := { dst := some 63, op := Go.Op.convert 3 32 (Go.Operand.tmp 62), type := 32, pos := "law.go:46", after := #[{ on := 15, ground := Go.Ground.data }, { on := 11, ground := Go.Ground.guard }], guard := some (11, false) }) (v := ?vCA_11) rfl (by kernel_rfl) (by kernel_rfl) (by kernel_rfl) (fun _ _ _ h => h) (Or.inl ⟨by rfl, ?hCA_11⟩) ?rCA_11
            case hCA_11 => (intro wz; go_simp; try with_reducible rfl)
            simp only [Act.put, List.setIfInBounds_toArray, List.set_cons_zero, List.set_cons_succ]
            refine wpAny_ready (rs := [13]) (by kernel_rfl) (by simp) ?_
            refine AllReady.cons (o := { dst := some 60, op := Go.Op.call { callee := Go.Callee.value (Go.Operand.func 15), args := #[Go.Operand.tmp 59], argTypes := #[22] }, type := 32, pos := "law.go:46", after := #[{ on := 12, ground := Go.Ground.data }, { on := 11, ground := Go.Ground.chain }, { on := 11, ground := Go.Ground.guard }], guard := some (11, false) }) rfl (fun K hK => ?_) AllReady.nil
            go_simp
            have hq := len_any w9 w.heap.size sum all'.size (HT w9 hk9).out.1 HN.out.symm
            refine hq.mono ?_
            clear hq
            rintro e w10 ⟨rfl, rfl⟩
            refine hK _ _ ?_
            clear hK K
            try simp only [Act.put, List.setIfInBounds_toArray, List.set_cons_zero, List.set_cons_succ]
            refine wpAny_take (i := 17) (oi := { dst := some 64, op := Go.Op.binOp Go.BinOp.neq 32 (Go.Operand.tmp 60) (Go.Operand.tmp 63) 32, type := 4, pos := "law.go:46", after := #[{ on := 13, ground := Go.Ground.data }, { on := 16, ground := Go.Ground.data }, { on := 11, ground := Go.Ground.guard }], guard := some (11, false) }) (v := ?vCA_12) rfl (by kernel_rfl) (by kernel_rfl) (by kernel_rfl) (fun _ _ _ h => h) (Or.inl ⟨by rfl, ?hCA_12⟩) ?rCA_12
            case hCA_12 => (intro wz; go_simp; try with_reducible rfl)
            simp only [Act.put, List.setIfInBounds_toArray, List.set_cons_zero, List.set_cons_succ]
            refine wpAny_take (i := 18) (oi := { dst := some 65, op := Go.Op.pick (Go.Operand.tmp 58) (Go.Operand.const (Go.Value.bool true)) (Go.Operand.tmp 64), type := 4, pos := "law.go:46", after := #[{ on := 11, ground := Go.Ground.data }, { on := 17, ground := Go.Ground.data }], guard := none }) (v := ?vCA_13) rfl (by kernel_rfl) (by kernel_rfl) (by kernel_rfl) (fun _ _ _ h => h) (Or.inl ⟨by rfl, ?hCA_13⟩) ?rCA_13
            case hCA_13 => (intro wz; go_simp; try with_reducible rfl)
            simp only [Act.put, List.setIfInBounds_toArray, List.set_cons_zero, List.set_cons_succ]
            refine wpAny_done (by kernel_rfl) ?_ _
            have HF := Lib.hid (show Lone w w9 (Sum.init.add all'.data.toList) by rw [← HSM.out]; exact (HT w9 hk9).out)
            go_wp2_with fail
            first
            | (go_roundw
               case rel => first | exact relS (k + 1) all' rfl (by omega) rfl (by omega) HF | ((repeat apply Exists.intro); exact ⟨relS (k + 1) all' rfl (by omega) rfl (by omega) HF, by and_intros <;> first | rfl | simp⟩)
               case measure => simp [intOf]; omega)
            | exact ⟨relS (k + 1) all' rfl (by omega) rfl (by omega) HF, by simp [intOf]; omega⟩
          · skip
            refine step_load27 (by rfl) (.tmp 6) rfl w5.heap.size rfl d HLD (by first | exact HB1 _ hk9 | exact HB1 _ hk8) ?_
            refine hK _ _ ?_
            clear hK K
            try simp only [Act.put, List.setIfInBounds_toArray, List.set_cons_zero, List.set_cons_succ]
            refine wpAny_ready (rs := [7]) (by kernel_rfl) (by simp) ?_
            refine AllReady.cons (o := { dst := some 54, op := Go.Op.call { callee := Go.Callee.value (Go.Operand.func 12), args := #[Go.Operand.tmp 53], argTypes := #[22] }, type := 27, pos := "law.go:46", after := #[{ on := 6, ground := Go.Ground.data }, { on := 5, ground := Go.Ground.chain }, { on := 5, ground := Go.Ground.guard }], guard := some (5, false) }) rfl (fun K hK => ?_) AllReady.nil
            go_simp
            have hq := told_at w8 w.heap.size sum d (HT w8 hk8).out.1 (by rw [HN.out]; omega) HD.out
            refine hq.mono ?_
            clear hq
            rintro e w9 ⟨rfl, hk9'⟩
            have hk9 := hk8.trans hk9'
            refine hK _ _ ?_
            clear hK K
            try simp only [Act.put, List.setIfInBounds_toArray, List.set_cons_zero, List.set_cons_succ]
            refine wpAny_take (i := 9) (oi := { dst := some 56, op := Go.Op.binOp Go.BinOp.neq 27 (Go.Operand.tmp 54) (Go.Operand.tmp 55) 27, type := 4, pos := "law.go:46", after := #[{ on := 7, ground := Go.Ground.data }, { on := 8, ground := Go.Ground.data }, { on := 5, ground := Go.Ground.guard }], guard := some (5, false) }) (v := ?vCA_14) rfl (by kernel_rfl) (by kernel_rfl) (by kernel_rfl) (fun _ _ _ h => h) (Or.inl ⟨by rfl, ?hCA_14⟩) ?rCA_14
            case hCA_14 => (intro wz; go_simp; try with_reducible rfl)
            simp only [Act.put, List.setIfInBounds_toArray, List.set_cons_zero, List.set_cons_succ]
            refine wpAny_take (i := 10) (oi := { dst := some 57, op := Go.Op.pick (Go.Operand.tmp 52) (Go.Operand.const (Go.Value.bool true)) (Go.Operand.tmp 56), type := 4, pos := "law.go:46", after := #[{ on := 5, ground := Go.Ground.data }, { on := 9, ground := Go.Ground.data }], guard := none }) (v := ?vCA_15) rfl (by kernel_rfl) (by kernel_rfl) (by kernel_rfl) (fun _ _ _ h => h) (Or.inl ⟨by rfl, ?hCA_15⟩) ?rCA_15
            case hCA_15 => (intro wz; go_simp; try with_reducible rfl)
            simp only [Act.put, List.setIfInBounds_toArray, List.set_cons_zero, List.set_cons_succ]
            refine wpAny_take (i := 11) (oi := { dst := some 58, op := Go.Op.move (Go.Operand.tmp 57), type := 4, pos := "law.go:46", after := #[{ on := 10, ground := Go.Ground.data }, { on := 7, ground := Go.Ground.chain }], guard := none }) (v := ?vCA_16) rfl (by kernel_rfl) (by kernel_rfl) (by kernel_rfl) (fun _ _ _ h => h) (Or.inl ⟨by rfl, ?hCA_16⟩) ?rCA_16
            case hCA_16 => (intro wz; go_simp; try with_reducible rfl)
            simp only [Act.put, List.setIfInBounds_toArray, List.set_cons_zero, List.set_cons_succ]
            refine wpAny_take (i := 12) (oi := { dst := some 59, op := Go.Op.move (Go.Operand.tmp 3), type := 22, pos := "law.go:46", after := #[{ on := 11, ground := Go.Ground.guard }], guard := some (11, false) }) (v := ?vCA_17) rfl (by kernel_rfl) (by kernel_rfl) (by kernel_rfl) (fun _ _ _ h => h) (Or.inl ⟨by rfl, ?hCA_17⟩) ?rCA_17
            case hCA_17 => (intro wz; go_simp; try with_reducible rfl)
            simp only [Act.put, List.setIfInBounds_toArray, List.set_cons_zero, List.set_cons_succ]
            refine wpAny_take (i := 14) (oi := { dst := some 61, op := Go.Op.move (Go.Operand.tmp 4), type := 9, pos := "law.go:46", after := #[{ on := 11, ground := Go.Ground.guard }], guard := some (11, false) }) (v := ?vCA_18) rfl (by kernel_rfl) (by kernel_rfl) (by kernel_rfl) (fun _ _ _ h => h) (Or.inl ⟨by rfl, ?hCA_18⟩) ?rCA_18
            case hCA_18 => (intro wz; go_simp; try with_reducible rfl)
            simp only [Act.put, List.setIfInBounds_toArray, List.set_cons_zero, List.set_cons_succ]
            refine wpAny_take (i := 15) (oi := { dst := some 62, op := Go.Op.call { callee := Go.Callee.builtin Go.Builtin.len, args := #[Go.Operand.tmp 61], argTypes := #[9] }, type := 3, pos := "law.go:46", after := #[{ on := 14, ground := Go.Ground.data }, { on := 11, ground := Go.Ground.guard }], guard := some (11, false) }) (v := ?vCA_19) rfl (by kernel_rfl) (by kernel_rfl) (by kernel_rfl) (fun _ _ _ h => h) (Or.inl ⟨by rfl, ?hCA_19⟩) ?rCA_19
            case hCA_19 => (intro wz; go_simp; try with_reducible rfl)
            simp only [Act.put, List.setIfInBounds_toArray, List.set_cons_zero, List.set_cons_succ]
            refine wpAny_take (i := 16) (oi := { dst := some 63, op := Go.Op.convert 3 32 (Go.Operand.tmp 62), type := 32, pos := "law.go:46", after := #[{ on := 15, ground := Go.Ground.data }, { on := 11, ground := Go.Ground.guard }], guard := some (11, false) }) (v := ?vCA_20) rfl (by kernel_rfl) (by kernel_rfl) (by kernel_rfl) (fun _ _ _ h => h) (Or.inl ⟨by rfl, ?hCA_20⟩) ?rCA_20
            case hCA_20 => (intro wz; go_simp; try with_reducible rfl)
            simp only [Act.put, List.setIfInBounds_toArray, List.set_cons_zero, List.set_cons_succ]
            refine wpAny_ready (rs := [13]) (by kernel_rfl) (by simp) ?_
            refine AllReady.cons (o := { dst := some 60, op := Go.Op.call { callee := Go.Callee.value (Go.Operand.func 15), args := #[Go.Operand.tmp 59], argTypes := #[22] }, type := 32, pos := "law.go:46", after := #[{ on := 12, ground := Go.Ground.data }, { on := 11, ground := Go.Ground.chain }, { on := 11, ground := Go.Ground.guard }], guard := some (11, false) }) rfl (fun K hK => ?_) AllReady.nil
            go_simp
            have hq := len_any w9 w.heap.size sum all'.size (HT w9 hk9).out.1 HN.out.symm
            refine hq.mono ?_
            clear hq
            rintro e w10 ⟨rfl, rfl⟩
            refine hK _ _ ?_
            clear hK K
            try simp only [Act.put, List.setIfInBounds_toArray, List.set_cons_zero, List.set_cons_succ]
            refine wpAny_take (i := 17) (oi := { dst := some 64, op := Go.Op.binOp Go.BinOp.neq 32 (Go.Operand.tmp 60) (Go.Operand.tmp 63) 32, type := 4, pos := "law.go:46", after := #[{ on := 13, ground := Go.Ground.data }, { on := 16, ground := Go.Ground.data }, { on := 11, ground := Go.Ground.guard }], guard := some (11, false) }) (v := ?vCA_21) rfl (by kernel_rfl) (by kernel_rfl) (by kernel_rfl) (fun _ _ _ h => h) (Or.inl ⟨by rfl, ?hCA_21⟩) ?rCA_21
            case hCA_21 => (intro wz; go_simp; try with_reducible rfl)
            simp only [Act.put, List.setIfInBounds_toArray, List.set_cons_zero, List.set_cons_succ]
            refine wpAny_take (i := 18) (oi := { dst := some 65, op := Go.Op.pick (Go.Operand.tmp 58) (Go.Operand.const (Go.Value.bool true)) (Go.Operand.tmp 64), type := 4, pos := "law.go:46", after := #[{ on := 11, ground := Go.Ground.data }, { on := 17, ground := Go.Ground.data }], guard := none }) (v := ?vCA_22) rfl (by kernel_rfl) (by kernel_rfl) (by kernel_rfl) (fun _ _ _ h => h) (Or.inl ⟨by rfl, ?hCA_22⟩) ?rCA_22
            case hCA_22 => (intro wz; go_simp; try with_reducible rfl)
            simp only [Act.put, List.setIfInBounds_toArray, List.set_cons_zero, List.set_cons_succ]
            refine wpAny_done (by kernel_rfl) ?_ _
            have HF := Lib.hid (show Lone w w9 (Sum.init.add all'.data.toList) by rw [← HSM.out]; exact (HT w9 hk9).out)
            go_wp2_with fail
            first
            | (go_roundw
               case rel => first | exact relS (k + 1) all' rfl (by omega) rfl (by omega) HF | ((repeat apply Exists.intro); exact ⟨relS (k + 1) all' rfl (by omega) rfl (by omega) HF, by and_intros <;> first | rfl | simp⟩)
               case measure => simp [intOf]; omega)
            | exact ⟨relS (k + 1) all' rfl (by omega) rfl (by omega) HF, by simp [intOf]; omega⟩
        · skip
          refine step_bytes3 (by rfl) (.tmp 48) 9 25 rfl 5 Tryd.underlying9 Tryd.underlying25 Tryd.underlying5 all' rfl ?_
          intro w7 c7 g7 hk7' hz7 hc7 hs7
          have hk7 := hk7'.drew_of
          refine hK _ _ ?_
          clear hK K
          try simp only [Act.put, List.setIfInBounds_toArray, List.set_cons_zero, List.set_cons_succ]
          refine wpAny_ready (rs := [0, 3]) (by kernel_rfl) (by simp) ?_
          refine AllReady.cons (o := { dst := some 47, op := Go.Op.load 27 (Go.Operand.tmp 6), type := 27, pos := "law.go:46", after := #[], guard := none }) rfl (fun K hK => ?_) (AllReady.cons (o := { dst := some 50, op := Go.Op.call { callee := Go.Callee.value (Go.Operand.func 13), args := #[Go.Operand.tmp 49], argTypes := #[25] }, type := 27, pos := "law.go:46", after := #[{ on := 2, ground := Go.Ground.data }], guard := none }) rfl (fun K hK => ?_) (AllReady.nil))
          · skip
            refine step_load27 (by rfl) (.tmp 6) rfl w5.heap.size rfl d HLD (by first | exact HB1 _ (Keeps.refl _ _).drew | exact HB1 _ hk7 | exact HB1 _ hk8) ?_
            refine hK _ _ ?_
            clear hK K
            try simp only [Act.put, List.setIfInBounds_toArray, List.set_cons_zero, List.set_cons_succ]
            refine wpAny_ready (rs := [3]) (by kernel_rfl) (by simp) ?_
            refine AllReady.cons (o := { dst := some 50, op := Go.Op.call { callee := Go.Callee.value (Go.Operand.func 13), args := #[Go.Operand.tmp 49], argTypes := #[25] }, type := 27, pos := "law.go:46", after := #[{ on := 2, ground := Go.Ground.data }], guard := none }) rfl (fun K hK => ?_) AllReady.nil
            go_simp
            have hq := of_at w7 all'.data.toList d (some ⟨g7, 0, none⟩) all'.size c7 (H0 w7 hk7).out hs7 hc7 (by intro ad h; cases h; exact hz7) (by omega) HDS.out
            refine hq.mono ?_
            clear hq
            rintro e w8 ⟨rfl, hk8'⟩
            have hk8 := hk7.trans hk8'
            refine hK _ _ ?_
            clear hK K
            try simp only [Act.put, List.setIfInBounds_toArray, List.set_cons_zero, List.set_cons_succ]
            refine wpAny_take (i := 4) (oi := { dst := some 51, op := Go.Op.binOp Go.BinOp.neq 27 (Go.Operand.tmp 47) (Go.Operand.tmp 50) 27, type := 4, pos := "law.go:46", after := #[{ on := 0, ground := Go.Ground.data }, { on := 3, ground := Go.Ground.data }], guard := none }) (v := ?vCA_23) rfl (by kernel_rfl) (by kernel_rfl) (by kernel_rfl) (fun _ _ _ h => h) (Or.inl ⟨by rfl, ?hCA_23⟩) ?rCA_23
            case hCA_23 => (intro wz; go_simp; try with_reducible rfl)
            simp only [Act.put, List.setIfInBounds_toArray, List.set_cons_zero, List.set_cons_succ]
            refine wpAny_take (i := 5) (oi := { dst := some 52, op := Go.Op.move (Go.Operand.tmp 51), type := 4, pos := "law.go:46", after := #[{ on := 4, ground := Go.Ground.data }, { on := 3, ground := Go.Ground.chain }], guard := none }) (v := ?vCA_24) rfl (by kernel_rfl) (by kernel_rfl) (by kernel_rfl) (fun _ _ _ h => h) (Or.inl ⟨by rfl, ?hCA_24⟩) ?rCA_24
            case hCA_24 => (intro wz; go_simp; try with_reducible rfl)
            simp only [Act.put, List.setIfInBounds_toArray, List.set_cons_zero, List.set_cons_succ]
            refine wpAny_take (i := 6) (oi := { dst := some 53, op := Go.Op.move (Go.Operand.tmp 3), type := 22, pos := "law.go:46", after := #[{ on := 5, ground := Go.Ground.guard }], guard := some (5, false) }) (v := ?vCA_25) rfl (by kernel_rfl) (by kernel_rfl) (by kernel_rfl) (fun _ _ _ h => h) (Or.inl ⟨by rfl, ?hCA_25⟩) ?rCA_25
            case hCA_25 => (intro wz; go_simp; try with_reducible rfl)
            simp only [Act.put, List.setIfInBounds_toArray, List.set_cons_zero, List.set_cons_succ]
            refine wpAny_ready (rs := [7, 8]) (by kernel_rfl) (by simp) ?_
            refine AllReady.cons (o := { dst := some 54, op := Go.Op.call { callee := Go.Callee.value (Go.Operand.func 12), args := #[Go.Operand.tmp 53], argTypes := #[22] }, type := 27, pos := "law.go:46", after := #[{ on := 6, ground := Go.Ground.data }, { on := 5, ground := Go.Ground.chain }, { on := 5, ground := Go.Ground.guard }], guard := some (5, false) }) rfl (fun K hK => ?_) (AllReady.cons (o := { dst := some 55, op := Go.Op.load 27 (Go.Operand.tmp 6), type := 27, pos := "law.go:46", after := #[{ on := 5, ground := Go.Ground.guard }], guard := some (5, false) }) rfl (fun K hK => ?_) (AllReady.nil))
            · skip
              go_simp
              have hq := told_at w8 w.heap.size sum d (HT w8 hk8).out.1 (by rw [HN.out]; omega) HD.out
              refine hq.mono ?_
              clear hq
              rintro e w9 ⟨rfl, hk9'⟩
              have hk9 := hk8.trans hk9'
              refine hK _ _ ?_
              clear hK K
              try simp only [Act.put, List.setIfInBounds_toArray, List.set_cons_zero, List.set_cons_succ]
              refine wpAny_ready (rs := [8]) (by kernel_rfl) (by simp) ?_
              refine AllReady.cons (o := { dst := some 55, op := Go.Op.load 27 (Go.Operand.tmp 6), type := 27, pos := "law.go:46", after := #[{ on := 5, ground := Go.Ground.guard }], guard := some (5, false) }) rfl (fun K hK => ?_) AllReady.nil
              refine step_load27 (by rfl) (.tmp 6) rfl w5.heap.size rfl d HLD (by first | exact HB1 _ hk9 | exact HB1 _ hk8) ?_
              refine hK _ _ ?_
              clear hK K
              try simp only [Act.put, List.setIfInBounds_toArray, List.set_cons_zero, List.set_cons_succ]
              refine wpAny_take (i := 9) (oi := { dst := some 56, op := Go.Op.binOp Go.BinOp.neq 27 (Go.Operand.tmp 54) (Go.Operand.tmp 55) 27, type := 4, pos := "law.go:46", after := #[{ on := 7, ground := Go.Ground.data }, { on := 8, ground := Go.Ground.data }, { on := 5, ground := Go.Ground.guard }], guard := some (5, false) }) (v := ?vCA_26) rfl (by kernel_rfl) (by kernel_rfl) (by kernel_rfl) (fun _ _ _ h => h) (Or.inl ⟨by rfl, ?hCA_26⟩) ?rCA_26
              case hCA_26 => (intro wz; go_simp; try with_reducible rfl)
              simp only [Act.put, List.setIfInBounds_toArray, List.set_cons_zero, List.set_cons_succ]
              refine wpAny_take (i := 10) (oi := { dst := some 57, op := Go.Op.pick (Go.Operand.tmp 52) (Go.Operand.const (Go.Value.bool true)) (Go.Operand.tmp 56), type := 4, pos := "law.go:46", after := #[{ on := 5, ground := Go.Ground.data }, { on := 9, ground := Go.Ground.data }], guard := none }) (v := ?vCA_27) rfl (by kernel_rfl) (by kernel_rfl) (by kernel_rfl) (fun _ _ _ h => h) (Or.inl ⟨by rfl, ?hCA_27⟩) ?rCA_27
              case hCA_27 => (intro wz; go_simp; try with_reducible rfl)
              simp only [Act.put, List.setIfInBounds_toArray, List.set_cons_zero, List.set_cons_succ]
              refine wpAny_take (i := 11) (oi := { dst := some 58, op := Go.Op.move (Go.Operand.tmp 57), type := 4, pos := "law.go:46", after := #[{ on := 10, ground := Go.Ground.data }, { on := 7, ground := Go.Ground.chain }], guard := none }) (v := ?vCA_28) rfl (by kernel_rfl) (by kernel_rfl) (by kernel_rfl) (fun _ _ _ h => h) (Or.inl ⟨by rfl, ?hCA_28⟩) ?rCA_28
              case hCA_28 => (intro wz; go_simp; try with_reducible rfl)
              simp only [Act.put, List.setIfInBounds_toArray, List.set_cons_zero, List.set_cons_succ]
              refine wpAny_take (i := 12) (oi := { dst := some 59, op := Go.Op.move (Go.Operand.tmp 3), type := 22, pos := "law.go:46", after := #[{ on := 11, ground := Go.Ground.guard }], guard := some (11, false) }) (v := ?vCA_29) rfl (by kernel_rfl) (by kernel_rfl) (by kernel_rfl) (fun _ _ _ h => h) (Or.inl ⟨by rfl, ?hCA_29⟩) ?rCA_29
              case hCA_29 => (intro wz; go_simp; try with_reducible rfl)
              simp only [Act.put, List.setIfInBounds_toArray, List.set_cons_zero, List.set_cons_succ]
              refine wpAny_take (i := 14) (oi := { dst := some 61, op := Go.Op.move (Go.Operand.tmp 4), type := 9, pos := "law.go:46", after := #[{ on := 11, ground := Go.Ground.guard }], guard := some (11, false) }) (v := ?vCA_30) rfl (by kernel_rfl) (by kernel_rfl) (by kernel_rfl) (fun _ _ _ h => h) (Or.inl ⟨by rfl, ?hCA_30⟩) ?rCA_30
              case hCA_30 => (intro wz; go_simp; try with_reducible rfl)
              simp only [Act.put, List.setIfInBounds_toArray, List.set_cons_zero, List.set_cons_succ]
              refine wpAny_take (i := 15) (oi := { dst := some 62, op := Go.Op.call { callee := Go.Callee.builtin Go.Builtin.len, args := #[Go.Operand.tmp 61], argTypes := #[9] }, type := 3, pos := "law.go:46", after := #[{ on := 14, ground := Go.Ground.data }, { on := 11, ground := Go.Ground.guard }], guard := some (11, false) }) (v := ?vCA_31) rfl (by kernel_rfl) (by kernel_rfl) (by kernel_rfl) (fun _ _ _ h => h) (Or.inl ⟨by rfl, ?hCA_31⟩) ?rCA_31
              case hCA_31 => (intro wz; go_simp; try with_reducible rfl)
              simp only [Act.put, List.setIfInBounds_toArray, List.set_cons_zero, List.set_cons_succ]
              refine wpAny_take (i := 16) (oi := { dst := some 63, op := Go.Op.convert 3 32 (Go.Operand.tmp 62), type := 32, pos := "law.go:46", after := #[{ on := 15, ground := Go.Ground.data }, { on := 11, ground := Go.Ground.guard }], guard := some (11, false) }) (v := ?vCA_32) rfl (by kernel_rfl) (by kernel_rfl) (by kernel_rfl) (fun _ _ _ h => h) (Or.inl ⟨by rfl, ?hCA_32⟩) ?rCA_32
              case hCA_32 => (intro wz; go_simp; try with_reducible rfl)
              simp only [Act.put, List.setIfInBounds_toArray, List.set_cons_zero, List.set_cons_succ]
              refine wpAny_ready (rs := [13]) (by kernel_rfl) (by simp) ?_
              refine AllReady.cons (o := { dst := some 60, op := Go.Op.call { callee := Go.Callee.value (Go.Operand.func 15), args := #[Go.Operand.tmp 59], argTypes := #[22] }, type := 32, pos := "law.go:46", after := #[{ on := 12, ground := Go.Ground.data }, { on := 11, ground := Go.Ground.chain }, { on := 11, ground := Go.Ground.guard }], guard := some (11, false) }) rfl (fun K hK => ?_) AllReady.nil
              go_simp
              have hq := len_any w9 w.heap.size sum all'.size (HT w9 hk9).out.1 HN.out.symm
              refine hq.mono ?_
              clear hq
              rintro e w10 ⟨rfl, rfl⟩
              refine hK _ _ ?_
              clear hK K
              try simp only [Act.put, List.setIfInBounds_toArray, List.set_cons_zero, List.set_cons_succ]
              refine wpAny_take (i := 17) (oi := { dst := some 64, op := Go.Op.binOp Go.BinOp.neq 32 (Go.Operand.tmp 60) (Go.Operand.tmp 63) 32, type := 4, pos := "law.go:46", after := #[{ on := 13, ground := Go.Ground.data }, { on := 16, ground := Go.Ground.data }, { on := 11, ground := Go.Ground.guard }], guard := some (11, false) }) (v := ?vCA_33) rfl (by kernel_rfl) (by kernel_rfl) (by kernel_rfl) (fun _ _ _ h => h) (Or.inl ⟨by rfl, ?hCA_33⟩) ?rCA_33
              case hCA_33 => (intro wz; go_simp; try with_reducible rfl)
              simp only [Act.put, List.setIfInBounds_toArray, List.set_cons_zero, List.set_cons_succ]
              refine wpAny_take (i := 18) (oi := { dst := some 65, op := Go.Op.pick (Go.Operand.tmp 58) (Go.Operand.const (Go.Value.bool true)) (Go.Operand.tmp 64), type := 4, pos := "law.go:46", after := #[{ on := 11, ground := Go.Ground.data }, { on := 17, ground := Go.Ground.data }], guard := none }) (v := ?vCA_34) rfl (by kernel_rfl) (by kernel_rfl) (by kernel_rfl) (fun _ _ _ h => h) (Or.inl ⟨by rfl, ?hCA_34⟩) ?rCA_34
              case hCA_34 => (intro wz; go_simp; try with_reducible rfl)
              simp only [Act.put, List.setIfInBounds_toArray, List.set_cons_zero, List.set_cons_succ]
              refine wpAny_done (by kernel_rfl) ?_ _
              have HF := Lib.hid (show Lone w w9 (Sum.init.add all'.data.toList) by rw [← HSM.out]; exact (HT w9 hk9).out)
              go_wp2_with fail
              first
              | (go_roundw
                 case rel => first | exact relS (k + 1) all' rfl (by omega) rfl (by omega) HF | ((repeat apply Exists.intro); exact ⟨relS (k + 1) all' rfl (by omega) rfl (by omega) HF, by and_intros <;> first | rfl | simp⟩)
                 case measure => simp [intOf]; omega)
              | exact ⟨relS (k + 1) all' rfl (by omega) rfl (by omega) HF, by simp [intOf]; omega⟩
            · skip
              refine step_load27 (by rfl) (.tmp 6) rfl w5.heap.size rfl d HLD (by first | exact HB1 _ hk9 | exact HB1 _ hk8) ?_
              refine hK _ _ ?_
              clear hK K
              try simp only [Act.put, List.setIfInBounds_toArray, List.set_cons_zero, List.set_cons_succ]
              refine wpAny_ready (rs := [7]) (by kernel_rfl) (by simp) ?_
              refine AllReady.cons (o := { dst := some 54, op := Go.Op.call { callee := Go.Callee.value (Go.Operand.func 12), args := #[Go.Operand.tmp 53], argTypes := #[22] }, type := 27, pos := "law.go:46", after := #[{ on := 6, ground := Go.Ground.data }, { on := 5, ground := Go.Ground.chain }, { on := 5, ground := Go.Ground.guard }], guard := some (5, false) }) rfl (fun K hK => ?_) AllReady.nil
              go_simp
              have hq := told_at w8 w.heap.size sum d (HT w8 hk8).out.1 (by rw [HN.out]; omega) HD.out
              refine hq.mono ?_
              clear hq
              rintro e w9 ⟨rfl, hk9'⟩
              have hk9 := hk8.trans hk9'
              refine hK _ _ ?_
              clear hK K
              try simp only [Act.put, List.setIfInBounds_toArray, List.set_cons_zero, List.set_cons_succ]
              refine wpAny_take (i := 9) (oi := { dst := some 56, op := Go.Op.binOp Go.BinOp.neq 27 (Go.Operand.tmp 54) (Go.Operand.tmp 55) 27, type := 4, pos := "law.go:46", after := #[{ on := 7, ground := Go.Ground.data }, { on := 8, ground := Go.Ground.data }, { on := 5, ground := Go.Ground.guard }], guard := some (5, false) }) (v := ?vCA_35) rfl (by kernel_rfl) (by kernel_rfl) (by kernel_rfl) (fun _ _ _ h => h) (Or.inl ⟨by rfl, ?hCA_35⟩) ?rCA_35
              case hCA_35 => (intro wz; go_simp; try with_reducible rfl)
              simp only [Act.put, List.setIfInBounds_toArray, List.set_cons_zero, List.set_cons_succ]
              refine wpAny_take (i := 10) (oi := { dst := some 57, op := Go.Op.pick (Go.Operand.tmp 52) (Go.Operand.const (Go.Value.bool true)) (Go.Operand.tmp 56), type := 4, pos := "law.go:46", after := #[{ on := 5, ground := Go.Ground.data }, { on := 9, ground := Go.Ground.data }], guard := none }) (v := ?vCA_36) rfl (by kernel_rfl) (by kernel_rfl) (by kernel_rfl) (fun _ _ _ h => h) (Or.inl ⟨by rfl, ?hCA_36⟩) ?rCA_36
              case hCA_36 => (intro wz; go_simp; try with_reducible rfl)
              simp only [Act.put, List.setIfInBounds_toArray, List.set_cons_zero, List.set_cons_succ]
              refine wpAny_take (i := 11) (oi := { dst := some 58, op := Go.Op.move (Go.Operand.tmp 57), type := 4, pos := "law.go:46", after := #[{ on := 10, ground := Go.Ground.data }, { on := 7, ground := Go.Ground.chain }], guard := none }) (v := ?vCA_37) rfl (by kernel_rfl) (by kernel_rfl) (by kernel_rfl) (fun _ _ _ h => h) (Or.inl ⟨by rfl, ?hCA_37⟩) ?rCA_37
              case hCA_37 => (intro wz; go_simp; try with_reducible rfl)
              simp only [Act.put, List.setIfInBounds_toArray, List.set_cons_zero, List.set_cons_succ]
              refine wpAny_take (i := 12) (oi := { dst := some 59, op := Go.Op.move (Go.Operand.tmp 3), type := 22, pos := "law.go:46", after := #[{ on := 11, ground := Go.Ground.guard }], guard := some (11, false) }) (v := ?vCA_38) rfl (by kernel_rfl) (by kernel_rfl) (by kernel_rfl) (fun _ _ _ h => h) (Or.inl ⟨by rfl, ?hCA_38⟩) ?rCA_38
              case hCA_38 => (intro wz; go_simp; try with_reducible rfl)
              simp only [Act.put, List.setIfInBounds_toArray, List.set_cons_zero, List.set_cons_succ]
              refine wpAny_take (i := 14) (oi := { dst := some 61, op := Go.Op.move (Go.Operand.tmp 4), type := 9, pos := "law.go:46", after := #[{ on := 11, ground := Go.Ground.guard }], guard := some (11, false) }) (v := ?vCA_39) rfl (by kernel_rfl) (by kernel_rfl) (by kernel_rfl) (fun _ _ _ h => h) (Or.inl ⟨by rfl, ?hCA_39⟩) ?rCA_39
              case hCA_39 => (intro wz; go_simp; try with_reducible rfl)
              simp only [Act.put, List.setIfInBounds_toArray, List.set_cons_zero, List.set_cons_succ]
              refine wpAny_take (i := 15) (oi := { dst := some 62, op := Go.Op.call { callee := Go.Callee.builtin Go.Builtin.len, args := #[Go.Operand.tmp 61], argTypes := #[9] }, type := 3, pos := "law.go:46", after := #[{ on := 14, ground := Go.Ground.data }, { on := 11, ground := Go.Ground.guard }], guard := some (11, false) }) (v := ?vCA_40) rfl (by kernel_rfl) (by kernel_rfl) (by kernel_rfl) (fun _ _ _ h => h) (Or.inl ⟨by rfl, ?hCA_40⟩) ?rCA_40
              case hCA_40 => (intro wz; go_simp; try with_reducible rfl)
              simp only [Act.put, List.setIfInBounds_toArray, List.set_cons_zero, List.set_cons_succ]
              refine wpAny_take (i := 16) (oi := { dst := some 63, op := Go.Op.convert 3 32 (Go.Operand.tmp 62), type := 32, pos := "law.go:46", after := #[{ on := 15, ground := Go.Ground.data }, { on := 11, ground := Go.Ground.guard }], guard := some (11, false) }) (v := ?vCA_41) rfl (by kernel_rfl) (by kernel_rfl) (by kernel_rfl) (fun _ _ _ h => h) (Or.inl ⟨by rfl, ?hCA_41⟩) ?rCA_41
              case hCA_41 => (intro wz; go_simp; try with_reducible rfl)
              simp only [Act.put, List.setIfInBounds_toArray, List.set_cons_zero, List.set_cons_succ]
              refine wpAny_ready (rs := [13]) (by kernel_rfl) (by simp) ?_
              refine AllReady.cons (o := { dst := some 60, op := Go.Op.call { callee := Go.Callee.value (Go.Operand.func 15), args := #[Go.Operand.tmp 59], argTypes := #[22] }, type := 32, pos := "law.go:46", after := #[{ on := 12, ground := Go.Ground.data }, { on := 11, ground := Go.Ground.chain }, { on := 11, ground := Go.Ground.guard }], guard := some (11, false) }) rfl (fun K hK => ?_) AllReady.nil
              go_simp
              have hq := len_any w9 w.heap.size sum all'.size (HT w9 hk9).out.1 HN.out.symm
              refine hq.mono ?_
              clear hq
              rintro e w10 ⟨rfl, rfl⟩
              refine hK _ _ ?_
              clear hK K
              try simp only [Act.put, List.setIfInBounds_toArray, List.set_cons_zero, List.set_cons_succ]
              refine wpAny_take (i := 17) (oi := { dst := some 64, op := Go.Op.binOp Go.BinOp.neq 32 (Go.Operand.tmp 60) (Go.Operand.tmp 63) 32, type := 4, pos := "law.go:46", after := #[{ on := 13, ground := Go.Ground.data }, { on := 16, ground := Go.Ground.data }, { on := 11, ground := Go.Ground.guard }], guard := some (11, false) }) (v := ?vCA_42) rfl (by kernel_rfl) (by kernel_rfl) (by kernel_rfl) (fun _ _ _ h => h) (Or.inl ⟨by rfl, ?hCA_42⟩) ?rCA_42
              case hCA_42 => (intro wz; go_simp; try with_reducible rfl)
              simp only [Act.put, List.setIfInBounds_toArray, List.set_cons_zero, List.set_cons_succ]
              refine wpAny_take (i := 18) (oi := { dst := some 65, op := Go.Op.pick (Go.Operand.tmp 58) (Go.Operand.const (Go.Value.bool true)) (Go.Operand.tmp 64), type := 4, pos := "law.go:46", after := #[{ on := 11, ground := Go.Ground.data }, { on := 17, ground := Go.Ground.data }], guard := none }) (v := ?vCA_43) rfl (by kernel_rfl) (by kernel_rfl) (by kernel_rfl) (fun _ _ _ h => h) (Or.inl ⟨by rfl, ?hCA_43⟩) ?rCA_43
              case hCA_43 => (intro wz; go_simp; try with_reducible rfl)
              simp only [Act.put, List.setIfInBounds_toArray, List.set_cons_zero, List.set_cons_succ]
              refine wpAny_done (by kernel_rfl) ?_ _
              have HF := Lib.hid (show Lone w w9 (Sum.init.add all'.data.toList) by rw [← HSM.out]; exact (HT w9 hk9).out)
              go_wp2_with fail
              first
              | (go_roundw
                 case rel => first | exact relS (k + 1) all' rfl (by omega) rfl (by omega) HF | ((repeat apply Exists.intro); exact ⟨relS (k + 1) all' rfl (by omega) rfl (by omega) HF, by and_intros <;> first | rfl | simp⟩)
                 case measure => simp [intOf]; omega)
              | exact ⟨relS (k + 1) all' rfl (by omega) rfl (by omega) HF, by simp [intOf]; omega⟩
          · skip
            go_simp
            have hq := of_at w7 all'.data.toList d (some ⟨g7, 0, none⟩) all'.size c7 (H0 w7 hk7).out hs7 hc7 (by intro ad h; cases h; exact hz7) (by omega) HDS.out
            refine hq.mono ?_
            clear hq
            rintro e w8 ⟨rfl, hk8'⟩
            have hk8 := hk7.trans hk8'
            refine hK _ _ ?_
            clear hK K
            try simp only [Act.put, List.setIfInBounds_toArray, List.set_cons_zero, List.set_cons_succ]
            refine wpAny_ready (rs := [0]) (by kernel_rfl) (by simp) ?_
            refine AllReady.cons (o := { dst := some 47, op := Go.Op.load 27 (Go.Operand.tmp 6), type := 27, pos := "law.go:46", after := #[], guard := none }) rfl (fun K hK => ?_) AllReady.nil
            refine step_load27 (by rfl) (.tmp 6) rfl w5.heap.size rfl d HLD (by first | exact HB1 _ (Keeps.refl _ _).drew | exact HB1 _ hk7 | exact HB1 _ hk8) ?_
            refine hK _ _ ?_
            clear hK K
            try simp only [Act.put, List.setIfInBounds_toArray, List.set_cons_zero, List.set_cons_succ]
            refine wpAny_take (i := 4) (oi := { dst := some 51, op := Go.Op.binOp Go.BinOp.neq 27 (Go.Operand.tmp 47) (Go.Operand.tmp 50) 27, type := 4, pos := "law.go:46", after := #[{ on := 0, ground := Go.Ground.data }, { on := 3, ground := Go.Ground.data }], guard := none }) (v := ?vCA_44) rfl (by kernel_rfl) (by kernel_rfl) (by kernel_rfl) (fun _ _ _ h => h) (Or.inl ⟨by rfl, ?hCA_44⟩) ?rCA_44
            case hCA_44 => (intro wz; go_simp; try with_reducible rfl)
            simp only [Act.put, List.setIfInBounds_toArray, List.set_cons_zero, List.set_cons_succ]
            refine wpAny_take (i := 5) (oi := { dst := some 52, op := Go.Op.move (Go.Operand.tmp 51), type := 4, pos := "law.go:46", after := #[{ on := 4, ground := Go.Ground.data }, { on := 3, ground := Go.Ground.chain }], guard := none }) (v := ?vCA_45) rfl (by kernel_rfl) (by kernel_rfl) (by kernel_rfl) (fun _ _ _ h => h) (Or.inl ⟨by rfl, ?hCA_45⟩) ?rCA_45
            case hCA_45 => (intro wz; go_simp; try with_reducible rfl)
            simp only [Act.put, List.setIfInBounds_toArray, List.set_cons_zero, List.set_cons_succ]
            refine wpAny_take (i := 6) (oi := { dst := some 53, op := Go.Op.move (Go.Operand.tmp 3), type := 22, pos := "law.go:46", after := #[{ on := 5, ground := Go.Ground.guard }], guard := some (5, false) }) (v := ?vCA_46) rfl (by kernel_rfl) (by kernel_rfl) (by kernel_rfl) (fun _ _ _ h => h) (Or.inl ⟨by rfl, ?hCA_46⟩) ?rCA_46
            case hCA_46 => (intro wz; go_simp; try with_reducible rfl)
            simp only [Act.put, List.setIfInBounds_toArray, List.set_cons_zero, List.set_cons_succ]
            refine wpAny_ready (rs := [7, 8]) (by kernel_rfl) (by simp) ?_
            refine AllReady.cons (o := { dst := some 54, op := Go.Op.call { callee := Go.Callee.value (Go.Operand.func 12), args := #[Go.Operand.tmp 53], argTypes := #[22] }, type := 27, pos := "law.go:46", after := #[{ on := 6, ground := Go.Ground.data }, { on := 5, ground := Go.Ground.chain }, { on := 5, ground := Go.Ground.guard }], guard := some (5, false) }) rfl (fun K hK => ?_) (AllReady.cons (o := { dst := some 55, op := Go.Op.load 27 (Go.Operand.tmp 6), type := 27, pos := "law.go:46", after := #[{ on := 5, ground := Go.Ground.guard }], guard := some (5, false) }) rfl (fun K hK => ?_) (AllReady.nil))
            · skip
              go_simp
              have hq := told_at w8 w.heap.size sum d (HT w8 hk8).out.1 (by rw [HN.out]; omega) HD.out
              refine hq.mono ?_
              clear hq
              rintro e w9 ⟨rfl, hk9'⟩
              have hk9 := hk8.trans hk9'
              refine hK _ _ ?_
              clear hK K
              try simp only [Act.put, List.setIfInBounds_toArray, List.set_cons_zero, List.set_cons_succ]
              refine wpAny_ready (rs := [8]) (by kernel_rfl) (by simp) ?_
              refine AllReady.cons (o := { dst := some 55, op := Go.Op.load 27 (Go.Operand.tmp 6), type := 27, pos := "law.go:46", after := #[{ on := 5, ground := Go.Ground.guard }], guard := some (5, false) }) rfl (fun K hK => ?_) AllReady.nil
              refine step_load27 (by rfl) (.tmp 6) rfl w5.heap.size rfl d HLD (by first | exact HB1 _ hk9 | exact HB1 _ hk8) ?_
              refine hK _ _ ?_
              clear hK K
              try simp only [Act.put, List.setIfInBounds_toArray, List.set_cons_zero, List.set_cons_succ]
              refine wpAny_take (i := 9) (oi := { dst := some 56, op := Go.Op.binOp Go.BinOp.neq 27 (Go.Operand.tmp 54) (Go.Operand.tmp 55) 27, type := 4, pos := "law.go:46", after := #[{ on := 7, ground := Go.Ground.data }, { on := 8, ground := Go.Ground.data }, { on := 5, ground := Go.Ground.guard }], guard := some (5, false) }) (v := ?vCA_47) rfl (by kernel_rfl) (by kernel_rfl) (by kernel_rfl) (fun _ _ _ h => h) (Or.inl ⟨by rfl, ?hCA_47⟩) ?rCA_47
              case hCA_47 => (intro wz; go_simp; try with_reducible rfl)
              simp only [Act.put, List.setIfInBounds_toArray, List.set_cons_zero, List.set_cons_succ]
              refine wpAny_take (i := 10) (oi := { dst := some 57, op := Go.Op.pick (Go.Operand.tmp 52) (Go.Operand.const (Go.Value.bool true)) (Go.Operand.tmp 56), type := 4, pos := "law.go:46", after := #[{ on := 5, ground := Go.Ground.data }, { on := 9, ground := Go.Ground.data }], guard := none }) (v := ?vCA_48) rfl (by kernel_rfl) (by kernel_rfl) (by kernel_rfl) (fun _ _ _ h => h) (Or.inl ⟨by rfl, ?hCA_48⟩) ?rCA_48
              case hCA_48 => (intro wz; go_simp; try with_reducible rfl)
              simp only [Act.put, List.setIfInBounds_toArray, List.set_cons_zero, List.set_cons_succ]
              refine wpAny_take (i := 11) (oi := { dst := some 58, op := Go.Op.move (Go.Operand.tmp 57), type := 4, pos := "law.go:46", after := #[{ on := 10, ground := Go.Ground.data }, { on := 7, ground := Go.Ground.chain }], guard := none }) (v := ?vCA_49) rfl (by kernel_rfl) (by kernel_rfl) (by kernel_rfl) (fun _ _ _ h => h) (Or.inl ⟨by rfl, ?hCA_49⟩) ?rCA_49
              case hCA_49 => (intro wz; go_simp; try with_reducible rfl)
              simp only [Act.put, List.setIfInBounds_toArray, List.set_cons_zero, List.set_cons_succ]
              refine wpAny_take (i := 12) (oi := { dst := some 59, op := Go.Op.move (Go.Operand.tmp 3), type := 22, pos := "law.go:46", after := #[{ on := 11, ground := Go.Ground.guard }], guard := some (11, false) }) (v := ?vCA_50) rfl (by kernel_rfl) (by kernel_rfl) (by kernel_rfl) (fun _ _ _ h => h) (Or.inl ⟨by rfl, ?hCA_50⟩) ?rCA_50
              case hCA_50 => (intro wz; go_simp; try with_reducible rfl)
              simp only [Act.put, List.setIfInBounds_toArray, List.set_cons_zero, List.set_cons_succ]
              refine wpAny_take (i := 14) (oi := { dst := some 61, op := Go.Op.move (Go.Operand.tmp 4), type := 9, pos := "law.go:46", after := #[{ on := 11, ground := Go.Ground.guard }], guard := some (11, false) }) (v := ?vCA_51) rfl (by kernel_rfl) (by kernel_rfl) (by kernel_rfl) (fun _ _ _ h => h) (Or.inl ⟨by rfl, ?hCA_51⟩) ?rCA_51
              case hCA_51 => (intro wz; go_simp; try with_reducible rfl)
              simp only [Act.put, List.setIfInBounds_toArray, List.set_cons_zero, List.set_cons_succ]
              refine wpAny_take (i := 15) (oi := { dst := some 62, op := Go.Op.call { callee := Go.Callee.builtin Go.Builtin.len, args := #[Go.Operand.tmp 61], argTypes := #[9] }, type := 3, pos := "law.go:46", after := #[{ on := 14, ground := Go.Ground.data }, { on := 11, ground := Go.Ground.guard }], guard := some (11, false) }) (v := ?vCA_52) rfl (by kernel_rfl) (by kernel_rfl) (by kernel_rfl) (fun _ _ _ h => h) (Or.inl ⟨by rfl, ?hCA_52⟩) ?rCA_52
              case hCA_52 => (intro wz; go_simp; try with_reducible rfl)
              simp only [Act.put, List.setIfInBounds_toArray, List.set_cons_zero, List.set_cons_succ]
              refine wpAny_take (i := 16) (oi := { dst := some 63, op := Go.Op.convert 3 32 (Go.Operand.tmp 62), type := 32, pos := "law.go:46", after := #[{ on := 15, ground := Go.Ground.data }, { on := 11, ground := Go.Ground.guard }], guard := some (11, false) }) (v := ?vCA_53) rfl (by kernel_rfl) (by kernel_rfl) (by kernel_rfl) (fun _ _ _ h => h) (Or.inl ⟨by rfl, ?hCA_53⟩) ?rCA_53
              case hCA_53 => (intro wz; go_simp; try with_reducible rfl)
              simp only [Act.put, List.setIfInBounds_toArray, List.set_cons_zero, List.set_cons_succ]
              refine wpAny_ready (rs := [13]) (by kernel_rfl) (by simp) ?_
              refine AllReady.cons (o := { dst := some 60, op := Go.Op.call { callee := Go.Callee.value (Go.Operand.func 15), args := #[Go.Operand.tmp 59], argTypes := #[22] }, type := 32, pos := "law.go:46", after := #[{ on := 12, ground := Go.Ground.data }, { on := 11, ground := Go.Ground.chain }, { on := 11, ground := Go.Ground.guard }], guard := some (11, false) }) rfl (fun K hK => ?_) AllReady.nil
              go_simp
              have hq := len_any w9 w.heap.size sum all'.size (HT w9 hk9).out.1 HN.out.symm
              refine hq.mono ?_
              clear hq
              rintro e w10 ⟨rfl, rfl⟩
              refine hK _ _ ?_
              clear hK K
              try simp only [Act.put, List.setIfInBounds_toArray, List.set_cons_zero, List.set_cons_succ]
              refine wpAny_take (i := 17) (oi := { dst := some 64, op := Go.Op.binOp Go.BinOp.neq 32 (Go.Operand.tmp 60) (Go.Operand.tmp 63) 32, type := 4, pos := "law.go:46", after := #[{ on := 13, ground := Go.Ground.data }, { on := 16, ground := Go.Ground.data }, { on := 11, ground := Go.Ground.guard }], guard := some (11, false) }) (v := ?vCA_54) rfl (by kernel_rfl) (by kernel_rfl) (by kernel_rfl) (fun _ _ _ h => h) (Or.inl ⟨by rfl, ?hCA_54⟩) ?rCA_54
              case hCA_54 => (intro wz; go_simp; try with_reducible rfl)
              simp only [Act.put, List.setIfInBounds_toArray, List.set_cons_zero, List.set_cons_succ]
              refine wpAny_take (i := 18) (oi := { dst := some 65, op := Go.Op.pick (Go.Operand.tmp 58) (Go.Operand.const (Go.Value.bool true)) (Go.Operand.tmp 64), type := 4, pos := "law.go:46", after := #[{ on := 11, ground := Go.Ground.data }, { on := 17, ground := Go.Ground.data }], guard := none }) (v := ?vCA_55) rfl (by kernel_rfl) (by kernel_rfl) (by kernel_rfl) (fun _ _ _ h => h) (Or.inl ⟨by rfl, ?hCA_55⟩) ?rCA_55
              case hCA_55 => (intro wz; go_simp; try with_reducible rfl)
              simp only [Act.put, List.setIfInBounds_toArray, List.set_cons_zero, List.set_cons_succ]
              refine wpAny_done (by kernel_rfl) ?_ _
              have HF := Lib.hid (show Lone w w9 (Sum.init.add all'.data.toList) by rw [← HSM.out]; exact (HT w9 hk9).out)
              go_wp2_with fail
              first
              | (go_roundw
                 case rel => first | exact relS (k + 1) all' rfl (by omega) rfl (by omega) HF | ((repeat apply Exists.intro); exact ⟨relS (k + 1) all' rfl (by omega) rfl (by omega) HF, by and_intros <;> first | rfl | simp⟩)
                 case measure => simp [intOf]; omega)
              | exact ⟨relS (k + 1) all' rfl (by omega) rfl (by omega) HF, by simp [intOf]; omega⟩
            · skip
              refine step_load27 (by rfl) (.tmp 6) rfl w5.heap.size rfl d HLD (by first | exact HB1 _ hk9 | exact HB1 _ hk8) ?_
              refine hK _ _ ?_
              clear hK K
              try simp only [Act.put, List.setIfInBounds_toArray, List.set_cons_zero, List.set_cons_succ]
              refine wpAny_ready (rs := [7]) (by kernel_rfl) (by simp) ?_
              refine AllReady.cons (o := { dst := some 54, op := Go.Op.call { callee := Go.Callee.value (Go.Operand.func 12), args := #[Go.Operand.tmp 53], argTypes := #[22] }, type := 27, pos := "law.go:46", after := #[{ on := 6, ground := Go.Ground.data }, { on := 5, ground := Go.Ground.chain }, { on := 5, ground := Go.Ground.guard }], guard := some (5, false) }) rfl (fun K hK => ?_) AllReady.nil
              go_simp
              have hq := told_at w8 w.heap.size sum d (HT w8 hk8).out.1 (by rw [HN.out]; omega) HD.out
              refine hq.mono ?_
              clear hq
              rintro e w9 ⟨rfl, hk9'⟩
              have hk9 := hk8.trans hk9'
              refine hK _ _ ?_
              clear hK K
              try simp only [Act.put, List.setIfInBounds_toArray, List.set_cons_zero, List.set_cons_succ]
              refine wpAny_take (i := 9) (oi := { dst := some 56, op := Go.Op.binOp Go.BinOp.neq 27 (Go.Operand.tmp 54) (Go.Operand.tmp 55) 27, type := 4, pos := "law.go:46", after := #[{ on := 7, ground := Go.Ground.data }, { on := 8, ground := Go.Ground.data }, { on := 5, ground := Go.Ground.guard }], guard := some (5, false) }) (v := ?vCA_56) rfl (by kernel_rfl) (by kernel_rfl) (by kernel_rfl) (fun _ _ _ h => h) (Or.inl ⟨by rfl, ?hCA_56⟩) ?rCA_56
              case hCA_56 => (intro wz; go_simp; try with_reducible rfl)
              simp only [Act.put, List.setIfInBounds_toArray, List.set_cons_zero, List.set_cons_succ]
              refine wpAny_take (i := 10) (oi := { dst := some 57, op := Go.Op.pick (Go.Operand.tmp 52) (Go.Operand.const (Go.Value.bool true)) (Go.Operand.tmp 56), type := 4, pos := "law.go:46", after := #[{ on := 5, ground := Go.Ground.data }, { on := 9, ground := Go.Ground.data }], guard := none }) (v := ?vCA_57) rfl (by kernel_rfl) (by kernel_rfl) (by kernel_rfl) (fun _ _ _ h => h) (Or.inl ⟨by rfl, ?hCA_57⟩) ?rCA_57
              case hCA_57 => (intro wz; go_simp; try with_reducible rfl)
              simp only [Act.put, List.setIfInBounds_toArray, List.set_cons_zero, List.set_cons_succ]
              refine wpAny_take (i := 11) (oi := { dst := some 58, op := Go.Op.move (Go.Operand.tmp 57), type := 4, pos := "law.go:46", after := #[{ on := 10, ground := Go.Ground.data }, { on := 7, ground := Go.Ground.chain }], guard := none }) (v := ?vCA_58) rfl (by kernel_rfl) (by kernel_rfl) (by kernel_rfl) (fun _ _ _ h => h) (Or.inl ⟨by rfl, ?hCA_58⟩) ?rCA_58
              case hCA_58 => (intro wz; go_simp; try with_reducible rfl)
              simp only [Act.put, List.setIfInBounds_toArray, List.set_cons_zero, List.set_cons_succ]
              refine wpAny_take (i := 12) (oi := { dst := some 59, op := Go.Op.move (Go.Operand.tmp 3), type := 22, pos := "law.go:46", after := #[{ on := 11, ground := Go.Ground.guard }], guard := some (11, false) }) (v := ?vCA_59) rfl (by kernel_rfl) (by kernel_rfl) (by kernel_rfl) (fun _ _ _ h => h) (Or.inl ⟨by rfl, ?hCA_59⟩) ?rCA_59
              case hCA_59 => (intro wz; go_simp; try with_reducible rfl)
              simp only [Act.put, List.setIfInBounds_toArray, List.set_cons_zero, List.set_cons_succ]
              refine wpAny_take (i := 14) (oi := { dst := some 61, op := Go.Op.move (Go.Operand.tmp 4), type := 9, pos := "law.go:46", after := #[{ on := 11, ground := Go.Ground.guard }], guard := some (11, false) }) (v := ?vCA_60) rfl (by kernel_rfl) (by kernel_rfl) (by kernel_rfl) (fun _ _ _ h => h) (Or.inl ⟨by rfl, ?hCA_60⟩) ?rCA_60
              case hCA_60 => (intro wz; go_simp; try with_reducible rfl)
              simp only [Act.put, List.setIfInBounds_toArray, List.set_cons_zero, List.set_cons_succ]
              refine wpAny_take (i := 15) (oi := { dst := some 62, op := Go.Op.call { callee := Go.Callee.builtin Go.Builtin.len, args := #[Go.Operand.tmp 61], argTypes := #[9] }, type := 3, pos := "law.go:46", after := #[{ on := 14, ground := Go.Ground.data }, { on := 11, ground := Go.Ground.guard }], guard := some (11, false) }) (v := ?vCA_61) rfl (by kernel_rfl) (by kernel_rfl) (by kernel_rfl) (fun _ _ _ h => h) (Or.inl ⟨by rfl, ?hCA_61⟩) ?rCA_61
              case hCA_61 => (intro wz; go_simp; try with_reducible rfl)
              simp only [Act.put, List.setIfInBounds_toArray, List.set_cons_zero, List.set_cons_succ]
              refine wpAny_take (i := 16) (oi := { dst := some 63, op := Go.Op.convert 3 32 (Go.Operand.tmp 62), type := 32, pos := "law.go:46", after := #[{ on := 15, ground := Go.Ground.data }, { on := 11, ground := Go.Ground.guard }], guard := some (11, false) }) (v := ?vCA_62) rfl (by kernel_rfl) (by kernel_rfl) (by kernel_rfl) (fun _ _ _ h => h) (Or.inl ⟨by rfl, ?hCA_62⟩) ?rCA_62
              case hCA_62 => (intro wz; go_simp; try with_reducible rfl)
              simp only [Act.put, List.setIfInBounds_toArray, List.set_cons_zero, List.set_cons_succ]
              refine wpAny_ready (rs := [13]) (by kernel_rfl) (by simp) ?_
              refine AllReady.cons (o := { dst := some 60, op := Go.Op.call { callee := Go.Callee.value (Go.Operand.func 15), args := #[Go.Operand.tmp 59], argTypes := #[22] }, type := 32, pos := "law.go:46", after := #[{ on := 12, ground := Go.Ground.data }, { on := 11, ground := Go.Ground.chain }, { on := 11, ground := Go.Ground.guard }], guard := some (11, false) }) rfl (fun K hK => ?_) AllReady.nil
              go_simp
              have hq := len_any w9 w.heap.size sum all'.size (HT w9 hk9).out.1 HN.out.symm
              refine hq.mono ?_
              clear hq
              rintro e w10 ⟨rfl, rfl⟩
              refine hK _ _ ?_
              clear hK K
              try simp only [Act.put, List.setIfInBounds_toArray, List.set_cons_zero, List.set_cons_succ]
              refine wpAny_take (i := 17) (oi := { dst := some 64, op := Go.Op.binOp Go.BinOp.neq 32 (Go.Operand.tmp 60) (Go.Operand.tmp 63) 32, type := 4, pos := "law.go:46", after := #[{ on := 13, ground := Go.Ground.data }, { on := 16, ground := Go.Ground.data }, { on := 11, ground := Go.Ground.guard }], guard := some (11, false) }) (v := ?vCA_63) rfl (by kernel_rfl) (by kernel_rfl) (by kernel_rfl) (fun _ _ _ h => h) (Or.inl ⟨by rfl, ?hCA_63⟩) ?rCA_63
              case hCA_63 => (intro wz; go_simp; try with_reducible rfl)
              simp only [Act.put, List.setIfInBounds_toArray, List.set_cons_zero, List.set_cons_succ]
              refine wpAny_take (i := 18) (oi := { dst := some 65, op := Go.Op.pick (Go.Operand.tmp 58) (Go.Operand.const (Go.Value.bool true)) (Go.Operand.tmp 64), type := 4, pos := "law.go:46", after := #[{ on := 11, ground := Go.Ground.data }, { on := 17, ground := Go.Ground.data }], guard := none }) (v := ?vCA_64) rfl (by kernel_rfl) (by kernel_rfl) (by kernel_rfl) (fun _ _ _ h => h) (Or.inl ⟨by rfl, ?hCA_64⟩) ?rCA_64
              case hCA_64 => (intro wz; go_simp; try with_reducible rfl)
              simp only [Act.put, List.setIfInBounds_toArray, List.set_cons_zero, List.set_cons_succ]
              refine wpAny_done (by kernel_rfl) ?_ _
              have HF := Lib.hid (show Lone w w9 (Sum.init.add all'.data.toList) by rw [← HSM.out]; exact (HT w9 hk9).out)
              go_wp2_with fail
              first
              | (go_roundw
                 case rel => first | exact relS (k + 1) all' rfl (by omega) rfl (by omega) HF | ((repeat apply Exists.intro); exact ⟨relS (k + 1) all' rfl (by omega) rfl (by omega) HF, by and_intros <;> first | rfl | simp⟩)
                 case measure => simp [intOf]; omega)
              | exact ⟨relS (k + 1) all' rfl (by omega) rfl (by omega) HF, by simp [intOf]; omega⟩
    · have hA := init_n all
      have HA := Lib.hid hA
      have hle : all.size ≤ 5000 := by omega
      obtain ⟨sum, hsum⟩ : ∃ x, x = Sum.init.add all.data.toList := ⟨_, rfl⟩
      rw [← hsum] at hT HA
      obtain ⟨d, hd⟩ : ∃ d, d = sum.told := ⟨_, rfl⟩
      have HD := Lib.hid hd
      have HDS := Lib.hid (show d = sumOf all.data.toList by rw [hd, hsum]; rfl)
      have HLD := Lib.hid (show d.length = 20 by rw [hd]; exact length_told _)
      have he := eq_same d HLD.out
      clear hA hsum hd
      go_wp2_with fail
      have hq := told_at wr w.heap.size sum d hT.out.1 (by rw [HA.out]; omega) HD.out
      refine hq.mono ?_
      clear hq
      rintro e w3 ⟨rfl, hk3⟩
      have HT3 := Lib.hid (hT.out.still hk3)
      clear hT hk3
      go_wp2_with (with_reducible refine wpList_bytes (o := ⟨some 69, _, _, _, _, _⟩) rfl _ _ _ rfl 5 Tryd.underlying9 Tryd.underlying25 Tryd.underlying5 all rfl ?_; intro w4 c4 hk4 hz4 hc4 hs4 hf4)
      have hT4 := HT3.out.still hk4
      have hq := of_at w4 all.data.toList d (some ⟨w3.heap.size, 0, none⟩) all.size c4 (HW.out.keeps hT4.2 id) hs4 hc4 (by intro ad h; cases h; exact hz4) (by omega) HDS.out
      refine hq.mono ?_
      clear hq
      rintro e w5 ⟨rfl, hk5⟩
      have HF := Lib.hid (hT4.2.trans hk5)
      clear hT4 hk5 hk4 hz4 hc4 hs4 hf4 HT3
      go_wp2_with fail
      go_ret
      exact ⟨by first | rfl | simp, HF.out.below'⟩
end Go.Proofs.YtogojfmaiphiaaaDoor
