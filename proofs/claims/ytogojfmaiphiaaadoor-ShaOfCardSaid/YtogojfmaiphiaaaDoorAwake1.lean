/- The anchor: the chapter's examples are as they are told. -/
import Derived.Test.YtogojfmaiphiaaaDoorEq
import Derived.RegionTactic
namespace Go.Proofs.YtogojfmaiphiaaaDoor
open Go.RowKit

def abcB : ByteArray := ⟨#[169, 153, 62, 54, 71, 6, 129, 106, 186, 62, 37, 113, 120, 80, 194, 108, 156, 208, 216, 157]⟩
def nilB : ByteArray := ⟨#[218, 57, 163, 238, 94, 107, 75, 13, 50, 85, 191, 239, 149, 96, 24, 144, 175, 216, 7, 9]⟩
set_option maxRecDepth 100000 in
theorem sum_abc : sumOf [97, 98, 99] = abcB.data.toList := by decide +kernel
set_option maxRecDepth 100000 in
theorem sum_nil : sumOf [] = nilB.data.toList := by decide +kernel

theorem step_load27 {ops : Array Oper} {o : Oper} {a : Act} {w : World} {K : Act → World → Prop} {Q : Exit → Act → World → Prop} {E : Prop} (hw : Region.wanted o (yielded ops a.tmps) = true) (x : Operand) (ho : o.op = .load 27 x) (g : Nat) (hx : a.eval x = .pointer (some ⟨g, 0, none⟩))
    (l : List UInt8) (hl : Hid (l.length = 20)) (hs : Hid (BytesAt w g 27 l)) (h : K (a.put o.dst (.agg (bts l).toArray)) w) : if Region.wanted o (yielded ops a.tmps) = true then Oper.wp Tryd.prog o a w K Q else E := by
  rw [if_pos hw]
  exact wp_load_row 27 x ho g hx 27 _ (0, 0) _ hs.out Tryd.underlying27 rfl (by simp only [List.size_toArray, length_bts, hl.out]; exact sz27) h
/-- []byte(s) as one step of a region that draws its order. -/
theorem step_bytes2 {P : Program} {ops : Array Oper} {o : Oper} {a : Act} {w : World} {K : Act → World → Prop} {Q : Exit → Act → World → Prop} {E : Prop} (hw : Region.wanted o (yielded ops a.tmps) = true) (x : Operand) (src dst : TypeId)
    (ho : o.op = .convert src dst x) (e : TypeId) (hs : P.underlying src = some .string) (hd : P.underlying dst = some (.slice e)) (he : P.underlying e = some (.int .u8)) (s : ByteArray) (hx : a.eval x = .string s)
    (h : ∀ w' c, Still w w' → w.heap.size < w'.heap.size → s.size ≤ c → SliceOf w' (some ⟨w.heap.size, 0, none⟩) s.size s.data.toList → K (a.put o.dst (.slice (some ⟨w.heap.size, 0, none⟩) s.size c)) w') :
    if Region.wanted o (yielded ops a.tmps) = true then Oper.wp P o a w K Q else E := by
  rw [if_pos hw]
  have hrun := run_bytes_of_string (P := P) w src dst e s hs hd he
  unfold Oper.wp
  simp only [execOp, ho, hx, Sem.run_bind, Sem.run_pure, hrun, Result.andThen_ok]
  refine h _ _ (((Keeps.refl _ _).drew).alloc _) (by simp) (grownCap_ge _ _ _ _) ⟨Array.length_toList, fun hn => ⟨_, 0, rfl, by simp, fun j hj => ?_⟩⟩
  have hj' : j < s.data.size := by simpa using hj
  rw [Nat.zero_add]
  refine (World.cell?_alloc_mark w.drew _ _ _ j).trans ?_
  rw [bytesRow_at s _ j hj']; simp
theorem of_at (w : World) (l d : List UInt8) (A : Option Addr) (n cap : Nat) (h0 : Start w) (hs : SliceOf w A n l) (hcap : n ≤ cap) (hA : ∀ ad, A = some ad → ad.block < w.heap.size) (hb : n ≤ 400000000) (hd : d = sumOf l) :
    Calls Tryd.prog 13 #[.slice A n cap] w fun e w' => e = .returned (.agg (bts d).toArray) ∧ Still w w' := by
  subst hd
  exact of_any w l A n cap h0 hs hcap hA hb

set_option maxRecDepth 100000 in
set_option maxHeartbeats 4000000 in
theorem awake_any (w : World) (h0 : Start w) : Calls Tryd.prog 10 #[] w fun e w' => e = .returned (.bool true) ∧ Still w w' := by
  have kc := fun (w : World) (C : Array Value) (n c : Nat) => Lib.run_convert_bytes_const (P := Tryd.prog) w 25 5 C n c Tryd.underlying25 Tryd.underlying5
  have z1 := zero27
  have HLZ := Lib.hid (show (zeroB 20).length = 20 from rfl)
  go_enter Tryd.func10, Tryd.ntmps10
  go_wp2_with fail
  have hq := new_any w h0
  refine hq.mono ?_
  clear hq
  rintro e w1 ⟨rfl, hn1, hk1⟩
  go_wp2_with fail
  have hlt1 := hn1.lt
  have hkA : Still w1 (w1.alloc (.cells #[.int .u8 97] 5 (1, 2))) := (Keeps.refl _ _).alloc _
  have hq := add_any (w1.alloc (.cells #[.int .u8 97] 5 (1, 2))) w.heap.size Sum.init [97] (some ⟨w1.heap.size, 0, none⟩) 1 1 (hn1.keeps hkA id) (slice_new w1 _ _ _ _ _ rfl rfl) (Nat.le_refl _) (by intro ad h; cases h; show w1.heap.size ≠ _; omega) (by decide)
  refine hq.mono ?_
  clear hq
  rintro e w2 ⟨rfl, hn2, hk2⟩
  have hk12 := hkA.still.trans hk2
  clear hkA hk2
  have hlt2 := hn2.lt
  go_wp2_with fail
  have hkA : Still w2 (w2.alloc (.cells #[.int .u8 98, .int .u8 99] 5 (2, 3))) := (Keeps.refl _ _).alloc _
  have hq := add_any (w2.alloc (.cells #[.int .u8 98, .int .u8 99] 5 (2, 3))) w.heap.size (Sum.init.add [97]) [98, 99] (some ⟨w2.heap.size, 0, none⟩) 2 2 (hn2.keeps hkA id) (slice_new w2 _ _ _ _ _ rfl rfl) (Nat.le_refl _) (by intro ad h; cases h; show w2.heap.size ≠ _; omega) (by rw [Sum.n_add]; decide)
  refine hq.mono ?_
  clear hq
  rintro e w3 ⟨rfl, hn3, hk3⟩
  have hk23 := hkA.still.trans hk3
  clear hkA hk3
  go_wp2_with fail
  have hq := told_any w3 w.heap.size _ hn3 (by rw [Sum.n_add, Sum.n_add]; decide)
  refine hq.mono ?_
  clear hq
  rintro e w4 ⟨rfl, hk4⟩
  obtain ⟨d, hd⟩ : ∃ d, d = ((Sum.init.add [97]).add [98, 99]).told := ⟨_, rfl⟩
  rw [← hd]
  have HDS := Lib.hid (show d = sumOf [97, 98, 99] from hd)
  have HDD := Lib.hid (show (⟨#[169, 153, 62, 54, 71, 6, 129, 106, 186, 62, 37, 113, 120, 80, 194, 108, 156, 208, 216, 157]⟩ : ByteArray).data.toList = d by rw [HDS.out, sum_abc]; rfl)
  have HLD := Lib.hid (show d.length = 20 by rw [hd]; exact length_told _)
  have hS : ∀ i, i < w.heap.size → ¬ i = w.heap.size := fun i hi e => by omega
  have HK4 := Lib.hid ((((hk1.on hk12 hS).on hk23 hS).trans hk4))
  have HN4 := Lib.hid (hn3.keeps hk4 id)
  have hlt4 := HN4.out.lt
  have HZ4 := Lib.hid (show BytesAt (w4.alloc (.cells (bts (zeroB 20)).toArray 27 (0, 0))) w4.heap.size 27 (zeroB 20) from heap_alloc_new _ _)
  have hkB : Still w4 (w4.alloc (.cells (bts (zeroB 20)).toArray 27 (0, 0))) := (Keeps.refl _ _).alloc _
  have HKB := Lib.hid hkB
  clear hd hk1 hk12 hk23 hk4 hn1 hn2 hn3 hlt1 hlt2 hS hkB
  go_wp2_with (with_reducible refine store27 (o := ⟨none, _, _, _, _, _⟩) rfl (.tmp 2) (.tmp 15) rfl w4.heap.size rfl d (zeroB 20) rfl HLD HLZ HZ4 ?_; intro w5 hb5 hk5)
  have hk45 := HKB.out.on (T := fun _ => False) hk5.out (fun i hi e => by omega)
  have HK5 := Lib.hid (HK4.out.trans hk45)
  have HB5 : ∀ w', Still w5 w' → Hid (BytesAt w' w4.heap.size 27 d) := fun w' h => hb5.out.keeps h id
  have HS5 : ∀ w', Still w5 w' → Hid (SumAt w' w.heap.size ((Sum.init.add [97]).add [98, 99])) := fun w' h => HN4.out.keeps (hk45.trans h) id
  have H05 : ∀ w', Still w5 w' → Hid (Start w') := fun w' h => h0.keeps (HK5.out.trans h) id
  have he := eq_same d HLD.out
  obtain ⟨dn, hdn⟩ : ∃ d, d = sumOf [] := ⟨_, rfl⟩
  have HDN := Lib.hid hdn
  have HLN := Lib.hid (show dn.length = 20 by rw [hdn]; exact length_sumOf _)
  have HNB := Lib.hid (show nilB.data.toList = dn by rw [hdn, sum_nil])
  have hext : nilB.extract 0 4 = ⟨#[218, 57, 163, 238]⟩ := by decide +kernel
  have hnsz : nilB.size = 20 := rfl
  clear hdn hb5 hk5 hk45 HN4 HK4 HKB h0
  refine wp_region_any (by kernel_rfl) ?_
  change wpAny _ _ _ _ _ _ _ (World.drew _)
  refine wpAny_ready (rs := [0]) (by kernel_rfl) (by simp) ?_
  refine AllReady.cons (o := { dst := some 16, op := Go.Op.load 27 (Go.Operand.tmp 2), type := 27, pos := "law.go:21", after := #[], guard := none }) rfl (fun K hK => ?_) AllReady.nil
  refine step_load27 (by rfl) (.tmp 2) rfl w4.heap.size rfl d HLD (HB5 _ (Keeps.refl _ _).drew) ?_
  refine hK _ _ ?_
  clear hK K
  try simp only [Act.put, List.setIfInBounds_toArray, List.set_cons_zero, List.set_cons_succ]
  refine wpAny_ready (rs := [1]) (by kernel_rfl) (by simp) ?_
  refine AllReady.cons (o := { dst := some 17, op := Go.Op.call { callee := Go.Callee.value (Go.Operand.func 16), args := #[Go.Operand.tmp 16], argTypes := #[27] }, type := 9, pos := "law.go:21", after := #[{ on := 0, ground := Go.Ground.data }], guard := none }) rfl (fun K hK => ?_) AllReady.nil
  go_simp
  have hq := text_any w5.drew d ⟨#[169, 153, 62, 54, 71, 6, 129, 106, 186, 62, 37, 113, 120, 80, 194, 108, 156, 208, 216, 157]⟩ HLD.out HDD.out
  refine hq.mono ?_
  clear hq
  rintro e w6 ⟨rfl, hk6⟩
  have HB6 := fun w' (h : Still w6 w') => HB5 w' (hk6.drew_of.trans h)
  have hs6 := HS5 w6 hk6.drew_of
  have h06 := H05 w6 hk6.drew_of
  refine hK _ _ ?_
  clear hK K
  try simp only [Act.put, List.setIfInBounds_toArray, List.set_cons_zero, List.set_cons_succ]
  refine wpAny_take (i := 2) (oi := { dst := some 18, op := Go.Op.binOp Go.BinOp.eql 9 (Go.Operand.tmp 17) (Go.Operand.const (Go.Value.string { data := #[169, 153, 62, 54, 71, 6, 129, 106, 186, 62, 37, 113, 120, 80, 194, 108, 156, 208, 216, 157] })) 9, type := 4, pos := "law.go:21", after := #[{ on := 1, ground := Go.Ground.data }], guard := none }) (v := ?vCA_1) rfl (by kernel_rfl) (by kernel_rfl) (by kernel_rfl) (fun _ _ _ h => h) (Or.inl ⟨by rfl, ?hCA_1⟩) ?rCA_1
  case hCA_1 => (intro wz; go_simp; try with_reducible rfl)
  simp only [Act.put, List.setIfInBounds_toArray, List.set_cons_zero, List.set_cons_succ]
  refine wpAny_take (i := 3) (oi := { dst := some 19, op := Go.Op.move (Go.Operand.tmp 18), type := 4, pos := "law.go:21", after := #[{ on := 2, ground := Go.Ground.data }, { on := 1, ground := Go.Ground.chain }], guard := none }) (v := ?vCA_2) rfl (by kernel_rfl) (by kernel_rfl) (by kernel_rfl) (fun _ _ _ h => h) (Or.inl ⟨by rfl, ?hCA_2⟩) ?rCA_2
  case hCA_2 => (intro wz; go_simp; try with_reducible rfl)
  simp only [Act.put, List.setIfInBounds_toArray, List.set_cons_zero, List.set_cons_succ]
  refine wpAny_ready (rs := [4, 7]) (by kernel_rfl) (by simp) ?_
  refine AllReady.cons (o := { dst := some 20, op := Go.Op.buildSlice 25 3 #[(0, Go.Operand.const (Go.Value.int Go.IntKind.u8 97)), (1, Go.Operand.const (Go.Value.int Go.IntKind.u8 98)), (2, Go.Operand.const (Go.Value.int Go.IntKind.u8 99))], type := 25, pos := "law.go:21", after := #[{ on := 3, ground := Go.Ground.guard }], guard := some (3, true) }) rfl (fun K hK => ?_) (AllReady.cons (o := { dst := some 23, op := Go.Op.load 27 (Go.Operand.tmp 2), type := 27, pos := "law.go:21", after := #[{ on := 3, ground := Go.Ground.guard }], guard := some (3, true) }) rfl (fun K hK => ?_) (AllReady.nil))
  · skip
    go_simp
    refine hK _ _ ?_
    clear hK K
    try simp only [Act.put, List.setIfInBounds_toArray, List.set_cons_zero, List.set_cons_succ]
    refine wpAny_ready (rs := [5, 7]) (by kernel_rfl) (by simp) ?_
    refine AllReady.cons (o := { dst := some 21, op := Go.Op.convert 25 25 (Go.Operand.tmp 20), type := 25, pos := "law.go:21", after := #[{ on := 4, ground := Go.Ground.data }, { on := 3, ground := Go.Ground.guard }], guard := some (3, true) }) rfl (fun K hK => ?_) (AllReady.cons (o := { dst := some 23, op := Go.Op.load 27 (Go.Operand.tmp 2), type := 27, pos := "law.go:21", after := #[{ on := 3, ground := Go.Ground.guard }], guard := some (3, true) }) rfl (fun K hK => ?_) (AllReady.nil))
    · skip
      go_simp
      refine hK _ _ ?_
      clear hK K
      try simp only [Act.put, List.setIfInBounds_toArray, List.set_cons_zero, List.set_cons_succ]
      refine wpAny_ready (rs := [6, 7]) (by kernel_rfl) (by simp) ?_
      refine AllReady.cons (o := { dst := some 22, op := Go.Op.call { callee := Go.Callee.value (Go.Operand.func 13), args := #[Go.Operand.tmp 21], argTypes := #[25] }, type := 27, pos := "law.go:21", after := #[{ on := 5, ground := Go.Ground.data }, { on := 3, ground := Go.Ground.chain }, { on := 3, ground := Go.Ground.guard }], guard := some (3, true) }) rfl (fun K hK => ?_) (AllReady.cons (o := { dst := some 23, op := Go.Op.load 27 (Go.Operand.tmp 2), type := 27, pos := "law.go:21", after := #[{ on := 3, ground := Go.Ground.guard }], guard := some (3, true) }) rfl (fun K hK => ?_) (AllReady.nil))
      · skip
        go_simp
        have hkA : Still w6 (w6.alloc (.cells #[.int .u8 97, .int .u8 98, .int .u8 99] 5 (3, 4))) := (Keeps.refl _ _).alloc _
        have hq := of_at (w6.alloc (.cells #[.int .u8 97, .int .u8 98, .int .u8 99] 5 (3, 4))) [97, 98, 99] d (some ⟨w6.heap.size, 0, none⟩) 3 3 (h06.out.keeps hkA id) (slice_new w6 _ _ _ _ _ rfl rfl) (Nat.le_refl _) (by intro ad h; cases h; simp) (by omega) HDS.out
        refine hq.mono ?_
        clear hq
        rintro e w7 ⟨rfl, hk7⟩
        have hk67 := hkA.trans hk7
        clear hkA hk7
        have hs7 := Lib.hid (hs6.out.keeps hk67 id)
        have h07 := Lib.hid (h06.out.keeps hk67 id)
        refine hK _ _ ?_
        clear hK K
        try simp only [Act.put, List.setIfInBounds_toArray, List.set_cons_zero, List.set_cons_succ]
        refine wpAny_ready (rs := [7]) (by kernel_rfl) (by simp) ?_
        refine AllReady.cons (o := { dst := some 23, op := Go.Op.load 27 (Go.Operand.tmp 2), type := 27, pos := "law.go:21", after := #[{ on := 3, ground := Go.Ground.guard }], guard := some (3, true) }) rfl (fun K hK => ?_) AllReady.nil
        refine step_load27 (by rfl) (.tmp 2) rfl w4.heap.size rfl d HLD (by first | exact HB6 _ (Keeps.refl _ _) | exact HB6 _ ((Keeps.refl _ _).alloc _) | exact HB6 _ hk67) ?_
        refine hK _ _ ?_
        clear hK K
        try simp only [Act.put, List.setIfInBounds_toArray, List.set_cons_zero, List.set_cons_succ]
        refine wpAny_take (i := 8) (oi := { dst := some 24, op := Go.Op.binOp Go.BinOp.eql 27 (Go.Operand.tmp 22) (Go.Operand.tmp 23) 27, type := 4, pos := "law.go:21", after := #[{ on := 6, ground := Go.Ground.data }, { on := 7, ground := Go.Ground.data }, { on := 3, ground := Go.Ground.guard }], guard := some (3, true) }) (v := ?vCA_3) rfl (by kernel_rfl) (by kernel_rfl) (by kernel_rfl) (fun _ _ _ h => h) (Or.inl ⟨by rfl, ?hCA_3⟩) ?rCA_3
        case hCA_3 => (intro wz; go_simp; try with_reducible rfl)
        simp only [Act.put, List.setIfInBounds_toArray, List.set_cons_zero, List.set_cons_succ]
        refine wpAny_take (i := 9) (oi := { dst := some 25, op := Go.Op.pick (Go.Operand.tmp 19) (Go.Operand.tmp 24) (Go.Operand.const (Go.Value.bool false)), type := 4, pos := "law.go:21", after := #[{ on := 3, ground := Go.Ground.data }, { on := 8, ground := Go.Ground.data }], guard := none }) (v := ?vCA_4) rfl (by kernel_rfl) (by kernel_rfl) (by kernel_rfl) (fun _ _ _ h => h) (Or.inl ⟨by rfl, ?hCA_4⟩) ?rCA_4
        case hCA_4 => (intro wz; go_simp; try with_reducible rfl)
        simp only [Act.put, List.setIfInBounds_toArray, List.set_cons_zero, List.set_cons_succ]
        refine wpAny_take (i := 10) (oi := { dst := some 26, op := Go.Op.move (Go.Operand.tmp 25), type := 4, pos := "law.go:21", after := #[{ on := 9, ground := Go.Ground.data }, { on := 6, ground := Go.Ground.chain }], guard := none }) (v := ?vCA_5) rfl (by kernel_rfl) (by kernel_rfl) (by kernel_rfl) (fun _ _ _ h => h) (Or.inl ⟨by rfl, ?hCA_5⟩) ?rCA_5
        case hCA_5 => (intro wz; go_simp; try with_reducible rfl)
        simp only [Act.put, List.setIfInBounds_toArray, List.set_cons_zero, List.set_cons_succ]
        refine wpAny_take (i := 11) (oi := { dst := some 27, op := Go.Op.move (Go.Operand.tmp 1), type := 22, pos := "law.go:21", after := #[{ on := 10, ground := Go.Ground.guard }], guard := some (10, true) }) (v := ?vCA_6) rfl (by kernel_rfl) (by kernel_rfl) (by kernel_rfl) (fun _ _ _ h => h) (Or.inl ⟨by rfl, ?hCA_6⟩) ?rCA_6
        case hCA_6 => (intro wz; go_simp; try with_reducible rfl)
        simp only [Act.put, List.setIfInBounds_toArray, List.set_cons_zero, List.set_cons_succ]
        refine wpAny_ready (rs := [12]) (by kernel_rfl) (by simp) ?_
        refine AllReady.cons (o := { dst := some 28, op := Go.Op.call { callee := Go.Callee.value (Go.Operand.func 15), args := #[Go.Operand.tmp 27], argTypes := #[22] }, type := 32, pos := "law.go:21", after := #[{ on := 11, ground := Go.Ground.data }, { on := 10, ground := Go.Ground.chain }, { on := 10, ground := Go.Ground.guard }], guard := some (10, true) }) rfl (fun K hK => ?_) AllReady.nil
        go_simp
        have hq := len_any w7 w.heap.size _ 3 hs7.out (by rw [Sum.n_add]; rfl)
        refine hq.mono ?_
        clear hq
        rintro e w8 ⟨rfl, rfl⟩
        refine hK _ _ ?_
        clear hK K
        try simp only [Act.put, List.setIfInBounds_toArray, List.set_cons_zero, List.set_cons_succ]
        refine wpAny_take (i := 13) (oi := { dst := some 29, op := Go.Op.binOp Go.BinOp.eql 32 (Go.Operand.tmp 28) (Go.Operand.const (Go.Value.int Go.IntKind.u64 3)) 32, type := 4, pos := "law.go:21", after := #[{ on := 12, ground := Go.Ground.data }, { on := 10, ground := Go.Ground.guard }], guard := some (10, true) }) (v := ?vCA_7) rfl (by kernel_rfl) (by kernel_rfl) (by kernel_rfl) (fun _ _ _ h => h) (Or.inl ⟨by rfl, ?hCA_7⟩) ?rCA_7
        case hCA_7 => (intro wz; go_simp; try with_reducible rfl)
        simp only [Act.put, List.setIfInBounds_toArray, List.set_cons_zero, List.set_cons_succ]
        refine wpAny_take (i := 14) (oi := { dst := some 30, op := Go.Op.pick (Go.Operand.tmp 26) (Go.Operand.tmp 29) (Go.Operand.const (Go.Value.bool false)), type := 4, pos := "law.go:21", after := #[{ on := 10, ground := Go.Ground.data }, { on := 13, ground := Go.Ground.data }], guard := none }) (v := ?vCA_8) rfl (by kernel_rfl) (by kernel_rfl) (by kernel_rfl) (fun _ _ _ h => h) (Or.inl ⟨by rfl, ?hCA_8⟩) ?rCA_8
        case hCA_8 => (intro wz; go_simp; try with_reducible rfl)
        simp only [Act.put, List.setIfInBounds_toArray, List.set_cons_zero, List.set_cons_succ]
        refine wpAny_take (i := 15) (oi := { dst := some 31, op := Go.Op.move (Go.Operand.tmp 30), type := 4, pos := "law.go:21", after := #[{ on := 14, ground := Go.Ground.data }, { on := 12, ground := Go.Ground.chain }], guard := none }) (v := ?vCA_9) rfl (by kernel_rfl) (by kernel_rfl) (by kernel_rfl) (fun _ _ _ h => h) (Or.inl ⟨by rfl, ?hCA_9⟩) ?rCA_9
        case hCA_9 => (intro wz; go_simp; try with_reducible rfl)
        simp only [Act.put, List.setIfInBounds_toArray, List.set_cons_zero, List.set_cons_succ]
        refine wpAny_ready (rs := [16]) (by kernel_rfl) (by simp) ?_
        refine AllReady.cons (o := { dst := some 32, op := Go.Op.call { callee := Go.Callee.value (Go.Operand.func 13), args := #[Go.Operand.const (Go.Value.slice none 0 0)], argTypes := #[25] }, type := 27, pos := "law.go:21", after := #[{ on := 15, ground := Go.Ground.chain }, { on := 15, ground := Go.Ground.guard }], guard := some (15, true) }) rfl (fun K hK => ?_) AllReady.nil
        go_simp
        have hq := of_at w7 [] dn none 0 0 h07.out ⟨rfl, by intro h; omega⟩ (Nat.le_refl _) (by intro ad h; cases h) (by omega) HDN.out
        refine hq.mono ?_
        clear hq
        rintro e w9 ⟨rfl, hk9⟩
        refine hK _ _ ?_
        clear hK K
        try simp only [Act.put, List.setIfInBounds_toArray, List.set_cons_zero, List.set_cons_succ]
        refine wpAny_ready (rs := [17]) (by kernel_rfl) (by simp) ?_
        refine AllReady.cons (o := { dst := some 33, op := Go.Op.call { callee := Go.Callee.value (Go.Operand.func 16), args := #[Go.Operand.tmp 32], argTypes := #[27] }, type := 9, pos := "law.go:21", after := #[{ on := 16, ground := Go.Ground.data }, { on := 16, ground := Go.Ground.chain }, { on := 15, ground := Go.Ground.guard }], guard := some (15, true) }) rfl (fun K hK => ?_) AllReady.nil
        go_simp
        have hq := text_any w9 dn nilB HLN.out HNB.out
        refine hq.mono ?_
        clear hq
        rintro e w10 ⟨rfl, hk10⟩
        refine hK _ _ ?_
        clear hK K
        try simp only [Act.put, List.setIfInBounds_toArray, List.set_cons_zero, List.set_cons_succ]
        refine wpAny_take (i := 18) (oi := { dst := some 34, op := Go.Op.slice 9 (Go.Operand.tmp 33) none (some (Go.Operand.const (Go.Value.int Go.IntKind.i64 4))) none, type := 9, pos := "law.go:21", after := #[{ on := 17, ground := Go.Ground.data }, { on := 15, ground := Go.Ground.guard }], guard := some (15, true) }) (v := ?vCA_10) rfl (by kernel_rfl) (by kernel_rfl) (by kernel_rfl) (fun _ _ _ h => h) (Or.inl ⟨by rfl, ?hCA_10⟩) ?rCA_10
        case hCA_10 => (intro wz; go_simp; try with_reducible rfl)
        simp only [Act.put, List.setIfInBounds_toArray, List.set_cons_zero, List.set_cons_succ]
        refine wpAny_take (i := 19) (oi := { dst := some 35, op := Go.Op.binOp Go.BinOp.eql 9 (Go.Operand.tmp 34) (Go.Operand.const (Go.Value.string { data := #[218, 57, 163, 238] })) 9, type := 4, pos := "law.go:21", after := #[{ on := 18, ground := Go.Ground.data }, { on := 15, ground := Go.Ground.guard }], guard := some (15, true) }) (v := ?vCA_11) rfl (by kernel_rfl) (by kernel_rfl) (by kernel_rfl) (fun _ _ _ h => h) (Or.inl ⟨by rfl, ?hCA_11⟩) ?rCA_11
        case hCA_11 => (intro wz; go_simp; try with_reducible rfl)
        simp only [Act.put, List.setIfInBounds_toArray, List.set_cons_zero, List.set_cons_succ]
        refine wpAny_take (i := 20) (oi := { dst := some 36, op := Go.Op.pick (Go.Operand.tmp 31) (Go.Operand.tmp 35) (Go.Operand.const (Go.Value.bool false)), type := 4, pos := "law.go:21", after := #[{ on := 15, ground := Go.Ground.data }, { on := 19, ground := Go.Ground.data }], guard := none }) (v := ?vCA_12) rfl (by kernel_rfl) (by kernel_rfl) (by kernel_rfl) (fun _ _ _ h => h) (Or.inl ⟨by rfl, ?hCA_12⟩) ?rCA_12
        case hCA_12 => (intro wz; go_simp; try with_reducible rfl)
        simp only [Act.put, List.setIfInBounds_toArray, List.set_cons_zero, List.set_cons_succ]
        refine wpAny_take (i := 21) (oi := { dst := some 0, op := Go.Op.assign (Go.Operand.tmp 36), type := 4, pos := "law.go:21", after := #[{ on := 20, ground := Go.Ground.data }, { on := 17, ground := Go.Ground.chain }, { on := 0, ground := Go.Ground.phase }, { on := 1, ground := Go.Ground.phase }, { on := 2, ground := Go.Ground.phase }, { on := 3, ground := Go.Ground.phase }, { on := 4, ground := Go.Ground.phase }, { on := 5, ground := Go.Ground.phase }, { on := 6, ground := Go.Ground.phase }, { on := 7, ground := Go.Ground.phase }, { on := 8, ground := Go.Ground.phase }, { on := 9, ground := Go.Ground.phase }, { on := 10, ground := Go.Ground.phase }, { on := 11, ground := Go.Ground.phase }, { on := 12, ground := Go.Ground.phase }, { on := 13, ground := Go.Ground.phase }, { on := 14, ground := Go.Ground.phase }, { on := 15, ground := Go.Ground.phase }, { on := 16, ground := Go.Ground.phase }, { on := 17, ground := Go.Ground.phase }, { on := 18, ground := Go.Ground.phase }, { on := 19, ground := Go.Ground.phase }, { on := 20, ground := Go.Ground.phase }], guard := none }) (v := ?vCA_13) rfl (by kernel_rfl) (by kernel_rfl) (by kernel_rfl) (fun _ _ _ h => h) (Or.inl ⟨by rfl, ?hCA_13⟩) ?rCA_13
        case hCA_13 => (intro wz; go_simp; try with_reducible rfl)
        simp only [Act.put, List.setIfInBounds_toArray, List.set_cons_zero, List.set_cons_succ]
        refine wpAny_done (by kernel_rfl) ?_ _
        have HF := Lib.hid (HK5.out.trans (((hk6.drew_of.trans hk67).trans hk9).trans hk10))
        go_wp2_with fail
        go_ret
        exact ⟨rfl, HF.out⟩
      · skip
        refine step_load27 (by rfl) (.tmp 2) rfl w4.heap.size rfl d HLD (by first | exact HB6 _ (Keeps.refl _ _) | exact HB6 _ ((Keeps.refl _ _).alloc _) | exact HB6 _ hk67) ?_
        refine hK _ _ ?_
        clear hK K
        try simp only [Act.put, List.setIfInBounds_toArray, List.set_cons_zero, List.set_cons_succ]
        refine wpAny_ready (rs := [6]) (by kernel_rfl) (by simp) ?_
        refine AllReady.cons (o := { dst := some 22, op := Go.Op.call { callee := Go.Callee.value (Go.Operand.func 13), args := #[Go.Operand.tmp 21], argTypes := #[25] }, type := 27, pos := "law.go:21", after := #[{ on := 5, ground := Go.Ground.data }, { on := 3, ground := Go.Ground.chain }, { on := 3, ground := Go.Ground.guard }], guard := some (3, true) }) rfl (fun K hK => ?_) AllReady.nil
        go_simp
        have hkA : Still w6 (w6.alloc (.cells #[.int .u8 97, .int .u8 98, .int .u8 99] 5 (3, 4))) := (Keeps.refl _ _).alloc _
        have hq := of_at (w6.alloc (.cells #[.int .u8 97, .int .u8 98, .int .u8 99] 5 (3, 4))) [97, 98, 99] d (some ⟨w6.heap.size, 0, none⟩) 3 3 (h06.out.keeps hkA id) (slice_new w6 _ _ _ _ _ rfl rfl) (Nat.le_refl _) (by intro ad h; cases h; simp) (by omega) HDS.out
        refine hq.mono ?_
        clear hq
        rintro e w7 ⟨rfl, hk7⟩
        have hk67 := hkA.trans hk7
        clear hkA hk7
        have hs7 := Lib.hid (hs6.out.keeps hk67 id)
        have h07 := Lib.hid (h06.out.keeps hk67 id)
        refine hK _ _ ?_
        clear hK K
        try simp only [Act.put, List.setIfInBounds_toArray, List.set_cons_zero, List.set_cons_succ]
        refine wpAny_take (i := 8) (oi := { dst := some 24, op := Go.Op.binOp Go.BinOp.eql 27 (Go.Operand.tmp 22) (Go.Operand.tmp 23) 27, type := 4, pos := "law.go:21", after := #[{ on := 6, ground := Go.Ground.data }, { on := 7, ground := Go.Ground.data }, { on := 3, ground := Go.Ground.guard }], guard := some (3, true) }) (v := ?vCA_14) rfl (by kernel_rfl) (by kernel_rfl) (by kernel_rfl) (fun _ _ _ h => h) (Or.inl ⟨by rfl, ?hCA_14⟩) ?rCA_14
        case hCA_14 => (intro wz; go_simp; try with_reducible rfl)
        simp only [Act.put, List.setIfInBounds_toArray, List.set_cons_zero, List.set_cons_succ]
        refine wpAny_take (i := 9) (oi := { dst := some 25, op := Go.Op.pick (Go.Operand.tmp 19) (Go.Operand.tmp 24) (Go.Operand.const (Go.Value.bool false)), type := 4, pos := "law.go:21", after := #[{ on := 3, ground := Go.Ground.data }, { on := 8, ground := Go.Ground.data }], guard := none }) (v := ?vCA_15) rfl (by kernel_rfl) (by kernel_rfl) (by kernel_rfl) (fun _ _ _ h => h) (Or.inl ⟨by rfl, ?hCA_15⟩) ?rCA_15
        case hCA_15 => (intro wz; go_simp; try with_reducible rfl)
        simp only [Act.put, List.setIfInBounds_toArray, List.set_cons_zero, List.set_cons_succ]
        refine wpAny_take (i := 10) (oi := { dst := some 26, op := Go.Op.move (Go.Operand.tmp 25), type := 4, pos := "law.go:21", after := #[{ on := 9, ground := Go.Ground.data }, { on := 6, ground := Go.Ground.chain }], guard := none }) (v := ?vCA_16) rfl (by kernel_rfl) (by kernel_rfl) (by kernel_rfl) (fun _ _ _ h => h) (Or.inl ⟨by rfl, ?hCA_16⟩) ?rCA_16
        case hCA_16 => (intro wz; go_simp; try with_reducible rfl)
        simp only [Act.put, List.setIfInBounds_toArray, List.set_cons_zero, List.set_cons_succ]
        refine wpAny_take (i := 11) (oi := { dst := some 27, op := Go.Op.move (Go.Operand.tmp 1), type := 22, pos := "law.go:21", after := #[{ on := 10, ground := Go.Ground.guard }], guard := some (10, true) }) (v := ?vCA_17) rfl (by kernel_rfl) (by kernel_rfl) (by kernel_rfl) (fun _ _ _ h => h) (Or.inl ⟨by rfl, ?hCA_17⟩) ?rCA_17
        case hCA_17 => (intro wz; go_simp; try with_reducible rfl)
        simp only [Act.put, List.setIfInBounds_toArray, List.set_cons_zero, List.set_cons_succ]
        refine wpAny_ready (rs := [12]) (by kernel_rfl) (by simp) ?_
        refine AllReady.cons (o := { dst := some 28, op := Go.Op.call { callee := Go.Callee.value (Go.Operand.func 15), args := #[Go.Operand.tmp 27], argTypes := #[22] }, type := 32, pos := "law.go:21", after := #[{ on := 11, ground := Go.Ground.data }, { on := 10, ground := Go.Ground.chain }, { on := 10, ground := Go.Ground.guard }], guard := some (10, true) }) rfl (fun K hK => ?_) AllReady.nil
        go_simp
        have hq := len_any w7 w.heap.size _ 3 hs7.out (by rw [Sum.n_add]; rfl)
        refine hq.mono ?_
        clear hq
        rintro e w8 ⟨rfl, rfl⟩
        refine hK _ _ ?_
        clear hK K
        try simp only [Act.put, List.setIfInBounds_toArray, List.set_cons_zero, List.set_cons_succ]
        refine wpAny_take (i := 13) (oi := { dst := some 29, op := Go.Op.binOp Go.BinOp.eql 32 (Go.Operand.tmp 28) (Go.Operand.const (Go.Value.int Go.IntKind.u64 3)) 32, type := 4, pos := "law.go:21", after := #[{ on := 12, ground := Go.Ground.data }, { on := 10, ground := Go.Ground.guard }], guard := some (10, true) }) (v := ?vCA_18) rfl (by kernel_rfl) (by kernel_rfl) (by kernel_rfl) (fun _ _ _ h => h) (Or.inl ⟨by rfl, ?hCA_18⟩) ?rCA_18
        case hCA_18 => (intro wz; go_simp; try with_reducible rfl)
        simp only [Act.put, List.setIfInBounds_toArray, List.set_cons_zero, List.set_cons_succ]
        refine wpAny_take (i := 14) (oi := { dst := some 30, op := Go.Op.pick (Go.Operand.tmp 26) (Go.Operand.tmp 29) (Go.Operand.const (Go.Value.bool false)), type := 4, pos := "law.go:21", after := #[{ on := 10, ground := Go.Ground.data }, { on := 13, ground := Go.Ground.data }], guard := none }) (v := ?vCA_19) rfl (by kernel_rfl) (by kernel_rfl) (by kernel_rfl) (fun _ _ _ h => h) (Or.inl ⟨by rfl, ?hCA_19⟩) ?rCA_19
        case hCA_19 => (intro wz; go_simp; try with_reducible rfl)
        simp only [Act.put, List.setIfInBounds_toArray, List.set_cons_zero, List.set_cons_succ]
        refine wpAny_take (i := 15) (oi := { dst := some 31, op := Go.Op.move (Go.Operand.tmp 30), type := 4, pos := "law.go:21", after := #[{ on := 14, ground := Go.Ground.data }, { on := 12, ground := Go.Ground.chain }], guard := none }) (v := ?vCA_20) rfl (by kernel_rfl) (by kernel_rfl) (by kernel_rfl) (fun _ _ _ h => h) (Or.inl ⟨by rfl, ?hCA_20⟩) ?rCA_20
        case hCA_20 => (intro wz; go_simp; try with_reducible rfl)
        simp only [Act.put, List.setIfInBounds_toArray, List.set_cons_zero, List.set_cons_succ]
        refine wpAny_ready (rs := [16]) (by kernel_rfl) (by simp) ?_
        refine AllReady.cons (o := { dst := some 32, op := Go.Op.call { callee := Go.Callee.value (Go.Operand.func 13), args := #[Go.Operand.const (Go.Value.slice none 0 0)], argTypes := #[25] }, type := 27, pos := "law.go:21", after := #[{ on := 15, ground := Go.Ground.chain }, { on := 15, ground := Go.Ground.guard }], guard := some (15, true) }) rfl (fun K hK => ?_) AllReady.nil
        go_simp
        have hq := of_at w7 [] dn none 0 0 h07.out ⟨rfl, by intro h; omega⟩ (Nat.le_refl _) (by intro ad h; cases h) (by omega) HDN.out
        refine hq.mono ?_
        clear hq
        rintro e w9 ⟨rfl, hk9⟩
        refine hK _ _ ?_
        clear hK K
        try simp only [Act.put, List.setIfInBounds_toArray, List.set_cons_zero, List.set_cons_succ]
        refine wpAny_ready (rs := [17]) (by kernel_rfl) (by simp) ?_
        refine AllReady.cons (o := { dst := some 33, op := Go.Op.call { callee := Go.Callee.value (Go.Operand.func 16), args := #[Go.Operand.tmp 32], argTypes := #[27] }, type := 9, pos := "law.go:21", after := #[{ on := 16, ground := Go.Ground.data }, { on := 16, ground := Go.Ground.chain }, { on := 15, ground := Go.Ground.guard }], guard := some (15, true) }) rfl (fun K hK => ?_) AllReady.nil
        go_simp
        have hq := text_any w9 dn nilB HLN.out HNB.out
        refine hq.mono ?_
        clear hq
        rintro e w10 ⟨rfl, hk10⟩
        refine hK _ _ ?_
        clear hK K
        try simp only [Act.put, List.setIfInBounds_toArray, List.set_cons_zero, List.set_cons_succ]
        refine wpAny_take (i := 18) (oi := { dst := some 34, op := Go.Op.slice 9 (Go.Operand.tmp 33) none (some (Go.Operand.const (Go.Value.int Go.IntKind.i64 4))) none, type := 9, pos := "law.go:21", after := #[{ on := 17, ground := Go.Ground.data }, { on := 15, ground := Go.Ground.guard }], guard := some (15, true) }) (v := ?vCA_21) rfl (by kernel_rfl) (by kernel_rfl) (by kernel_rfl) (fun _ _ _ h => h) (Or.inl ⟨by rfl, ?hCA_21⟩) ?rCA_21
        case hCA_21 => (intro wz; go_simp; try with_reducible rfl)
        simp only [Act.put, List.setIfInBounds_toArray, List.set_cons_zero, List.set_cons_succ]
        refine wpAny_take (i := 19) (oi := { dst := some 35, op := Go.Op.binOp Go.BinOp.eql 9 (Go.Operand.tmp 34) (Go.Operand.const (Go.Value.string { data := #[218, 57, 163, 238] })) 9, type := 4, pos := "law.go:21", after := #[{ on := 18, ground := Go.Ground.data }, { on := 15, ground := Go.Ground.guard }], guard := some (15, true) }) (v := ?vCA_22) rfl (by kernel_rfl) (by kernel_rfl) (by kernel_rfl) (fun _ _ _ h => h) (Or.inl ⟨by rfl, ?hCA_22⟩) ?rCA_22
        case hCA_22 => (intro wz; go_simp; try with_reducible rfl)
        simp only [Act.put, List.setIfInBounds_toArray, List.set_cons_zero, List.set_cons_succ]
        refine wpAny_take (i := 20) (oi := { dst := some 36, op := Go.Op.pick (Go.Operand.tmp 31) (Go.Operand.tmp 35) (Go.Operand.const (Go.Value.bool false)), type := 4, pos := "law.go:21", after := #[{ on := 15, ground := Go.Ground.data }, { on := 19, ground := Go.Ground.data }], guard := none }) (v := ?vCA_23) rfl (by kernel_rfl) (by kernel_rfl) (by kernel_rfl) (fun _ _ _ h => h) (Or.inl ⟨by rfl, ?hCA_23⟩) ?rCA_23
        case hCA_23 => (intro wz; go_simp; try with_reducible rfl)
        simp only [Act.put, List.setIfInBounds_toArray, List.set_cons_zero, List.set_cons_succ]
        refine wpAny_take (i := 21) (oi := { dst := some 0, op := Go.Op.assign (Go.Operand.tmp 36), type := 4, pos := "law.go:21", after := #[{ on := 20, ground := Go.Ground.data }, { on := 17, ground := Go.Ground.chain }, { on := 0, ground := Go.Ground.phase }, { on := 1, ground := Go.Ground.phase }, { on := 2, ground := Go.Ground.phase }, { on := 3, ground := Go.Ground.phase }, { on := 4, ground := Go.Ground.phase }, { on := 5, ground := Go.Ground.phase }, { on := 6, ground := Go.Ground.phase }, { on := 7, ground := Go.Ground.phase }, { on := 8, ground := Go.Ground.phase }, { on := 9, ground := Go.Ground.phase }, { on := 10, ground := Go.Ground.phase }, { on := 11, ground := Go.Ground.phase }, { on := 12, ground := Go.Ground.phase }, { on := 13, ground := Go.Ground.phase }, { on := 14, ground := Go.Ground.phase }, { on := 15, ground := Go.Ground.phase }, { on := 16, ground := Go.Ground.phase }, { on := 17, ground := Go.Ground.phase }, { on := 18, ground := Go.Ground.phase }, { on := 19, ground := Go.Ground.phase }, { on := 20, ground := Go.Ground.phase }], guard := none }) (v := ?vCA_24) rfl (by kernel_rfl) (by kernel_rfl) (by kernel_rfl) (fun _ _ _ h => h) (Or.inl ⟨by rfl, ?hCA_24⟩) ?rCA_24
        case hCA_24 => (intro wz; go_simp; try with_reducible rfl)
        simp only [Act.put, List.setIfInBounds_toArray, List.set_cons_zero, List.set_cons_succ]
        refine wpAny_done (by kernel_rfl) ?_ _
        have HF := Lib.hid (HK5.out.trans (((hk6.drew_of.trans hk67).trans hk9).trans hk10))
        go_wp2_with fail
        go_ret
        exact ⟨rfl, HF.out⟩
    · skip
      refine step_load27 (by rfl) (.tmp 2) rfl w4.heap.size rfl d HLD (by first | exact HB6 _ (Keeps.refl _ _) | exact HB6 _ ((Keeps.refl _ _).alloc _) | exact HB6 _ hk67) ?_
      refine hK _ _ ?_
      clear hK K
      try simp only [Act.put, List.setIfInBounds_toArray, List.set_cons_zero, List.set_cons_succ]
      refine wpAny_ready (rs := [5]) (by kernel_rfl) (by simp) ?_
      refine AllReady.cons (o := { dst := some 21, op := Go.Op.convert 25 25 (Go.Operand.tmp 20), type := 25, pos := "law.go:21", after := #[{ on := 4, ground := Go.Ground.data }, { on := 3, ground := Go.Ground.guard }], guard := some (3, true) }) rfl (fun K hK => ?_) AllReady.nil
      go_simp
      refine hK _ _ ?_
      clear hK K
      try simp only [Act.put, List.setIfInBounds_toArray, List.set_cons_zero, List.set_cons_succ]
      refine wpAny_ready (rs := [6]) (by kernel_rfl) (by simp) ?_
      refine AllReady.cons (o := { dst := some 22, op := Go.Op.call { callee := Go.Callee.value (Go.Operand.func 13), args := #[Go.Operand.tmp 21], argTypes := #[25] }, type := 27, pos := "law.go:21", after := #[{ on := 5, ground := Go.Ground.data }, { on := 3, ground := Go.Ground.chain }, { on := 3, ground := Go.Ground.guard }], guard := some (3, true) }) rfl (fun K hK => ?_) AllReady.nil
      go_simp
      have hkA : Still w6 (w6.alloc (.cells #[.int .u8 97, .int .u8 98, .int .u8 99] 5 (3, 4))) := (Keeps.refl _ _).alloc _
      have hq := of_at (w6.alloc (.cells #[.int .u8 97, .int .u8 98, .int .u8 99] 5 (3, 4))) [97, 98, 99] d (some ⟨w6.heap.size, 0, none⟩) 3 3 (h06.out.keeps hkA id) (slice_new w6 _ _ _ _ _ rfl rfl) (Nat.le_refl _) (by intro ad h; cases h; simp) (by omega) HDS.out
      refine hq.mono ?_
      clear hq
      rintro e w7 ⟨rfl, hk7⟩
      have hk67 := hkA.trans hk7
      clear hkA hk7
      have hs7 := Lib.hid (hs6.out.keeps hk67 id)
      have h07 := Lib.hid (h06.out.keeps hk67 id)
      refine hK _ _ ?_
      clear hK K
      try simp only [Act.put, List.setIfInBounds_toArray, List.set_cons_zero, List.set_cons_succ]
      refine wpAny_take (i := 8) (oi := { dst := some 24, op := Go.Op.binOp Go.BinOp.eql 27 (Go.Operand.tmp 22) (Go.Operand.tmp 23) 27, type := 4, pos := "law.go:21", after := #[{ on := 6, ground := Go.Ground.data }, { on := 7, ground := Go.Ground.data }, { on := 3, ground := Go.Ground.guard }], guard := some (3, true) }) (v := ?vCA_25) rfl (by kernel_rfl) (by kernel_rfl) (by kernel_rfl) (fun _ _ _ h => h) (Or.inl ⟨by rfl, ?hCA_25⟩) ?rCA_25
      case hCA_25 => (intro wz; go_simp; try with_reducible rfl)
      simp only [Act.put, List.setIfInBounds_toArray, List.set_cons_zero, List.set_cons_succ]
      refine wpAny_take (i := 9) (oi := { dst := some 25, op := Go.Op.pick (Go.Operand.tmp 19) (Go.Operand.tmp 24) (Go.Operand.const (Go.Value.bool false)), type := 4, pos := "law.go:21", after := #[{ on := 3, ground := Go.Ground.data }, { on := 8, ground := Go.Ground.data }], guard := none }) (v := ?vCA_26) rfl (by kernel_rfl) (by kernel_rfl) (by kernel_rfl) (fun _ _ _ h => h) (Or.inl ⟨by rfl, ?hCA_26⟩) ?rCA_26
      case hCA_26 => (intro wz; go_simp; try with_reducible rfl)
      simp only [Act.put, List.setIfInBounds_toArray, List.set_cons_zero, List.set_cons_succ]
      refine wpAny_take (i := 10) (oi := { dst := some 26, op := Go.Op.move (Go.Operand.tmp 25), type := 4, pos := "law.go:21", after := #[{ on := 9, ground := Go.Ground.data }, { on := 6, ground := Go.Ground.chain }], guard := none }) (v := ?vCA_27) rfl (by kernel_rfl) (by kernel_rfl) (by kernel_rfl) (fun _ _ _ h => h) (Or.inl ⟨by rfl, ?hCA_27⟩) ?rCA_27
      case hCA_27 => (intro wz; go_simp; try with_reducible rfl)
      simp only [Act.put, List.setIfInBounds_toArray, List.set_cons_zero, List.set_cons_succ]
      refine wpAny_take (i := 11) (oi := { dst := some 27, op := Go.Op.move (Go.Operand.tmp 1), type := 22, pos := "law.go:21", after := #[{ on := 10, ground := Go.Ground.guard }], guard := some (10, true) }) (v := ?vCA_28) rfl (by kernel_rfl) (by kernel_rfl) (by kernel_rfl) (fun _ _ _ h => h) (Or.inl ⟨by rfl, ?hCA_28⟩) ?rCA_28
      case hCA_28 => (intro wz; go_simp; try with_reducible rfl)
      simp only [Act.put, List.setIfInBounds_toArray, List.set_cons_zero, List.set_cons_succ]
      refine wpAny_ready (rs := [12]) (by kernel_rfl) (by simp) ?_
      refine AllReady.cons (o := { dst := some 28, op := Go.Op.call { callee := Go.Callee.value (Go.Operand.func 15), args := #[Go.Operand.tmp 27], argTypes := #[22] }, type := 32, pos := "law.go:21", after := #[{ on := 11, ground := Go.Ground.data }, { on := 10, ground := Go.Ground.chain }, { on := 10, ground := Go.Ground.guard }], guard := some (10, true) }) rfl (fun K hK => ?_) AllReady.nil
      go_simp
      have hq := len_any w7 w.heap.size _ 3 hs7.out (by rw [Sum.n_add]; rfl)
      refine hq.mono ?_
      clear hq
      rintro e w8 ⟨rfl, rfl⟩
      refine hK _ _ ?_
      clear hK K
      try simp only [Act.put, List.setIfInBounds_toArray, List.set_cons_zero, List.set_cons_succ]
      refine wpAny_take (i := 13) (oi := { dst := some 29, op := Go.Op.binOp Go.BinOp.eql 32 (Go.Operand.tmp 28) (Go.Operand.const (Go.Value.int Go.IntKind.u64 3)) 32, type := 4, pos := "law.go:21", after := #[{ on := 12, ground := Go.Ground.data }, { on := 10, ground := Go.Ground.guard }], guard := some (10, true) }) (v := ?vCA_29) rfl (by kernel_rfl) (by kernel_rfl) (by kernel_rfl) (fun _ _ _ h => h) (Or.inl ⟨by rfl, ?hCA_29⟩) ?rCA_29
      case hCA_29 => (intro wz; go_simp; try with_reducible rfl)
      simp only [Act.put, List.setIfInBounds_toArray, List.set_cons_zero, List.set_cons_succ]
      refine wpAny_take (i := 14) (oi := { dst := some 30, op := Go.Op.pick (Go.Operand.tmp 26) (Go.Operand.tmp 29) (Go.Operand.const (Go.Value.bool false)), type := 4, pos := "law.go:21", after := #[{ on := 10, ground := Go.Ground.data }, { on := 13, ground := Go.Ground.data }], guard := none }) (v := ?vCA_30) rfl (by kernel_rfl) (by kernel_rfl) (by kernel_rfl) (fun _ _ _ h => h) (Or.inl ⟨by rfl, ?hCA_30⟩) ?rCA_30
      case hCA_30 => (intro wz; go_simp; try with_reducible rfl)
      simp only [Act.put, List.setIfInBounds_toArray, List.set_cons_zero, List.set_cons_succ]
      refine wpAny_take (i := 15) (oi := { dst := some 31, op := Go.Op.move (Go.Operand.tmp 30), type := 4, pos := "law.go:21", after := #[{ on := 14, ground := Go.Ground.data }, { on := 12, ground := Go.Ground.chain }], guard := none }) (v := ?vCA_31) rfl (by kernel_rfl) (by kernel_rfl) (by kernel_rfl) (fun _ _ _ h => h) (Or.inl ⟨by rfl, ?hCA_31⟩) ?rCA_31
      case hCA_31 => (intro wz; go_simp; try with_reducible rfl)
      simp only [Act.put, List.setIfInBounds_toArray, List.set_cons_zero, List.set_cons_succ]
      refine wpAny_ready (rs := [16]) (by kernel_rfl) (by simp) ?_
      refine AllReady.cons (o := { dst := some 32, op := Go.Op.call { callee := Go.Callee.value (Go.Operand.func 13), args := #[Go.Operand.const (Go.Value.slice none 0 0)], argTypes := #[25] }, type := 27, pos := "law.go:21", after := #[{ on := 15, ground := Go.Ground.chain }, { on := 15, ground := Go.Ground.guard }], guard := some (15, true) }) rfl (fun K hK => ?_) AllReady.nil
      go_simp
      have hq := of_at w7 [] dn none 0 0 h07.out ⟨rfl, by intro h; omega⟩ (Nat.le_refl _) (by intro ad h; cases h) (by omega) HDN.out
      refine hq.mono ?_
      clear hq
      rintro e w9 ⟨rfl, hk9⟩
      refine hK _ _ ?_
      clear hK K
      try simp only [Act.put, List.setIfInBounds_toArray, List.set_cons_zero, List.set_cons_succ]
      refine wpAny_ready (rs := [17]) (by kernel_rfl) (by simp) ?_
      refine AllReady.cons (o := { dst := some 33, op := Go.Op.call { callee := Go.Callee.value (Go.Operand.func 16), args := #[Go.Operand.tmp 32], argTypes := #[27] }, type := 9, pos := "law.go:21", after := #[{ on := 16, ground := Go.Ground.data }, { on := 16, ground := Go.Ground.chain }, { on := 15, ground := Go.Ground.guard }], guard := some (15, true) }) rfl (fun K hK => ?_) AllReady.nil
      go_simp
      have hq := text_any w9 dn nilB HLN.out HNB.out
      refine hq.mono ?_
      clear hq
      rintro e w10 ⟨rfl, hk10⟩
      refine hK _ _ ?_
      clear hK K
      try simp only [Act.put, List.setIfInBounds_toArray, List.set_cons_zero, List.set_cons_succ]
      refine wpAny_take (i := 18) (oi := { dst := some 34, op := Go.Op.slice 9 (Go.Operand.tmp 33) none (some (Go.Operand.const (Go.Value.int Go.IntKind.i64 4))) none, type := 9, pos := "law.go:21", after := #[{ on := 17, ground := Go.Ground.data }, { on := 15, ground := Go.Ground.guard }], guard := some (15, true) }) (v := ?vCA_32) rfl (by kernel_rfl) (by kernel_rfl) (by kernel_rfl) (fun _ _ _ h => h) (Or.inl ⟨by rfl, ?hCA_32⟩) ?rCA_32
      case hCA_32 => (intro wz; go_simp; try with_reducible rfl)
      simp only [Act.put, List.setIfInBounds_toArray, List.set_cons_zero, List.set_cons_succ]
      refine wpAny_take (i := 19) (oi := { dst := some 35, op := Go.Op.binOp Go.BinOp.eql 9 (Go.Operand.tmp 34) (Go.Operand.const (Go.Value.string { data := #[218, 57, 163, 238] })) 9, type := 4, pos := "law.go:21", after := #[{ on := 18, ground := Go.Ground.data }, { on := 15, ground := Go.Ground.guard }], guard := some (15, true) }) (v := ?vCA_33) rfl (by kernel_rfl) (by kernel_rfl) (by kernel_rfl) (fun _ _ _ h => h) (Or.inl ⟨by rfl, ?hCA_33⟩) ?rCA_33
      case hCA_33 => (intro wz; go_simp; try with_reducible rfl)
      simp only [Act.put, List.setIfInBounds_toArray, List.set_cons_zero, List.set_cons_succ]
      refine wpAny_take (i := 20) (oi := { dst := some 36, op := Go.Op.pick (Go.Operand.tmp 31) (Go.Operand.tmp 35) (Go.Operand.const (Go.Value.bool false)), type := 4, pos := "law.go:21", after := #[{ on := 15, ground := Go.Ground.data }, { on := 19, ground := Go.Ground.data }], guard := none }) (v := ?vCA_34) rfl (by kernel_rfl) (by kernel_rfl) (by kernel_rfl) (fun _ _ _ h => h) (Or.inl ⟨by rfl, ?hCA_34⟩) ?rCA_34
      case hCA_34 => (intro wz; go_simp; try with_reducible rfl)
      simp only [Act.put, List.setIfInBounds_toArray, List.set_cons_zero, List.set_cons_succ]
      refine wpAny_take (i := 21) (oi := { dst := some 0, op := Go.Op.assign (Go.Operand.tmp 36), type := 4, pos := "law.go:21", after := #[{ on := 20, ground := Go.Ground.data }, { on := 17, ground := Go.Ground.chain }, { on := 0, ground := Go.Ground.phase }, { on := 1, ground := Go.Ground.phase }, { on := 2, ground := Go.Ground.phase }, { on := 3, ground := Go.Ground.phase }, { on := 4, ground := Go.Ground.phase }, { on := 5, ground := Go.Ground.phase }, { on := 6, ground := Go.Ground.phase }, { on := 7, ground := Go.Ground.phase }, { on := 8, ground := Go.Ground.phase }, { on := 9, ground := Go.Ground.phase }, { on := 10, ground := Go.Ground.phase }, { on := 11, ground := Go.Ground.phase }, { on := 12, ground := Go.Ground.phase }, { on := 13, ground := Go.Ground.phase }, { on := 14, ground := Go.Ground.phase }, { on := 15, ground := Go.Ground.phase }, { on := 16, ground := Go.Ground.phase }, { on := 17, ground := Go.Ground.phase }, { on := 18, ground := Go.Ground.phase }, { on := 19, ground := Go.Ground.phase }, { on := 20, ground := Go.Ground.phase }], guard := none }) (v := ?vCA_35) rfl (by kernel_rfl) (by kernel_rfl) (by kernel_rfl) (fun _ _ _ h => h) (Or.inl ⟨by rfl, ?hCA_35⟩) ?rCA_35
      case hCA_35 => (intro wz; go_simp; try with_reducible rfl)
      simp only [Act.put, List.setIfInBounds_toArray, List.set_cons_zero, List.set_cons_succ]
      refine wpAny_done (by kernel_rfl) ?_ _
      have HF := Lib.hid (HK5.out.trans (((hk6.drew_of.trans hk67).trans hk9).trans hk10))
      go_wp2_with fail
      go_ret
      exact ⟨rfl, HF.out⟩
  · skip
    refine step_load27 (by rfl) (.tmp 2) rfl w4.heap.size rfl d HLD (by first | exact HB6 _ (Keeps.refl _ _) | exact HB6 _ ((Keeps.refl _ _).alloc _) | exact HB6 _ hk67) ?_
    refine hK _ _ ?_
    clear hK K
    try simp only [Act.put, List.setIfInBounds_toArray, List.set_cons_zero, List.set_cons_succ]
    refine wpAny_ready (rs := [4]) (by kernel_rfl) (by simp) ?_
    refine AllReady.cons (o := { dst := some 20, op := Go.Op.buildSlice 25 3 #[(0, Go.Operand.const (Go.Value.int Go.IntKind.u8 97)), (1, Go.Operand.const (Go.Value.int Go.IntKind.u8 98)), (2, Go.Operand.const (Go.Value.int Go.IntKind.u8 99))], type := 25, pos := "law.go:21", after := #[{ on := 3, ground := Go.Ground.guard }], guard := some (3, true) }) rfl (fun K hK => ?_) AllReady.nil
    go_simp
    refine hK _ _ ?_
    clear hK K
    try simp only [Act.put, List.setIfInBounds_toArray, List.set_cons_zero, List.set_cons_succ]
    refine wpAny_ready (rs := [5]) (by kernel_rfl) (by simp) ?_
    refine AllReady.cons (o := { dst := some 21, op := Go.Op.convert 25 25 (Go.Operand.tmp 20), type := 25, pos := "law.go:21", after := #[{ on := 4, ground := Go.Ground.data }, { on := 3, ground := Go.Ground.guard }], guard := some (3, true) }) rfl (fun K hK => ?_) AllReady.nil
    go_simp
    refine hK _ _ ?_
    clear hK K
    try simp only [Act.put, List.setIfInBounds_toArray, List.set_cons_zero, List.set_cons_succ]
    refine wpAny_ready (rs := [6]) (by kernel_rfl) (by simp) ?_
    refine AllReady.cons (o := { dst := some 22, op := Go.Op.call { callee := Go.Callee.value (Go.Operand.func 13), args := #[Go.Operand.tmp 21], argTypes := #[25] }, type := 27, pos := "law.go:21", after := #[{ on := 5, ground := Go.Ground.data }, { on := 3, ground := Go.Ground.chain }, { on := 3, ground := Go.Ground.guard }], guard := some (3, true) }) rfl (fun K hK => ?_) AllReady.nil
    go_simp
    have hkA : Still w6 (w6.alloc (.cells #[.int .u8 97, .int .u8 98, .int .u8 99] 5 (3, 4))) := (Keeps.refl _ _).alloc _
    have hq := of_at (w6.alloc (.cells #[.int .u8 97, .int .u8 98, .int .u8 99] 5 (3, 4))) [97, 98, 99] d (some ⟨w6.heap.size, 0, none⟩) 3 3 (h06.out.keeps hkA id) (slice_new w6 _ _ _ _ _ rfl rfl) (Nat.le_refl _) (by intro ad h; cases h; simp) (by omega) HDS.out
    refine hq.mono ?_
    clear hq
    rintro e w7 ⟨rfl, hk7⟩
    have hk67 := hkA.trans hk7
    clear hkA hk7
    have hs7 := Lib.hid (hs6.out.keeps hk67 id)
    have h07 := Lib.hid (h06.out.keeps hk67 id)
    refine hK _ _ ?_
    clear hK K
    try simp only [Act.put, List.setIfInBounds_toArray, List.set_cons_zero, List.set_cons_succ]
    refine wpAny_take (i := 8) (oi := { dst := some 24, op := Go.Op.binOp Go.BinOp.eql 27 (Go.Operand.tmp 22) (Go.Operand.tmp 23) 27, type := 4, pos := "law.go:21", after := #[{ on := 6, ground := Go.Ground.data }, { on := 7, ground := Go.Ground.data }, { on := 3, ground := Go.Ground.guard }], guard := some (3, true) }) (v := ?vCA_36) rfl (by kernel_rfl) (by kernel_rfl) (by kernel_rfl) (fun _ _ _ h => h) (Or.inl ⟨by rfl, ?hCA_36⟩) ?rCA_36
    case hCA_36 => (intro wz; go_simp; try with_reducible rfl)
    simp only [Act.put, List.setIfInBounds_toArray, List.set_cons_zero, List.set_cons_succ]
    refine wpAny_take (i := 9) (oi := { dst := some 25, op := Go.Op.pick (Go.Operand.tmp 19) (Go.Operand.tmp 24) (Go.Operand.const (Go.Value.bool false)), type := 4, pos := "law.go:21", after := #[{ on := 3, ground := Go.Ground.data }, { on := 8, ground := Go.Ground.data }], guard := none }) (v := ?vCA_37) rfl (by kernel_rfl) (by kernel_rfl) (by kernel_rfl) (fun _ _ _ h => h) (Or.inl ⟨by rfl, ?hCA_37⟩) ?rCA_37
    case hCA_37 => (intro wz; go_simp; try with_reducible rfl)
    simp only [Act.put, List.setIfInBounds_toArray, List.set_cons_zero, List.set_cons_succ]
    refine wpAny_take (i := 10) (oi := { dst := some 26, op := Go.Op.move (Go.Operand.tmp 25), type := 4, pos := "law.go:21", after := #[{ on := 9, ground := Go.Ground.data }, { on := 6, ground := Go.Ground.chain }], guard := none }) (v := ?vCA_38) rfl (by kernel_rfl) (by kernel_rfl) (by kernel_rfl) (fun _ _ _ h => h) (Or.inl ⟨by rfl, ?hCA_38⟩) ?rCA_38
    case hCA_38 => (intro wz; go_simp; try with_reducible rfl)
    simp only [Act.put, List.setIfInBounds_toArray, List.set_cons_zero, List.set_cons_succ]
    refine wpAny_take (i := 11) (oi := { dst := some 27, op := Go.Op.move (Go.Operand.tmp 1), type := 22, pos := "law.go:21", after := #[{ on := 10, ground := Go.Ground.guard }], guard := some (10, true) }) (v := ?vCA_39) rfl (by kernel_rfl) (by kernel_rfl) (by kernel_rfl) (fun _ _ _ h => h) (Or.inl ⟨by rfl, ?hCA_39⟩) ?rCA_39
    case hCA_39 => (intro wz; go_simp; try with_reducible rfl)
    simp only [Act.put, List.setIfInBounds_toArray, List.set_cons_zero, List.set_cons_succ]
    refine wpAny_ready (rs := [12]) (by kernel_rfl) (by simp) ?_
    refine AllReady.cons (o := { dst := some 28, op := Go.Op.call { callee := Go.Callee.value (Go.Operand.func 15), args := #[Go.Operand.tmp 27], argTypes := #[22] }, type := 32, pos := "law.go:21", after := #[{ on := 11, ground := Go.Ground.data }, { on := 10, ground := Go.Ground.chain }, { on := 10, ground := Go.Ground.guard }], guard := some (10, true) }) rfl (fun K hK => ?_) AllReady.nil
    go_simp
    have hq := len_any w7 w.heap.size _ 3 hs7.out (by rw [Sum.n_add]; rfl)
    refine hq.mono ?_
    clear hq
    rintro e w8 ⟨rfl, rfl⟩
    refine hK _ _ ?_
    clear hK K
    try simp only [Act.put, List.setIfInBounds_toArray, List.set_cons_zero, List.set_cons_succ]
    refine wpAny_take (i := 13) (oi := { dst := some 29, op := Go.Op.binOp Go.BinOp.eql 32 (Go.Operand.tmp 28) (Go.Operand.const (Go.Value.int Go.IntKind.u64 3)) 32, type := 4, pos := "law.go:21", after := #[{ on := 12, ground := Go.Ground.data }, { on := 10, ground := Go.Ground.guard }], guard := some (10, true) }) (v := ?vCA_40) rfl (by kernel_rfl) (by kernel_rfl) (by kernel_rfl) (fun _ _ _ h => h) (Or.inl ⟨by rfl, ?hCA_40⟩) ?rCA_40
    case hCA_40 => (intro wz; go_simp; try with_reducible rfl)
    simp only [Act.put, List.setIfInBounds_toArray, List.set_cons_zero, List.set_cons_succ]
    refine wpAny_take (i := 14) (oi := { dst := some 30, op := Go.Op.pick (Go.Operand.tmp 26) (Go.Operand.tmp 29) (Go.Operand.const (Go.Value.bool false)), type := 4, pos := "law.go:21", after := #[{ on := 10, ground := Go.Ground.data }, { on := 13, ground := Go.Ground.data }], guard := none }) (v := ?vCA_41) rfl (by kernel_rfl) (by kernel_rfl) (by kernel_rfl) (fun _ _ _ h => h) (Or.inl ⟨by rfl, ?hCA_41⟩) ?rCA_41
    case hCA_41 => (intro wz; go_simp; try with_reducible rfl)
    simp only [Act.put, List.setIfInBounds_toArray, List.set_cons_zero, List.set_cons_succ]
    refine wpAny_take (i := 15) (oi := { dst := some 31, op := Go.Op.move (Go.Operand.tmp 30), type := 4, pos := "law.go:21", after := #[{ on := 14, ground := Go.Ground.data }, { on := 12, ground := Go.Ground.chain }], guard := none }) (v := ?vCA_42) rfl (by kernel_rfl) (by kernel_rfl) (by kernel_rfl) (fun _ _ _ h => h) (Or.inl ⟨by rfl, ?hCA_42⟩) ?rCA_42
    case hCA_42 => (intro wz; go_simp; try with_reducible rfl)
    simp only [Act.put, List.setIfInBounds_toArray, List.set_cons_zero, List.set_cons_succ]
    refine wpAny_ready (rs := [16]) (by kernel_rfl) (by simp) ?_
    refine AllReady.cons (o := { dst := some 32, op := Go.Op.call { callee := Go.Callee.value (Go.Operand.func 13), args := #[Go.Operand.const (Go.Value.slice none 0 0)], argTypes := #[25] }, type := 27, pos := "law.go:21", after := #[{ on := 15, ground := Go.Ground.chain }, { on := 15, ground := Go.Ground.guard }], guard := some (15, true) }) rfl (fun K hK => ?_) AllReady.nil
    go_simp
    have hq := of_at w7 [] dn none 0 0 h07.out ⟨rfl, by intro h; omega⟩ (Nat.le_refl _) (by intro ad h; cases h) (by omega) HDN.out
    refine hq.mono ?_
    clear hq
    rintro e w9 ⟨rfl, hk9⟩
    refine hK _ _ ?_
    clear hK K
    try simp only [Act.put, List.setIfInBounds_toArray, List.set_cons_zero, List.set_cons_succ]
    refine wpAny_ready (rs := [17]) (by kernel_rfl) (by simp) ?_
    refine AllReady.cons (o := { dst := some 33, op := Go.Op.call { callee := Go.Callee.value (Go.Operand.func 16), args := #[Go.Operand.tmp 32], argTypes := #[27] }, type := 9, pos := "law.go:21", after := #[{ on := 16, ground := Go.Ground.data }, { on := 16, ground := Go.Ground.chain }, { on := 15, ground := Go.Ground.guard }], guard := some (15, true) }) rfl (fun K hK => ?_) AllReady.nil
    go_simp
    have hq := text_any w9 dn nilB HLN.out HNB.out
    refine hq.mono ?_
    clear hq
    rintro e w10 ⟨rfl, hk10⟩
    refine hK _ _ ?_
    clear hK K
    try simp only [Act.put, List.setIfInBounds_toArray, List.set_cons_zero, List.set_cons_succ]
    refine wpAny_take (i := 18) (oi := { dst := some 34, op := Go.Op.slice 9 (Go.Operand.tmp 33) none (some (Go.Operand.const (Go.Value.int Go.IntKind.i64 4))) none, type := 9, pos := "law.go:21", after := #[{ on := 17, ground := Go.Ground.data }, { on := 15, ground := Go.Ground.guard }], guard := some (15, true) }) (v := ?vCA_43) rfl (by kernel_rfl) (by kernel_rfl) (by kernel_rfl) (fun _ _ _ h => h) (Or.inl ⟨by rfl, ?hCA_43⟩) ?rCA_43
    case hCA_43 => (intro wz; go_simp; try with_reducible rfl)
    simp only [Act.put, List.setIfInBounds_toArray, List.set_cons_zero, List.set_cons_succ]
    refine wpAny_take (i := 19) (oi := { dst := some 35, op := Go.Op.binOp Go.BinOp.eql 9 (Go.Operand.tmp 34) (Go.Operand.const (Go.Value.string { data := #[218, 57, 163, 238] })) 9, type := 4, pos := "law.go:21", after := #[{ on := 18, ground := Go.Ground.data }, { on := 15, ground := Go.Ground.guard }], guard := some (15, true) }) (v := ?vCA_44) rfl (by kernel_rfl) (by kernel_rfl) (by kernel_rfl) (fun _ _ _ h => h) (Or.inl ⟨by rfl, ?hCA_44⟩) ?rCA_44
    case hCA_44 => (intro wz; go_simp; try with_reducible rfl)
    simp only [Act.put, List.setIfInBounds_toArray, List.set_cons_zero, List.set_cons_succ]
    refine wpAny_take (i := 20) (oi := { dst := some 36, op := Go.Op.pick (Go.Operand.tmp 31) (Go.Operand.tmp 35) (Go.Operand.const (Go.Value.bool false)), type := 4, pos := "law.go:21", after := #[{ on := 15, ground := Go.Ground.data }, { on := 19, ground := Go.Ground.data }], guard := none }) (v := ?vCA_45) rfl (by kernel_rfl) (by kernel_rfl) (by kernel_rfl) (fun _ _ _ h => h) (Or.inl ⟨by rfl, ?hCA_45⟩) ?rCA_45
    case hCA_45 => (intro wz; go_simp; try with_reducible rfl)
    simp only [Act.put, List.setIfInBounds_toArray, List.set_cons_zero, List.set_cons_succ]
    refine wpAny_take (i := 21) (oi := { dst := some 0, op := Go.Op.assign (Go.Operand.tmp 36), type := 4, pos := "law.go:21", after := #[{ on := 20, ground := Go.Ground.data }, { on := 17, ground := Go.Ground.chain }, { on := 0, ground := Go.Ground.phase }, { on := 1, ground := Go.Ground.phase }, { on := 2, ground := Go.Ground.phase }, { on := 3, ground := Go.Ground.phase }, { on := 4, ground := Go.Ground.phase }, { on := 5, ground := Go.Ground.phase }, { on := 6, ground := Go.Ground.phase }, { on := 7, ground := Go.Ground.phase }, { on := 8, ground := Go.Ground.phase }, { on := 9, ground := Go.Ground.phase }, { on := 10, ground := Go.Ground.phase }, { on := 11, ground := Go.Ground.phase }, { on := 12, ground := Go.Ground.phase }, { on := 13, ground := Go.Ground.phase }, { on := 14, ground := Go.Ground.phase }, { on := 15, ground := Go.Ground.phase }, { on := 16, ground := Go.Ground.phase }, { on := 17, ground := Go.Ground.phase }, { on := 18, ground := Go.Ground.phase }, { on := 19, ground := Go.Ground.phase }, { on := 20, ground := Go.Ground.phase }], guard := none }) (v := ?vCA_46) rfl (by kernel_rfl) (by kernel_rfl) (by kernel_rfl) (fun _ _ _ h => h) (Or.inl ⟨by rfl, ?hCA_46⟩) ?rCA_46
    case hCA_46 => (intro wz; go_simp; try with_reducible rfl)
    simp only [Act.put, List.setIfInBounds_toArray, List.set_cons_zero, List.set_cons_succ]
    refine wpAny_done (by kernel_rfl) ?_ _
    have HF := Lib.hid (HK5.out.trans (((hk6.drew_of.trans hk67).trans hk9).trans hk10))
    go_wp2_with fail
    go_ret
    exact ⟨rfl, HF.out⟩
end Go.Proofs.YtogojfmaiphiaaaDoor
