/- The walk of MaskTwo: whatever the input, the law returns true and leaves old memory alone. -/
import Derived.Test.YtkpahpoobbjgiaaTurns
import Derived.Test.YtkpahpoobbjgiaaHeld
namespace Go.Proofs.Ytkpahpoobbjgiaa
open Go.RowKit

set_option maxHeartbeats 1000000 in
theorem maskTwo_far (kv kw : Array Value) (z : Int) (s : ByteArray) (w : World) (h : 300 < s.size) :
    Calls Try.prog 8 #[.agg kv, .agg kw, .int .u16 z, .string s] w fun e w' => e = .returned (.bool true) ∧ Below w.heap.size w w' := by
  go_enter Try.func8, Try.ntmps8
  go_wp2_with fail
  refine (awake_any _).mono ?_
  rintro e w1 ⟨rfl, hk1⟩
  go_wp2_with fail
  refine (awake_any _).mono ?_
  rintro e w2 ⟨rfl, hk2⟩
  go_wp2_with fail
  go_ret
  exact ⟨rfl, (((((Keeps.refl _ w).alloc _).alloc _).trans hk1).trans hk2).below'⟩

set_option maxHeartbeats 4000000 in
theorem maskTwo_near (a0 a1 a2 a3 b0 b1 b2 b3 : UInt8) (n : Nat) (s : ByteArray) (w : World) (hn : n ≤ 65535) (hs : s.size ≤ 300) :
    Calls Try.prog 8 #[.agg (bts [a0, a1, a2, a3]).toArray, .agg (bts [b0, b1, b2, b3]).toArray, .int .u16 n, .string s] w fun e w' => e = .returned (.bool true) ∧ Below w.heap.size w w' := by
  obtain ⟨p, hp⟩ : ∃ p : Nat, (p : Int) = (n : Int) % 4 := ⟨n % 4, by omega⟩
  obtain ⟨m1, hm1⟩ : ∃ m, m = applyL [a0, a1, a2, a3] p s.data.toList := ⟨_, rfl⟩
  obtain ⟨m2, hm2⟩ : ∃ m, m = applyL [b0, b1, b2, b3] p m1 := ⟨_, rfl⟩
  obtain ⟨t2, ht2⟩ : ∃ t : ByteArray, t = ⟨m2.toArray⟩ := ⟨_, rfl⟩
  have hm3 : m2 = applyL [a0 ^^^ b0, a1 ^^^ b1, a2 ^^^ b2, a3 ^^^ b3] p s.data.toList := by
    rw [hm2, hm1]
    refine applyL_two _ _ _ p _ fun i hi => ?_
    match i, hi with
    | 0, _ => rfl
    | 1, _ => rfl
    | 2, _ => rfl
    | 3, _ => rfl
  have hm4 : s.data.toList = applyL [0, 0, 0, 0] p s.data.toList := by
    refine (applyL_zero _ p _ fun i hi => ?_).symm
    match i, hi with
    | 0, _ => rfl
    | 1, _ => rfl
    | 2, _ => rfl
    | 3, _ => rfl
  have hkv : (#[.int .u8 ((a0.toNat ^^^ b0.toNat : Nat) : Int), .int .u8 ((a1.toNat ^^^ b1.toNat : Nat) : Int), .int .u8 ((a2.toNat ^^^ b2.toNat : Nat) : Int), .int .u8 ((a3.toNat ^^^ b3.toNat : Nat) : Int)] : Array Value) = (bts [a0 ^^^ b0, a1 ^^^ b1, a2 ^^^ b2, a3 ^^^ b3]).toArray := by simp [bts, UInt8.toNat_xor]
  have DX := Lib.hid (show t2.data.toList = m2 by rw [ht2])
  have HM1 := Lib.hid hm1
  have HM2 := Lib.hid hm2
  have HM3 := Lib.hid hm3
  have HM4 := Lib.hid hm4
  have HKV := Lib.hid hkv
  have HP := Lib.hid hp
  have hsl : s.size ≤ 1000 := by omega
  have q0 := u8_xor_nat a0.toNat b0.toNat (UInt8.toNat_lt _) (UInt8.toNat_lt _)
  have q1 := u8_xor_nat a1.toNat b1.toNat (UInt8.toNat_lt _) (UInt8.toNat_lt _)
  have q2 := u8_xor_nat a2.toNat b2.toNat (UInt8.toNat_lt _) (UInt8.toNat_lt _)
  have q3 := u8_xor_nat a3.toNat b3.toNat (UInt8.toNat_lt _) (UInt8.toNat_lt _)
  clear hm1 hm2 hm3 hm4 ht2 hkv hp
  go_enter Try.func8, Try.ntmps8
  go_wp2_with fail
  refine (awake_any _).mono ?_
  rintro e w1 ⟨rfl, hk1⟩
  have hba := ((Box4.new w a0 a1 a2 a3 22).keeps ((Keeps.refl _ _).alloc (.cells (bts [b0, b1, b2, b3]).toArray 22 (0, 0)))).keeps hk1
  have hbb := (Box4.new (w.alloc (.cells (bts [a0, a1, a2, a3]).toArray 22 (0, 0))) b0 b1 b2 b3 22).keeps hk1
  rw [show (w.alloc (.cells (bts [a0, a1, a2, a3]).toArray 22 (0, 0))).heap.size = w.heap.size + 1 by simp] at hbb
  replace hk1 : Still w w1 := (((Keeps.refl _ w).alloc _).alloc _).trans hk1
  have hba' := hba
  have hbb' := hbb
  obtain ⟨x0, x1, x2, x3⟩ := hba
  obtain ⟨y0, y1, y2, y3⟩ := hbb
  go_wp2_with fail
  obtain ⟨w2, hw2⟩ : ∃ w2, w2 = w1.alloc (.cells #[.int .u8 ((a0.toNat ^^^ b0.toNat : Nat) : Int), .int .u8 ((a1.toNat ^^^ b1.toNat : Nat) : Int), .int .u8 ((a2.toNat ^^^ b2.toNat : Nat) : Int), .int .u8 ((a3.toNat ^^^ b3.toNat : Nat) : Int)] 22 (0, 0)) := ⟨_, rfl⟩
  rw [← hw2]
  have hk2 : Still w1 w2 := by rw [hw2]; exact (Keeps.refl _ _).alloc _
  have hbc : Box4 w2 w1.heap.size (a0 ^^^ b0) (a1 ^^^ b1) (a2 ^^^ b2) (a3 ^^^ b3) := by
    rw [hw2, HKV.out]
    exact Box4.new w1 _ _ _ _ 22
  have HBA := Lib.hid (show ∀ w', Still w2 w' → Box4 w' w.heap.size a0 a1 a2 a3 from fun w' hk => (hba'.keeps hk2).keeps hk)
  have HBB := Lib.hid (show ∀ w', Still w2 w' → Box4 w' (w.heap.size + 1) b0 b1 b2 b3 from fun w' hk => (hbb'.keeps hk2).keeps hk)
  have HBC2 := Lib.hid hbc
  have HALL := Lib.hid (hk1.trans hk2)
  clear hw2 hbc hba' hbb' x0 x1 x2 x3 y0 y1 y2 y3 q0 q1 q2 q3
  have e0 : IntKind.i64.wrap (n : Int) = n := IntWalk.i64_in _ (by omega)
  refine wp_region_held (S := (fun w' => Still w2 w')) (by kernel_rfl) ?_
  change wpAnyH _ _ _ _ _ _ _ _ (World.drew _)
  refine held_start ?_ (fun hS => ?_)
  · exact (Keeps.refl _ _).drew
  refine wpAnyH_take (i := 0) (oi := { dst := some 40, op := Go.Op.load 22 (Go.Operand.tmp 5), type := 22, pos := "law.go:80", after := #[], guard := none }) (v := ?vWA_1) rfl (by kernel_rfl) (by kernel_rfl) (by kernel_rfl) (fun _ _ _ h => h) (Or.inl ⟨by rfl, ?hWA_1⟩) hS ?rWA_1
  case hWA_1 => (intro wz hz; obtain ⟨x0, x1, x2, x3⟩ := HBB.out wz hz; go_simp; try with_reducible rfl)
  simp only [Act.put, List.setIfInBounds_toArray, List.set_cons_zero, List.set_cons_succ]
  refine wpAnyH_take (i := 1) (oi := { dst := some 41, op := Go.Op.move (Go.Operand.tmp 2), type := 28, pos := "law.go:80", after := #[], guard := none }) (v := ?vWA_2) rfl (by kernel_rfl) (by kernel_rfl) (by kernel_rfl) (fun _ _ _ h => h) (Or.inl ⟨by rfl, ?hWA_2⟩) hS ?rWA_2
  case hWA_2 => (intro wz _; go_simp; try with_reducible rfl)
  simp only [Act.put, List.setIfInBounds_toArray, List.set_cons_zero, List.set_cons_succ]
  refine wpAnyH_take (i := 2) (oi := { dst := some 42, op := Go.Op.convert 28 3 (Go.Operand.tmp 41), type := 3, pos := "law.go:80", after := #[{ on := 1, ground := Go.Ground.data }], guard := none }) (v := ?vWA_3) rfl (by kernel_rfl) (by kernel_rfl) (by kernel_rfl) (fun _ _ _ h => h) (Or.inl ⟨by rfl, ?hWA_3⟩) hS ?rWA_3
  case hWA_3 => (intro wz _; go_simp; try with_reducible rfl)
  simp only [Act.put, List.setIfInBounds_toArray, List.set_cons_zero, List.set_cons_succ]
  refine wpAnyH_take (i := 3) (oi := { dst := some 43, op := Go.Op.load 22 (Go.Operand.tmp 4), type := 22, pos := "law.go:80", after := #[], guard := none }) (v := ?vWA_4) rfl (by kernel_rfl) (by kernel_rfl) (by kernel_rfl) (fun _ _ _ h => h) (Or.inl ⟨by rfl, ?hWA_4⟩) hS ?rWA_4
  case hWA_4 => (intro wz hz; obtain ⟨x0, x1, x2, x3⟩ := HBA.out wz hz; go_simp; try with_reducible rfl)
  simp only [Act.put, List.setIfInBounds_toArray, List.set_cons_zero, List.set_cons_succ]
  refine wpAnyH_take (i := 4) (oi := { dst := some 44, op := Go.Op.move (Go.Operand.tmp 2), type := 28, pos := "law.go:80", after := #[], guard := none }) (v := ?vWA_5) rfl (by kernel_rfl) (by kernel_rfl) (by kernel_rfl) (fun _ _ _ h => h) (Or.inl ⟨by rfl, ?hWA_5⟩) hS ?rWA_5
  case hWA_5 => (intro wz _; go_simp; try with_reducible rfl)
  simp only [Act.put, List.setIfInBounds_toArray, List.set_cons_zero, List.set_cons_succ]
  refine wpAnyH_take (i := 5) (oi := { dst := some 45, op := Go.Op.convert 28 3 (Go.Operand.tmp 44), type := 3, pos := "law.go:80", after := #[{ on := 4, ground := Go.Ground.data }], guard := none }) (v := ?vWA_6) rfl (by kernel_rfl) (by kernel_rfl) (by kernel_rfl) (fun _ _ _ h => h) (Or.inl ⟨by rfl, ?hWA_6⟩) hS ?rWA_6
  case hWA_6 => (intro wz _; go_simp; try with_reducible rfl)
  simp only [Act.put, List.setIfInBounds_toArray, List.set_cons_zero, List.set_cons_succ]
  refine wpAnyH_take (i := 6) (oi := { dst := some 46, op := Go.Op.move (Go.Operand.tmp 3), type := 9, pos := "law.go:80", after := #[], guard := none }) (v := ?vWA_7) rfl (by kernel_rfl) (by kernel_rfl) (by kernel_rfl) (fun _ _ _ h => h) (Or.inl ⟨by rfl, ?hWA_7⟩) hS ?rWA_7
  case hWA_7 => (intro wz _; go_simp; try with_reducible rfl)
  simp only [Act.put, List.setIfInBounds_toArray, List.set_cons_zero, List.set_cons_succ]
  refine held_one (k := 7) (o := { dst := some 47, op := Go.Op.convert 9 24 (Go.Operand.tmp 46), type := 24, pos := "law.go:80", after := #[{ on := 6, ground := Go.Ground.data }], guard := none }) (by kernel_rfl) rfl (fun K hK => ?_)
  refine step_bytes (by rfl) (.tmp 46) 9 24 rfl 5 Try.underlying9 Try.underlying24 Try.underlying5 s rfl ?_
  intro w3 c3 hk3 hc3 hs3
  refine hK _ _ (held_go ?_ (fun hS => ?_))
  · exact hS.trans hk3
  clear hK K
  try simp only [Act.put, List.setIfInBounds_toArray, List.set_cons_zero, List.set_cons_succ]
  refine held_one (k := 8) (o := { dst := some 48, op := Go.Op.call { callee := Go.Callee.value (Go.Operand.func 11), args := #[Go.Operand.tmp 43, Go.Operand.tmp 45, Go.Operand.tmp 47], argTypes := #[22, 3, 24] }, type := 24, pos := "law.go:80", after := #[{ on := 3, ground := Go.Ground.data }, { on := 5, ground := Go.Ground.data }, { on := 7, ground := Go.Ground.data }], guard := none }) (by kernel_rfl) rfl (fun K hK => ?_)
  go_simp
  have hq := apply_at w3 [a0, a1, a2, a3] s.data.toList m1 #[.int .u8 (a0.toNat : Int), .int .u8 (a1.toNat : Int), .int .u8 (a2.toNat : Int), .int .u8 (a3.toNat : Int)] n p _ s.size c3 rfl rfl hs3 hsl HP.out HM1.out
  refine hq.mono ?_
  clear hq
  rintro e w4 ⟨D, rfl, hs4, hk4⟩
  refine hK _ _ (held_go ?_ (fun hS => ?_))
  · exact hS.trans hk4
  clear hK K
  try simp only [Act.put, List.setIfInBounds_toArray, List.set_cons_zero, List.set_cons_succ]
  refine held_one (k := 9) (o := { dst := some 49, op := Go.Op.call { callee := Go.Callee.value (Go.Operand.func 11), args := #[Go.Operand.tmp 40, Go.Operand.tmp 42, Go.Operand.tmp 48], argTypes := #[22, 3, 24] }, type := 24, pos := "law.go:80", after := #[{ on := 0, ground := Go.Ground.data }, { on := 2, ground := Go.Ground.data }, { on := 8, ground := Go.Ground.data }, { on := 8, ground := Go.Ground.chain }], guard := none }) (by kernel_rfl) rfl (fun K hK => ?_)
  go_simp
  have hq := apply_at w4 [b0, b1, b2, b3] m1 m2 #[.int .u8 (b0.toNat : Int), .int .u8 (b1.toNat : Int), .int .u8 (b2.toNat : Int), .int .u8 (b3.toNat : Int)] n p _ s.size s.size rfl rfl hs4 hsl HP.out HM2.out
  refine hq.mono ?_
  clear hq
  rintro e w5 ⟨E, rfl, hs5, hk5⟩
  refine hK _ _ (held_go ?_ (fun hS => ?_))
  · exact hS.trans hk5
  clear hK K
  try simp only [Act.put, List.setIfInBounds_toArray, List.set_cons_zero, List.set_cons_succ]
  refine wpAnyH_take (i := 10) (oi := { dst := some 10, op := Go.Op.assign (Go.Operand.tmp 49), type := 24, pos := "law.go:80", after := #[{ on := 9, ground := Go.Ground.data }, { on := 9, ground := Go.Ground.chain }, { on := 0, ground := Go.Ground.phase }, { on := 1, ground := Go.Ground.phase }, { on := 2, ground := Go.Ground.phase }, { on := 3, ground := Go.Ground.phase }, { on := 4, ground := Go.Ground.phase }, { on := 5, ground := Go.Ground.phase }, { on := 6, ground := Go.Ground.phase }, { on := 7, ground := Go.Ground.phase }, { on := 8, ground := Go.Ground.phase }, { on := 9, ground := Go.Ground.phase }], guard := none }) (v := ?vWA_8) rfl (by kernel_rfl) (by kernel_rfl) (by kernel_rfl) (fun _ _ _ h => h) (Or.inl ⟨by rfl, ?hWA_8⟩) hS ?rWA_8
  case hWA_8 => (intro wz _; go_simp; try with_reducible rfl)
  simp only [Act.put, List.setIfInBounds_toArray, List.set_cons_zero, List.set_cons_succ]
  refine wpAnyH_done (by kernel_rfl) ?_ _
  have hS5 : Still w2 w5 := hS
  have HSX := Lib.hid (show ∀ w', Still w5 w' → SliceOf w' E s.size m2 from fun w' hk => hs5.keeps hk (fun _ _ h => h))
  have HBC := Lib.hid (show ∀ w', Still w5 w' → Box4 w' w1.heap.size (a0 ^^^ b0) (a1 ^^^ b1) (a2 ^^^ b2) (a3 ^^^ b3) from fun w' hk => (HBC2.out.keeps hS5).keeps hk)
  clear hS
  go_wp2_with fail
  refine wp_region_held (S := (fun w' => Still w5 w')) (by kernel_rfl) ?_
  change wpAnyH _ _ _ _ _ _ _ _ (World.drew _)
  refine held_start ?_ (fun hS => ?_)
  · exact (Keeps.refl _ _).drew
  refine wpAnyH_take (i := 0) (oi := { dst := some 50, op := Go.Op.move (Go.Operand.tmp 10), type := 24, pos := "law.go:81", after := #[], guard := none }) (v := ?vWB_1) rfl (by kernel_rfl) (by kernel_rfl) (by kernel_rfl) (fun _ _ _ h => h) (Or.inl ⟨by rfl, ?hWB_1⟩) hS ?rWB_1
  case hWB_1 => (intro wz _; go_simp; try with_reducible rfl)
  simp only [Act.put, List.setIfInBounds_toArray, List.set_cons_zero, List.set_cons_succ]
  refine wpAnyH_take (i := 1) (oi := { dst := some 51, op := Go.Op.convert 24 9 (Go.Operand.tmp 50), type := 9, pos := "law.go:81", after := #[{ on := 0, ground := Go.Ground.data }], guard := none }) (v := ?vWB_2) rfl (by kernel_rfl) (by kernel_rfl) (by kernel_rfl) (fun _ _ _ h => h) (Or.inl ⟨by rfl, ?hWB_2⟩) hS ?rWB_2
  case hWB_2 => (intro wz hz; refine exec_string (.tmp 50) 24 9 ?_ 5 Try.underlying24 Try.underlying5 Try.underlying9 _ _ s.size m2 t2 ?_ (HSX.out wz hz) DX.out <;> rfl)
  simp only [Act.put, List.setIfInBounds_toArray, List.set_cons_zero, List.set_cons_succ]
  refine wpAnyH_take (i := 2) (oi := { dst := some 52, op := Go.Op.load 22 (Go.Operand.tmp 9), type := 22, pos := "law.go:81", after := #[], guard := none }) (v := ?vWB_3) rfl (by kernel_rfl) (by kernel_rfl) (by kernel_rfl) (fun _ _ _ h => h) (Or.inl ⟨by rfl, ?hWB_3⟩) hS ?rWB_3
  case hWB_3 => (intro wz hz; obtain ⟨x0, x1, x2, x3⟩ := HBC.out wz hz; go_simp; try with_reducible rfl)
  simp only [Act.put, List.setIfInBounds_toArray, List.set_cons_zero, List.set_cons_succ]
  refine wpAnyH_take (i := 3) (oi := { dst := some 53, op := Go.Op.move (Go.Operand.tmp 2), type := 28, pos := "law.go:81", after := #[], guard := none }) (v := ?vWB_4) rfl (by kernel_rfl) (by kernel_rfl) (by kernel_rfl) (fun _ _ _ h => h) (Or.inl ⟨by rfl, ?hWB_4⟩) hS ?rWB_4
  case hWB_4 => (intro wz _; go_simp; try with_reducible rfl)
  simp only [Act.put, List.setIfInBounds_toArray, List.set_cons_zero, List.set_cons_succ]
  refine wpAnyH_take (i := 4) (oi := { dst := some 54, op := Go.Op.convert 28 3 (Go.Operand.tmp 53), type := 3, pos := "law.go:81", after := #[{ on := 3, ground := Go.Ground.data }], guard := none }) (v := ?vWB_5) rfl (by kernel_rfl) (by kernel_rfl) (by kernel_rfl) (fun _ _ _ h => h) (Or.inl ⟨by rfl, ?hWB_5⟩) hS ?rWB_5
  case hWB_5 => (intro wz _; go_simp; try with_reducible rfl)
  simp only [Act.put, List.setIfInBounds_toArray, List.set_cons_zero, List.set_cons_succ]
  refine wpAnyH_take (i := 5) (oi := { dst := some 55, op := Go.Op.move (Go.Operand.tmp 3), type := 9, pos := "law.go:81", after := #[], guard := none }) (v := ?vWB_6) rfl (by kernel_rfl) (by kernel_rfl) (by kernel_rfl) (fun _ _ _ h => h) (Or.inl ⟨by rfl, ?hWB_6⟩) hS ?rWB_6
  case hWB_6 => (intro wz _; go_simp; try with_reducible rfl)
  simp only [Act.put, List.setIfInBounds_toArray, List.set_cons_zero, List.set_cons_succ]
  refine held_one (k := 6) (o := { dst := some 56, op := Go.Op.convert 9 24 (Go.Operand.tmp 55), type := 24, pos := "law.go:81", after := #[{ on := 5, ground := Go.Ground.data }], guard := none }) (by kernel_rfl) rfl (fun K hK => ?_)
  refine step_bytes (by rfl) (.tmp 55) 9 24 rfl 5 Try.underlying9 Try.underlying24 Try.underlying5 s rfl ?_
  intro w6 c6 hk6 hc6 hs6
  refine hK _ _ (held_go ?_ (fun hS => ?_))
  · exact hS.trans hk6
  clear hK K
  try simp only [Act.put, List.setIfInBounds_toArray, List.set_cons_zero, List.set_cons_succ]
  refine held_one (k := 7) (o := { dst := some 57, op := Go.Op.call { callee := Go.Callee.value (Go.Operand.func 11), args := #[Go.Operand.tmp 52, Go.Operand.tmp 54, Go.Operand.tmp 56], argTypes := #[22, 3, 24] }, type := 24, pos := "law.go:81", after := #[{ on := 2, ground := Go.Ground.data }, { on := 4, ground := Go.Ground.data }, { on := 6, ground := Go.Ground.data }], guard := none }) (by kernel_rfl) rfl (fun K hK => ?_)
  go_simp
  have hq := apply_at w6 [a0 ^^^ b0, a1 ^^^ b1, a2 ^^^ b2, a3 ^^^ b3] s.data.toList m2 _ n p _ s.size c6 HKV.out rfl hs6 hsl HP.out HM3.out
  refine hq.mono ?_
  clear hq
  rintro e w7 ⟨F, rfl, hs7, hk7⟩
  refine hK _ _ (held_go ?_ (fun hS => ?_))
  · exact hS.trans hk7
  clear hK K
  try simp only [Act.put, List.setIfInBounds_toArray, List.set_cons_zero, List.set_cons_succ]
  refine held_one (k := 8) (o := { dst := some 58, op := Go.Op.convert 24 9 (Go.Operand.tmp 57), type := 9, pos := "law.go:81", after := #[{ on := 7, ground := Go.Ground.data }], guard := none }) (by kernel_rfl) rfl (fun K hK => ?_)
  refine step_string (by rfl) (.tmp 57) 24 9 rfl 5 Try.underlying24 Try.underlying5 Try.underlying9 _ _ _ _ t2 rfl hs7 DX.out ?_
  refine hK _ _ (held_go ?_ (fun hS => ?_))
  · exact hS
  clear hK K
  try simp only [Act.put, List.setIfInBounds_toArray, List.set_cons_zero, List.set_cons_succ]
  refine wpAnyH_take (i := 9) (oi := { dst := some 59, op := Go.Op.binOp Go.BinOp.eql 9 (Go.Operand.tmp 51) (Go.Operand.tmp 58) 9, type := 4, pos := "law.go:81", after := #[{ on := 1, ground := Go.Ground.data }, { on := 8, ground := Go.Ground.data }], guard := none }) (v := ?vWB_7) rfl (by kernel_rfl) (by kernel_rfl) (by kernel_rfl) (fun _ _ _ h => h) (Or.inl ⟨by rfl, ?hWB_7⟩) hS ?rWB_7
  case hWB_7 => (intro wz _; go_simp; try with_reducible rfl)
  simp only [Act.put, List.setIfInBounds_toArray, List.set_cons_zero, List.set_cons_succ]
  refine wpAnyH_take (i := 10) (oi := { dst := some 60, op := Go.Op.move (Go.Operand.tmp 59), type := 4, pos := "law.go:81", after := #[{ on := 9, ground := Go.Ground.data }, { on := 7, ground := Go.Ground.chain }], guard := none }) (v := ?vWB_8) rfl (by kernel_rfl) (by kernel_rfl) (by kernel_rfl) (fun _ _ _ h => h) (Or.inl ⟨by rfl, ?hWB_8⟩) hS ?rWB_8
  case hWB_8 => (intro wz _; go_simp; try with_reducible rfl)
  simp only [Act.put, List.setIfInBounds_toArray, List.set_cons_zero, List.set_cons_succ]
  refine wpAnyH_take (i := 11) (oi := { dst := some 61, op := Go.Op.build 22 #[], type := 22, pos := "law.go:81", after := #[{ on := 10, ground := Go.Ground.guard }], guard := some (10, true) }) (v := ?vWB_9) rfl (by kernel_rfl) (by kernel_rfl) (by kernel_rfl) (fun _ _ _ h => h) (Or.inl ⟨by rfl, ?hWB_9⟩) hS ?rWB_9
  case hWB_9 => (intro wz _; go_simp; try with_reducible rfl)
  simp only [Act.put, List.setIfInBounds_toArray, List.set_cons_zero, List.set_cons_succ]
  refine wpAnyH_take (i := 12) (oi := { dst := some 62, op := Go.Op.move (Go.Operand.tmp 2), type := 28, pos := "law.go:81", after := #[{ on := 10, ground := Go.Ground.guard }], guard := some (10, true) }) (v := ?vWB_10) rfl (by kernel_rfl) (by kernel_rfl) (by kernel_rfl) (fun _ _ _ h => h) (Or.inl ⟨by rfl, ?hWB_10⟩) hS ?rWB_10
  case hWB_10 => (intro wz _; go_simp; try with_reducible rfl)
  simp only [Act.put, List.setIfInBounds_toArray, List.set_cons_zero, List.set_cons_succ]
  refine wpAnyH_take (i := 13) (oi := { dst := some 63, op := Go.Op.convert 28 3 (Go.Operand.tmp 62), type := 3, pos := "law.go:81", after := #[{ on := 12, ground := Go.Ground.data }, { on := 10, ground := Go.Ground.guard }], guard := some (10, true) }) (v := ?vWB_11) rfl (by kernel_rfl) (by kernel_rfl) (by kernel_rfl) (fun _ _ _ h => h) (Or.inl ⟨by rfl, ?hWB_11⟩) hS ?rWB_11
  case hWB_11 => (intro wz _; go_simp; try with_reducible rfl)
  simp only [Act.put, List.setIfInBounds_toArray, List.set_cons_zero, List.set_cons_succ]
  refine wpAnyH_take (i := 14) (oi := { dst := some 64, op := Go.Op.move (Go.Operand.tmp 3), type := 9, pos := "law.go:81", after := #[{ on := 10, ground := Go.Ground.guard }], guard := some (10, true) }) (v := ?vWB_12) rfl (by kernel_rfl) (by kernel_rfl) (by kernel_rfl) (fun _ _ _ h => h) (Or.inl ⟨by rfl, ?hWB_12⟩) hS ?rWB_12
  case hWB_12 => (intro wz _; go_simp; try with_reducible rfl)
  simp only [Act.put, List.setIfInBounds_toArray, List.set_cons_zero, List.set_cons_succ]
  refine wpAnyH_take (i := 18) (oi := { dst := some 68, op := Go.Op.move (Go.Operand.tmp 3), type := 9, pos := "law.go:81", after := #[{ on := 10, ground := Go.Ground.guard }], guard := some (10, true) }) (v := ?vWB_13) rfl (by kernel_rfl) (by kernel_rfl) (by kernel_rfl) (fun _ _ _ h => h) (Or.inl ⟨by rfl, ?hWB_13⟩) hS ?rWB_13
  case hWB_13 => (intro wz _; go_simp; try with_reducible rfl)
  simp only [Act.put, List.setIfInBounds_toArray, List.set_cons_zero, List.set_cons_succ]
  refine held_one (k := 15) (o := { dst := some 65, op := Go.Op.convert 9 24 (Go.Operand.tmp 64), type := 24, pos := "law.go:81", after := #[{ on := 14, ground := Go.Ground.data }, { on := 10, ground := Go.Ground.guard }], guard := some (10, true) }) (by kernel_rfl) rfl (fun K hK => ?_)
  refine step_bytes (by rfl) (.tmp 64) 9 24 rfl 5 Try.underlying9 Try.underlying24 Try.underlying5 s rfl ?_
  intro w8 c8 hk8 hc8 hs8
  refine hK _ _ (held_go ?_ (fun hS => ?_))
  · exact hS.trans hk8
  clear hK K
  try simp only [Act.put, List.setIfInBounds_toArray, List.set_cons_zero, List.set_cons_succ]
  refine held_one (k := 16) (o := { dst := some 66, op := Go.Op.call { callee := Go.Callee.value (Go.Operand.func 11), args := #[Go.Operand.tmp 61, Go.Operand.tmp 63, Go.Operand.tmp 65], argTypes := #[22, 3, 24] }, type := 24, pos := "law.go:81", after := #[{ on := 11, ground := Go.Ground.data }, { on := 13, ground := Go.Ground.data }, { on := 15, ground := Go.Ground.data }, { on := 10, ground := Go.Ground.chain }, { on := 10, ground := Go.Ground.guard }], guard := some (10, true) }) (by kernel_rfl) rfl (fun K hK => ?_)
  go_simp
  have hq := apply_at w8 [0, 0, 0, 0] s.data.toList s.data.toList #[.int .u8 0, .int .u8 0, .int .u8 0, .int .u8 0] n p _ s.size c8 rfl rfl hs8 hsl HP.out HM4.out
  refine hq.mono ?_
  clear hq
  rintro e w9 ⟨G, rfl, hs9, hk9⟩
  refine hK _ _ (held_go ?_ (fun hS => ?_))
  · exact hS.trans hk9
  clear hK K
  try simp only [Act.put, List.setIfInBounds_toArray, List.set_cons_zero, List.set_cons_succ]
  refine held_one (k := 17) (o := { dst := some 67, op := Go.Op.convert 24 9 (Go.Operand.tmp 66), type := 9, pos := "law.go:81", after := #[{ on := 16, ground := Go.Ground.data }, { on := 10, ground := Go.Ground.guard }], guard := some (10, true) }) (by kernel_rfl) rfl (fun K hK => ?_)
  refine step_string (by rfl) (.tmp 66) 24 9 rfl 5 Try.underlying24 Try.underlying5 Try.underlying9 _ _ _ _ s rfl hs9 rfl ?_
  refine hK _ _ (held_go ?_ (fun hS => ?_))
  · exact hS
  clear hK K
  try simp only [Act.put, List.setIfInBounds_toArray, List.set_cons_zero, List.set_cons_succ]
  refine wpAnyH_take (i := 19) (oi := { dst := some 69, op := Go.Op.binOp Go.BinOp.eql 9 (Go.Operand.tmp 67) (Go.Operand.tmp 68) 9, type := 4, pos := "law.go:81", after := #[{ on := 17, ground := Go.Ground.data }, { on := 18, ground := Go.Ground.data }, { on := 10, ground := Go.Ground.guard }], guard := some (10, true) }) (v := ?vWB_14) rfl (by kernel_rfl) (by kernel_rfl) (by kernel_rfl) (fun _ _ _ h => h) (Or.inl ⟨by rfl, ?hWB_14⟩) hS ?rWB_14
  case hWB_14 => (intro wz _; go_simp; try with_reducible rfl)
  simp only [Act.put, List.setIfInBounds_toArray, List.set_cons_zero, List.set_cons_succ]
  refine wpAnyH_take (i := 20) (oi := { dst := some 70, op := Go.Op.pick (Go.Operand.tmp 60) (Go.Operand.tmp 69) (Go.Operand.const (Go.Value.bool false)), type := 4, pos := "law.go:81", after := #[{ on := 10, ground := Go.Ground.data }, { on := 19, ground := Go.Ground.data }], guard := none }) (v := ?vWB_15) rfl (by kernel_rfl) (by kernel_rfl) (by kernel_rfl) (fun _ _ _ h => h) (Or.inl ⟨by rfl, ?hWB_15⟩) hS ?rWB_15
  case hWB_15 => (intro wz _; go_simp; try with_reducible rfl)
  simp only [Act.put, List.setIfInBounds_toArray, List.set_cons_zero, List.set_cons_succ]
  refine wpAnyH_take (i := 21) (oi := { dst := some 8, op := Go.Op.assign (Go.Operand.tmp 70), type := 4, pos := "law.go:81", after := #[{ on := 20, ground := Go.Ground.data }, { on := 16, ground := Go.Ground.chain }, { on := 0, ground := Go.Ground.phase }, { on := 1, ground := Go.Ground.phase }, { on := 2, ground := Go.Ground.phase }, { on := 3, ground := Go.Ground.phase }, { on := 4, ground := Go.Ground.phase }, { on := 5, ground := Go.Ground.phase }, { on := 6, ground := Go.Ground.phase }, { on := 7, ground := Go.Ground.phase }, { on := 8, ground := Go.Ground.phase }, { on := 9, ground := Go.Ground.phase }, { on := 10, ground := Go.Ground.phase }, { on := 11, ground := Go.Ground.phase }, { on := 12, ground := Go.Ground.phase }, { on := 13, ground := Go.Ground.phase }, { on := 14, ground := Go.Ground.phase }, { on := 15, ground := Go.Ground.phase }, { on := 16, ground := Go.Ground.phase }, { on := 17, ground := Go.Ground.phase }, { on := 18, ground := Go.Ground.phase }, { on := 19, ground := Go.Ground.phase }, { on := 20, ground := Go.Ground.phase }], guard := none }) (v := ?vWB_16) rfl (by kernel_rfl) (by kernel_rfl) (by kernel_rfl) (fun _ _ _ h => h) (Or.inl ⟨by rfl, ?hWB_16⟩) hS ?rWB_16
  case hWB_16 => (intro wz _; go_simp; try with_reducible rfl)
  simp only [Act.put, List.setIfInBounds_toArray, List.set_cons_zero, List.set_cons_succ]
  refine wpAnyH_done (by kernel_rfl) ?_ _
  go_wp2
  go_ret
  exact ⟨rfl, ((HALL.out.trans hS5).trans hS).below'⟩
end Go.Proofs.Ytkpahpoobbjgiaa
