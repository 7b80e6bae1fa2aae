/- The walk of MaskCuts: whatever the input, the law returns true and leaves old memory alone. -/
import Derived.Test.YtkpahpoobbjgiaaTurns
import Derived.Test.YtkpahpoobbjgiaaHeld
namespace Go.Proofs.Ytkpahpoobbjgiaa
open Go.RowKit

set_option maxHeartbeats 1000000 in
theorem maskCuts_far (kv : Array Value) (z : Int) (a b : ByteArray) (w : World) (h : 200 < a.size ∨ 200 < b.size) :
    Calls Try.prog 4 #[.agg kv, .int .u16 z, .string a, .string b] w fun e w' => e = .returned (.bool true) ∧ Below w.heap.size w w' := by
  rcases (show 200 < a.size ∨ (¬ 200 < a.size ∧ 200 < b.size) by omega) with g1 | ⟨g1, g2⟩
  all_goals
    go_enter Try.func4, Try.ntmps4
    go_wp2_with fail
    refine (awake_any _).mono ?_
    rintro e w1 ⟨rfl, hk1⟩
    go_wp2_with fail
    refine (awake_any _).mono ?_
    rintro e w2 ⟨rfl, hk2⟩
    go_wp2_with fail
    go_ret
    exact ⟨rfl, ((((Keeps.refl _ w).alloc _).trans hk1).trans hk2).below'⟩

set_option maxHeartbeats 4000000 in
theorem maskCuts_near (k0 k1 k2 k3 : UInt8) (n : Nat) (a b : ByteArray) (w : World) (hn : n ≤ 65535) (ha : a.size ≤ 200) (hb : b.size ≤ 200) :
    Calls Try.prog 4 #[.agg (bts [k0, k1, k2, k3]).toArray, .int .u16 n, .string a, .string b] w fun e w' => e = .returned (.bool true) ∧ Below w.heap.size w w' := by
  obtain ⟨p, hp⟩ : ∃ p : Nat, (p : Int) = (n : Int) % 4 := ⟨n % 4, by omega⟩
  obtain ⟨q, hq⟩ : ∃ q : Nat, (q : Int) = ((n : Int) + a.size) % 4 := ⟨(n + a.size) % 4, by omega⟩
  obtain ⟨mx, hmx⟩ : ∃ m, m = applyL [k0, k1, k2, k3] p a.data.toList := ⟨_, rfl⟩
  obtain ⟨my, hmy⟩ : ∃ m, m = applyL [k0, k1, k2, k3] q b.data.toList := ⟨_, rfl⟩
  have hmz : mx ++ my = applyL [k0, k1, k2, k3] p (a ++ b).data.toList := by
    rw [data_append, applyL_append, hmx, hmy]
    congr 1
    apply applyL_mod
    rw [len_data]
    omega
  obtain ⟨tx, htx⟩ : ∃ t : ByteArray, t = ⟨mx.toArray⟩ := ⟨_, rfl⟩
  obtain ⟨ty, hty⟩ : ∃ t : ByteArray, t = ⟨my.toArray⟩ := ⟨_, rfl⟩
  have dx : tx.data.toList = mx := by rw [htx]
  have dy : ty.data.toList = my := by rw [hty]
  have sx : tx.size = a.size := by rw [← len_data, dx, hmx, length_applyL, len_data]
  have sy : ty.size = b.size := by rw [← len_data, dy, hmy, length_applyL, len_data]
  have DX := Lib.hid dx
  have DY := Lib.hid dy
  have HMX := Lib.hid hmx
  have HMY := Lib.hid hmy
  have HP := Lib.hid hp
  have HQ := Lib.hid hq
  obtain ⟨ab, hab⟩ : ∃ ab : ByteArray, ab = a ++ b := ⟨_, rfl⟩
  have hadd : ∀ w', (Op.stringOp .add a b).run Try.prog w' = .ok (.string ab) w' := fun w' => by rw [hab]; exact run_string_add_sum w' _ _ (by omega)
  have hsl : ab.size ≤ 1000 := by rw [hab, ByteArray.size_append]; omega
  rw [← hab] at hmz
  have HMZ := Lib.hid hmz
  clear hab
  obtain ⟨tz, htz⟩ : ∃ t : ByteArray, t = tx ++ ty := ⟨_, rfl⟩
  have DZ := Lib.hid (show tz.data.toList = mx ++ my by rw [htz, data_append, dx, dy])
  have hadd2 : ∀ w', (Op.stringOp .add tx ty).run Try.prog w' = .ok (.string tz) w' := fun w' => by rw [htz]; exact run_string_add_sum w' _ _ (by rw [sx, sy]; omega)
  clear htz hmx hmy hmz htx hty dx dy hp hq sx sy
  go_enter Try.func4, Try.ntmps4
  go_wp2_with fail
  refine (awake_any _).mono ?_
  rintro e w1 ⟨rfl, hk1⟩
  have hb1 := (Box4.new w k0 k1 k2 k3 22).keeps hk1
  replace hk1 : Still w w1 := ((Keeps.refl _ w).alloc _).trans hk1
  obtain ⟨x0, x1, x2, x3⟩ := hb1
  go_wp2_with (with_reducible refine wpList_bytes (o := ⟨some 28, _, _, _, _, _⟩) rfl _ _ _ rfl 5 Try.underlying9 Try.underlying24 Try.underlying5 a rfl ?_; intro w2 c hk2 hz2 hc2 hs2 hf2)
  refine (apply_at _ [k0, k1, k2, k3] a.data.toList mx _ n p _ a.size c rfl rfl hs2 (by omega) HP.out HMX.out).mono ?_
  rintro e w3 ⟨B, rfl, hs3, hk3⟩
  obtain ⟨y0, y1, y2, y3⟩ := (Box4.keeps ⟨x0, x1, x2, x3⟩ hk2).keeps hk3
  clear x0 x1 x2 x3
  go_wp2_with (with_reducible refine wpList_bytes (o := ⟨some 37, _, _, _, _, _⟩) rfl _ _ _ rfl 5 Try.underlying9 Try.underlying24 Try.underlying5 b rfl ?_; intro w4 d hk4 hz4 hc4 hs4 hf4)
  refine (apply_at _ [k0, k1, k2, k3] b.data.toList my _ (n + a.size) q _ b.size d rfl rfl hs4 (by omega) HQ.out HMY.out).mono ?_
  rintro e w5 ⟨C, rfl, hs5, hk5⟩
  have hs35 := (hs3.keeps hk4 (fun _ _ h => h)).keeps hk5 (fun _ _ h => h)
  have hbx := (Box4.keeps ⟨y0, y1, y2, y3⟩ hk4).keeps hk5
  clear y0 y1 y2 y3
  have HBX := Lib.hid (show ∀ w', Still w5 w' → Box4 w' w.heap.size k0 k1 k2 k3 from fun w' hk => hbx.keeps hk)
  have HSX := Lib.hid (show ∀ w', Still w5 w' → SliceOf w' B a.size mx from fun w' hk => hs35.keeps hk (fun _ _ h => h))
  have HSY := Lib.hid (show ∀ w', Still w5 w' → SliceOf w' C b.size my from fun w' hk => hs5.keeps hk (fun _ _ h => h))
  have HALL := Lib.hid ((((hk1.trans hk2).trans hk3).trans hk4).trans hk5)
  clear hs35 hbx
  go_wp2_with fail
  have e0 : IntKind.i64.wrap (n : Int) = n := IntWalk.i64_in _ (by omega)
  refine wp_region_held (S := (fun w' => Still w5 w')) (by kernel_rfl) ?_
  change wpAnyH _ _ _ _ _ _ _ _ (World.drew _)
  refine held_start ?_ (fun hS => ?_)
  · exact (Keeps.refl _ _).drew
  refine wpAnyH_take (i := 0) (oi := { dst := some 39, op := Go.Op.load 22 (Go.Operand.tmp 4), type := 22, pos := "law.go:35", after := #[], guard := none }) (v := ?vCA_1) rfl (by kernel_rfl) (by kernel_rfl) (by kernel_rfl) (fun _ _ _ h => h) (Or.inl ⟨by rfl, ?hCA_1⟩) hS ?rCA_1
  case hCA_1 => (intro wz hz; obtain ⟨x0, x1, x2, x3⟩ := HBX.out wz hz; go_simp; try with_reducible rfl)
  simp only [Act.put, List.setIfInBounds_toArray, List.set_cons_zero, List.set_cons_succ]
  refine wpAnyH_take (i := 1) (oi := { dst := some 40, op := Go.Op.move (Go.Operand.tmp 1), type := 28, pos := "law.go:35", after := #[], guard := none }) (v := ?vCA_2) rfl (by kernel_rfl) (by kernel_rfl) (by kernel_rfl) (fun _ _ _ h => h) (Or.inl ⟨by rfl, ?hCA_2⟩) hS ?rCA_2
  case hCA_2 => (intro wz _; go_simp; try with_reducible rfl)
  simp only [Act.put, List.setIfInBounds_toArray, List.set_cons_zero, List.set_cons_succ]
  refine wpAnyH_take (i := 2) (oi := { dst := some 41, op := Go.Op.convert 28 3 (Go.Operand.tmp 40), type := 3, pos := "law.go:35", after := #[{ on := 1, ground := Go.Ground.data }], guard := none }) (v := ?vCA_3) rfl (by kernel_rfl) (by kernel_rfl) (by kernel_rfl) (fun _ _ _ h => h) (Or.inl ⟨by rfl, ?hCA_3⟩) hS ?rCA_3
  case hCA_3 => (intro wz _; go_simp; try with_reducible rfl)
  simp only [Act.put, List.setIfInBounds_toArray, List.set_cons_zero, List.set_cons_succ]
  refine wpAnyH_take (i := 3) (oi := { dst := some 42, op := Go.Op.move (Go.Operand.tmp 2), type := 9, pos := "law.go:35", after := #[], guard := none }) (v := ?vCA_4) rfl (by kernel_rfl) (by kernel_rfl) (by kernel_rfl) (fun _ _ _ h => h) (Or.inl ⟨by rfl, ?hCA_4⟩) hS ?rCA_4
  case hCA_4 => (intro wz _; go_simp; try with_reducible rfl)
  simp only [Act.put, List.setIfInBounds_toArray, List.set_cons_zero, List.set_cons_succ]
  refine wpAnyH_take (i := 4) (oi := { dst := some 43, op := Go.Op.move (Go.Operand.tmp 3), type := 9, pos := "law.go:35", after := #[], guard := none }) (v := ?vCA_5) rfl (by kernel_rfl) (by kernel_rfl) (by kernel_rfl) (fun _ _ _ h => h) (Or.inl ⟨by rfl, ?hCA_5⟩) hS ?rCA_5
  case hCA_5 => (intro wz _; go_simp; try with_reducible rfl)
  simp only [Act.put, List.setIfInBounds_toArray, List.set_cons_zero, List.set_cons_succ]
  refine wpAnyH_take (i := 5) (oi := { dst := some 44, op := Go.Op.binOp Go.BinOp.add 9 (Go.Operand.tmp 42) (Go.Operand.tmp 43) 9, type := 9, pos := "law.go:35", after := #[{ on := 3, ground := Go.Ground.data }, { on := 4, ground := Go.Ground.data }], guard := none }) (v := ?vCA_6) rfl (by kernel_rfl) (by kernel_rfl) (by kernel_rfl) (fun _ _ _ h => h) (Or.inl ⟨by rfl, ?hCA_6⟩) hS ?rCA_6
  case hCA_6 => (intro wz _; go_simp; try with_reducible rfl)
  simp only [Act.put, List.setIfInBounds_toArray, List.set_cons_zero, List.set_cons_succ]
  refine wpAnyH_take (i := 9) (oi := { dst := some 48, op := Go.Op.move (Go.Operand.tmp 9), type := 24, pos := "law.go:35", after := #[], guard := none }) (v := ?vCA_7) rfl (by kernel_rfl) (by kernel_rfl) (by kernel_rfl) (fun _ _ _ h => h) (Or.inl ⟨by rfl, ?hCA_7⟩) hS ?rCA_7
  case hCA_7 => (intro wz _; go_simp; try with_reducible rfl)
  simp only [Act.put, List.setIfInBounds_toArray, List.set_cons_zero, List.set_cons_succ]
  refine wpAnyH_take (i := 10) (oi := { dst := some 49, op := Go.Op.convert 24 9 (Go.Operand.tmp 48), type := 9, pos := "law.go:35", after := #[{ on := 9, ground := Go.Ground.data }], guard := none }) (v := ?vCA_8) rfl (by kernel_rfl) (by kernel_rfl) (by kernel_rfl) (fun _ _ _ h => h) (Or.inl ⟨by rfl, ?hCA_8⟩) hS ?rCA_8
  case hCA_8 => (intro wz hz; refine exec_string (.tmp 48) 24 9 ?_ 5 Try.underlying24 Try.underlying5 Try.underlying9 _ _ a.size mx tx ?_ (HSX.out wz hz) DX.out <;> rfl)
  simp only [Act.put, List.setIfInBounds_toArray, List.set_cons_zero, List.set_cons_succ]
  refine wpAnyH_take (i := 11) (oi := { dst := some 50, op := Go.Op.move (Go.Operand.tmp 10), type := 24, pos := "law.go:35", after := #[], guard := none }) (v := ?vCA_9) rfl (by kernel_rfl) (by kernel_rfl) (by kernel_rfl) (fun _ _ _ h => h) (Or.inl ⟨by rfl, ?hCA_9⟩) hS ?rCA_9
  case hCA_9 => (intro wz _; go_simp; try with_reducible rfl)
  simp only [Act.put, List.setIfInBounds_toArray, List.set_cons_zero, List.set_cons_succ]
  refine wpAnyH_take (i := 12) (oi := { dst := some 51, op := Go.Op.convert 24 9 (Go.Operand.tmp 50), type := 9, pos := "law.go:35", after := #[{ on := 11, ground := Go.Ground.data }], guard := none }) (v := ?vCA_10) rfl (by kernel_rfl) (by kernel_rfl) (by kernel_rfl) (fun _ _ _ h => h) (Or.inl ⟨by rfl, ?hCA_10⟩) hS ?rCA_10
  case hCA_10 => (intro wz hz; refine exec_string (.tmp 50) 24 9 ?_ 5 Try.underlying24 Try.underlying5 Try.underlying9 _ _ b.size my ty ?_ (HSY.out wz hz) DY.out <;> rfl)
  simp only [Act.put, List.setIfInBounds_toArray, List.set_cons_zero, List.set_cons_succ]
  refine wpAnyH_take (i := 13) (oi := { dst := some 52, op := Go.Op.binOp Go.BinOp.add 9 (Go.Operand.tmp 49) (Go.Operand.tmp 51) 9, type := 9, pos := "law.go:35", after := #[{ on := 10, ground := Go.Ground.data }, { on := 12, ground := Go.Ground.data }], guard := none }) (v := ?vCA_11) rfl (by kernel_rfl) (by kernel_rfl) (by kernel_rfl) (fun _ _ _ h => h) (Or.inl ⟨by rfl, ?hCA_11⟩) hS ?rCA_11
  case hCA_11 => (intro wz _; go_simp; try with_reducible rfl)
  simp only [Act.put, List.setIfInBounds_toArray, List.set_cons_zero, List.set_cons_succ]
  refine held_one (k := 6) (o := { dst := some 45, op := Go.Op.convert 9 24 (Go.Operand.tmp 44), type := 24, pos := "law.go:35", after := #[{ on := 5, ground := Go.Ground.data }], guard := none }) (by kernel_rfl) rfl (fun K hK => ?_)
  refine step_bytes (by rfl) (.tmp 44) 9 24 rfl 5 Try.underlying9 Try.underlying24 Try.underlying5 ab rfl ?_
  intro w6 c6 hk6 hc6 hs6
  refine hK _ _ (held_go ?_ (fun hS => ?_))
  · exact hS.trans hk6
  clear hK K
  try simp only [Act.put, List.setIfInBounds_toArray, List.set_cons_zero, List.set_cons_succ]
  refine held_one (k := 7) (o := { dst := some 46, op := Go.Op.call { callee := Go.Callee.value (Go.Operand.func 11), args := #[Go.Operand.tmp 39, Go.Operand.tmp 41, Go.Operand.tmp 45], argTypes := #[22, 3, 24] }, type := 24, pos := "law.go:35", after := #[{ on := 0, ground := Go.Ground.data }, { on := 2, ground := Go.Ground.data }, { on := 6, ground := Go.Ground.data }], guard := none }) (by kernel_rfl) rfl (fun K hK => ?_)
  go_simp
  have hq := apply_at w6 [k0, k1, k2, k3] ab.data.toList (mx ++ my) #[.int .u8 (k0.toNat : Int), .int .u8 (k1.toNat : Int), .int .u8 (k2.toNat : Int), .int .u8 (k3.toNat : Int)] n p _ ab.size c6 rfl rfl hs6 hsl HP.out HMZ.out
  refine hq.mono ?_
  rintro e w7 ⟨D, rfl, hs7, hk7⟩
  refine hK _ _ (held_go ?_ (fun hS => ?_))
  · exact hS.trans hk7
  clear hK K
  try simp only [Act.put, List.setIfInBounds_toArray, List.set_cons_zero, List.set_cons_succ]
  refine held_one (k := 8) (o := { dst := some 47, op := Go.Op.convert 24 9 (Go.Operand.tmp 46), type := 9, pos := "law.go:35", after := #[{ on := 7, ground := Go.Ground.data }], guard := none }) (by kernel_rfl) rfl (fun K hK => ?_)
  refine step_string (by rfl) (.tmp 46) 24 9 rfl 5 Try.underlying24 Try.underlying5 Try.underlying9 _ _ _ _ tz rfl hs7 DZ.out ?_
  refine hK _ _ (held_go ?_ (fun hS => ?_))
  · exact hS
  clear hK K
  try simp only [Act.put, List.setIfInBounds_toArray, List.set_cons_zero, List.set_cons_succ]
  refine wpAnyH_take (i := 14) (oi := { dst := some 53, op := Go.Op.binOp Go.BinOp.eql 9 (Go.Operand.tmp 47) (Go.Operand.tmp 52) 9, type := 4, pos := "law.go:35", after := #[{ on := 8, ground := Go.Ground.data }, { on := 13, ground := Go.Ground.data }], guard := none }) (v := ?vCA_12) rfl (by kernel_rfl) (by kernel_rfl) (by kernel_rfl) (fun _ _ _ h => h) (Or.inl ⟨by rfl, ?hCA_12⟩) hS ?rCA_12
  case hCA_12 => (intro wz _; go_simp; try with_reducible rfl)
  simp only [Act.put, List.setIfInBounds_toArray, List.set_cons_zero, List.set_cons_succ]
  refine wpAnyH_take (i := 15) (oi := { dst := some 8, op := Go.Op.assign (Go.Operand.tmp 53), type := 4, pos := "law.go:35", after := #[{ on := 14, ground := Go.Ground.data }, { on := 7, ground := Go.Ground.chain }, { on := 0, ground := Go.Ground.phase }, { on := 1, ground := Go.Ground.phase }, { on := 2, ground := Go.Ground.phase }, { on := 3, ground := Go.Ground.phase }, { on := 4, ground := Go.Ground.phase }, { on := 5, ground := Go.Ground.phase }, { on := 6, ground := Go.Ground.phase }, { on := 7, ground := Go.Ground.phase }, { on := 8, ground := Go.Ground.phase }, { on := 9, ground := Go.Ground.phase }, { on := 10, ground := Go.Ground.phase }, { on := 11, ground := Go.Ground.phase }, { on := 12, ground := Go.Ground.phase }, { on := 13, ground := Go.Ground.phase }, { on := 14, ground := Go.Ground.phase }], guard := none }) (v := ?vCA_13) rfl (by kernel_rfl) (by kernel_rfl) (by kernel_rfl) (fun _ _ _ h => h) (Or.inl ⟨by rfl, ?hCA_13⟩) hS ?rCA_13
  case hCA_13 => (intro wz _; go_simp; try with_reducible rfl)
  simp only [Act.put, List.setIfInBounds_toArray, List.set_cons_zero, List.set_cons_succ]
  refine wpAnyH_done (by kernel_rfl) ?_ _
  go_wp2
  go_ret
  exact ⟨rfl, (HALL.out.trans hS).below'⟩
end Go.Proofs.Ytkpahpoobbjgiaa
