/- The walk of RingRoom: whatever the input, the law returns true and leaves old memory alone. -/
import Derived.Test.YtmioglkibjmmfaaAwake
import Derived.RegionTactic
namespace Go.Proofs.Ytmioglkibjmmfaa
open Go.RowKit

set_option maxHeartbeats 1000000 in
theorem ringRoom_far (n : Nat) (a b : ByteArray) (w : World) (hn : n ≤ 255) (h : 500 < a.size ∨ 500 < b.size) :
    Calls Try.prog 7 #[.int .u8 n, .string a, .string b] w fun e w' => e = .returned (.bool true) ∧ Below w.heap.size w w' := by
  rcases (show 500 < a.size ∨ (¬ 500 < a.size ∧ 500 < b.size) by omega) with g1 | ⟨g1, g2⟩
  all_goals
    go_enter Try.func7, Try.ntmps7
    go_wp2_with fail
    refine (new_at _ _ (1 + n) (by omega) (by omega) (by omega)).mono ?_
    rintro e w1 ⟨p, bb, rfl, hr, hk, h1, h2⟩
    go_wp2_with fail
    refine (awake_any _).mono ?_
    rintro e w2 ⟨rfl, hk2⟩
    go_wp2_with fail
    refine (awake_any _).mono ?_
    rintro e w3 ⟨rfl, hk3⟩
    go_wp2_with fail
    go_ret
    exact ⟨rfl, ((hk.trans hk2).trans hk3).below'⟩

set_option maxHeartbeats 1000000 in
theorem ringRoom_fits (n : Nat) (a b : ByteArray) (w : World) (hn : n ≤ 255) (ha : a.size ≤ 500) (hb : b.size ≤ 500) (hfit : b.size ≤ 1 + n - min a.size (1 + n - 0)) :
    Calls Try.prog 7 #[.int .u8 n, .string a, .string b] w fun e w' => e = .returned (.bool true) ∧ Below w.heap.size w w' := by
  obtain ⟨k1, hk1⟩ : ∃ k, k = min a.size (1 + n - 0) := ⟨_, rfl⟩
  obtain ⟨k2, hk2⟩ : ∃ k, k = min b.size (1 + n - k1) := ⟨_, rfl⟩
  obtain ⟨t1, ht1⟩ : ∃ t, t = a.data.toList.take (1 + n - 0) := ⟨_, rfl⟩
  obtain ⟨t2, ht2⟩ : ∃ t, t = t1 ++ b.data.toList.take (1 + n - k1) := ⟨_, rfl⟩
  have l1 : t1.length = k1 := by rw [ht1, hk1, List.length_take, len_data]; omega
  have l2 : t2.length = k1 + k2 := by rw [ht2, List.length_append, l1, List.length_take, len_data]; omega
  have HQ := Lib.hid (show (a.extract 0 k1 ++ b.extract 0 k2).data.toList = t2 by
    rw [data_append, data_extract, data_extract, ht2, ht1, List.drop_zero, List.drop_zero]
    congr 1
    · rw [hk1, Nat.min_comm, ← len_data, ← List.take_eq_take_min]
    · rw [hk2, Nat.min_comm, ← len_data, ← List.take_eq_take_min])
  rw [← hk1] at hfit
  obtain rfl : k2 = b.size := by omega
  have HQ2 := Lib.hid (show (a.extract 0 k1 ++ b).data.toList = t2 by rw [← HQ.out, data_append, data_append, data_extract b, List.drop_zero, List.take_of_length_le (by rw [len_data]; omega)])
  have m1 : k1 ≤ a.size := by omega
  have m2 : k1 ≤ 1 + n := by omega
  have HK1 := Lib.hid hk1
  have HK2 := Lib.hid hk2
  have m5 : (b.size : Int) ≤ 1 + n - k1 := by omega
  have HT1 := Lib.hid ht1
  have HT2 := Lib.hid ht2
  have HL1 := Lib.hid l1
  have HL2 := Lib.hid l2
  have HM1 := Lib.hid (show (k1 : Int) = min (a.size : Int) (1 + n) by omega)
  clear hk1 hk2 ht1 ht2 l1 l2
  go_enter Try.func7, Try.ntmps7
  go_wp2_with fail
  refine (new_at _ _ (1 + n) (by omega) (by omega) (by omega)).mono ?_
  rintro e w1 ⟨p, bb, rfl, hr, hk, h1, h2⟩
  go_wp2_with fail
  refine (awake_any _).mono ?_
  rintro e w2 ⟨rfl, hk2⟩
  have hr2 := hr.keeps hk2 id id
  have q2 := hr2.lt
  have s2 := hk2.size
  go_wp2_with (with_reducible refine wpList_bytes (o := ⟨some 41, _, _, _, _, _⟩) rfl _ _ _ rfl 5 Try.underlying9 Try.underlying33 Try.underlying5 a rfl ?_; intro w3 c hk3 hz3 hc3 hs3 hf3)
  have hr3 := hr2.keeps hk3 id id
  refine (put_at _ p bb (1 + n) _ _ t1 _ _ _ k1 hr3 hs3 hc3 ?_ HK1.out HT1.out).mono ?_
  · intro ad h; cases h; simp; omega
  rintro e w4 ⟨rfl, hr4, hk4⟩
  go_wp2_with (with_reducible refine wpList_min (o := ⟨some 49, _, _, _, _, _⟩) rfl _ _ _ _ rfl _ _ _ _ (k1 : Int) rfl rfl HM1.out ?_)
  refine (room_at _ p bb _ _ (1 + n - k1) hr4 (by rw [HL1.out]; omega)).mono ?_
  rintro e w5 ⟨rfl, nq, rfl⟩
  have hr5 : RingAt (w4.drewN nq) p bb (1 + n) t1 := hr4
  go_wp2_with (with_reducible refine wpList_bytes (o := ⟨some 63, _, _, _, _, _⟩) rfl _ _ _ rfl 5 Try.underlying9 Try.underlying33 Try.underlying5 b rfl ?_; intro w6 c6 hk6 hz6 hc6 hs6 hf6)
  have hr6 := hr5.keeps hk6 id id
  have q5 := hr5.lt
  refine (put_at _ p bb (1 + n) _ _ t2 _ _ _ b.size hr6 hs6 hc6 ?_ (by rw [HL1.out]; exact HK2.out) (by rw [HL1.out]; exact HT2.out)).mono ?_
  · intro ad h; cases h; simp at q5 ⊢; omega
  rintro e w7 ⟨rfl, hr7, hk7⟩
  go_wp2_with fail
  have m6 : ¬ (1 + (n : Int) - k1 < b.size) := by omega
  have hr7d : RingAt w7.drew p bb (1 + n) t2 := hr7
  have hadd : ∀ w', (Op.stringOp .add (a.extract 0 k1) b).run Try.prog w' = .ok (.string (a.extract 0 k1 ++ b)) w' := fun w' => run_string_add_sum w' _ _ (by rw [ByteArray.size_extract]; omega)
  have e0 : IntKind.i64.wrap (n : Int) = n := IntWalk.i64_in _ (by omega)
  have e1 : IntKind.i64.wrap (1 + (n : Int)) = 1 + n := IntWalk.i64_in _ (by omega)
  have e2 : IntKind.i64.wrap (1 + (n : Int) - k1) = 1 + n - k1 := IntWalk.i64_in _ (by omega)
  have e3 : IntKind.i64.wrap ((k1 : Int) + b.size) = k1 + b.size := IntWalk.i64_in _ (by omega)
  refine wp_region_any (by kernel_rfl) ?_
  change wpAny _ _ _ _ _ _ _ (World.drew _)
  refine wpAny_take (i := 0) (oi := { dst := some 65, op := Go.Op.move (Go.Operand.tmp 10), type := 3, pos := "law.go:142", after := #[], guard := none }) (v := ?vRA_1) rfl (by kernel_rfl) (by kernel_rfl) (by kernel_rfl) (fun _ _ _ h => h) (Or.inl ⟨by rfl, ?hRA_1⟩) ?rRA_1
  case hRA_1 => (intro wz; go_simp; try with_reducible rfl)
  simp only [Act.put, List.setIfInBounds_toArray, List.set_cons_zero, List.set_cons_succ]
  refine wpAny_take (i := 1) (oi := { dst := some 66, op := Go.Op.move (Go.Operand.tmp 2), type := 9, pos := "law.go:142", after := #[], guard := none }) (v := ?vRA_2) rfl (by kernel_rfl) (by kernel_rfl) (by kernel_rfl) (fun _ _ _ h => h) (Or.inl ⟨by rfl, ?hRA_2⟩) ?rRA_2
  case hRA_2 => (intro wz; go_simp; try with_reducible rfl)
  simp only [Act.put, List.setIfInBounds_toArray, List.set_cons_zero, List.set_cons_succ]
  refine wpAny_take (i := 2) (oi := { dst := some 67, op := Go.Op.call { callee := Go.Callee.builtin Go.Builtin.len, args := #[Go.Operand.tmp 66], argTypes := #[9] }, type := 3, pos := "law.go:142", after := #[{ on := 1, ground := Go.Ground.data }], guard := none }) (v := ?vRA_3) rfl (by kernel_rfl) (by kernel_rfl) (by kernel_rfl) (fun _ _ _ h => h) (Or.inl ⟨by rfl, ?hRA_3⟩) ?rRA_3
  case hRA_3 => (intro wz; go_simp; try with_reducible rfl)
  simp only [Act.put, List.setIfInBounds_toArray, List.set_cons_zero, List.set_cons_succ]
  refine wpAny_take (i := 3) (oi := { dst := some 68, op := Go.Op.move (Go.Operand.tmp 0), type := 5, pos := "law.go:142", after := #[], guard := none }) (v := ?vRA_4) rfl (by kernel_rfl) (by kernel_rfl) (by kernel_rfl) (fun _ _ _ h => h) (Or.inl ⟨by rfl, ?hRA_4⟩) ?rRA_4
  case hRA_4 => (intro wz; go_simp; try with_reducible rfl)
  simp only [Act.put, List.setIfInBounds_toArray, List.set_cons_zero, List.set_cons_succ]
  refine wpAny_take (i := 4) (oi := { dst := some 69, op := Go.Op.convert 5 3 (Go.Operand.tmp 68), type := 3, pos := "law.go:142", after := #[{ on := 3, ground := Go.Ground.data }], guard := none }) (v := ?vRA_5) rfl (by kernel_rfl) (by kernel_rfl) (by kernel_rfl) (fun _ _ _ h => h) (Or.inl ⟨by rfl, ?hRA_5⟩) ?rRA_5
  case hRA_5 => (intro wz; go_simp; try with_reducible rfl)
  simp only [Act.put, List.setIfInBounds_toArray, List.set_cons_zero, List.set_cons_succ]
  refine wpAny_take (i := 5) (oi := { dst := some 70, op := Go.Op.binOp Go.BinOp.add 3 (Go.Operand.const (Go.Value.int Go.IntKind.i64 1)) (Go.Operand.tmp 69) 3, type := 3, pos := "law.go:142", after := #[{ on := 4, ground := Go.Ground.data }], guard := none }) (v := ?vRA_6) rfl (by kernel_rfl) (by kernel_rfl) (by kernel_rfl) (fun _ _ _ h => h) (Or.inl ⟨by rfl, ?hRA_6⟩) ?rRA_6
  case hRA_6 => (intro wz; go_simp; try with_reducible rfl)
  simp only [Act.put, List.setIfInBounds_toArray, List.set_cons_zero, List.set_cons_succ]
  refine wpAny_take (i := 6) (oi := { dst := some 71, op := Go.Op.move (Go.Operand.tmp 9), type := 3, pos := "law.go:142", after := #[], guard := none }) (v := ?vRA_7) rfl (by kernel_rfl) (by kernel_rfl) (by kernel_rfl) (fun _ _ _ h => h) (Or.inl ⟨by rfl, ?hRA_7⟩) ?rRA_7
  case hRA_7 => (intro wz; go_simp; try with_reducible rfl)
  simp only [Act.put, List.setIfInBounds_toArray, List.set_cons_zero, List.set_cons_succ]
  refine wpAny_take (i := 7) (oi := { dst := some 72, op := Go.Op.binOp Go.BinOp.sub 3 (Go.Operand.tmp 70) (Go.Operand.tmp 71) 3, type := 3, pos := "law.go:142", after := #[{ on := 5, ground := Go.Ground.data }, { on := 6, ground := Go.Ground.data }], guard := none }) (v := ?vRA_8) rfl (by kernel_rfl) (by kernel_rfl) (by kernel_rfl) (fun _ _ _ h => h) (Or.inl ⟨by rfl, ?hRA_8⟩) ?rRA_8
  case hRA_8 => (intro wz; go_simp; try with_reducible rfl)
  simp only [Act.put, List.setIfInBounds_toArray, List.set_cons_zero, List.set_cons_succ]
  refine wpAny_ready (rs := [8]) (by kernel_rfl) (by simp) ?_
  refine AllReady.cons (o := { dst := some 73, op := Go.Op.call { callee := Go.Callee.builtin Go.Builtin.min, args := #[Go.Operand.tmp 67, Go.Operand.tmp 72], argTypes := #[3, 3] }, type := 3, pos := "law.go:142", after := #[{ on := 2, ground := Go.Ground.data }, { on := 7, ground := Go.Ground.data }], guard := none }) rfl (fun K hK => ?_) AllReady.nil
  refine step_min (by rfl) (.tmp 67) (.tmp 72) 3 3 rfl .i64 .i64 _ _ ((b.size : Int)) rfl rfl (by omega) ?_
  refine hK _ _ ?_
  clear hK K
  try simp only [Act.put, List.setIfInBounds_toArray, List.set_cons_zero, List.set_cons_succ]
  refine wpAny_take (i := 9) (oi := { dst := some 74, op := Go.Op.binOp Go.BinOp.eql 3 (Go.Operand.tmp 65) (Go.Operand.tmp 73) 3, type := 4, pos := "law.go:142", after := #[{ on := 0, ground := Go.Ground.data }, { on := 8, ground := Go.Ground.data }], guard := none }) (v := ?vRA_9) rfl (by kernel_rfl) (by kernel_rfl) (by kernel_rfl) (fun _ _ _ h => h) (Or.inl ⟨by rfl, ?hRA_9⟩) ?rRA_9
  case hRA_9 => (intro wz; go_simp; try with_reducible rfl)
  simp only [Act.put, List.setIfInBounds_toArray, List.set_cons_zero, List.set_cons_succ]
  refine wpAny_take (i := 10) (oi := { dst := some 75, op := Go.Op.move (Go.Operand.tmp 74), type := 4, pos := "law.go:142", after := #[{ on := 9, ground := Go.Ground.data }], guard := none }) (v := ?vRA_10) rfl (by kernel_rfl) (by kernel_rfl) (by kernel_rfl) (fun _ _ _ h => h) (Or.inl ⟨by rfl, ?hRA_10⟩) ?rRA_10
  case hRA_10 => (intro wz; go_simp; try with_reducible rfl)
  simp only [Act.put, List.setIfInBounds_toArray, List.set_cons_zero, List.set_cons_succ]
  refine wpAny_take (i := 11) (oi := { dst := some 76, op := Go.Op.move (Go.Operand.tmp 7), type := 23, pos := "law.go:142", after := #[{ on := 10, ground := Go.Ground.guard }], guard := some (10, true) }) (v := ?vRA_11) rfl (by kernel_rfl) (by kernel_rfl) (by kernel_rfl) (fun _ _ _ h => h) (Or.inl ⟨by rfl, ?hRA_11⟩) ?rRA_11
  case hRA_11 => (intro wz; go_simp; try with_reducible rfl)
  simp only [Act.put, List.setIfInBounds_toArray, List.set_cons_zero, List.set_cons_succ]
  refine wpAny_take (i := 13) (oi := { dst := some 78, op := Go.Op.move (Go.Operand.tmp 9), type := 3, pos := "law.go:142", after := #[{ on := 10, ground := Go.Ground.guard }], guard := some (10, true) }) (v := ?vRA_12) rfl (by kernel_rfl) (by kernel_rfl) (by kernel_rfl) (fun _ _ _ h => h) (Or.inl ⟨by rfl, ?hRA_12⟩) ?rRA_12
  case hRA_12 => (intro wz; go_simp; try with_reducible rfl)
  simp only [Act.put, List.setIfInBounds_toArray, List.set_cons_zero, List.set_cons_succ]
  refine wpAny_take (i := 14) (oi := { dst := some 79, op := Go.Op.move (Go.Operand.tmp 10), type := 3, pos := "law.go:142", after := #[{ on := 10, ground := Go.Ground.guard }], guard := some (10, true) }) (v := ?vRA_13) rfl (by kernel_rfl) (by kernel_rfl) (by kernel_rfl) (fun _ _ _ h => h) (Or.inl ⟨by rfl, ?hRA_13⟩) ?rRA_13
  case hRA_13 => (intro wz; go_simp; try with_reducible rfl)
  simp only [Act.put, List.setIfInBounds_toArray, List.set_cons_zero, List.set_cons_succ]
  refine wpAny_take (i := 15) (oi := { dst := some 80, op := Go.Op.binOp Go.BinOp.add 3 (Go.Operand.tmp 78) (Go.Operand.tmp 79) 3, type := 3, pos := "law.go:142", after := #[{ on := 13, ground := Go.Ground.data }, { on := 14, ground := Go.Ground.data }, { on := 10, ground := Go.Ground.guard }], guard := some (10, true) }) (v := ?vRA_14) rfl (by kernel_rfl) (by kernel_rfl) (by kernel_rfl) (fun _ _ _ h => h) (Or.inl ⟨by rfl, ?hRA_14⟩) ?rRA_14
  case hRA_14 => (intro wz; go_simp; try with_reducible rfl)
  simp only [Act.put, List.setIfInBounds_toArray, List.set_cons_zero, List.set_cons_succ]
  refine wpAny_ready (rs := [12]) (by kernel_rfl) (by simp) ?_
  refine AllReady.cons (o := { dst := some 77, op := Go.Op.call { callee := Go.Callee.value (Go.Operand.func 17), args := #[Go.Operand.tmp 76], argTypes := #[23] }, type := 3, pos := "law.go:142", after := #[{ on := 11, ground := Go.Ground.data }, { on := 10, ground := Go.Ground.chain }, { on := 10, ground := Go.Ground.guard }], guard := some (10, true) }) rfl (fun K hK => ?_) AllReady.nil
  go_simp
  refine (len_at _ p bb (1 + n) t2 (k1 + (b.size : Int)) hr7d (by rw [HL2.out]; omega)).mono ?_
  rintro e w8 ⟨rfl, rfl⟩
  refine hK _ _ ?_
  clear hK K
  try simp only [Act.put, List.setIfInBounds_toArray, List.set_cons_zero, List.set_cons_succ]
  refine wpAny_take (i := 16) (oi := { dst := some 81, op := Go.Op.binOp Go.BinOp.eql 3 (Go.Operand.tmp 77) (Go.Operand.tmp 80) 3, type := 4, pos := "law.go:142", after := #[{ on := 12, ground := Go.Ground.data }, { on := 15, ground := Go.Ground.data }, { on := 10, ground := Go.Ground.guard }], guard := some (10, true) }) (v := ?vRA_15) rfl (by kernel_rfl) (by kernel_rfl) (by kernel_rfl) (fun _ _ _ h => h) (Or.inl ⟨by rfl, ?hRA_15⟩) ?rRA_15
  case hRA_15 => (intro wz; go_simp; try with_reducible rfl)
  simp only [Act.put, List.setIfInBounds_toArray, List.set_cons_zero, List.set_cons_succ]
  refine wpAny_take (i := 17) (oi := { dst := some 82, op := Go.Op.pick (Go.Operand.tmp 75) (Go.Operand.tmp 81) (Go.Operand.const (Go.Value.bool false)), type := 4, pos := "law.go:142", after := #[{ on := 10, ground := Go.Ground.data }, { on := 16, ground := Go.Ground.data }], guard := none }) (v := ?vRA_16) rfl (by kernel_rfl) (by kernel_rfl) (by kernel_rfl) (fun _ _ _ h => h) (Or.inl ⟨by rfl, ?hRA_16⟩) ?rRA_16
  case hRA_16 => (intro wz; go_simp; try with_reducible rfl)
  simp only [Act.put, List.setIfInBounds_toArray, List.set_cons_zero, List.set_cons_succ]
  refine wpAny_take (i := 18) (oi := { dst := some 83, op := Go.Op.move (Go.Operand.tmp 82), type := 4, pos := "law.go:142", after := #[{ on := 17, ground := Go.Ground.data }, { on := 12, ground := Go.Ground.chain }], guard := none }) (v := ?vRA_17) rfl (by kernel_rfl) (by kernel_rfl) (by kernel_rfl) (fun _ _ _ h => h) (Or.inl ⟨by rfl, ?hRA_17⟩) ?rRA_17
  case hRA_17 => (intro wz; go_simp; try with_reducible rfl)
  simp only [Act.put, List.setIfInBounds_toArray, List.set_cons_zero, List.set_cons_succ]
  refine wpAny_take (i := 19) (oi := { dst := some 84, op := Go.Op.move (Go.Operand.tmp 7), type := 23, pos := "law.go:142", after := #[{ on := 18, ground := Go.Ground.guard }], guard := some (18, true) }) (v := ?vRA_18) rfl (by kernel_rfl) (by kernel_rfl) (by kernel_rfl) (fun _ _ _ h => h) (Or.inl ⟨by rfl, ?hRA_18⟩) ?rRA_18
  case hRA_18 => (intro wz; go_simp; try with_reducible rfl)
  simp only [Act.put, List.setIfInBounds_toArray, List.set_cons_zero, List.set_cons_succ]
  refine wpAny_take (i := 22) (oi := { dst := some 87, op := Go.Op.move (Go.Operand.tmp 1), type := 9, pos := "law.go:142", after := #[{ on := 18, ground := Go.Ground.guard }], guard := some (18, true) }) (v := ?vRA_19) rfl (by kernel_rfl) (by kernel_rfl) (by kernel_rfl) (fun _ _ _ h => h) (Or.inl ⟨by rfl, ?hRA_19⟩) ?rRA_19
  case hRA_19 => (intro wz; go_simp; try with_reducible rfl)
  simp only [Act.put, List.setIfInBounds_toArray, List.set_cons_zero, List.set_cons_succ]
  refine wpAny_take (i := 23) (oi := { dst := some 88, op := Go.Op.move (Go.Operand.tmp 9), type := 3, pos := "law.go:142", after := #[{ on := 18, ground := Go.Ground.guard }], guard := some (18, true) }) (v := ?vRA_20) rfl (by kernel_rfl) (by kernel_rfl) (by kernel_rfl) (fun _ _ _ h => h) (Or.inl ⟨by rfl, ?hRA_20⟩) ?rRA_20
  case hRA_20 => (intro wz; go_simp; try with_reducible rfl)
  simp only [Act.put, List.setIfInBounds_toArray, List.set_cons_zero, List.set_cons_succ]
  refine wpAny_take (i := 24) (oi := { dst := some 89, op := Go.Op.slice 9 (Go.Operand.tmp 87) none (some (Go.Operand.tmp 88)) none, type := 9, pos := "law.go:142", after := #[{ on := 22, ground := Go.Ground.data }, { on := 23, ground := Go.Ground.data }, { on := 18, ground := Go.Ground.guard }], guard := some (18, true) }) (v := ?vRA_21) rfl (by kernel_rfl) (by kernel_rfl) (by kernel_rfl) (fun _ _ _ h => h) (Or.inl ⟨by rfl, ?hRA_21⟩) ?rRA_21
  case hRA_21 => (intro wz; go_simp; try with_reducible rfl)
  simp only [Act.put, List.setIfInBounds_toArray, List.set_cons_zero, List.set_cons_succ]
  refine wpAny_take (i := 25) (oi := { dst := some 90, op := Go.Op.move (Go.Operand.tmp 2), type := 9, pos := "law.go:142", after := #[{ on := 18, ground := Go.Ground.guard }], guard := some (18, true) }) (v := ?vRA_22) rfl (by kernel_rfl) (by kernel_rfl) (by kernel_rfl) (fun _ _ _ h => h) (Or.inl ⟨by rfl, ?hRA_22⟩) ?rRA_22
  case hRA_22 => (intro wz; go_simp; try with_reducible rfl)
  simp only [Act.put, List.setIfInBounds_toArray, List.set_cons_zero, List.set_cons_succ]
  refine wpAny_take (i := 26) (oi := { dst := some 91, op := Go.Op.move (Go.Operand.tmp 10), type := 3, pos := "law.go:142", after := #[{ on := 18, ground := Go.Ground.guard }], guard := some (18, true) }) (v := ?vRA_23) rfl (by kernel_rfl) (by kernel_rfl) (by kernel_rfl) (fun _ _ _ h => h) (Or.inl ⟨by rfl, ?hRA_23⟩) ?rRA_23
  case hRA_23 => (intro wz; go_simp; try with_reducible rfl)
  simp only [Act.put, List.setIfInBounds_toArray, List.set_cons_zero, List.set_cons_succ]
  refine wpAny_take (i := 27) (oi := { dst := some 92, op := Go.Op.slice 9 (Go.Operand.tmp 90) none (some (Go.Operand.tmp 91)) none, type := 9, pos := "law.go:142", after := #[{ on := 25, ground := Go.Ground.data }, { on := 26, ground := Go.Ground.data }, { on := 18, ground := Go.Ground.guard }], guard := some (18, true) }) (v := ?vRA_24) rfl (by kernel_rfl) (by kernel_rfl) (by kernel_rfl) (fun _ _ _ h => h) (Or.inl ⟨by rfl, ?hRA_24⟩) ?rRA_24
  case hRA_24 => (intro wz; go_simp; try with_reducible rfl)
  simp only [Act.put, List.setIfInBounds_toArray, List.set_cons_zero, List.set_cons_succ]
  refine wpAny_take (i := 28) (oi := { dst := some 93, op := Go.Op.binOp Go.BinOp.add 9 (Go.Operand.tmp 89) (Go.Operand.tmp 92) 9, type := 9, pos := "law.go:142", after := #[{ on := 24, ground := Go.Ground.data }, { on := 27, ground := Go.Ground.data }, { on := 18, ground := Go.Ground.guard }], guard := some (18, true) }) (v := ?vRA_25) rfl (by kernel_rfl) (by kernel_rfl) (by kernel_rfl) (fun _ _ _ h => h) (Or.inl ⟨by rfl, ?hRA_25⟩) ?rRA_25
  case hRA_25 => (intro wz; go_simp; try with_reducible rfl)
  simp only [Act.put, List.setIfInBounds_toArray, List.set_cons_zero, List.set_cons_succ]
  refine wpAny_ready (rs := [20]) (by kernel_rfl) (by simp) ?_
  refine AllReady.cons (o := { dst := some 85, op := Go.Op.call { callee := Go.Callee.value (Go.Operand.func 16), args := #[Go.Operand.tmp 84, Go.Operand.const (Go.Value.int Go.IntKind.i64 1000)], argTypes := #[23, 3] }, type := 33, pos := "law.go:142", after := #[{ on := 19, ground := Go.Ground.data }, { on := 18, ground := Go.Ground.chain }, { on := 18, ground := Go.Ground.guard }], guard := some (18, true) }) rfl (fun K hK => ?_) AllReady.nil
  go_simp
  refine (take_at _ p bb (1 + n) (k1 + b.size) t2 t2 [] 1000 hr7d (by rw [HL2.out]; omega) (by rw [← HL2.out, List.take_length]) (by rw [← HL2.out, List.drop_length])).mono ?_
  rintro e w9 ⟨rfl, hs9, hr9, hk9⟩
  refine hK _ _ ?_
  clear hK K
  try simp only [Act.put, List.setIfInBounds_toArray, List.set_cons_zero, List.set_cons_succ]
  refine wpAny_ready (rs := [21]) (by kernel_rfl) (by simp) ?_
  refine AllReady.cons (o := { dst := some 86, op := Go.Op.convert 33 9 (Go.Operand.tmp 85), type := 9, pos := "law.go:142", after := #[{ on := 20, ground := Go.Ground.data }, { on := 18, ground := Go.Ground.guard }], guard := some (18, true) }) rfl (fun K hK => ?_) AllReady.nil
  refine step_string (by rfl) (.tmp 85) 33 9 rfl 5 Try.underlying33 Try.underlying5 Try.underlying9 _ _ _ _ (a.extract 0 k1 ++ b) rfl hs9 HQ2.out ?_
  refine hK _ _ ?_
  clear hK K
  try simp only [Act.put, List.setIfInBounds_toArray, List.set_cons_zero, List.set_cons_succ]
  refine wpAny_take (i := 29) (oi := { dst := some 94, op := Go.Op.binOp Go.BinOp.eql 9 (Go.Operand.tmp 86) (Go.Operand.tmp 93) 9, type := 4, pos := "law.go:142", after := #[{ on := 21, ground := Go.Ground.data }, { on := 28, ground := Go.Ground.data }, { on := 18, ground := Go.Ground.guard }], guard := some (18, true) }) (v := ?vRA_26) rfl (by kernel_rfl) (by kernel_rfl) (by kernel_rfl) (fun _ _ _ h => h) (Or.inl ⟨by rfl, ?hRA_26⟩) ?rRA_26
  case hRA_26 => (intro wz; go_simp; try with_reducible rfl)
  simp only [Act.put, List.setIfInBounds_toArray, List.set_cons_zero, List.set_cons_succ]
  refine wpAny_take (i := 30) (oi := { dst := some 95, op := Go.Op.pick (Go.Operand.tmp 83) (Go.Operand.tmp 94) (Go.Operand.const (Go.Value.bool false)), type := 4, pos := "law.go:142", after := #[{ on := 18, ground := Go.Ground.data }, { on := 29, ground := Go.Ground.data }], guard := none }) (v := ?vRA_27) rfl (by kernel_rfl) (by kernel_rfl) (by kernel_rfl) (fun _ _ _ h => h) (Or.inl ⟨by rfl, ?hRA_27⟩) ?rRA_27
  case hRA_27 => (intro wz; go_simp; try with_reducible rfl)
  simp only [Act.put, List.setIfInBounds_toArray, List.set_cons_zero, List.set_cons_succ]
  refine wpAny_take (i := 31) (oi := { dst := some 96, op := Go.Op.move (Go.Operand.tmp 95), type := 4, pos := "law.go:142", after := #[{ on := 30, ground := Go.Ground.data }, { on := 20, ground := Go.Ground.chain }], guard := none }) (v := ?vRA_28) rfl (by kernel_rfl) (by kernel_rfl) (by kernel_rfl) (fun _ _ _ h => h) (Or.inl ⟨by rfl, ?hRA_28⟩) ?rRA_28
  case hRA_28 => (intro wz; go_simp; try with_reducible rfl)
  simp only [Act.put, List.setIfInBounds_toArray, List.set_cons_zero, List.set_cons_succ]
  refine wpAny_take (i := 32) (oi := { dst := some 97, op := Go.Op.move (Go.Operand.tmp 7), type := 23, pos := "law.go:142", after := #[{ on := 31, ground := Go.Ground.guard }], guard := some (31, true) }) (v := ?vRA_29) rfl (by kernel_rfl) (by kernel_rfl) (by kernel_rfl) (fun _ _ _ h => h) (Or.inl ⟨by rfl, ?hRA_29⟩) ?rRA_29
  case hRA_29 => (intro wz; go_simp; try with_reducible rfl)
  simp only [Act.put, List.setIfInBounds_toArray, List.set_cons_zero, List.set_cons_succ]
  refine wpAny_take (i := 34) (oi := { dst := some 99, op := Go.Op.move (Go.Operand.tmp 0), type := 5, pos := "law.go:142", after := #[{ on := 31, ground := Go.Ground.guard }], guard := some (31, true) }) (v := ?vRA_30) rfl (by kernel_rfl) (by kernel_rfl) (by kernel_rfl) (fun _ _ _ h => h) (Or.inl ⟨by rfl, ?hRA_30⟩) ?rRA_30
  case hRA_30 => (intro wz; go_simp; try with_reducible rfl)
  simp only [Act.put, List.setIfInBounds_toArray, List.set_cons_zero, List.set_cons_succ]
  refine wpAny_take (i := 35) (oi := { dst := some 100, op := Go.Op.convert 5 3 (Go.Operand.tmp 99), type := 3, pos := "law.go:142", after := #[{ on := 34, ground := Go.Ground.data }, { on := 31, ground := Go.Ground.guard }], guard := some (31, true) }) (v := ?vRA_31) rfl (by kernel_rfl) (by kernel_rfl) (by kernel_rfl) (fun _ _ _ h => h) (Or.inl ⟨by rfl, ?hRA_31⟩) ?rRA_31
  case hRA_31 => (intro wz; go_simp; try with_reducible rfl)
  simp only [Act.put, List.setIfInBounds_toArray, List.set_cons_zero, List.set_cons_succ]
  refine wpAny_take (i := 36) (oi := { dst := some 101, op := Go.Op.binOp Go.BinOp.add 3 (Go.Operand.const (Go.Value.int Go.IntKind.i64 1)) (Go.Operand.tmp 100) 3, type := 3, pos := "law.go:142", after := #[{ on := 35, ground := Go.Ground.data }, { on := 31, ground := Go.Ground.guard }], guard := some (31, true) }) (v := ?vRA_32) rfl (by kernel_rfl) (by kernel_rfl) (by kernel_rfl) (fun _ _ _ h => h) (Or.inl ⟨by rfl, ?hRA_32⟩) ?rRA_32
  case hRA_32 => (intro wz; go_simp; try with_reducible rfl)
  simp only [Act.put, List.setIfInBounds_toArray, List.set_cons_zero, List.set_cons_succ]
  refine wpAny_ready (rs := [33]) (by kernel_rfl) (by simp) ?_
  refine AllReady.cons (o := { dst := some 98, op := Go.Op.call { callee := Go.Callee.value (Go.Operand.func 18), args := #[Go.Operand.tmp 97], argTypes := #[23] }, type := 3, pos := "law.go:142", after := #[{ on := 32, ground := Go.Ground.data }, { on := 31, ground := Go.Ground.chain }, { on := 31, ground := Go.Ground.guard }], guard := some (31, true) }) rfl (fun K hK => ?_) AllReady.nil
  go_simp
  refine (room_at _ p bb (1 + n) _ (1 + n) hr9 (by simp)).mono ?_
  rintro e w10 ⟨rfl, nq10, rfl⟩
  refine hK _ _ ?_
  clear hK K
  try simp only [Act.put, List.setIfInBounds_toArray, List.set_cons_zero, List.set_cons_succ]
  refine wpAny_take (i := 37) (oi := { dst := some 102, op := Go.Op.binOp Go.BinOp.eql 3 (Go.Operand.tmp 98) (Go.Operand.tmp 101) 3, type := 4, pos := "law.go:142", after := #[{ on := 33, ground := Go.Ground.data }, { on := 36, ground := Go.Ground.data }, { on := 31, ground := Go.Ground.guard }], guard := some (31, true) }) (v := ?vRA_33) rfl (by kernel_rfl) (by kernel_rfl) (by kernel_rfl) (fun _ _ _ h => h) (Or.inl ⟨by rfl, ?hRA_33⟩) ?rRA_33
  case hRA_33 => (intro wz; go_simp; try with_reducible rfl)
  simp only [Act.put, List.setIfInBounds_toArray, List.set_cons_zero, List.set_cons_succ]
  refine wpAny_take (i := 38) (oi := { dst := some 103, op := Go.Op.pick (Go.Operand.tmp 96) (Go.Operand.tmp 102) (Go.Operand.const (Go.Value.bool false)), type := 4, pos := "law.go:142", after := #[{ on := 31, ground := Go.Ground.data }, { on := 37, ground := Go.Ground.data }], guard := none }) (v := ?vRA_34) rfl (by kernel_rfl) (by kernel_rfl) (by kernel_rfl) (fun _ _ _ h => h) (Or.inl ⟨by rfl, ?hRA_34⟩) ?rRA_34
  case hRA_34 => (intro wz; go_simp; try with_reducible rfl)
  simp only [Act.put, List.setIfInBounds_toArray, List.set_cons_zero, List.set_cons_succ]
  refine wpAny_take (i := 39) (oi := { dst := some 6, op := Go.Op.assign (Go.Operand.tmp 103), type := 4, pos := "law.go:142", after := #[{ on := 38, ground := Go.Ground.data }, { on := 33, ground := Go.Ground.chain }, { on := 0, ground := Go.Ground.phase }, { on := 1, ground := Go.Ground.phase }, { on := 2, ground := Go.Ground.phase }, { on := 3, ground := Go.Ground.phase }, { on := 4, ground := Go.Ground.phase }, { on := 5, ground := Go.Ground.phase }, { on := 6, ground := Go.Ground.phase }, { on := 7, ground := Go.Ground.phase }, { on := 8, ground := Go.Ground.phase }, { on := 9, ground := Go.Ground.phase }, { on := 10, ground := Go.Ground.phase }, { on := 11, ground := Go.Ground.phase }, { on := 12, ground := Go.Ground.phase }, { on := 13, ground := Go.Ground.phase }, { on := 14, ground := Go.Ground.phase }, { on := 15, ground := Go.Ground.phase }, { on := 16, ground := Go.Ground.phase }, { on := 17, ground := Go.Ground.phase }, { on := 18, ground := Go.Ground.phase }, { on := 19, ground := Go.Ground.phase }, { on := 20, ground := Go.Ground.phase }, { on := 21, ground := Go.Ground.phase }, { on := 22, ground := Go.Ground.phase }, { on := 23, ground := Go.Ground.phase }, { on := 24, ground := Go.Ground.phase }, { on := 25, ground := Go.Ground.phase }, { on := 26, ground := Go.Ground.phase }, { on := 27, ground := Go.Ground.phase }, { on := 28, ground := Go.Ground.phase }, { on := 29, ground := Go.Ground.phase }, { on := 30, ground := Go.Ground.phase }, { on := 31, ground := Go.Ground.phase }, { on := 32, ground := Go.Ground.phase }, { on := 33, ground := Go.Ground.phase }, { on := 34, ground := Go.Ground.phase }, { on := 35, ground := Go.Ground.phase }, { on := 36, ground := Go.Ground.phase }, { on := 37, ground := Go.Ground.phase }, { on := 38, ground := Go.Ground.phase }], guard := none }) (v := ?vRA_35) rfl (by kernel_rfl) (by kernel_rfl) (by kernel_rfl) (fun _ _ _ h => h) (Or.inl ⟨by rfl, ?hRA_35⟩) ?rRA_35
  case hRA_35 => (intro wz; go_simp; try with_reducible rfl)
  simp only [Act.put, List.setIfInBounds_toArray, List.set_cons_zero, List.set_cons_succ]
  refine wpAny_done (by kernel_rfl) ?_ _
  go_wp2
  go_ret
  refine ⟨rfl, Keeps.below' ?_⟩
  · have hS : ∀ k, k < w.heap.size → ¬ (k = p ∨ k = bb) := by intro k hk; omega
    exact (((((((hk.trans hk2).trans hk3).on hk4 hS).drewN _).trans hk6).on hk7 hS).drew.on hk9 (fun k h e => hS k h (.inl e))).drewN _
set_option maxHeartbeats 1000000 in
theorem ringRoom_full (n : Nat) (a b : ByteArray) (w : World) (hn : n ≤ 255) (ha : a.size ≤ 500) (hb : b.size ≤ 500) (hfull : 1 + n - min a.size (1 + n - 0) < b.size) :
    Calls Try.prog 7 #[.int .u8 n, .string a, .string b] w fun e w' => e = .returned (.bool true) ∧ Below w.heap.size w w' := by
  obtain ⟨k1, hk1⟩ : ∃ k, k = min a.size (1 + n - 0) := ⟨_, rfl⟩
  obtain ⟨k2, hk2⟩ : ∃ k, k = min b.size (1 + n - k1) := ⟨_, rfl⟩
  obtain ⟨t1, ht1⟩ : ∃ t, t = a.data.toList.take (1 + n - 0) := ⟨_, rfl⟩
  obtain ⟨t2, ht2⟩ : ∃ t, t = t1 ++ b.data.toList.take (1 + n - k1) := ⟨_, rfl⟩
  have l1 : t1.length = k1 := by rw [ht1, hk1, List.length_take, len_data]; omega
  have l2 : t2.length = k1 + k2 := by rw [ht2, List.length_append, l1, List.length_take, len_data]; omega
  have HQ := Lib.hid (show (a.extract 0 k1 ++ b.extract 0 k2).data.toList = t2 by
    rw [data_append, data_extract, data_extract, ht2, ht1, List.drop_zero, List.drop_zero]
    congr 1
    · rw [hk1, Nat.min_comm, ← len_data, ← List.take_eq_take_min]
    · rw [hk2, Nat.min_comm, ← len_data, ← List.take_eq_take_min])
  rw [← hk1] at hfull
  obtain rfl : k2 = 1 + n - k1 := by omega
  have HQ2 := HQ
  have m1 : k1 ≤ a.size := by omega
  have m2 : k1 ≤ 1 + n := by omega
  have HK1 := Lib.hid hk1
  have HK2 := Lib.hid hk2
  have m5 : 1 + (n : Int) - k1 < b.size := by omega
  have m8 : (k1 : Int) ≤ 1 + n := by omega
  have HT1 := Lib.hid ht1
  have HT2 := Lib.hid ht2
  have HL1 := Lib.hid l1
  have HL2 := Lib.hid l2
  have HM1 := Lib.hid (show (k1 : Int) = min (a.size : Int) (1 + n) by omega)
  clear hk1 hk2 ht1 ht2 l1 l2
  go_enter Try.func7, Try.ntmps7
  go_wp2_with fail
  refine (new_at _ _ (1 + n) (by omega) (by omega) (by omega)).mono ?_
  rintro e w1 ⟨p, bb, rfl, hr, hk, h1, h2⟩
  go_wp2_with fail
  refine (awake_any _).mono ?_
  rintro e w2 ⟨rfl, hk2⟩
  have hr2 := hr.keeps hk2 id id
  have q2 := hr2.lt
  have s2 := hk2.size
  go_wp2_with (with_reducible refine wpList_bytes (o := ⟨some 41, _, _, _, _, _⟩) rfl _ _ _ rfl 5 Try.underlying9 Try.underlying33 Try.underlying5 a rfl ?_; intro w3 c hk3 hz3 hc3 hs3 hf3)
  have hr3 := hr2.keeps hk3 id id
  refine (put_at _ p bb (1 + n) _ _ t1 _ _ _ k1 hr3 hs3 hc3 ?_ HK1.out HT1.out).mono ?_
  · intro ad h; cases h; simp; omega
  rintro e w4 ⟨rfl, hr4, hk4⟩
  go_wp2_with (with_reducible refine wpList_min (o := ⟨some 49, _, _, _, _, _⟩) rfl _ _ _ _ rfl _ _ _ _ (k1 : Int) rfl rfl HM1.out ?_)
  refine (room_at _ p bb _ _ (1 + n - k1) hr4 (by rw [HL1.out]; omega)).mono ?_
  rintro e w5 ⟨rfl, nq, rfl⟩
  have hr5 : RingAt (w4.drewN nq) p bb (1 + n) t1 := hr4
  go_wp2_with (with_reducible refine wpList_bytes (o := ⟨some 63, _, _, _, _, _⟩) rfl _ _ _ rfl 5 Try.underlying9 Try.underlying33 Try.underlying5 b rfl ?_; intro w6 c6 hk6 hz6 hc6 hs6 hf6)
  have hr6 := hr5.keeps hk6 id id
  have q5 := hr5.lt
  refine (put_z _ p bb (1 + n) _ _ t2 _ _ _ (1 + n - k1) hr6 hs6 hc6 ?_ (by rw [HL1.out]; omega) (by rw [HL1.out]; exact HT2.out)).mono ?_
  · intro ad h; cases h; simp at q5 ⊢; omega
  rintro e w7 ⟨rfl, hr7, hk7⟩
  go_wp2_with fail
  have m7 : 1 + (n : Int) - k1 ≤ b.size := by omega
  have e5 : (1 + (n : Int) - k1).toNat = 1 + n - k1 := by omega
  have hr7d : RingAt w7.drew p bb (1 + n) t2 := hr7
  have hadd : ∀ w', (Op.stringOp .add (a.extract 0 k1) (b.extract 0 (1 + n - k1))).run Try.prog w' = .ok (.string (a.extract 0 k1 ++ b.extract 0 (1 + n - k1))) w' := fun w' => run_string_add_sum w' _ _ (by rw [ByteArray.size_extract, ByteArray.size_extract]; omega)
  have e0 : IntKind.i64.wrap (n : Int) = n := IntWalk.i64_in _ (by omega)
  have e1 : IntKind.i64.wrap (1 + (n : Int)) = 1 + n := IntWalk.i64_in _ (by omega)
  have e2 : IntKind.i64.wrap (1 + (n : Int) - k1) = 1 + n - k1 := IntWalk.i64_in _ (by omega)
  have e3 : IntKind.i64.wrap ((k1 : Int) + (1 + n - k1)) = k1 + (1 + n - k1) := IntWalk.i64_in _ (by omega)
  refine wp_region_any (by kernel_rfl) ?_
  change wpAny _ _ _ _ _ _ _ (World.drew _)
  refine wpAny_take (i := 0) (oi := { dst := some 65, op := Go.Op.move (Go.Operand.tmp 10), type := 3, pos := "law.go:142", after := #[], guard := none }) (v := ?vRB_1) rfl (by kernel_rfl) (by kernel_rfl) (by kernel_rfl) (fun _ _ _ h => h) (Or.inl ⟨by rfl, ?hRB_1⟩) ?rRB_1
  case hRB_1 => (intro wz; go_simp; try with_reducible rfl)
  simp only [Act.put, List.setIfInBounds_toArray, List.set_cons_zero, List.set_cons_succ]
  refine wpAny_take (i := 1) (oi := { dst := some 66, op := Go.Op.move (Go.Operand.tmp 2), type := 9, pos := "law.go:142", after := #[], guard := none }) (v := ?vRB_2) rfl (by kernel_rfl) (by kernel_rfl) (by kernel_rfl) (fun _ _ _ h => h) (Or.inl ⟨by rfl, ?hRB_2⟩) ?rRB_2
  case hRB_2 => (intro wz; go_simp; try with_reducible rfl)
  simp only [Act.put, List.setIfInBounds_toArray, List.set_cons_zero, List.set_cons_succ]
  refine wpAny_take (i := 2) (oi := { dst := some 67, op := Go.Op.call { callee := Go.Callee.builtin Go.Builtin.len, args := #[Go.Operand.tmp 66], argTypes := #[9] }, type := 3, pos := "law.go:142", after := #[{ on := 1, ground := Go.Ground.data }], guard := none }) (v := ?vRB_3) rfl (by kernel_rfl) (by kernel_rfl) (by kernel_rfl) (fun _ _ _ h => h) (Or.inl ⟨by rfl, ?hRB_3⟩) ?rRB_3
  case hRB_3 => (intro wz; go_simp; try with_reducible rfl)
  simp only [Act.put, List.setIfInBounds_toArray, List.set_cons_zero, List.set_cons_succ]
  refine wpAny_take (i := 3) (oi := { dst := some 68, op := Go.Op.move (Go.Operand.tmp 0), type := 5, pos := "law.go:142", after := #[], guard := none }) (v := ?vRB_4) rfl (by kernel_rfl) (by kernel_rfl) (by kernel_rfl) (fun _ _ _ h => h) (Or.inl ⟨by rfl, ?hRB_4⟩) ?rRB_4
  case hRB_4 => (intro wz; go_simp; try with_reducible rfl)
  simp only [Act.put, List.setIfInBounds_toArray, List.set_cons_zero, List.set_cons_succ]
  refine wpAny_take (i := 4) (oi := { dst := some 69, op := Go.Op.convert 5 3 (Go.Operand.tmp 68), type := 3, pos := "law.go:142", after := #[{ on := 3, ground := Go.Ground.data }], guard := none }) (v := ?vRB_5) rfl (by kernel_rfl) (by kernel_rfl) (by kernel_rfl) (fun _ _ _ h => h) (Or.inl ⟨by rfl, ?hRB_5⟩) ?rRB_5
  case hRB_5 => (intro wz; go_simp; try with_reducible rfl)
  simp only [Act.put, List.setIfInBounds_toArray, List.set_cons_zero, List.set_cons_succ]
  refine wpAny_take (i := 5) (oi := { dst := some 70, op := Go.Op.binOp Go.BinOp.add 3 (Go.Operand.const (Go.Value.int Go.IntKind.i64 1)) (Go.Operand.tmp 69) 3, type := 3, pos := "law.go:142", after := #[{ on := 4, ground := Go.Ground.data }], guard := none }) (v := ?vRB_6) rfl (by kernel_rfl) (by kernel_rfl) (by kernel_rfl) (fun _ _ _ h => h) (Or.inl ⟨by rfl, ?hRB_6⟩) ?rRB_6
  case hRB_6 => (intro wz; go_simp; try with_reducible rfl)
  simp only [Act.put, List.setIfInBounds_toArray, List.set_cons_zero, List.set_cons_succ]
  refine wpAny_take (i := 6) (oi := { dst := some 71, op := Go.Op.move (Go.Operand.tmp 9), type := 3, pos := "law.go:142", after := #[], guard := none }) (v := ?vRB_7) rfl (by kernel_rfl) (by kernel_rfl) (by kernel_rfl) (fun _ _ _ h => h) (Or.inl ⟨by rfl, ?hRB_7⟩) ?rRB_7
  case hRB_7 => (intro wz; go_simp; try with_reducible rfl)
  simp only [Act.put, List.setIfInBounds_toArray, List.set_cons_zero, List.set_cons_succ]
  refine wpAny_take (i := 7) (oi := { dst := some 72, op := Go.Op.binOp Go.BinOp.sub 3 (Go.Operand.tmp 70) (Go.Operand.tmp 71) 3, type := 3, pos := "law.go:142", after := #[{ on := 5, ground := Go.Ground.data }, { on := 6, ground := Go.Ground.data }], guard := none }) (v := ?vRB_8) rfl (by kernel_rfl) (by kernel_rfl) (by kernel_rfl) (fun _ _ _ h => h) (Or.inl ⟨by rfl, ?hRB_8⟩) ?rRB_8
  case hRB_8 => (intro wz; go_simp; try with_reducible rfl)
  simp only [Act.put, List.setIfInBounds_toArray, List.set_cons_zero, List.set_cons_succ]
  refine wpAny_ready (rs := [8]) (by kernel_rfl) (by simp) ?_
  refine AllReady.cons (o := { dst := some 73, op := Go.Op.call { callee := Go.Callee.builtin Go.Builtin.min, args := #[Go.Operand.tmp 67, Go.Operand.tmp 72], argTypes := #[3, 3] }, type := 3, pos := "law.go:142", after := #[{ on := 2, ground := Go.Ground.data }, { on := 7, ground := Go.Ground.data }], guard := none }) rfl (fun K hK => ?_) AllReady.nil
  refine step_min (by rfl) (.tmp 67) (.tmp 72) 3 3 rfl .i64 .i64 _ _ ((1 + n - k1 : Int)) rfl rfl (by omega) ?_
  refine hK _ _ ?_
  clear hK K
  try simp only [Act.put, List.setIfInBounds_toArray, List.set_cons_zero, List.set_cons_succ]
  refine wpAny_take (i := 9) (oi := { dst := some 74, op := Go.Op.binOp Go.BinOp.eql 3 (Go.Operand.tmp 65) (Go.Operand.tmp 73) 3, type := 4, pos := "law.go:142", after := #[{ on := 0, ground := Go.Ground.data }, { on := 8, ground := Go.Ground.data }], guard := none }) (v := ?vRB_9) rfl (by kernel_rfl) (by kernel_rfl) (by kernel_rfl) (fun _ _ _ h => h) (Or.inl ⟨by rfl, ?hRB_9⟩) ?rRB_9
  case hRB_9 => (intro wz; go_simp; try with_reducible rfl)
  simp only [Act.put, List.setIfInBounds_toArray, List.set_cons_zero, List.set_cons_succ]
  refine wpAny_take (i := 10) (oi := { dst := some 75, op := Go.Op.move (Go.Operand.tmp 74), type := 4, pos := "law.go:142", after := #[{ on := 9, ground := Go.Ground.data }], guard := none }) (v := ?vRB_10) rfl (by kernel_rfl) (by kernel_rfl) (by kernel_rfl) (fun _ _ _ h => h) (Or.inl ⟨by rfl, ?hRB_10⟩) ?rRB_10
  case hRB_10 => (intro wz; go_simp; try with_reducible rfl)
  simp only [Act.put, List.setIfInBounds_toArray, List.set_cons_zero, List.set_cons_succ]
  refine wpAny_take (i := 11) (oi := { dst := some 76, op := Go.Op.move (Go.Operand.tmp 7), type := 23, pos := "law.go:142", after := #[{ on := 10, ground := Go.Ground.guard }], guard := some (10, true) }) (v := ?vRB_11) rfl (by kernel_rfl) (by kernel_rfl) (by kernel_rfl) (fun _ _ _ h => h) (Or.inl ⟨by rfl, ?hRB_11⟩) ?rRB_11
  case hRB_11 => (intro wz; go_simp; try with_reducible rfl)
  simp only [Act.put, List.setIfInBounds_toArray, List.set_cons_zero, List.set_cons_succ]
  refine wpAny_take (i := 13) (oi := { dst := some 78, op := Go.Op.move (Go.Operand.tmp 9), type := 3, pos := "law.go:142", after := #[{ on := 10, ground := Go.Ground.guard }], guard := some (10, true) }) (v := ?vRB_12) rfl (by kernel_rfl) (by kernel_rfl) (by kernel_rfl) (fun _ _ _ h => h) (Or.inl ⟨by rfl, ?hRB_12⟩) ?rRB_12
  case hRB_12 => (intro wz; go_simp; try with_reducible rfl)
  simp only [Act.put, List.setIfInBounds_toArray, List.set_cons_zero, List.set_cons_succ]
  refine wpAny_take (i := 14) (oi := { dst := some 79, op := Go.Op.move (Go.Operand.tmp 10), type := 3, pos := "law.go:142", after := #[{ on := 10, ground := Go.Ground.guard }], guard := some (10, true) }) (v := ?vRB_13) rfl (by kernel_rfl) (by kernel_rfl) (by kernel_rfl) (fun _ _ _ h => h) (Or.inl ⟨by rfl, ?hRB_13⟩) ?rRB_13
  case hRB_13 => (intro wz; go_simp; try with_reducible rfl)
  simp only [Act.put, List.setIfInBounds_toArray, List.set_cons_zero, List.set_cons_succ]
  refine wpAny_take (i := 15) (oi := { dst := some 80, op := Go.Op.binOp Go.BinOp.add 3 (Go.Operand.tmp 78) (Go.Operand.tmp 79) 3, type := 3, pos := "law.go:142", after := #[{ on := 13, ground := Go.Ground.data }, { on := 14, ground := Go.Ground.data }, { on := 10, ground := Go.Ground.guard }], guard := some (10, true) }) (v := ?vRB_14) rfl (by kernel_rfl) (by kernel_rfl) (by kernel_rfl) (fun _ _ _ h => h) (Or.inl ⟨by rfl, ?hRB_14⟩) ?rRB_14
  case hRB_14 => (intro wz; go_simp; try with_reducible rfl)
  simp only [Act.put, List.setIfInBounds_toArray, List.set_cons_zero, List.set_cons_succ]
  refine wpAny_ready (rs := [12]) (by kernel_rfl) (by simp) ?_
  refine AllReady.cons (o := { dst := some 77, op := Go.Op.call { callee := Go.Callee.value (Go.Operand.func 17), args := #[Go.Operand.tmp 76], argTypes := #[23] }, type := 3, pos := "law.go:142", after := #[{ on := 11, ground := Go.Ground.data }, { on := 10, ground := Go.Ground.chain }, { on := 10, ground := Go.Ground.guard }], guard := some (10, true) }) rfl (fun K hK => ?_) AllReady.nil
  go_simp
  refine (len_at _ p bb (1 + n) t2 (k1 + (1 + n - k1 : Int)) hr7d (by rw [HL2.out]; omega)).mono ?_
  rintro e w8 ⟨rfl, rfl⟩
  refine hK _ _ ?_
  clear hK K
  try simp only [Act.put, List.setIfInBounds_toArray, List.set_cons_zero, List.set_cons_succ]
  refine wpAny_take (i := 16) (oi := { dst := some 81, op := Go.Op.binOp Go.BinOp.eql 3 (Go.Operand.tmp 77) (Go.Operand.tmp 80) 3, type := 4, pos := "law.go:142", after := #[{ on := 12, ground := Go.Ground.data }, { on := 15, ground := Go.Ground.data }, { on := 10, ground := Go.Ground.guard }], guard := some (10, true) }) (v := ?vRB_15) rfl (by kernel_rfl) (by kernel_rfl) (by kernel_rfl) (fun _ _ _ h => h) (Or.inl ⟨by rfl, ?hRB_15⟩) ?rRB_15
  case hRB_15 => (intro wz; go_simp; try with_reducible rfl)
  simp only [Act.put, List.setIfInBounds_toArray, List.set_cons_zero, List.set_cons_succ]
  refine wpAny_take (i := 17) (oi := { dst := some 82, op := Go.Op.pick (Go.Operand.tmp 75) (Go.Operand.tmp 81) (Go.Operand.const (Go.Value.bool false)), type := 4, pos := "law.go:142", after := #[{ on := 10, ground := Go.Ground.data }, { on := 16, ground := Go.Ground.data }], guard := none }) (v := ?vRB_16) rfl (by kernel_rfl) (by kernel_rfl) (by kernel_rfl) (fun _ _ _ h => h) (Or.inl ⟨by rfl, ?hRB_16⟩) ?rRB_16
  case hRB_16 => (intro wz; go_simp; try with_reducible rfl)
  simp only [Act.put, List.setIfInBounds_toArray, List.set_cons_zero, List.set_cons_succ]
  refine wpAny_take (i := 18) (oi := { dst := some 83, op := Go.Op.move (Go.Operand.tmp 82), type := 4, pos := "law.go:142", after := #[{ on := 17, ground := Go.Ground.data }, { on := 12, ground := Go.Ground.chain }], guard := none }) (v := ?vRB_17) rfl (by kernel_rfl) (by kernel_rfl) (by kernel_rfl) (fun _ _ _ h => h) (Or.inl ⟨by rfl, ?hRB_17⟩) ?rRB_17
  case hRB_17 => (intro wz; go_simp; try with_reducible rfl)
  simp only [Act.put, List.setIfInBounds_toArray, List.set_cons_zero, List.set_cons_succ]
  refine wpAny_take (i := 19) (oi := { dst := some 84, op := Go.Op.move (Go.Operand.tmp 7), type := 23, pos := "law.go:142", after := #[{ on := 18, ground := Go.Ground.guard }], guard := some (18, true) }) (v := ?vRB_18) rfl (by kernel_rfl) (by kernel_rfl) (by kernel_rfl) (fun _ _ _ h => h) (Or.inl ⟨by rfl, ?hRB_18⟩) ?rRB_18
  case hRB_18 => (intro wz; go_simp; try with_reducible rfl)
  simp only [Act.put, List.setIfInBounds_toArray, List.set_cons_zero, List.set_cons_succ]
  refine wpAny_take (i := 22) (oi := { dst := some 87, op := Go.Op.move (Go.Operand.tmp 1), type := 9, pos := "law.go:142", after := #[{ on := 18, ground := Go.Ground.guard }], guard := some (18, true) }) (v := ?vRB_19) rfl (by kernel_rfl) (by kernel_rfl) (by kernel_rfl) (fun _ _ _ h => h) (Or.inl ⟨by rfl, ?hRB_19⟩) ?rRB_19
  case hRB_19 => (intro wz; go_simp; try with_reducible rfl)
  simp only [Act.put, List.setIfInBounds_toArray, List.set_cons_zero, List.set_cons_succ]
  refine wpAny_take (i := 23) (oi := { dst := some 88, op := Go.Op.move (Go.Operand.tmp 9), type := 3, pos := "law.go:142", after := #[{ on := 18, ground := Go.Ground.guard }], guard := some (18, true) }) (v := ?vRB_20) rfl (by kernel_rfl) (by kernel_rfl) (by kernel_rfl) (fun _ _ _ h => h) (Or.inl ⟨by rfl, ?hRB_20⟩) ?rRB_20
  case hRB_20 => (intro wz; go_simp; try with_reducible rfl)
  simp only [Act.put, List.setIfInBounds_toArray, List.set_cons_zero, List.set_cons_succ]
  refine wpAny_take (i := 24) (oi := { dst := some 89, op := Go.Op.slice 9 (Go.Operand.tmp 87) none (some (Go.Operand.tmp 88)) none, type := 9, pos := "law.go:142", after := #[{ on := 22, ground := Go.Ground.data }, { on := 23, ground := Go.Ground.data }, { on := 18, ground := Go.Ground.guard }], guard := some (18, true) }) (v := ?vRB_21) rfl (by kernel_rfl) (by kernel_rfl) (by kernel_rfl) (fun _ _ _ h => h) (Or.inl ⟨by rfl, ?hRB_21⟩) ?rRB_21
  case hRB_21 => (intro wz; go_simp; try with_reducible rfl)
  simp only [Act.put, List.setIfInBounds_toArray, List.set_cons_zero, List.set_cons_succ]
  refine wpAny_take (i := 25) (oi := { dst := some 90, op := Go.Op.move (Go.Operand.tmp 2), type := 9, pos := "law.go:142", after := #[{ on := 18, ground := Go.Ground.guard }], guard := some (18, true) }) (v := ?vRB_22) rfl (by kernel_rfl) (by kernel_rfl) (by kernel_rfl) (fun _ _ _ h => h) (Or.inl ⟨by rfl, ?hRB_22⟩) ?rRB_22
  case hRB_22 => (intro wz; go_simp; try with_reducible rfl)
  simp only [Act.put, List.setIfInBounds_toArray, List.set_cons_zero, List.set_cons_succ]
  refine wpAny_take (i := 26) (oi := { dst := some 91, op := Go.Op.move (Go.Operand.tmp 10), type := 3, pos := "law.go:142", after := #[{ on := 18, ground := Go.Ground.guard }], guard := some (18, true) }) (v := ?vRB_23) rfl (by kernel_rfl) (by kernel_rfl) (by kernel_rfl) (fun _ _ _ h => h) (Or.inl ⟨by rfl, ?hRB_23⟩) ?rRB_23
  case hRB_23 => (intro wz; go_simp; try with_reducible rfl)
  simp only [Act.put, List.setIfInBounds_toArray, List.set_cons_zero, List.set_cons_succ]
  refine wpAny_take (i := 27) (oi := { dst := some 92, op := Go.Op.slice 9 (Go.Operand.tmp 90) none (some (Go.Operand.tmp 91)) none, type := 9, pos := "law.go:142", after := #[{ on := 25, ground := Go.Ground.data }, { on := 26, ground := Go.Ground.data }, { on := 18, ground := Go.Ground.guard }], guard := some (18, true) }) (v := ?vRB_24) rfl (by kernel_rfl) (by kernel_rfl) (by kernel_rfl) (fun _ _ _ h => h) (Or.inl ⟨by rfl, ?hRB_24⟩) ?rRB_24
  case hRB_24 => (intro wz; go_simp; try with_reducible rfl)
  simp only [Act.put, List.setIfInBounds_toArray, List.set_cons_zero, List.set_cons_succ]
  refine wpAny_take (i := 28) (oi := { dst := some 93, op := Go.Op.binOp Go.BinOp.add 9 (Go.Operand.tmp 89) (Go.Operand.tmp 92) 9, type := 9, pos := "law.go:142", after := #[{ on := 24, ground := Go.Ground.data }, { on := 27, ground := Go.Ground.data }, { on := 18, ground := Go.Ground.guard }], guard := some (18, true) }) (v := ?vRB_25) rfl (by kernel_rfl) (by kernel_rfl) (by kernel_rfl) (fun _ _ _ h => h) (Or.inl ⟨by rfl, ?hRB_25⟩) ?rRB_25
  case hRB_25 => (intro wz; go_simp; try with_reducible rfl)
  simp only [Act.put, List.setIfInBounds_toArray, List.set_cons_zero, List.set_cons_succ]
  refine wpAny_ready (rs := [20]) (by kernel_rfl) (by simp) ?_
  refine AllReady.cons (o := { dst := some 85, op := Go.Op.call { callee := Go.Callee.value (Go.Operand.func 16), args := #[Go.Operand.tmp 84, Go.Operand.const (Go.Value.int Go.IntKind.i64 1000)], argTypes := #[23, 3] }, type := 33, pos := "law.go:142", after := #[{ on := 19, ground := Go.Ground.data }, { on := 18, ground := Go.Ground.chain }, { on := 18, ground := Go.Ground.guard }], guard := some (18, true) }) rfl (fun K hK => ?_) AllReady.nil
  go_simp
  refine (take_at _ p bb (1 + n) (k1 + (1 + n - k1)) t2 t2 [] 1000 hr7d (by rw [HL2.out]; omega) (by rw [← HL2.out, List.take_length]) (by rw [← HL2.out, List.drop_length])).mono ?_
  rintro e w9 ⟨rfl, hs9, hr9, hk9⟩
  refine hK _ _ ?_
  clear hK K
  try simp only [Act.put, List.setIfInBounds_toArray, List.set_cons_zero, List.set_cons_succ]
  refine wpAny_ready (rs := [21]) (by kernel_rfl) (by simp) ?_
  refine AllReady.cons (o := { dst := some 86, op := Go.Op.convert 33 9 (Go.Operand.tmp 85), type := 9, pos := "law.go:142", after := #[{ on := 20, ground := Go.Ground.data }, { on := 18, ground := Go.Ground.guard }], guard := some (18, true) }) rfl (fun K hK => ?_) AllReady.nil
  refine step_string (by rfl) (.tmp 85) 33 9 rfl 5 Try.underlying33 Try.underlying5 Try.underlying9 _ _ _ _ (a.extract 0 k1 ++ b.extract 0 (1 + n - k1)) rfl hs9 HQ2.out ?_
  refine hK _ _ ?_
  clear hK K
  try simp only [Act.put, List.setIfInBounds_toArray, List.set_cons_zero, List.set_cons_succ]
  refine wpAny_take (i := 29) (oi := { dst := some 94, op := Go.Op.binOp Go.BinOp.eql 9 (Go.Operand.tmp 86) (Go.Operand.tmp 93) 9, type := 4, pos := "law.go:142", after := #[{ on := 21, ground := Go.Ground.data }, { on := 28, ground := Go.Ground.data }, { on := 18, ground := Go.Ground.guard }], guard := some (18, true) }) (v := ?vRB_26) rfl (by kernel_rfl) (by kernel_rfl) (by kernel_rfl) (fun _ _ _ h => h) (Or.inl ⟨by rfl, ?hRB_26⟩) ?rRB_26
  case hRB_26 => (intro wz; go_simp; try with_reducible rfl)
  simp only [Act.put, List.setIfInBounds_toArray, List.set_cons_zero, List.set_cons_succ]
  refine wpAny_take (i := 30) (oi := { dst := some 95, op := Go.Op.pick (Go.Operand.tmp 83) (Go.Operand.tmp 94) (Go.Operand.const (Go.Value.bool false)), type := 4, pos := "law.go:142", after := #[{ on := 18, ground := Go.Ground.data }, { on := 29, ground := Go.Ground.data }], guard := none }) (v := ?vRB_27) rfl (by kernel_rfl) (by kernel_rfl) (by kernel_rfl) (fun _ _ _ h => h) (Or.inl ⟨by rfl, ?hRB_27⟩) ?rRB_27
  case hRB_27 => (intro wz; go_simp; try with_reducible rfl)
  simp only [Act.put, List.setIfInBounds_toArray, List.set_cons_zero, List.set_cons_succ]
  refine wpAny_take (i := 31) (oi := { dst := some 96, op := Go.Op.move (Go.Operand.tmp 95), type := 4, pos := "law.go:142", after := #[{ on := 30, ground := Go.Ground.data }, { on := 20, ground := Go.Ground.chain }], guard := none }) (v := ?vRB_28) rfl (by kernel_rfl) (by kernel_rfl) (by kernel_rfl) (fun _ _ _ h => h) (Or.inl ⟨by rfl, ?hRB_28⟩) ?rRB_28
  case hRB_28 => (intro wz; go_simp; try with_reducible rfl)
  simp only [Act.put, List.setIfInBounds_toArray, List.set_cons_zero, List.set_cons_succ]
  refine wpAny_take (i := 32) (oi := { dst := some 97, op := Go.Op.move (Go.Operand.tmp 7), type := 23, pos := "law.go:142", after := #[{ on := 31, ground := Go.Ground.guard }], guard := some (31, true) }) (v := ?vRB_29) rfl (by kernel_rfl) (by kernel_rfl) (by kernel_rfl) (fun _ _ _ h => h) (Or.inl ⟨by rfl, ?hRB_29⟩) ?rRB_29
  case hRB_29 => (intro wz; go_simp; try with_reducible rfl)
  simp only [Act.put, List.setIfInBounds_toArray, List.set_cons_zero, List.set_cons_succ]
  refine wpAny_take (i := 34) (oi := { dst := some 99, op := Go.Op.move (Go.Operand.tmp 0), type := 5, pos := "law.go:142", after := #[{ on := 31, ground := Go.Ground.guard }], guard := some (31, true) }) (v := ?vRB_30) rfl (by kernel_rfl) (by kernel_rfl) (by kernel_rfl) (fun _ _ _ h => h) (Or.inl ⟨by rfl, ?hRB_30⟩) ?rRB_30
  case hRB_30 => (intro wz; go_simp; try with_reducible rfl)
  simp only [Act.put, List.setIfInBounds_toArray, List.set_cons_zero, List.set_cons_succ]
  refine wpAny_take (i := 35) (oi := { dst := some 100, op := Go.Op.convert 5 3 (Go.Operand.tmp 99), type := 3, pos := "law.go:142", after := #[{ on := 34, ground := Go.Ground.data }, { on := 31, ground := Go.Ground.guard }], guard := some (31, true) }) (v := ?vRB_31) rfl (by kernel_rfl) (by kernel_rfl) (by kernel_rfl) (fun _ _ _ h => h) (Or.inl ⟨by rfl, ?hRB_31⟩) ?rRB_31
  case hRB_31 => (intro wz; go_simp; try with_reducible rfl)
  simp only [Act.put, List.setIfInBounds_toArray, List.set_cons_zero, List.set_cons_succ]
  refine wpAny_take (i := 36) (oi := { dst := some 101, op := Go.Op.binOp Go.BinOp.add 3 (Go.Operand.const (Go.Value.int Go.IntKind.i64 1)) (Go.Operand.tmp 100) 3, type := 3, pos := "law.go:142", after := #[{ on := 35, ground := Go.Ground.data }, { on := 31, ground := Go.Ground.guard }], guard := some (31, true) }) (v := ?vRB_32) rfl (by kernel_rfl) (by kernel_rfl) (by kernel_rfl) (fun _ _ _ h => h) (Or.inl ⟨by rfl, ?hRB_32⟩) ?rRB_32
  case hRB_32 => (intro wz; go_simp; try with_reducible rfl)
  simp only [Act.put, List.setIfInBounds_toArray, List.set_cons_zero, List.set_cons_succ]
  refine wpAny_ready (rs := [33]) (by kernel_rfl) (by simp) ?_
  refine AllReady.cons (o := { dst := some 98, op := Go.Op.call { callee := Go.Callee.value (Go.Operand.func 18), args := #[Go.Operand.tmp 97], argTypes := #[23] }, type := 3, pos := "law.go:142", after := #[{ on := 32, ground := Go.Ground.data }, { on := 31, ground := Go.Ground.chain }, { on := 31, ground := Go.Ground.guard }], guard := some (31, true) }) rfl (fun K hK => ?_) AllReady.nil
  go_simp
  refine (room_at _ p bb (1 + n) _ (1 + n) hr9 (by simp)).mono ?_
  rintro e w10 ⟨rfl, nq10, rfl⟩
  refine hK _ _ ?_
  clear hK K
  try simp only [Act.put, List.setIfInBounds_toArray, List.set_cons_zero, List.set_cons_succ]
  refine wpAny_take (i := 37) (oi := { dst := some 102, op := Go.Op.binOp Go.BinOp.eql 3 (Go.Operand.tmp 98) (Go.Operand.tmp 101) 3, type := 4, pos := "law.go:142", after := #[{ on := 33, ground := Go.Ground.data }, { on := 36, ground := Go.Ground.data }, { on := 31, ground := Go.Ground.guard }], guard := some (31, true) }) (v := ?vRB_33) rfl (by kernel_rfl) (by kernel_rfl) (by kernel_rfl) (fun _ _ _ h => h) (Or.inl ⟨by rfl, ?hRB_33⟩) ?rRB_33
  case hRB_33 => (intro wz; go_simp; try with_reducible rfl)
  simp only [Act.put, List.setIfInBounds_toArray, List.set_cons_zero, List.set_cons_succ]
  refine wpAny_take (i := 38) (oi := { dst := some 103, op := Go.Op.pick (Go.Operand.tmp 96) (Go.Operand.tmp 102) (Go.Operand.const (Go.Value.bool false)), type := 4, pos := "law.go:142", after := #[{ on := 31, ground := Go.Ground.data }, { on := 37, ground := Go.Ground.data }], guard := none }) (v := ?vRB_34) rfl (by kernel_rfl) (by kernel_rfl) (by kernel_rfl) (fun _ _ _ h => h) (Or.inl ⟨by rfl, ?hRB_34⟩) ?rRB_34
  case hRB_34 => (intro wz; go_simp; try with_reducible rfl)
  simp only [Act.put, List.setIfInBounds_toArray, List.set_cons_zero, List.set_cons_succ]
  refine wpAny_take (i := 39) (oi := { dst := some 6, op := Go.Op.assign (Go.Operand.tmp 103), type := 4, pos := "law.go:142", after := #[{ on := 38, ground := Go.Ground.data }, { on := 33, ground := Go.Ground.chain }, { on := 0, ground := Go.Ground.phase }, { on := 1, ground := Go.Ground.phase }, { on := 2, ground := Go.Ground.phase }, { on := 3, ground := Go.Ground.phase }, { on := 4, ground := Go.Ground.phase }, { on := 5, ground := Go.Ground.phase }, { on := 6, ground := Go.Ground.phase }, { on := 7, ground := Go.Ground.phase }, { on := 8, ground := Go.Ground.phase }, { on := 9, ground := Go.Ground.phase }, { on := 10, ground := Go.Ground.phase }, { on := 11, ground := Go.Ground.phase }, { on := 12, ground := Go.Ground.phase }, { on := 13, ground := Go.Ground.phase }, { on := 14, ground := Go.Ground.phase }, { on := 15, ground := Go.Ground.phase }, { on := 16, ground := Go.Ground.phase }, { on := 17, ground := Go.Ground.phase }, { on := 18, ground := Go.Ground.phase }, { on := 19, ground := Go.Ground.phase }, { on := 20, ground := Go.Ground.phase }, { on := 21, ground := Go.Ground.phase }, { on := 22, ground := Go.Ground.phase }, { on := 23, ground := Go.Ground.phase }, { on := 24, ground := Go.Ground.phase }, { on := 25, ground := Go.Ground.phase }, { on := 26, ground := Go.Ground.phase }, { on := 27, ground := Go.Ground.phase }, { on := 28, ground := Go.Ground.phase }, { on := 29, ground := Go.Ground.phase }, { on := 30, ground := Go.Ground.phase }, { on := 31, ground := Go.Ground.phase }, { on := 32, ground := Go.Ground.phase }, { on := 33, ground := Go.Ground.phase }, { on := 34, ground := Go.Ground.phase }, { on := 35, ground := Go.Ground.phase }, { on := 36, ground := Go.Ground.phase }, { on := 37, ground := Go.Ground.phase }, { on := 38, ground := Go.Ground.phase }], guard := none }) (v := ?vRB_35) rfl (by kernel_rfl) (by kernel_rfl) (by kernel_rfl) (fun _ _ _ h => h) (Or.inl ⟨by rfl, ?hRB_35⟩) ?rRB_35
  case hRB_35 => (intro wz; go_simp; try with_reducible rfl)
  simp only [Act.put, List.setIfInBounds_toArray, List.set_cons_zero, List.set_cons_succ]
  refine wpAny_done (by kernel_rfl) ?_ _
  go_wp2
  go_ret
  refine ⟨rfl, Keeps.below' ?_⟩
  · have hS : ∀ k, k < w.heap.size → ¬ (k = p ∨ k = bb) := by intro k hk; omega
    exact (((((((hk.trans hk2).trans hk3).on hk4 hS).drewN _).trans hk6).on hk7 hS).drew.on hk9 (fun k h e => hS k h (.inl e))).drewN _
end Go.Proofs.Ytmioglkibjmmfaa
