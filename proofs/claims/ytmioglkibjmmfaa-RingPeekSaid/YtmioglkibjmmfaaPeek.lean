/- The walk of RingPeek: whatever the input, the law returns true and leaves old memory alone. -/
import Derived.Test.YtmioglkibjmmfaaAwake
import Derived.RegionTactic
namespace Go.Proofs.Ytmioglkibjmmfaa
open Go.RowKit

set_option maxHeartbeats 1000000 in
theorem ringPeek_far (n m : Nat) (a b : ByteArray) (w : World) (h : 500 < a.size ∨ 500 < b.size) :
    Calls Try.prog 8 #[.string a, .string b, .int .u8 n, .int .u8 m] w fun e w' => e = .returned (.bool true) ∧ Below w.heap.size w w' := by
  rcases (show 500 < a.size ∨ (¬ 500 < a.size ∧ 500 < b.size) by omega) with g1 | ⟨g1, g2⟩
  all_goals
    go_enter Try.func8, Try.ntmps8
    go_wp2_with fail
    refine (new_at _ _ 64 (by omega) (by omega) (by omega)).mono ?_
    rintro e w1 ⟨p, bb, rfl, hr, hk, h1, h2⟩
    go_wp2_with fail
    refine (awake_any _).mono ?_
    rintro e w2 ⟨rfl, hk2⟩
    go_wp2_with fail
    refine (awake_any _).mono ?_
    rintro e w3 ⟨rfl, hk3⟩
    go_wp2_with fail
    go_ret
    exact ⟨rfl, ((hk.trans hk2).trans hk3).below'⟩

set_option maxHeartbeats 2000000 in
theorem ringPeek_near (n m lo hi : Nat) (a b : ByteArray) (w : World) (hn : n ≤ 255) (hm : m ≤ 255) (ha : a.size ≤ 500) (hb : b.size ≤ 500) (hlo : lo = min n m) (hhi : hi = max n m) :
    Calls Try.prog 8 #[.string a, .string b, .int .u8 n, .int .u8 m] w fun e w' => e = .returned (.bool true) ∧ Below w.heap.size w w' := by
  obtain ⟨t1, ht1⟩ : ∃ t, t = a.data.toList.take 64 := ⟨_, rfl⟩
  obtain ⟨k1, hk1⟩ : ∃ k, k = min (n / 2) t1.length := ⟨_, rfl⟩
  obtain ⟨t2, ht2⟩ : ∃ t, t = (t1.drop k1) ++ b.data.toList.take (64 - (t1.drop k1).length) := ⟨_, rfl⟩
  obtain ⟨L, hL⟩ : ∃ L, L = t2.length := ⟨_, rfl⟩
  obtain ⟨c1, hc1⟩ : ∃ k, k = min lo L := ⟨_, rfl⟩
  obtain ⟨c2, hc2⟩ : ∃ k, k = min hi L := ⟨_, rfl⟩
  obtain ⟨x, hx⟩ : ∃ x : ByteArray, x = ⟨(t2.take c1).toArray⟩ := ⟨_, rfl⟩
  obtain ⟨y, hy⟩ : ∃ y : ByteArray, y = ⟨(t2.take c2).toArray⟩ := ⟨_, rfl⟩
  have cc : c1 ≤ c2 := by omega
  have xs : x.size = c1 := by rw [hx, size_mk, List.length_take]; omega
  have ys : y.size = c2 := by rw [hy, size_mk, List.length_take]; omega
  have HX := Lib.hid (show x.data.toList = t2.take c1 by rw [hx])
  have HY := Lib.hid (show y.data.toList = t2.take c2 by rw [hy])
  have HXY := Lib.hid (show y.extract 0 c1 = x by apply data_ext; rw [data_extract, HX.out, HY.out, List.drop_zero, List.take_take, Nat.min_eq_left cc])
  have HXS := Lib.hid xs
  have HYS := Lib.hid ys
  have HLO := Lib.hid (show (lo : Int) = min (n : Int) (m : Int) by omega)
  have HHI := Lib.hid (show (hi : Int) = max (n : Int) (m : Int) by omega)
  have l1 : lo ≤ 255 := by omega
  have l2 : hi ≤ 255 := by omega
  have c2L : c2 ≤ L := by omega
  have H1 := Lib.hid ht1
  have H2 := Lib.hid hk1
  have H3 := Lib.hid ht2
  have H4 := Lib.hid hL
  have H5 := Lib.hid hc1
  have H6 := Lib.hid hc2
  clear ht1 hk1 ht2 hL hc1 hc2 hx hy xs ys hlo hhi
  go_enter Try.func8, Try.ntmps8
  go_wp2_with fail
  refine (new_at _ _ 64 (by omega) (by omega) (by omega)).mono ?_
  rintro e w1 ⟨p, bb, rfl, hr, hk, h1, h2⟩
  go_wp2_with fail
  refine (awake_any _).mono ?_
  rintro e w2 ⟨rfl, hk2⟩
  have hr2 := hr.keeps hk2 id id
  have q2 := hr2.lt
  have s2 := hk2.size
  go_wp2_with (with_reducible refine wpList_bytes (o := ⟨some 41, _, _, _, _, _⟩) rfl _ _ _ rfl 5 Try.underlying9 Try.underlying33 Try.underlying5 a rfl ?_; intro w3 c hk3 hz3 hc3 hs3 hf3)
  have hr3 := hr2.keeps hk3 id id
  refine (put_at _ p bb 64 _ _ t1 _ _ _ _ hr3 hs3 hc3 ?_ rfl H1.out).mono ?_
  · intro ad h; cases h; simp; omega
  rintro e w4 ⟨rfl, hr4, hk4⟩
  go_wp2_with fail
  refine (take_at _ p bb 64 k1 t1 _ _ _ hr4 (by have := H2.out; omega) rfl rfl).mono ?_
  rintro e w5 ⟨rfl, hs5, hr5, hk5⟩
  have q5 := hr5.lt
  go_wp2_with (with_reducible refine wpList_bytes (o := ⟨some 50, _, _, _, _, _⟩) rfl _ _ _ rfl 5 Try.underlying9 Try.underlying33 Try.underlying5 b rfl ?_; intro w6 c6 hk6 hz6 hc6 hs6 hf6)
  have hr6 := hr5.keeps hk6 id id
  refine (put_at _ p bb 64 _ _ t2 _ _ _ _ hr6 hs6 hc6 ?_ rfl H3.out).mono ?_
  · intro ad h; cases h; simp; omega
  rintro e w7 ⟨rfl, hr7, hk7⟩
  have hr7d : RingAt w7.drew p bb 64 t2 := hr7
  go_wp2_with fail
  have e0 : IntKind.i64.wrap (lo : Int) = lo := IntWalk.i64_in _ (by omega)
  have e1 : IntKind.i64.wrap (hi : Int) = hi := IntWalk.i64_in _ (by omega)
  refine wp_region_any (by kernel_rfl) ?_
  change wpAny _ _ _ _ _ _ _ (World.drew _)
  refine wpAny_take (i := 0) (oi := { dst := some 52, op := Go.Op.move (Go.Operand.tmp 9), type := 23, pos := "law.go:154", after := #[], guard := none }) (v := ?vRP_1) rfl (by kernel_rfl) (by kernel_rfl) (by kernel_rfl) (fun _ _ _ h => h) (Or.inl ⟨by rfl, ?hRP_1⟩) ?rRP_1
  case hRP_1 => (intro wz; go_simp; try with_reducible rfl)
  simp only [Act.put, List.setIfInBounds_toArray, List.set_cons_zero, List.set_cons_succ]
  refine wpAny_take (i := 1) (oi := { dst := some 53, op := Go.Op.move (Go.Operand.tmp 2), type := 5, pos := "law.go:154", after := #[], guard := none }) (v := ?vRP_2) rfl (by kernel_rfl) (by kernel_rfl) (by kernel_rfl) (fun _ _ _ h => h) (Or.inl ⟨by rfl, ?hRP_2⟩) ?rRP_2
  case hRP_2 => (intro wz; go_simp; try with_reducible rfl)
  simp only [Act.put, List.setIfInBounds_toArray, List.set_cons_zero, List.set_cons_succ]
  refine wpAny_take (i := 2) (oi := { dst := some 54, op := Go.Op.move (Go.Operand.tmp 3), type := 5, pos := "law.go:154", after := #[], guard := none }) (v := ?vRP_3) rfl (by kernel_rfl) (by kernel_rfl) (by kernel_rfl) (fun _ _ _ h => h) (Or.inl ⟨by rfl, ?hRP_3⟩) ?rRP_3
  case hRP_3 => (intro wz; go_simp; try with_reducible rfl)
  simp only [Act.put, List.setIfInBounds_toArray, List.set_cons_zero, List.set_cons_succ]
  refine wpAny_take (i := 3) (oi := { dst := some 55, op := Go.Op.call { callee := Go.Callee.builtin Go.Builtin.min, args := #[Go.Operand.tmp 53, Go.Operand.tmp 54], argTypes := #[5, 5] }, type := 5, pos := "law.go:154", after := #[{ on := 1, ground := Go.Ground.data }, { on := 2, ground := Go.Ground.data }], guard := none }) (v := ?vRP_4) rfl (by kernel_rfl) (by kernel_rfl) (by kernel_rfl) (fun _ _ _ h => h) (Or.inl ⟨by rfl, ?hRP_4⟩) ?rRP_4
  case hRP_4 => (intro wz; refine exec_min (.tmp 53) (.tmp 54) 5 5 ?_ .u8 .u8 _ _ (lo : Int) ?_ ?_ HLO.out wz <;> rfl)
  simp only [Act.put, List.setIfInBounds_toArray, List.set_cons_zero, List.set_cons_succ]
  refine wpAny_take (i := 4) (oi := { dst := some 56, op := Go.Op.convert 5 3 (Go.Operand.tmp 55), type := 3, pos := "law.go:154", after := #[{ on := 3, ground := Go.Ground.data }], guard := none }) (v := ?vRP_5) rfl (by kernel_rfl) (by kernel_rfl) (by kernel_rfl) (fun _ _ _ h => h) (Or.inl ⟨by rfl, ?hRP_5⟩) ?rRP_5
  case hRP_5 => (intro wz; go_simp; try with_reducible rfl)
  simp only [Act.put, List.setIfInBounds_toArray, List.set_cons_zero, List.set_cons_succ]
  refine wpAny_take (i := 7) (oi := { dst := some 59, op := Go.Op.move (Go.Operand.tmp 9), type := 23, pos := "law.go:154", after := #[], guard := none }) (v := ?vRP_6) rfl (by kernel_rfl) (by kernel_rfl) (by kernel_rfl) (fun _ _ _ h => h) (Or.inl ⟨by rfl, ?hRP_6⟩) ?rRP_6
  case hRP_6 => (intro wz; go_simp; try with_reducible rfl)
  simp only [Act.put, List.setIfInBounds_toArray, List.set_cons_zero, List.set_cons_succ]
  refine wpAny_take (i := 8) (oi := { dst := some 60, op := Go.Op.move (Go.Operand.tmp 2), type := 5, pos := "law.go:154", after := #[], guard := none }) (v := ?vRP_7) rfl (by kernel_rfl) (by kernel_rfl) (by kernel_rfl) (fun _ _ _ h => h) (Or.inl ⟨by rfl, ?hRP_7⟩) ?rRP_7
  case hRP_7 => (intro wz; go_simp; try with_reducible rfl)
  simp only [Act.put, List.setIfInBounds_toArray, List.set_cons_zero, List.set_cons_succ]
  refine wpAny_take (i := 9) (oi := { dst := some 61, op := Go.Op.move (Go.Operand.tmp 3), type := 5, pos := "law.go:154", after := #[], guard := none }) (v := ?vRP_8) rfl (by kernel_rfl) (by kernel_rfl) (by kernel_rfl) (fun _ _ _ h => h) (Or.inl ⟨by rfl, ?hRP_8⟩) ?rRP_8
  case hRP_8 => (intro wz; go_simp; try with_reducible rfl)
  simp only [Act.put, List.setIfInBounds_toArray, List.set_cons_zero, List.set_cons_succ]
  refine wpAny_take (i := 10) (oi := { dst := some 62, op := Go.Op.call { callee := Go.Callee.builtin Go.Builtin.max, args := #[Go.Operand.tmp 60, Go.Operand.tmp 61], argTypes := #[5, 5] }, type := 5, pos := "law.go:154", after := #[{ on := 8, ground := Go.Ground.data }, { on := 9, ground := Go.Ground.data }], guard := none }) (v := ?vRP_9) rfl (by kernel_rfl) (by kernel_rfl) (by kernel_rfl) (fun _ _ _ h => h) (Or.inl ⟨by rfl, ?hRP_9⟩) ?rRP_9
  case hRP_9 => (intro wz; refine exec_max (.tmp 60) (.tmp 61) 5 5 ?_ .u8 .u8 _ _ (hi : Int) ?_ ?_ HHI.out wz <;> rfl)
  simp only [Act.put, List.setIfInBounds_toArray, List.set_cons_zero, List.set_cons_succ]
  refine wpAny_take (i := 11) (oi := { dst := some 63, op := Go.Op.convert 5 3 (Go.Operand.tmp 62), type := 3, pos := "law.go:154", after := #[{ on := 10, ground := Go.Ground.data }], guard := none }) (v := ?vRP_10) rfl (by kernel_rfl) (by kernel_rfl) (by kernel_rfl) (fun _ _ _ h => h) (Or.inl ⟨by rfl, ?hRP_10⟩) ?rRP_10
  case hRP_10 => (intro wz; go_simp; try with_reducible rfl)
  simp only [Act.put, List.setIfInBounds_toArray, List.set_cons_zero, List.set_cons_succ]
  refine wpAny_ready (rs := [5]) (by kernel_rfl) (by simp) ?_
  refine AllReady.cons (o := { dst := some 57, op := Go.Op.call { callee := Go.Callee.value (Go.Operand.func 13), args := #[Go.Operand.tmp 52, Go.Operand.tmp 56], argTypes := #[23, 3] }, type := 33, pos := "law.go:154", after := #[{ on := 0, ground := Go.Ground.data }, { on := 4, ground := Go.Ground.data }], guard := none }) rfl (fun K hK => ?_) AllReady.nil
  go_simp
  refine (peek_at _ p bb 64 c1 t2 _ hr7d (by have := H4.out; have := H5.out; omega)).mono ?_
  rintro e wA ⟨rfl, hoA⟩
  have hrA := hr7d.keeps hoA.2.2 id id
  have hsA := hoA.slice
  refine hK _ _ ?_
  clear hK K
  try simp only [Act.put, List.setIfInBounds_toArray, List.set_cons_zero, List.set_cons_succ]
  refine wpAny_ready (rs := [6, 12]) (by kernel_rfl) (by simp) ?_
  refine AllReady.cons (o := { dst := some 58, op := Go.Op.convert 33 9 (Go.Operand.tmp 57), type := 9, pos := "law.go:154", after := #[{ on := 5, ground := Go.Ground.data }], guard := none }) rfl (fun K hK => ?_) (AllReady.cons (o := { dst := some 64, op := Go.Op.call { callee := Go.Callee.value (Go.Operand.func 13), args := #[Go.Operand.tmp 59, Go.Operand.tmp 63], argTypes := #[23, 3] }, type := 33, pos := "law.go:154", after := #[{ on := 7, ground := Go.Ground.data }, { on := 11, ground := Go.Ground.data }, { on := 5, ground := Go.Ground.chain }], guard := none }) rfl (fun K hK => ?_) (AllReady.nil))
  · skip
    refine step_string (by rfl) (.tmp 57) 33 9 rfl 5 Try.underlying33 Try.underlying5 Try.underlying9 _ _ _ _ x rfl hsA HX.out ?_
    refine hK _ _ ?_
    clear hK K
    try simp only [Act.put, List.setIfInBounds_toArray, List.set_cons_zero, List.set_cons_succ]
    refine wpAny_ready (rs := [12]) (by kernel_rfl) (by simp) ?_
    refine AllReady.cons (o := { dst := some 64, op := Go.Op.call { callee := Go.Callee.value (Go.Operand.func 13), args := #[Go.Operand.tmp 59, Go.Operand.tmp 63], argTypes := #[23, 3] }, type := 33, pos := "law.go:154", after := #[{ on := 7, ground := Go.Ground.data }, { on := 11, ground := Go.Ground.data }, { on := 5, ground := Go.Ground.chain }], guard := none }) rfl (fun K hK => ?_) AllReady.nil
    go_simp
    refine (peek_at _ p bb 64 c2 t2 _ hrA (by have := H4.out; have := H6.out; omega)).mono ?_
    rintro e wB ⟨rfl, hoB⟩
    have hrB := hrA.keeps hoB.2.2 id id
    have hsB := hoB.slice
    have hsA := hsA.keeps hoB.2.2 (fun _ _ => id)
    refine hK _ _ ?_
    clear hK K
    try simp only [Act.put, List.setIfInBounds_toArray, List.set_cons_zero, List.set_cons_succ]
    refine wpAny_take (i := 14) (oi := { dst := some 11, op := Go.Op.assign (Go.Operand.tmp 58), type := 9, pos := "law.go:154", after := #[{ on := 6, ground := Go.Ground.data }, { on := 12, ground := Go.Ground.chain }, { on := 0, ground := Go.Ground.phase }, { on := 1, ground := Go.Ground.phase }, { on := 2, ground := Go.Ground.phase }, { on := 3, ground := Go.Ground.phase }, { on := 4, ground := Go.Ground.phase }, { on := 5, ground := Go.Ground.phase }, { on := 6, ground := Go.Ground.phase }, { on := 7, ground := Go.Ground.textOnly Go.Departure.lateStores }, { on := 8, ground := Go.Ground.textOnly Go.Departure.lateStores }, { on := 9, ground := Go.Ground.textOnly Go.Departure.lateStores }, { on := 10, ground := Go.Ground.textOnly Go.Departure.lateStoresUnsure }, { on := 11, ground := Go.Ground.textOnly Go.Departure.lateStores }, { on := 12, ground := Go.Ground.textOnly Go.Departure.lateStoresUnsure }, { on := 13, ground := Go.Ground.textOnly Go.Departure.lateStores }], guard := none }) (v := ?vRP_11) rfl (by kernel_rfl) (by kernel_rfl) (by kernel_rfl) (fun _ _ _ h => h) (Or.inl ⟨by rfl, ?hRP_11⟩) ?rRP_11
    case hRP_11 => (intro wz; go_simp; try with_reducible rfl)
    simp only [Act.put, List.setIfInBounds_toArray, List.set_cons_zero, List.set_cons_succ]
    refine wpAny_ready (rs := [13]) (by kernel_rfl) (by simp) ?_
    refine AllReady.cons (o := { dst := some 65, op := Go.Op.convert 33 9 (Go.Operand.tmp 64), type := 9, pos := "law.go:154", after := #[{ on := 12, ground := Go.Ground.data }, { on := 14, ground := Go.Ground.gcOnly Go.Departure.lateStores }], guard := none }) rfl (fun K hK => ?_) AllReady.nil
    refine step_string (by rfl) (.tmp 64) 33 9 rfl 5 Try.underlying33 Try.underlying5 Try.underlying9 _ _ _ _ y rfl hsB HY.out ?_
    refine hK _ _ ?_
    clear hK K
    try simp only [Act.put, List.setIfInBounds_toArray, List.set_cons_zero, List.set_cons_succ]
    refine wpAny_take (i := 15) (oi := { dst := some 12, op := Go.Op.assign (Go.Operand.tmp 65), type := 9, pos := "law.go:154", after := #[{ on := 13, ground := Go.Ground.data }, { on := 14, ground := Go.Ground.chain }, { on := 0, ground := Go.Ground.phase }, { on := 1, ground := Go.Ground.phase }, { on := 2, ground := Go.Ground.phase }, { on := 3, ground := Go.Ground.phase }, { on := 4, ground := Go.Ground.phase }, { on := 5, ground := Go.Ground.phase }, { on := 6, ground := Go.Ground.phase }, { on := 7, ground := Go.Ground.phase }, { on := 8, ground := Go.Ground.phase }, { on := 9, ground := Go.Ground.phase }, { on := 10, ground := Go.Ground.phase }, { on := 11, ground := Go.Ground.phase }, { on := 12, ground := Go.Ground.phase }, { on := 13, ground := Go.Ground.phase }, { on := 14, ground := Go.Ground.phase }], guard := none }) (v := ?vRP_12) rfl (by kernel_rfl) (by kernel_rfl) (by kernel_rfl) (fun _ _ _ h => h) (Or.inl ⟨by rfl, ?hRP_12⟩) ?rRP_12
    case hRP_12 => (intro wz; go_simp; try with_reducible rfl)
    simp only [Act.put, List.setIfInBounds_toArray, List.set_cons_zero, List.set_cons_succ]
    refine wpAny_done (by kernel_rfl) ?_ _
    have L64 : L ≤ 64 := by rw [H4.out]; exact hr7.le.1
    have yL : y.size ≤ L := by rw [HYS.out]; exact c2L
    have xy : x.size ≤ y.size := by rw [HXS.out, HYS.out]; exact cc
    have xy2 : ¬ y.size < x.size := Nat.not_lt.2 xy
    have hxy : y.extract 0 x.size = x := by rw [HXS.out]; exact HXY.out
    go_wp2_with fail
    refine (len_at _ p bb 64 t2 L hrB (by rw [H4.out])).mono ?_
    rintro e w8 ⟨rfl, rfl⟩
    go_wp2_with (with_reducible refine wpList_max (o := ⟨some 84, _, _, _, _, _⟩) rfl _ _ _ _ rfl _ _ _ _ (hi : Int) rfl rfl HHI.out ?_)
    refine (take_at _ p bb 64 c2 t2 _ _ _ hrB (by have := H4.out; have := H6.out; omega) rfl rfl).mono ?_
    rintro e w9 ⟨rfl, hs9, hr9, hk9⟩
    have cv : ∀ c, (convert 33 9 (.slice (some ⟨wB.heap.size, 0, none⟩) c2 c)).run Try.prog w9 = .ok (.string y) w9 := fun c => run_string_as (P := Try.prog) (cap := c) Try.underlying33 Try.underlying5 Try.underlying9 y hs9 HY.out
    go_wp2_with fail
    refine (len_at _ p bb 64 _ ((L : Int) - y.size) hr9 (by rw [List.length_drop, HYS.out, H4.out]; have := H4.out; omega)).mono ?_
    rintro e w10 ⟨rfl, rfl⟩
    go_wp2
    go_ret
    refine ⟨rfl, Keeps.below' ?_⟩
    have hS : ∀ k, k < w.heap.size → ¬ (k = p ∨ k = bb) := by intro k hk; omega
    exact ((((((((hk.trans hk2).trans hk3).on hk4 hS).on hk5 (fun i h e => hS i h (.inl e))).trans hk6).on hk7 hS).drew.trans hoA.2.2).trans hoB.2.2).on hk9 (fun i h e => hS i h (.inl e))
  · skip
    go_simp
    refine (peek_at _ p bb 64 c2 t2 _ hrA (by have := H4.out; have := H6.out; omega)).mono ?_
    rintro e wB ⟨rfl, hoB⟩
    have hrB := hrA.keeps hoB.2.2 id id
    have hsB := hoB.slice
    have hsA := hsA.keeps hoB.2.2 (fun _ _ => id)
    refine hK _ _ ?_
    clear hK K
    try simp only [Act.put, List.setIfInBounds_toArray, List.set_cons_zero, List.set_cons_succ]
    refine wpAny_ready (rs := [6, 13]) (by kernel_rfl) (by simp) ?_
    refine AllReady.cons (o := { dst := some 58, op := Go.Op.convert 33 9 (Go.Operand.tmp 57), type := 9, pos := "law.go:154", after := #[{ on := 5, ground := Go.Ground.data }], guard := none }) rfl (fun K hK => ?_) (AllReady.cons (o := { dst := some 65, op := Go.Op.convert 33 9 (Go.Operand.tmp 64), type := 9, pos := "law.go:154", after := #[{ on := 12, ground := Go.Ground.data }, { on := 14, ground := Go.Ground.gcOnly Go.Departure.lateStores }], guard := none }) rfl (fun K hK => ?_) (AllReady.nil))
    · skip
      refine step_string (by rfl) (.tmp 57) 33 9 rfl 5 Try.underlying33 Try.underlying5 Try.underlying9 _ _ _ _ x rfl hsA HX.out ?_
      refine hK _ _ ?_
      clear hK K
      try simp only [Act.put, List.setIfInBounds_toArray, List.set_cons_zero, List.set_cons_succ]
      refine wpAny_take (i := 14) (oi := { dst := some 11, op := Go.Op.assign (Go.Operand.tmp 58), type := 9, pos := "law.go:154", after := #[{ on := 6, ground := Go.Ground.data }, { on := 12, ground := Go.Ground.chain }, { on := 0, ground := Go.Ground.phase }, { on := 1, ground := Go.Ground.phase }, { on := 2, ground := Go.Ground.phase }, { on := 3, ground := Go.Ground.phase }, { on := 4, ground := Go.Ground.phase }, { on := 5, ground := Go.Ground.phase }, { on := 6, ground := Go.Ground.phase }, { on := 7, ground := Go.Ground.textOnly Go.Departure.lateStores }, { on := 8, ground := Go.Ground.textOnly Go.Departure.lateStores }, { on := 9, ground := Go.Ground.textOnly Go.Departure.lateStores }, { on := 10, ground := Go.Ground.textOnly Go.Departure.lateStoresUnsure }, { on := 11, ground := Go.Ground.textOnly Go.Departure.lateStores }, { on := 12, ground := Go.Ground.textOnly Go.Departure.lateStoresUnsure }, { on := 13, ground := Go.Ground.textOnly Go.Departure.lateStores }], guard := none }) (v := ?vRP_13) rfl (by kernel_rfl) (by kernel_rfl) (by kernel_rfl) (fun _ _ _ h => h) (Or.inl ⟨by rfl, ?hRP_13⟩) ?rRP_13
      case hRP_13 => (intro wz; go_simp; try with_reducible rfl)
      simp only [Act.put, List.setIfInBounds_toArray, List.set_cons_zero, List.set_cons_succ]
      refine wpAny_ready (rs := [13]) (by kernel_rfl) (by simp) ?_
      refine AllReady.cons (o := { dst := some 65, op := Go.Op.convert 33 9 (Go.Operand.tmp 64), type := 9, pos := "law.go:154", after := #[{ on := 12, ground := Go.Ground.data }, { on := 14, ground := Go.Ground.gcOnly Go.Departure.lateStores }], guard := none }) rfl (fun K hK => ?_) AllReady.nil
      refine step_string (by rfl) (.tmp 64) 33 9 rfl 5 Try.underlying33 Try.underlying5 Try.underlying9 _ _ _ _ y rfl hsB HY.out ?_
      refine hK _ _ ?_
      clear hK K
      try simp only [Act.put, List.setIfInBounds_toArray, List.set_cons_zero, List.set_cons_succ]
      refine wpAny_take (i := 15) (oi := { dst := some 12, op := Go.Op.assign (Go.Operand.tmp 65), type := 9, pos := "law.go:154", after := #[{ on := 13, ground := Go.Ground.data }, { on := 14, ground := Go.Ground.chain }, { on := 0, ground := Go.Ground.phase }, { on := 1, ground := Go.Ground.phase }, { on := 2, ground := Go.Ground.phase }, { on := 3, ground := Go.Ground.phase }, { on := 4, ground := Go.Ground.phase }, { on := 5, ground := Go.Ground.phase }, { on := 6, ground := Go.Ground.phase }, { on := 7, ground := Go.Ground.phase }, { on := 8, ground := Go.Ground.phase }, { on := 9, ground := Go.Ground.phase }, { on := 10, ground := Go.Ground.phase }, { on := 11, ground := Go.Ground.phase }, { on := 12, ground := Go.Ground.phase }, { on := 13, ground := Go.Ground.phase }, { on := 14, ground := Go.Ground.phase }], guard := none }) (v := ?vRP_14) rfl (by kernel_rfl) (by kernel_rfl) (by kernel_rfl) (fun _ _ _ h => h) (Or.inl ⟨by rfl, ?hRP_14⟩) ?rRP_14
      case hRP_14 => (intro wz; go_simp; try with_reducible rfl)
      simp only [Act.put, List.setIfInBounds_toArray, List.set_cons_zero, List.set_cons_succ]
      refine wpAny_done (by kernel_rfl) ?_ _
      have L64 : L ≤ 64 := by rw [H4.out]; exact hr7.le.1
      have yL : y.size ≤ L := by rw [HYS.out]; exact c2L
      have xy : x.size ≤ y.size := by rw [HXS.out, HYS.out]; exact cc
      have xy2 : ¬ y.size < x.size := Nat.not_lt.2 xy
      have hxy : y.extract 0 x.size = x := by rw [HXS.out]; exact HXY.out
      go_wp2_with fail
      refine (len_at _ p bb 64 t2 L hrB (by rw [H4.out])).mono ?_
      rintro e w8 ⟨rfl, rfl⟩
      go_wp2_with (with_reducible refine wpList_max (o := ⟨some 84, _, _, _, _, _⟩) rfl _ _ _ _ rfl _ _ _ _ (hi : Int) rfl rfl HHI.out ?_)
      refine (take_at _ p bb 64 c2 t2 _ _ _ hrB (by have := H4.out; have := H6.out; omega) rfl rfl).mono ?_
      rintro e w9 ⟨rfl, hs9, hr9, hk9⟩
      have cv : ∀ c, (convert 33 9 (.slice (some ⟨wB.heap.size, 0, none⟩) c2 c)).run Try.prog w9 = .ok (.string y) w9 := fun c => run_string_as (P := Try.prog) (cap := c) Try.underlying33 Try.underlying5 Try.underlying9 y hs9 HY.out
      go_wp2_with fail
      refine (len_at _ p bb 64 _ ((L : Int) - y.size) hr9 (by rw [List.length_drop, HYS.out, H4.out]; have := H4.out; omega)).mono ?_
      rintro e w10 ⟨rfl, rfl⟩
      go_wp2
      go_ret
      refine ⟨rfl, Keeps.below' ?_⟩
      have hS : ∀ k, k < w.heap.size → ¬ (k = p ∨ k = bb) := by intro k hk; omega
      exact ((((((((hk.trans hk2).trans hk3).on hk4 hS).on hk5 (fun i h e => hS i h (.inl e))).trans hk6).on hk7 hS).drew.trans hoA.2.2).trans hoB.2.2).on hk9 (fun i h e => hS i h (.inl e))
    · skip
      refine step_string (by rfl) (.tmp 64) 33 9 rfl 5 Try.underlying33 Try.underlying5 Try.underlying9 _ _ _ _ y rfl hsB HY.out ?_
      refine hK _ _ ?_
      clear hK K
      try simp only [Act.put, List.setIfInBounds_toArray, List.set_cons_zero, List.set_cons_succ]
      refine wpAny_ready (rs := [6]) (by kernel_rfl) (by simp) ?_
      refine AllReady.cons (o := { dst := some 58, op := Go.Op.convert 33 9 (Go.Operand.tmp 57), type := 9, pos := "law.go:154", after := #[{ on := 5, ground := Go.Ground.data }], guard := none }) rfl (fun K hK => ?_) AllReady.nil
      refine step_string (by rfl) (.tmp 57) 33 9 rfl 5 Try.underlying33 Try.underlying5 Try.underlying9 _ _ _ _ x rfl hsA HX.out ?_
      refine hK _ _ ?_
      clear hK K
      try simp only [Act.put, List.setIfInBounds_toArray, List.set_cons_zero, List.set_cons_succ]
      refine wpAny_take (i := 14) (oi := { dst := some 11, op := Go.Op.assign (Go.Operand.tmp 58), type := 9, pos := "law.go:154", after := #[{ on := 6, ground := Go.Ground.data }, { on := 12, ground := Go.Ground.chain }, { on := 0, ground := Go.Ground.phase }, { on := 1, ground := Go.Ground.phase }, { on := 2, ground := Go.Ground.phase }, { on := 3, ground := Go.Ground.phase }, { on := 4, ground := Go.Ground.phase }, { on := 5, ground := Go.Ground.phase }, { on := 6, ground := Go.Ground.phase }, { on := 7, ground := Go.Ground.textOnly Go.Departure.lateStores }, { on := 8, ground := Go.Ground.textOnly Go.Departure.lateStores }, { on := 9, ground := Go.Ground.textOnly Go.Departure.lateStores }, { on := 10, ground := Go.Ground.textOnly Go.Departure.lateStoresUnsure }, { on := 11, ground := Go.Ground.textOnly Go.Departure.lateStores }, { on := 12, ground := Go.Ground.textOnly Go.Departure.lateStoresUnsure }, { on := 13, ground := Go.Ground.textOnly Go.Departure.lateStores }], guard := none }) (v := ?vRP_15) rfl (by kernel_rfl) (by kernel_rfl) (by kernel_rfl) (fun _ _ _ h => h) (Or.inl ⟨by rfl, ?hRP_15⟩) ?rRP_15
      case hRP_15 => (intro wz; go_simp; try with_reducible rfl)
      simp only [Act.put, List.setIfInBounds_toArray, List.set_cons_zero, List.set_cons_succ]
      refine wpAny_take (i := 15) (oi := { dst := some 12, op := Go.Op.assign (Go.Operand.tmp 65), type := 9, pos := "law.go:154", after := #[{ on := 13, ground := Go.Ground.data }, { on := 14, ground := Go.Ground.chain }, { on := 0, ground := Go.Ground.phase }, { on := 1, ground := Go.Ground.phase }, { on := 2, ground := Go.Ground.phase }, { on := 3, ground := Go.Ground.phase }, { on := 4, ground := Go.Ground.phase }, { on := 5, ground := Go.Ground.phase }, { on := 6, ground := Go.Ground.phase }, { on := 7, ground := Go.Ground.phase }, { on := 8, ground := Go.Ground.phase }, { on := 9, ground := Go.Ground.phase }, { on := 10, ground := Go.Ground.phase }, { on := 11, ground := Go.Ground.phase }, { on := 12, ground := Go.Ground.phase }, { on := 13, ground := Go.Ground.phase }, { on := 14, ground := Go.Ground.phase }], guard := none }) (v := ?vRP_16) rfl (by kernel_rfl) (by kernel_rfl) (by kernel_rfl) (fun _ _ _ h => h) (Or.inl ⟨by rfl, ?hRP_16⟩) ?rRP_16
      case hRP_16 => (intro wz; go_simp; try with_reducible rfl)
      simp only [Act.put, List.setIfInBounds_toArray, List.set_cons_zero, List.set_cons_succ]
      refine wpAny_done (by kernel_rfl) ?_ _
      have L64 : L ≤ 64 := by rw [H4.out]; exact hr7.le.1
      have yL : y.size ≤ L := by rw [HYS.out]; exact c2L
      have xy : x.size ≤ y.size := by rw [HXS.out, HYS.out]; exact cc
      have xy2 : ¬ y.size < x.size := Nat.not_lt.2 xy
      have hxy : y.extract 0 x.size = x := by rw [HXS.out]; exact HXY.out
      go_wp2_with fail
      refine (len_at _ p bb 64 t2 L hrB (by rw [H4.out])).mono ?_
      rintro e w8 ⟨rfl, rfl⟩
      go_wp2_with (with_reducible refine wpList_max (o := ⟨some 84, _, _, _, _, _⟩) rfl _ _ _ _ rfl _ _ _ _ (hi : Int) rfl rfl HHI.out ?_)
      refine (take_at _ p bb 64 c2 t2 _ _ _ hrB (by have := H4.out; have := H6.out; omega) rfl rfl).mono ?_
      rintro e w9 ⟨rfl, hs9, hr9, hk9⟩
      have cv : ∀ c, (convert 33 9 (.slice (some ⟨wB.heap.size, 0, none⟩) c2 c)).run Try.prog w9 = .ok (.string y) w9 := fun c => run_string_as (P := Try.prog) (cap := c) Try.underlying33 Try.underlying5 Try.underlying9 y hs9 HY.out
      go_wp2_with fail
      refine (len_at _ p bb 64 _ ((L : Int) - y.size) hr9 (by rw [List.length_drop, HYS.out, H4.out]; have := H4.out; omega)).mono ?_
      rintro e w10 ⟨rfl, rfl⟩
      go_wp2
      go_ret
      refine ⟨rfl, Keeps.below' ?_⟩
      have hS : ∀ k, k < w.heap.size → ¬ (k = p ∨ k = bb) := by intro k hk; omega
      exact ((((((((hk.trans hk2).trans hk3).on hk4 hS).on hk5 (fun i h e => hS i h (.inl e))).trans hk6).on hk7 hS).drew.trans hoA.2.2).trans hoB.2.2).on hk9 (fun i h e => hS i h (.inl e))
end Go.Proofs.Ytmioglkibjmmfaa
