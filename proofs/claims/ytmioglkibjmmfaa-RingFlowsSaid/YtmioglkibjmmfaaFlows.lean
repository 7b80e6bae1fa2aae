/- The walk of RingFlows: whatever the input, the law returns true and leaves old memory alone. -/
import Derived.Test.YtmioglkibjmmfaaAwake
import Derived.LoopTactic
import Derived.RegionTactic
namespace Go.Proofs.Ytmioglkibjmmfaa
open Go.RowKit

/-- A slice of bytes that came in: its first n cells. -/
def Bytes (w : World) (A : Option Addr) (n : Nat) : Prop :=
  0 < n → ∃ g off, A = some ⟨g, off, none⟩ ∧ g < w.heap.size ∧ ∀ j, j < n → ∃ z : Int, w.cell? ⟨g, off + j, none⟩ = some (.int .u8 z) ∧ 0 ≤ z ∧ z ≤ 255

set_option maxHeartbeats 1000000 in
theorem ringFlows_far (n : Nat) (a : ByteArray) (A : Option Addr) (len cap : Nat) (w : World) (hn : n ≤ 255) (g1 : 500 < a.size) :
    Calls Try.prog 4 #[.int .u8 n, .string a, .slice A len cap] w fun e w' => e = .returned (.bool true) ∧ Below w.heap.size w w' := by
  go_enter Try.func4, Try.ntmps4
  go_wp2_with fail
  refine (new_at _ _ (1 + n) (by omega) (by omega) (by omega)).mono ?_
  rintro e w1 ⟨p, bb, rfl, hr, hk, h1, h2⟩
  go_wp2_with fail
  refine (awake_any _).mono ?_
  rintro e w2 ⟨rfl, hk2⟩
  go_wp2_with fail
  refine (awake_any _).mono ?_
  rintro e w3 ⟨rfl, hk3⟩
  go_wp2_with fail
  go_ret
  exact ⟨rfl, ((hk.trans hk2).trans hk3).below'⟩

/-- What a round does: bytes go in behind, bytes come out ahead. -/
theorem flow_step (a : ByteArray) (m k : Nat) (ob x : ByteArray) (s : List UInt8) (M n : Nat) (hm : m ≤ a.size) (hx : ob.data.toList ++ s = a.data.toList.take m)
    (hk : k = min (a.size - m) (M - s.length)) (hn : n ≤ (s ++ (a.data.toList.drop m).take (M - s.length)).length)
    (hq : x.data.toList = (s ++ (a.data.toList.drop m).take (M - s.length)).take n) :
    (ob ++ x).data.toList ++ (s ++ (a.data.toList.drop m).take (M - s.length)).drop n = a.data.toList.take (m + k) ∧ m + k ≤ a.size ∧
      (ob ++ x).size + ((s ++ (a.data.toList.drop m).take (M - s.length)).drop n).length = m + k := by
  have h1 : (ob ++ x).data.toList ++ (s ++ (a.data.toList.drop m).take (M - s.length)).drop n = a.data.toList.take (m + k) := by
    rw [data_append, hq, List.append_assoc, List.take_append_drop, ← List.append_assoc, hx, List.take_add, hk]
    congr 1
    rw [Nat.min_comm, show a.size - m = (a.data.toList.drop m).length by rw [List.length_drop, len_data], ← List.take_eq_take_min]
  refine ⟨h1, by omega, ?_⟩
  have := congrArg List.length h1
  rw [List.length_append, List.length_take, len_data, len_data] at this
  omega

set_option maxHeartbeats 2000000 in
set_option maxRecDepth 100000 in
theorem ringFlows_near (n : Nat) (a : ByteArray) (A : Option Addr) (len cap : Nat) (w : World) (hn : n ≤ 255) (ha : a.size ≤ 500) (hA : Bytes w A len) :
    Calls Try.prog 4 #[.int .u8 n, .string a, .slice A len cap] w fun e w' => e = .returned (.bool true) ∧ Below w.heap.size w w' := by
  obtain ⟨M, hM⟩ : ∃ M, M = 1 + n := ⟨_, rfl⟩
  have M1 : 1 ≤ M := by omega
  have M2 : M ≤ 256 := by omega
  have HM := Lib.hid hM
  clear hM
  go_enter Try.func4, Try.ntmps4
  go_wp2_with fail
  refine (new_at _ _ M (by have := HM.out; omega) (by omega) (by omega)).mono ?_
  rintro e w1 ⟨p, bb, rfl, hr, hk, h1, h2⟩
  go_wp2_with fail
  refine (awake_any _).mono ?_
  rintro e w2 ⟨rfl, hk2⟩
  have hr2 := hr.keeps hk2 id id
  have hS : ∀ k, k < w.heap.size → ¬ (k = p ∨ k = bb) := by intro k hk; omega
  have hb2 := (hk.trans hk2)
  go_wp2_with fail
  go_loopw [9, 10, 11] (fun x y i wr => ∃ (k m : Nat) (ob : ByteArray) (s : List UInt8), i = .int .i64 k ∧ k ≤ 200 ∧ x = .int .i64 m ∧ y = .string ob ∧ m ≤ a.size ∧ ob.data.toList ++ s = a.data.toList.take m ∧ RingAt wr p bb M s ∧ Still w wr) (fun _ _ i _ => 200 - (intOf i).toNat)
  case atStart => exact ⟨0, 0, ⟨#[]⟩, [], rfl, by omega, rfl, rfl, by omega, by simp, hr2, hb2⟩
  case round =>
    obtain ⟨k, m, ob, s, rfl, k200, rfl, rfl, hma, hx, hr3, hk3⟩ := hrel
    have HX := Lib.hid hx
    clear hx
    have q3 := hr3.lt
    have q3le := hr3.le
    by_cases hgo : k < len ∧ k < 200
    · obtain ⟨hlt, hlt2⟩ := hgo
      obtain ⟨g, off, rfl, hg, hcell⟩ := hA (by omega)
      obtain ⟨z, hz, z0, z255⟩ := hcell k hlt
      have hz3 : wr.cell? ⟨g, off + k, none⟩ = some (.int .u8 z) := hk3.cell hz id
      go_wp2_with (with_reducible refine wpList_bytes (o := ⟨some 50, _, _, _, _, _⟩) rfl _ _ _ rfl 5 Try.underlying9 Try.underlying33 Try.underlying5 (a.extract m a.size) rfl ?_; intro w4 c hk4 hz4 hc4 hs4 hf4)
      have e4 : (a.extract m a.size).size = a.size - m := by rw [ByteArray.size_extract]; omega
      have d4 : (a.extract m a.size).data.toList = a.data.toList.drop m := by rw [data_extract, List.take_of_length_le (by rw [len_data]; omega)]
      rw [d4, e4] at hs4
      rw [e4] at hc4
      clear e4 d4
      have hr4 := hr3.keeps hk4 id id
      obtain ⟨k2, hk2'⟩ : ∃ k2, k2 = min (a.size - m) (M - s.length) := ⟨_, rfl⟩
      obtain ⟨s2, hs2⟩ : ∃ s2, s2 = s ++ (a.data.toList.drop m).take (M - s.length) := ⟨_, rfl⟩
      obtain ⟨n2, hn2⟩ : ∃ n2, n2 = min z.toNat s2.length := ⟨_, rfl⟩
      obtain ⟨x, hxd⟩ : ∃ x : ByteArray, x = ⟨(s2.take n2).toArray⟩ := ⟨_, rfl⟩
      have HXD := Lib.hid (show x.data.toList = s2.take n2 by rw [hxd])
      have hstep := flow_step a m k2 ob x s M n2 hma HX.out hk2' (by rw [← hs2]; omega) (by rw [← hs2]; exact HXD.out)
      rw [← hs2] at hstep
      obtain ⟨st1, st2, st3⟩ := hstep
      have ST1 := Lib.hid st1
      have HK2 := Lib.hid hk2'
      have HS2 := Lib.hid hs2
      have HN2 := Lib.hid hn2
      rw [ByteArray.size_append] at st3
      have xs1 : ob.size + x.size + (s2.drop n2).length ≤ m + k2 := by omega
      have xs2 : m + k2 ≤ ob.size + x.size + (s2.drop n2).length := by omega
      obtain ⟨L3, hL3⟩ : ∃ L, L = (s2.drop n2).length := ⟨_, rfl⟩
      rw [← hL3] at xs1 xs2
      have HL3 := Lib.hid hL3
      clear st1 st3 hk2' hs2 hn2 hxd hL3
      refine (put_at _ p bb M s _ s2 _ _ _ k2 hr4 hs4 hc4 ?_ HK2.out HS2.out).mono ?_
      · intro ad h; cases h; simp; omega
      rintro e w5 ⟨rfl, hr5, hk5⟩
      have hz5 : w5.cell? ⟨g, off + k, none⟩ = some (.int .u8 z) := hk5.cell (hk4.cell hz3 id) (by show ¬ (g = p ∨ g = bb); omega)
      go_wp2_with fail
      refine (take_at _ p bb M n2 s2 _ _ z hr5 HN2.out rfl rfl).mono ?_
      rintro e w6 ⟨rfl, hs6, hr6, hk6⟩
      have cv : ∀ c, (convert 33 9 (.slice (some ⟨w5.heap.size, 0, none⟩) n2 c)).run Try.prog w6 = .ok (.string x) w6 := fun c => run_string_as (P := Try.prog) (cap := c) Try.underlying33 Try.underlying5 Try.underlying9 x hs6 HXD.out
      go_wp2_with fail
      refine (len_at _ p bb M _ L3 hr6 (by rw [HL3.out])).mono ?_
      rintro e w7 ⟨rfl, rfl⟩
      go_wp2_with fail
      go_roundw
      case rel => exact ⟨k + 1, m + k2, ob ++ x, s2.drop n2, by go_num, by omega, by go_num, rfl, st2, ST1.out, hr6, ((hk3.trans hk4).on hk5 hS).on hk6 (fun i h e => hS i h (.inl e))⟩
      case measure => simp [intOf]; omega
    · obtain ⟨xs, hxs⟩ : ∃ x : ByteArray, x = ⟨s.toArray⟩ := ⟨_, rfl⟩
      have HXS := Lib.hid (show xs.data.toList = s by rw [hxs])
      have heq : ob ++ xs = a.extract 0 m := by apply data_ext; rw [data_append, HXS.out, HX.out, data_extract, List.drop_zero]
      have hadd : ∀ w', (Op.stringOp .add ob xs).run Try.prog w' = .ok (.string (a.extract 0 m)) w' := fun w' => by
        rw [run_string_add_sum w' _ _ (by rw [← ByteArray.size_append, heq, ByteArray.size_extract]; omega), heq]
      have hmz : (m : Int) ≤ a.size := by omega
      have hr3d : RingAt wr.drew p bb M s := hr3
      clear hxs heq
      by_cases hlt : k < len
      · have h200 : ¬ k < 200 := by omega
        clear hgo
        go_wp2_with fail
        refine wp_region_any (by kernel_rfl) ?_
        change wpAny _ _ _ _ _ _ _ (World.drew _)
        refine wpAny_take (i := 0) (oi := { dst := some 70, op := Go.Op.move (Go.Operand.tmp 10), type := 9, pos := "law.go:74", after := #[], guard := none }) (v := ?vFA_1) rfl (by kernel_rfl) (by kernel_rfl) (by kernel_rfl) (fun _ _ _ h => h) (Or.inl ⟨by rfl, ?hFA_1⟩) ?rFA_1
        case hFA_1 => (intro wz; go_simp; try with_reducible rfl)
        simp only [Act.put, List.setIfInBounds_toArray, List.set_cons_zero, List.set_cons_succ]
        refine wpAny_take (i := 1) (oi := { dst := some 71, op := Go.Op.move (Go.Operand.tmp 7), type := 23, pos := "law.go:74", after := #[], guard := none }) (v := ?vFA_2) rfl (by kernel_rfl) (by kernel_rfl) (by kernel_rfl) (fun _ _ _ h => h) (Or.inl ⟨by rfl, ?hFA_2⟩) ?rFA_2
        case hFA_2 => (intro wz; go_simp; try with_reducible rfl)
        simp only [Act.put, List.setIfInBounds_toArray, List.set_cons_zero, List.set_cons_succ]
        refine wpAny_take (i := 5) (oi := { dst := some 75, op := Go.Op.move (Go.Operand.tmp 1), type := 9, pos := "law.go:74", after := #[], guard := none }) (v := ?vFA_3) rfl (by kernel_rfl) (by kernel_rfl) (by kernel_rfl) (fun _ _ _ h => h) (Or.inl ⟨by rfl, ?hFA_3⟩) ?rFA_3
        case hFA_3 => (intro wz; go_simp; try with_reducible rfl)
        simp only [Act.put, List.setIfInBounds_toArray, List.set_cons_zero, List.set_cons_succ]
        refine wpAny_take (i := 6) (oi := { dst := some 76, op := Go.Op.move (Go.Operand.tmp 9), type := 3, pos := "law.go:74", after := #[], guard := none }) (v := ?vFA_4) rfl (by kernel_rfl) (by kernel_rfl) (by kernel_rfl) (fun _ _ _ h => h) (Or.inl ⟨by rfl, ?hFA_4⟩) ?rFA_4
        case hFA_4 => (intro wz; go_simp; try with_reducible rfl)
        simp only [Act.put, List.setIfInBounds_toArray, List.set_cons_zero, List.set_cons_succ]
        refine wpAny_take (i := 7) (oi := { dst := some 77, op := Go.Op.slice 9 (Go.Operand.tmp 75) none (some (Go.Operand.tmp 76)) none, type := 9, pos := "law.go:74", after := #[{ on := 5, ground := Go.Ground.data }, { on := 6, ground := Go.Ground.data }], guard := none }) (v := ?vFA_5) rfl (by kernel_rfl) (by kernel_rfl) (by kernel_rfl) (fun _ _ _ h => h) (Or.inl ⟨by rfl, ?hFA_5⟩) ?rFA_5
        case hFA_5 => (intro wz; go_simp; try with_reducible rfl)
        simp only [Act.put, List.setIfInBounds_toArray, List.set_cons_zero, List.set_cons_succ]
        refine wpAny_ready (rs := [2]) (by kernel_rfl) (by simp) ?_
        refine AllReady.cons (o := { dst := some 72, op := Go.Op.call { callee := Go.Callee.value (Go.Operand.func 16), args := #[Go.Operand.tmp 71, Go.Operand.const (Go.Value.int Go.IntKind.i64 1000)], argTypes := #[23, 3] }, type := 33, pos := "law.go:74", after := #[{ on := 1, ground := Go.Ground.data }], guard := none }) rfl (fun K hK => ?_) AllReady.nil
        go_simp
        refine (take_at _ p bb M s.length s s [] 1000 hr3d (by rw [show (1000 : Int).toNat = 1000 from rfl]; omega) (by rw [List.take_length]) (by rw [List.drop_length])).mono ?_
        rintro e w5 ⟨rfl, hs5, hr5, hk5⟩
        refine hK _ _ ?_
        clear hK K
        try simp only [Act.put, List.setIfInBounds_toArray, List.set_cons_zero, List.set_cons_succ]
        refine wpAny_ready (rs := [3]) (by kernel_rfl) (by simp) ?_
        refine AllReady.cons (o := { dst := some 73, op := Go.Op.convert 33 9 (Go.Operand.tmp 72), type := 9, pos := "law.go:74", after := #[{ on := 2, ground := Go.Ground.data }], guard := none }) rfl (fun K hK => ?_) AllReady.nil
        refine step_string (by rfl) (.tmp 72) 33 9 rfl 5 Try.underlying33 Try.underlying5 Try.underlying9 _ _ _ _ xs rfl hs5 HXS.out ?_
        refine hK _ _ ?_
        clear hK K
        try simp only [Act.put, List.setIfInBounds_toArray, List.set_cons_zero, List.set_cons_succ]
        refine wpAny_take (i := 4) (oi := { dst := some 74, op := Go.Op.binOp Go.BinOp.add 9 (Go.Operand.tmp 70) (Go.Operand.tmp 73) 9, type := 9, pos := "law.go:74", after := #[{ on := 0, ground := Go.Ground.data }, { on := 3, ground := Go.Ground.data }], guard := none }) (v := ?vFA_6) rfl (by kernel_rfl) (by kernel_rfl) (by kernel_rfl) (fun _ _ _ h => h) (Or.inl ⟨by rfl, ?hFA_6⟩) ?rFA_6
        case hFA_6 => (intro wz; go_simp; try with_reducible rfl)
        simp only [Act.put, List.setIfInBounds_toArray, List.set_cons_zero, List.set_cons_succ]
        refine wpAny_take (i := 8) (oi := { dst := some 78, op := Go.Op.binOp Go.BinOp.eql 9 (Go.Operand.tmp 74) (Go.Operand.tmp 77) 9, type := 4, pos := "law.go:74", after := #[{ on := 4, ground := Go.Ground.data }, { on := 7, ground := Go.Ground.data }], guard := none }) (v := ?vFA_7) rfl (by kernel_rfl) (by kernel_rfl) (by kernel_rfl) (fun _ _ _ h => h) (Or.inl ⟨by rfl, ?hFA_7⟩) ?rFA_7
        case hFA_7 => (intro wz; go_simp; try with_reducible rfl)
        simp only [Act.put, List.setIfInBounds_toArray, List.set_cons_zero, List.set_cons_succ]
        refine wpAny_take (i := 9) (oi := { dst := some 79, op := Go.Op.move (Go.Operand.tmp 78), type := 4, pos := "law.go:74", after := #[{ on := 8, ground := Go.Ground.data }, { on := 2, ground := Go.Ground.chain }], guard := none }) (v := ?vFA_8) rfl (by kernel_rfl) (by kernel_rfl) (by kernel_rfl) (fun _ _ _ h => h) (Or.inl ⟨by rfl, ?hFA_8⟩) ?rFA_8
        case hFA_8 => (intro wz; go_simp; try with_reducible rfl)
        simp only [Act.put, List.setIfInBounds_toArray, List.set_cons_zero, List.set_cons_succ]
        refine wpAny_take (i := 10) (oi := { dst := some 80, op := Go.Op.move (Go.Operand.tmp 7), type := 23, pos := "law.go:74", after := #[{ on := 9, ground := Go.Ground.guard }], guard := some (9, true) }) (v := ?vFA_9) rfl (by kernel_rfl) (by kernel_rfl) (by kernel_rfl) (fun _ _ _ h => h) (Or.inl ⟨by rfl, ?hFA_9⟩) ?rFA_9
        case hFA_9 => (intro wz; go_simp; try with_reducible rfl)
        simp only [Act.put, List.setIfInBounds_toArray, List.set_cons_zero, List.set_cons_succ]
        refine wpAny_ready (rs := [11]) (by kernel_rfl) (by simp) ?_
        refine AllReady.cons (o := { dst := some 81, op := Go.Op.call { callee := Go.Callee.value (Go.Operand.func 17), args := #[Go.Operand.tmp 80], argTypes := #[23] }, type := 3, pos := "law.go:74", after := #[{ on := 10, ground := Go.Ground.data }, { on := 9, ground := Go.Ground.chain }, { on := 9, ground := Go.Ground.guard }], guard := some (9, true) }) rfl (fun K hK => ?_) AllReady.nil
        go_simp
        refine (len_at _ p bb M _ 0 hr5 (by simp)).mono ?_
        rintro e w6 ⟨rfl, rfl⟩
        refine hK _ _ ?_
        clear hK K
        try simp only [Act.put, List.setIfInBounds_toArray, List.set_cons_zero, List.set_cons_succ]
        refine wpAny_take (i := 12) (oi := { dst := some 82, op := Go.Op.binOp Go.BinOp.eql 3 (Go.Operand.tmp 81) (Go.Operand.const (Go.Value.int Go.IntKind.i64 0)) 3, type := 4, pos := "law.go:74", after := #[{ on := 11, ground := Go.Ground.data }, { on := 9, ground := Go.Ground.guard }], guard := some (9, true) }) (v := ?vFA_10) rfl (by kernel_rfl) (by kernel_rfl) (by kernel_rfl) (fun _ _ _ h => h) (Or.inl ⟨by rfl, ?hFA_10⟩) ?rFA_10
        case hFA_10 => (intro wz; go_simp; try with_reducible rfl)
        simp only [Act.put, List.setIfInBounds_toArray, List.set_cons_zero, List.set_cons_succ]
        refine wpAny_take (i := 13) (oi := { dst := some 83, op := Go.Op.pick (Go.Operand.tmp 79) (Go.Operand.tmp 82) (Go.Operand.const (Go.Value.bool false)), type := 4, pos := "law.go:74", after := #[{ on := 9, ground := Go.Ground.data }, { on := 12, ground := Go.Ground.data }], guard := none }) (v := ?vFA_11) rfl (by kernel_rfl) (by kernel_rfl) (by kernel_rfl) (fun _ _ _ h => h) (Or.inl ⟨by rfl, ?hFA_11⟩) ?rFA_11
        case hFA_11 => (intro wz; go_simp; try with_reducible rfl)
        simp only [Act.put, List.setIfInBounds_toArray, List.set_cons_zero, List.set_cons_succ]
        refine wpAny_take (i := 14) (oi := { dst := some 6, op := Go.Op.assign (Go.Operand.tmp 83), type := 4, pos := "law.go:74", after := #[{ on := 13, ground := Go.Ground.data }, { on := 11, ground := Go.Ground.chain }, { on := 0, ground := Go.Ground.phase }, { on := 1, ground := Go.Ground.phase }, { on := 2, ground := Go.Ground.phase }, { on := 3, ground := Go.Ground.phase }, { on := 4, ground := Go.Ground.phase }, { on := 5, ground := Go.Ground.phase }, { on := 6, ground := Go.Ground.phase }, { on := 7, ground := Go.Ground.phase }, { on := 8, ground := Go.Ground.phase }, { on := 9, ground := Go.Ground.phase }, { on := 10, ground := Go.Ground.phase }, { on := 11, ground := Go.Ground.phase }, { on := 12, ground := Go.Ground.phase }, { on := 13, ground := Go.Ground.phase }], guard := none }) (v := ?vFA_12) rfl (by kernel_rfl) (by kernel_rfl) (by kernel_rfl) (fun _ _ _ h => h) (Or.inl ⟨by rfl, ?hFA_12⟩) ?rFA_12
        case hFA_12 => (intro wz; go_simp; try with_reducible rfl)
        simp only [Act.put, List.setIfInBounds_toArray, List.set_cons_zero, List.set_cons_succ]
        refine wpAny_done (by kernel_rfl) ?_ _
        go_wp2
        go_ret
        exact ⟨rfl, ((hk3.drew.on hk5 (fun i h e => hS i h (.inl e)))).below'⟩
      · clear hgo
        go_wp2_with fail
        refine wp_region_any (by kernel_rfl) ?_
        change wpAny _ _ _ _ _ _ _ (World.drew _)
        refine wpAny_take (i := 0) (oi := { dst := some 70, op := Go.Op.move (Go.Operand.tmp 10), type := 9, pos := "law.go:74", after := #[], guard := none }) (v := ?vFB_1) rfl (by kernel_rfl) (by kernel_rfl) (by kernel_rfl) (fun _ _ _ h => h) (Or.inl ⟨by rfl, ?hFB_1⟩) ?rFB_1
        case hFB_1 => (intro wz; go_simp; try with_reducible rfl)
        simp only [Act.put, List.setIfInBounds_toArray, List.set_cons_zero, List.set_cons_succ]
        refine wpAny_take (i := 1) (oi := { dst := some 71, op := Go.Op.move (Go.Operand.tmp 7), type := 23, pos := "law.go:74", after := #[], guard := none }) (v := ?vFB_2) rfl (by kernel_rfl) (by kernel_rfl) (by kernel_rfl) (fun _ _ _ h => h) (Or.inl ⟨by rfl, ?hFB_2⟩) ?rFB_2
        case hFB_2 => (intro wz; go_simp; try with_reducible rfl)
        simp only [Act.put, List.setIfInBounds_toArray, List.set_cons_zero, List.set_cons_succ]
        refine wpAny_take (i := 5) (oi := { dst := some 75, op := Go.Op.move (Go.Operand.tmp 1), type := 9, pos := "law.go:74", after := #[], guard := none }) (v := ?vFB_3) rfl (by kernel_rfl) (by kernel_rfl) (by kernel_rfl) (fun _ _ _ h => h) (Or.inl ⟨by rfl, ?hFB_3⟩) ?rFB_3
        case hFB_3 => (intro wz; go_simp; try with_reducible rfl)
        simp only [Act.put, List.setIfInBounds_toArray, List.set_cons_zero, List.set_cons_succ]
        refine wpAny_take (i := 6) (oi := { dst := some 76, op := Go.Op.move (Go.Operand.tmp 9), type := 3, pos := "law.go:74", after := #[], guard := none }) (v := ?vFB_4) rfl (by kernel_rfl) (by kernel_rfl) (by kernel_rfl) (fun _ _ _ h => h) (Or.inl ⟨by rfl, ?hFB_4⟩) ?rFB_4
        case hFB_4 => (intro wz; go_simp; try with_reducible rfl)
        simp only [Act.put, List.setIfInBounds_toArray, List.set_cons_zero, List.set_cons_succ]
        refine wpAny_take (i := 7) (oi := { dst := some 77, op := Go.Op.slice 9 (Go.Operand.tmp 75) none (some (Go.Operand.tmp 76)) none, type := 9, pos := "law.go:74", after := #[{ on := 5, ground := Go.Ground.data }, { on := 6, ground := Go.Ground.data }], guard := none }) (v := ?vFB_5) rfl (by kernel_rfl) (by kernel_rfl) (by kernel_rfl) (fun _ _ _ h => h) (Or.inl ⟨by rfl, ?hFB_5⟩) ?rFB_5
        case hFB_5 => (intro wz; go_simp; try with_reducible rfl)
        simp only [Act.put, List.setIfInBounds_toArray, List.set_cons_zero, List.set_cons_succ]
        refine wpAny_ready (rs := [2]) (by kernel_rfl) (by simp) ?_
        refine AllReady.cons (o := { dst := some 72, op := Go.Op.call { callee := Go.Callee.value (Go.Operand.func 16), args := #[Go.Operand.tmp 71, Go.Operand.const (Go.Value.int Go.IntKind.i64 1000)], argTypes := #[23, 3] }, type := 33, pos := "law.go:74", after := #[{ on := 1, ground := Go.Ground.data }], guard := none }) rfl (fun K hK => ?_) AllReady.nil
        go_simp
        refine (take_at _ p bb M s.length s s [] 1000 hr3d (by rw [show (1000 : Int).toNat = 1000 from rfl]; omega) (by rw [List.take_length]) (by rw [List.drop_length])).mono ?_
        rintro e w5 ⟨rfl, hs5, hr5, hk5⟩
        refine hK _ _ ?_
        clear hK K
        try simp only [Act.put, List.setIfInBounds_toArray, List.set_cons_zero, List.set_cons_succ]
        refine wpAny_ready (rs := [3]) (by kernel_rfl) (by simp) ?_
        refine AllReady.cons (o := { dst := some 73, op := Go.Op.convert 33 9 (Go.Operand.tmp 72), type := 9, pos := "law.go:74", after := #[{ on := 2, ground := Go.Ground.data }], guard := none }) rfl (fun K hK => ?_) AllReady.nil
        refine step_string (by rfl) (.tmp 72) 33 9 rfl 5 Try.underlying33 Try.underlying5 Try.underlying9 _ _ _ _ xs rfl hs5 HXS.out ?_
        refine hK _ _ ?_
        clear hK K
        try simp only [Act.put, List.setIfInBounds_toArray, List.set_cons_zero, List.set_cons_succ]
        refine wpAny_take (i := 4) (oi := { dst := some 74, op := Go.Op.binOp Go.BinOp.add 9 (Go.Operand.tmp 70) (Go.Operand.tmp 73) 9, type := 9, pos := "law.go:74", after := #[{ on := 0, ground := Go.Ground.data }, { on := 3, ground := Go.Ground.data }], guard := none }) (v := ?vFB_6) rfl (by kernel_rfl) (by kernel_rfl) (by kernel_rfl) (fun _ _ _ h => h) (Or.inl ⟨by rfl, ?hFB_6⟩) ?rFB_6
        case hFB_6 => (intro wz; go_simp; try with_reducible rfl)
        simp only [Act.put, List.setIfInBounds_toArray, List.set_cons_zero, List.set_cons_succ]
        refine wpAny_take (i := 8) (oi := { dst := some 78, op := Go.Op.binOp Go.BinOp.eql 9 (Go.Operand.tmp 74) (Go.Operand.tmp 77) 9, type := 4, pos := "law.go:74", after := #[{ on := 4, ground := Go.Ground.data }, { on := 7, ground := Go.Ground.data }], guard := none }) (v := ?vFB_7) rfl (by kernel_rfl) (by kernel_rfl) (by kernel_rfl) (fun _ _ _ h => h) (Or.inl ⟨by rfl, ?hFB_7⟩) ?rFB_7
        case hFB_7 => (intro wz; go_simp; try with_reducible rfl)
        simp only [Act.put, List.setIfInBounds_toArray, List.set_cons_zero, List.set_cons_succ]
        refine wpAny_take (i := 9) (oi := { dst := some 79, op := Go.Op.move (Go.Operand.tmp 78), type := 4, pos := "law.go:74", after := #[{ on := 8, ground := Go.Ground.data }, { on := 2, ground := Go.Ground.chain }], guard := none }) (v := ?vFB_8) rfl (by kernel_rfl) (by kernel_rfl) (by kernel_rfl) (fun _ _ _ h => h) (Or.inl ⟨by rfl, ?hFB_8⟩) ?rFB_8
        case hFB_8 => (intro wz; go_simp; try with_reducible rfl)
        simp only [Act.put, List.setIfInBounds_toArray, List.set_cons_zero, List.set_cons_succ]
        refine wpAny_take (i := 10) (oi := { dst := some 80, op := Go.Op.move (Go.Operand.tmp 7), type := 23, pos := "law.go:74", after := #[{ on := 9, ground := Go.Ground.guard }], guard := some (9, true) }) (v := ?vFB_9) rfl (by kernel_rfl) (by kernel_rfl) (by kernel_rfl) (fun _ _ _ h => h) (Or.inl ⟨by rfl, ?hFB_9⟩) ?rFB_9
        case hFB_9 => (intro wz; go_simp; try with_reducible rfl)
        simp only [Act.put, List.setIfInBounds_toArray, List.set_cons_zero, List.set_cons_succ]
        refine wpAny_ready (rs := [11]) (by kernel_rfl) (by simp) ?_
        refine AllReady.cons (o := { dst := some 81, op := Go.Op.call { callee := Go.Callee.value (Go.Operand.func 17), args := #[Go.Operand.tmp 80], argTypes := #[23] }, type := 3, pos := "law.go:74", after := #[{ on := 10, ground := Go.Ground.data }, { on := 9, ground := Go.Ground.chain }, { on := 9, ground := Go.Ground.guard }], guard := some (9, true) }) rfl (fun K hK => ?_) AllReady.nil
        go_simp
        refine (len_at _ p bb M _ 0 hr5 (by simp)).mono ?_
        rintro e w6 ⟨rfl, rfl⟩
        refine hK _ _ ?_
        clear hK K
        try simp only [Act.put, List.setIfInBounds_toArray, List.set_cons_zero, List.set_cons_succ]
        refine wpAny_take (i := 12) (oi := { dst := some 82, op := Go.Op.binOp Go.BinOp.eql 3 (Go.Operand.tmp 81) (Go.Operand.const (Go.Value.int Go.IntKind.i64 0)) 3, type := 4, pos := "law.go:74", after := #[{ on := 11, ground := Go.Ground.data }, { on := 9, ground := Go.Ground.guard }], guard := some (9, true) }) (v := ?vFB_10) rfl (by kernel_rfl) (by kernel_rfl) (by kernel_rfl) (fun _ _ _ h => h) (Or.inl ⟨by rfl, ?hFB_10⟩) ?rFB_10
        case hFB_10 => (intro wz; go_simp; try with_reducible rfl)
        simp only [Act.put, List.setIfInBounds_toArray, List.set_cons_zero, List.set_cons_succ]
        refine wpAny_take (i := 13) (oi := { dst := some 83, op := Go.Op.pick (Go.Operand.tmp 79) (Go.Operand.tmp 82) (Go.Operand.const (Go.Value.bool false)), type := 4, pos := "law.go:74", after := #[{ on := 9, ground := Go.Ground.data }, { on := 12, ground := Go.Ground.data }], guard := none }) (v := ?vFB_11) rfl (by kernel_rfl) (by kernel_rfl) (by kernel_rfl) (fun _ _ _ h => h) (Or.inl ⟨by rfl, ?hFB_11⟩) ?rFB_11
        case hFB_11 => (intro wz; go_simp; try with_reducible rfl)
        simp only [Act.put, List.setIfInBounds_toArray, List.set_cons_zero, List.set_cons_succ]
        refine wpAny_take (i := 14) (oi := { dst := some 6, op := Go.Op.assign (Go.Operand.tmp 83), type := 4, pos := "law.go:74", after := #[{ on := 13, ground := Go.Ground.data }, { on := 11, ground := Go.Ground.chain }, { on := 0, ground := Go.Ground.phase }, { on := 1, ground := Go.Ground.phase }, { on := 2, ground := Go.Ground.phase }, { on := 3, ground := Go.Ground.phase }, { on := 4, ground := Go.Ground.phase }, { on := 5, ground := Go.Ground.phase }, { on := 6, ground := Go.Ground.phase }, { on := 7, ground := Go.Ground.phase }, { on := 8, ground := Go.Ground.phase }, { on := 9, ground := Go.Ground.phase }, { on := 10, ground := Go.Ground.phase }, { on := 11, ground := Go.Ground.phase }, { on := 12, ground := Go.Ground.phase }, { on := 13, ground := Go.Ground.phase }], guard := none }) (v := ?vFB_12) rfl (by kernel_rfl) (by kernel_rfl) (by kernel_rfl) (fun _ _ _ h => h) (Or.inl ⟨by rfl, ?hFB_12⟩) ?rFB_12
        case hFB_12 => (intro wz; go_simp; try with_reducible rfl)
        simp only [Act.put, List.setIfInBounds_toArray, List.set_cons_zero, List.set_cons_succ]
        refine wpAny_done (by kernel_rfl) ?_ _
        go_wp2
        go_ret
        exact ⟨rfl, ((hk3.drew.on hk5 (fun i h e => hS i h (.inl e)))).below'⟩
end Go.Proofs.Ytmioglkibjmmfaa
