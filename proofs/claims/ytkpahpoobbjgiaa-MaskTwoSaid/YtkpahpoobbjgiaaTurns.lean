/- The walk of MaskTurns: whatever the input, the law returns true and leaves old memory alone. -/
import Derived.Test.YtkpahpoobbjgiaaAnchor
import Derived.RegionTactic
namespace Go.Proofs.Ytkpahpoobbjgiaa
open Go.RowKit

theorem ref_apply_at (w : World) (ks : List UInt8) (s t : ByteArray) (kv : Array Value) (z : Int) (p : Nat) (hkv : kv = (bts ks).toArray) (hks : ks.length = 4) (hn : s.size ≤ 1000) (hp : (p : Int) = z % 4) (hz : (Lit.int .i64 z).wf = true) (ht : t.data.toList = applyL ks p s.data.toList) :
    Calls Try.prog 12 #[.agg kv, .int .i64 z, .string s] w fun e w' => e = .returned (.string t) ∧ Still w w' := by
  have h := ref_apply w ks s kv z p hkv hks hn hp hz
  rw [← ht] at h
  exact h

set_option maxHeartbeats 1000000 in
theorem maskTurns_far (kv : Array Value) (z : Int) (a : ByteArray) (w : World) (h : 300 < a.size) :
    Calls Try.prog 3 #[.agg kv, .int .i64 z, .string a] w fun e w' => e = .returned (.bool true) ∧ Below w.heap.size w w' := by
  go_enter Try.func3, Try.ntmps3
  go_wp2_with fail
  refine (awake_any _).mono ?_
  rintro e w1 ⟨rfl, hk1⟩
  go_wp2_with fail
  refine (awake_any _).mono ?_
  rintro e w2 ⟨rfl, hk2⟩
  go_wp2_with fail
  go_ret
  exact ⟨rfl, ((((Keeps.refl _ w).alloc _).trans hk1).trans hk2).below'⟩

/-- A box that holds an array of four. -/
def Box4 (w : World) (g : Nat) (k0 k1 k2 k3 : UInt8) : Prop :=
  w.cell? ⟨g, 0, none⟩ = some (.int .u8 (k0.toNat : Int)) ∧ w.cell? ⟨g, 1, none⟩ = some (.int .u8 (k1.toNat : Int)) ∧ w.cell? ⟨g, 2, none⟩ = some (.int .u8 (k2.toNat : Int)) ∧ w.cell? ⟨g, 3, none⟩ = some (.int .u8 (k3.toNat : Int))
theorem Box4.keeps {w w' : World} {g : Nat} {k0 k1 k2 k3 : UInt8} (h : Box4 w g k0 k1 k2 k3) (hk : Still w w') : Box4 w' g k0 k1 k2 k3 :=
  ⟨hk.cell h.1 id, hk.cell h.2.1 id, hk.cell h.2.2.1 id, hk.cell h.2.2.2 id⟩
theorem Box4.new (w : World) (k0 k1 k2 k3 : UInt8) (t : TypeId) : Box4 (w.alloc (.cells (bts [k0, k1, k2, k3]).toArray t (0, 0))) w.heap.size k0 k1 k2 k3 := by
  refine ⟨?_, ?_, ?_, ?_⟩ <;> (rw [cell_of_row _ _ _ _ _ _ (heap_alloc_new w _)]; rfl)

set_option maxHeartbeats 4000000 in
theorem maskTurns_near (k0 k1 k2 k3 : UInt8) (z : Int) (a : ByteArray) (w : World) (h : a.size ≤ 300) (hz : (Lit.int .i64 z).wf = true) :
    Calls Try.prog 3 #[.agg (bts [k0, k1, k2, k3]).toArray, .int .i64 z, .string a] w fun e w' => e = .returned (.bool true) ∧ Below w.heap.size w w' := by
  obtain ⟨p, hp⟩ : ∃ p : Nat, (p : Int) = z % 4 := ⟨(z % 4).toNat, by omega⟩
  obtain ⟨m, hm⟩ : ∃ m, m = applyL [k0, k1, k2, k3] p a.data.toList := ⟨_, rfl⟩
  obtain ⟨t, ht⟩ : ∃ t : ByteArray, t = ⟨m.toArray⟩ := ⟨_, rfl⟩
  have HT := Lib.hid (show t.data.toList = m by rw [ht])
  have HM := Lib.hid hm
  have HB := Lib.hid (show a.data.toList = applyL [k0, k1, k2, k3] p m by rw [hm, applyL_back])
  have HP := Lib.hid hp
  have HZ := Lib.hid hz
  clear hm ht hp hz
  go_enter Try.func3, Try.ntmps3
  go_wp2_with fail
  refine (awake_any _).mono ?_
  rintro e w1 ⟨rfl, hk1⟩
  have hb1 := (Box4.new w k0 k1 k2 k3 22).keeps hk1
  replace hk1 : Still w w1 := ((Keeps.refl _ w).alloc _).trans hk1
  obtain ⟨x0, x1, x2, x3⟩ := hb1
  go_wp2_with (with_reducible refine wpList_bytes (o := ⟨some 19, _, _, _, _, _⟩) rfl _ _ _ rfl 5 Try.underlying9 Try.underlying24 Try.underlying5 a rfl ?_; intro w2 c hk2 hz2 hc2 hs2 hf2)
  refine (apply_at _ [k0, k1, k2, k3] a.data.toList m _ z p _ a.size c rfl rfl hs2 (by omega) HP.out HM.out).mono ?_
  rintro e w3 ⟨B, rfl, hs3, hk3⟩
  obtain ⟨y0, y1, y2, y3⟩ := (Box4.keeps ⟨x0, x1, x2, x3⟩ hk2).keeps hk3
  clear x0 x1 x2 x3
  have HSW := Lib.hid (show ∀ w', Still w3 w' → SliceOf w' B a.size m from fun w' hk => hs3.keeps hk (fun _ _ h => h))
  have hk4' : True := trivial
  go_wp2_with fail
  refine wp_region_any (by kernel_rfl) ?_
  change wpAny _ _ _ _ _ _ _ (World.drew _)
  refine wpAny_take (i := 0) (oi := { dst := some 21, op := Go.Op.move (Go.Operand.tmp 7), type := 24, pos := "law.go:24", after := #[], guard := none }) (v := ?vTA_1) rfl (by kernel_rfl) (by kernel_rfl) (by kernel_rfl) (fun _ _ _ h => h) (Or.inl ⟨by rfl, ?hTA_1⟩) ?rTA_1
  case hTA_1 => (intro wz; go_simp; try with_reducible rfl)
  simp only [Act.put, List.setIfInBounds_toArray, List.set_cons_zero, List.set_cons_succ]
  refine wpAny_take (i := 3) (oi := { dst := some 24, op := Go.Op.move (Go.Operand.tmp 1), type := 3, pos := "law.go:24", after := #[], guard := none }) (v := ?vTA_2) rfl (by kernel_rfl) (by kernel_rfl) (by kernel_rfl) (fun _ _ _ h => h) (Or.inl ⟨by rfl, ?hTA_2⟩) ?rTA_2
  case hTA_2 => (intro wz; go_simp; try with_reducible rfl)
  simp only [Act.put, List.setIfInBounds_toArray, List.set_cons_zero, List.set_cons_succ]
  refine wpAny_take (i := 4) (oi := { dst := some 25, op := Go.Op.move (Go.Operand.tmp 2), type := 9, pos := "law.go:24", after := #[], guard := none }) (v := ?vTA_3) rfl (by kernel_rfl) (by kernel_rfl) (by kernel_rfl) (fun _ _ _ h => h) (Or.inl ⟨by rfl, ?hTA_3⟩) ?rTA_3
  case hTA_3 => (intro wz; go_simp; try with_reducible rfl)
  simp only [Act.put, List.setIfInBounds_toArray, List.set_cons_zero, List.set_cons_succ]
  refine wpAny_ready (rs := [1, 2]) (by kernel_rfl) (by simp) ?_
  refine AllReady.cons (o := { dst := some 22, op := Go.Op.convert 24 9 (Go.Operand.tmp 21), type := 9, pos := "law.go:24", after := #[{ on := 0, ground := Go.Ground.data }], guard := none }) rfl (fun K hK => ?_) (AllReady.cons (o := { dst := some 23, op := Go.Op.load 22 (Go.Operand.tmp 3), type := 22, pos := "law.go:24", after := #[], guard := none }) rfl (fun K hK => ?_) (AllReady.nil))
  · skip
    refine step_string (by rfl) (.tmp 21) 24 9 rfl 5 Try.underlying24 Try.underlying5 Try.underlying9 _ _ _ m t rfl (HSW.out _ (by first | exact Keeps.refl _ _ | exact (Keeps.refl _ _).drew | exact (Keeps.refl _ _).drew.drew | exact (Keeps.refl _ _).drew.drew.drew | exact (Keeps.refl _ _).drewN _ | exact hk4' | exact hk4'.drew | exact hk4'.drew.drew | exact hk4'.drewN _)) HT.out ?_
    refine hK _ _ ?_
    clear hK K
    try simp only [Act.put, List.setIfInBounds_toArray, List.set_cons_zero, List.set_cons_succ]
    refine wpAny_ready (rs := [2]) (by kernel_rfl) (by simp) ?_
    refine AllReady.cons (o := { dst := some 23, op := Go.Op.load 22 (Go.Operand.tmp 3), type := 22, pos := "law.go:24", after := #[], guard := none }) rfl (fun K hK => ?_) AllReady.nil
    go_simp
    refine hK _ _ ?_
    clear hK K
    try simp only [Act.put, List.setIfInBounds_toArray, List.set_cons_zero, List.set_cons_succ]
    refine wpAny_ready (rs := [5]) (by kernel_rfl) (by simp) ?_
    refine AllReady.cons (o := { dst := some 26, op := Go.Op.call { callee := Go.Callee.value (Go.Operand.func 12), args := #[Go.Operand.tmp 23, Go.Operand.tmp 24, Go.Operand.tmp 25], argTypes := #[22, 3, 9] }, type := 9, pos := "law.go:24", after := #[{ on := 2, ground := Go.Ground.data }, { on := 3, ground := Go.Ground.data }, { on := 4, ground := Go.Ground.data }], guard := none }) rfl (fun K hK => ?_) AllReady.nil
    go_simp
    refine (ref_apply_at _ [k0, k1, k2, k3] a t _ z p rfl rfl (by omega) HP.out HZ.out (by rw [HT.out, HM.out])).mono ?_
    rintro e w4 ⟨rfl, hk4⟩
    replace hk4' : Still w3 w4 := by first | exact hk4.drew_of | exact hk4.drew_of.drew_of | exact hk4.drew_of.drew_of.drew_of | exact hk4.drewN_of
    obtain ⟨x0, x1, x2, x3⟩ := Box4.keeps ⟨y0, y1, y2, y3⟩ hk4'
    refine hK _ _ ?_
    clear hK K
    try simp only [Act.put, List.setIfInBounds_toArray, List.set_cons_zero, List.set_cons_succ]
    refine wpAny_take (i := 6) (oi := { dst := some 27, op := Go.Op.binOp Go.BinOp.eql 9 (Go.Operand.tmp 22) (Go.Operand.tmp 26) 9, type := 4, pos := "law.go:24", after := #[{ on := 1, ground := Go.Ground.data }, { on := 5, ground := Go.Ground.data }], guard := none }) (v := ?vTA_4) rfl (by kernel_rfl) (by kernel_rfl) (by kernel_rfl) (fun _ _ _ h => h) (Or.inl ⟨by rfl, ?hTA_4⟩) ?rTA_4
    case hTA_4 => (intro wz; go_simp; try with_reducible rfl)
    simp only [Act.put, List.setIfInBounds_toArray, List.set_cons_zero, List.set_cons_succ]
    refine wpAny_take (i := 7) (oi := { dst := some 28, op := Go.Op.move (Go.Operand.tmp 27), type := 4, pos := "law.go:24", after := #[{ on := 6, ground := Go.Ground.data }, { on := 5, ground := Go.Ground.chain }], guard := none }) (v := ?vTA_5) rfl (by kernel_rfl) (by kernel_rfl) (by kernel_rfl) (fun _ _ _ h => h) (Or.inl ⟨by rfl, ?hTA_5⟩) ?rTA_5
    case hTA_5 => (intro wz; go_simp; try with_reducible rfl)
    simp only [Act.put, List.setIfInBounds_toArray, List.set_cons_zero, List.set_cons_succ]
    refine wpAny_take (i := 9) (oi := { dst := some 30, op := Go.Op.move (Go.Operand.tmp 1), type := 3, pos := "law.go:24", after := #[{ on := 7, ground := Go.Ground.guard }], guard := some (7, true) }) (v := ?vTA_6) rfl (by kernel_rfl) (by kernel_rfl) (by kernel_rfl) (fun _ _ _ h => h) (Or.inl ⟨by rfl, ?hTA_6⟩) ?rTA_6
    case hTA_6 => (intro wz; go_simp; try with_reducible rfl)
    simp only [Act.put, List.setIfInBounds_toArray, List.set_cons_zero, List.set_cons_succ]
    refine wpAny_take (i := 10) (oi := { dst := some 31, op := Go.Op.move (Go.Operand.tmp 7), type := 24, pos := "law.go:24", after := #[{ on := 7, ground := Go.Ground.guard }], guard := some (7, true) }) (v := ?vTA_7) rfl (by kernel_rfl) (by kernel_rfl) (by kernel_rfl) (fun _ _ _ h => h) (Or.inl ⟨by rfl, ?hTA_7⟩) ?rTA_7
    case hTA_7 => (intro wz; go_simp; try with_reducible rfl)
    simp only [Act.put, List.setIfInBounds_toArray, List.set_cons_zero, List.set_cons_succ]
    refine wpAny_take (i := 13) (oi := { dst := some 34, op := Go.Op.move (Go.Operand.tmp 2), type := 9, pos := "law.go:24", after := #[{ on := 7, ground := Go.Ground.guard }], guard := some (7, true) }) (v := ?vTA_8) rfl (by kernel_rfl) (by kernel_rfl) (by kernel_rfl) (fun _ _ _ h => h) (Or.inl ⟨by rfl, ?hTA_8⟩) ?rTA_8
    case hTA_8 => (intro wz; go_simp; try with_reducible rfl)
    simp only [Act.put, List.setIfInBounds_toArray, List.set_cons_zero, List.set_cons_succ]
    refine wpAny_ready (rs := [8]) (by kernel_rfl) (by simp) ?_
    refine AllReady.cons (o := { dst := some 29, op := Go.Op.load 22 (Go.Operand.tmp 3), type := 22, pos := "law.go:24", after := #[{ on := 7, ground := Go.Ground.guard }], guard := some (7, true) }) rfl (fun K hK => ?_) AllReady.nil
    go_simp
    refine hK _ _ ?_
    clear hK K
    try simp only [Act.put, List.setIfInBounds_toArray, List.set_cons_zero, List.set_cons_succ]
    refine wpAny_ready (rs := [11]) (by kernel_rfl) (by simp) ?_
    refine AllReady.cons (o := { dst := some 32, op := Go.Op.call { callee := Go.Callee.value (Go.Operand.func 11), args := #[Go.Operand.tmp 29, Go.Operand.tmp 30, Go.Operand.tmp 31], argTypes := #[22, 3, 24] }, type := 24, pos := "law.go:24", after := #[{ on := 8, ground := Go.Ground.data }, { on := 9, ground := Go.Ground.data }, { on := 10, ground := Go.Ground.data }, { on := 7, ground := Go.Ground.chain }, { on := 7, ground := Go.Ground.guard }], guard := some (7, true) }) rfl (fun K hK => ?_) AllReady.nil
    go_simp
    refine (apply_at _ [k0, k1, k2, k3] m a.data.toList _ z p _ a.size _ rfl rfl (HSW.out _ (by first | exact Keeps.refl _ _ | exact (Keeps.refl _ _).drew | exact (Keeps.refl _ _).drew.drew | exact (Keeps.refl _ _).drew.drew.drew | exact (Keeps.refl _ _).drewN _ | exact hk4' | exact hk4'.drew | exact hk4'.drew.drew | exact hk4'.drewN _)) (by omega) HP.out HB.out).mono ?_
    rintro e w5 ⟨B5, rfl, hs5, hk5⟩
    have hk5' : Still w4 w5 := by first | exact hk5 | exact hk5.drew_of | exact hk5.drew_of.drew_of | exact hk5.drew_of.drew_of.drew_of | exact hk5.drewN_of
    refine hK _ _ ?_
    clear hK K
    try simp only [Act.put, List.setIfInBounds_toArray, List.set_cons_zero, List.set_cons_succ]
    refine wpAny_ready (rs := [12]) (by kernel_rfl) (by simp) ?_
    refine AllReady.cons (o := { dst := some 33, op := Go.Op.convert 24 9 (Go.Operand.tmp 32), type := 9, pos := "law.go:24", after := #[{ on := 11, ground := Go.Ground.data }, { on := 7, ground := Go.Ground.guard }], guard := some (7, true) }) rfl (fun K hK => ?_) AllReady.nil
    refine step_string (by rfl) (.tmp 32) 24 9 rfl 5 Try.underlying24 Try.underlying5 Try.underlying9 _ _ _ a.data.toList a rfl hs5 rfl ?_
    refine hK _ _ ?_
    clear hK K
    try simp only [Act.put, List.setIfInBounds_toArray, List.set_cons_zero, List.set_cons_succ]
    refine wpAny_take (i := 14) (oi := { dst := some 35, op := Go.Op.binOp Go.BinOp.eql 9 (Go.Operand.tmp 33) (Go.Operand.tmp 34) 9, type := 4, pos := "law.go:24", after := #[{ on := 12, ground := Go.Ground.data }, { on := 13, ground := Go.Ground.data }, { on := 7, ground := Go.Ground.guard }], guard := some (7, true) }) (v := ?vTA_9) rfl (by kernel_rfl) (by kernel_rfl) (by kernel_rfl) (fun _ _ _ h => h) (Or.inl ⟨by rfl, ?hTA_9⟩) ?rTA_9
    case hTA_9 => (intro wz; go_simp; try with_reducible rfl)
    simp only [Act.put, List.setIfInBounds_toArray, List.set_cons_zero, List.set_cons_succ]
    refine wpAny_take (i := 15) (oi := { dst := some 36, op := Go.Op.pick (Go.Operand.tmp 28) (Go.Operand.tmp 35) (Go.Operand.const (Go.Value.bool false)), type := 4, pos := "law.go:24", after := #[{ on := 7, ground := Go.Ground.data }, { on := 14, ground := Go.Ground.data }], guard := none }) (v := ?vTA_10) rfl (by kernel_rfl) (by kernel_rfl) (by kernel_rfl) (fun _ _ _ h => h) (Or.inl ⟨by rfl, ?hTA_10⟩) ?rTA_10
    case hTA_10 => (intro wz; go_simp; try with_reducible rfl)
    simp only [Act.put, List.setIfInBounds_toArray, List.set_cons_zero, List.set_cons_succ]
    refine wpAny_take (i := 16) (oi := { dst := some 6, op := Go.Op.assign (Go.Operand.tmp 36), type := 4, pos := "law.go:24", after := #[{ on := 15, ground := Go.Ground.data }, { on := 11, ground := Go.Ground.chain }, { on := 0, ground := Go.Ground.phase }, { on := 1, ground := Go.Ground.phase }, { on := 2, ground := Go.Ground.phase }, { on := 3, ground := Go.Ground.phase }, { on := 4, ground := Go.Ground.phase }, { on := 5, ground := Go.Ground.phase }, { on := 6, ground := Go.Ground.phase }, { on := 7, ground := Go.Ground.phase }, { on := 8, ground := Go.Ground.phase }, { on := 9, ground := Go.Ground.phase }, { on := 10, ground := Go.Ground.phase }, { on := 11, ground := Go.Ground.phase }, { on := 12, ground := Go.Ground.phase }, { on := 13, ground := Go.Ground.phase }, { on := 14, ground := Go.Ground.phase }, { on := 15, ground := Go.Ground.phase }], guard := none }) (v := ?vTA_11) rfl (by kernel_rfl) (by kernel_rfl) (by kernel_rfl) (fun _ _ _ h => h) (Or.inl ⟨by rfl, ?hTA_11⟩) ?rTA_11
    case hTA_11 => (intro wz; go_simp; try with_reducible rfl)
    simp only [Act.put, List.setIfInBounds_toArray, List.set_cons_zero, List.set_cons_succ]
    refine wpAny_done (by kernel_rfl) ?_ _
    go_wp2
    go_ret
    have hall := ((((hk1.trans hk2).trans hk3).trans hk4').trans hk5')
    first | exact ⟨rfl, hall.below'⟩ | exact ⟨rfl, hall.drew.below'⟩ | exact ⟨rfl, (hall.drewN _).below'⟩
  · skip
    go_simp
    refine hK _ _ ?_
    clear hK K
    try simp only [Act.put, List.setIfInBounds_toArray, List.set_cons_zero, List.set_cons_succ]
    refine wpAny_ready (rs := [1, 5]) (by kernel_rfl) (by simp) ?_
    refine AllReady.cons (o := { dst := some 22, op := Go.Op.convert 24 9 (Go.Operand.tmp 21), type := 9, pos := "law.go:24", after := #[{ on := 0, ground := Go.Ground.data }], guard := none }) rfl (fun K hK => ?_) (AllReady.cons (o := { dst := some 26, op := Go.Op.call { callee := Go.Callee.value (Go.Operand.func 12), args := #[Go.Operand.tmp 23, Go.Operand.tmp 24, Go.Operand.tmp 25], argTypes := #[22, 3, 9] }, type := 9, pos := "law.go:24", after := #[{ on := 2, ground := Go.Ground.data }, { on := 3, ground := Go.Ground.data }, { on := 4, ground := Go.Ground.data }], guard := none }) rfl (fun K hK => ?_) (AllReady.nil))
    · skip
      refine step_string (by rfl) (.tmp 21) 24 9 rfl 5 Try.underlying24 Try.underlying5 Try.underlying9 _ _ _ m t rfl (HSW.out _ (by first | exact Keeps.refl _ _ | exact (Keeps.refl _ _).drew | exact (Keeps.refl _ _).drew.drew | exact (Keeps.refl _ _).drew.drew.drew | exact (Keeps.refl _ _).drewN _ | exact hk4' | exact hk4'.drew | exact hk4'.drew.drew | exact hk4'.drewN _)) HT.out ?_
      refine hK _ _ ?_
      clear hK K
      try simp only [Act.put, List.setIfInBounds_toArray, List.set_cons_zero, List.set_cons_succ]
      refine wpAny_ready (rs := [5]) (by kernel_rfl) (by simp) ?_
      refine AllReady.cons (o := { dst := some 26, op := Go.Op.call { callee := Go.Callee.value (Go.Operand.func 12), args := #[Go.Operand.tmp 23, Go.Operand.tmp 24, Go.Operand.tmp 25], argTypes := #[22, 3, 9] }, type := 9, pos := "law.go:24", after := #[{ on := 2, ground := Go.Ground.data }, { on := 3, ground := Go.Ground.data }, { on := 4, ground := Go.Ground.data }], guard := none }) rfl (fun K hK => ?_) AllReady.nil
      go_simp
      refine (ref_apply_at _ [k0, k1, k2, k3] a t _ z p rfl rfl (by omega) HP.out HZ.out (by rw [HT.out, HM.out])).mono ?_
      rintro e w4 ⟨rfl, hk4⟩
      replace hk4' : Still w3 w4 := by first | exact hk4.drew_of | exact hk4.drew_of.drew_of | exact hk4.drew_of.drew_of.drew_of | exact hk4.drewN_of
      obtain ⟨x0, x1, x2, x3⟩ := Box4.keeps ⟨y0, y1, y2, y3⟩ hk4'
      refine hK _ _ ?_
      clear hK K
      try simp only [Act.put, List.setIfInBounds_toArray, List.set_cons_zero, List.set_cons_succ]
      refine wpAny_take (i := 6) (oi := { dst := some 27, op := Go.Op.binOp Go.BinOp.eql 9 (Go.Operand.tmp 22) (Go.Operand.tmp 26) 9, type := 4, pos := "law.go:24", after := #[{ on := 1, ground := Go.Ground.data }, { on := 5, ground := Go.Ground.data }], guard := none }) (v := ?vTA_12) rfl (by kernel_rfl) (by kernel_rfl) (by kernel_rfl) (fun _ _ _ h => h) (Or.inl ⟨by rfl, ?hTA_12⟩) ?rTA_12
      case hTA_12 => (intro wz; go_simp; try with_reducible rfl)
      simp only [Act.put, List.setIfInBounds_toArray, List.set_cons_zero, List.set_cons_succ]
      refine wpAny_take (i := 7) (oi := { dst := some 28, op := Go.Op.move (Go.Operand.tmp 27), type := 4, pos := "law.go:24", after := #[{ on := 6, ground := Go.Ground.data }, { on := 5, ground := Go.Ground.chain }], guard := none }) (v := ?vTA_13) rfl (by kernel_rfl) (by kernel_rfl) (by kernel_rfl) (fun _ _ _ h => h) (Or.inl ⟨by rfl, ?hTA_13⟩) ?rTA_13
      case hTA_13 => (intro wz; go_simp; try with_reducible rfl)
      simp only [Act.put, List.setIfInBounds_toArray, List.set_cons_zero, List.set_cons_succ]
      refine wpAny_take (i := 9) (oi := { dst := some 30, op := Go.Op.move (Go.Operand.tmp 1), type := 3, pos := "law.go:24", after := #[{ on := 7, ground := Go.Ground.guard }], guard := some (7, true) }) (v := ?vTA_14) rfl (by kernel_rfl) (by kernel_rfl) (by kernel_rfl) (fun _ _ _ h => h) (Or.inl ⟨by rfl, ?hTA_14⟩) ?rTA_14
      case hTA_14 => (intro wz; go_simp; try with_reducible rfl)
      simp only [Act.put, List.setIfInBounds_toArray, List.set_cons_zero, List.set_cons_succ]
      refine wpAny_take (i := 10) (oi := { dst := some 31, op := Go.Op.move (Go.Operand.tmp 7), type := 24, pos := "law.go:24", after := #[{ on := 7, ground := Go.Ground.guard }], guard := some (7, true) }) (v := ?vTA_15) rfl (by kernel_rfl) (by kernel_rfl) (by kernel_rfl) (fun _ _ _ h => h) (Or.inl ⟨by rfl, ?hTA_15⟩) ?rTA_15
      case hTA_15 => (intro wz; go_simp; try with_reducible rfl)
      simp only [Act.put, List.setIfInBounds_toArray, List.set_cons_zero, List.set_cons_succ]
      refine wpAny_take (i := 13) (oi := { dst := some 34, op := Go.Op.move (Go.Operand.tmp 2), type := 9, pos := "law.go:24", after := #[{ on := 7, ground := Go.Ground.guard }], guard := some (7, true) }) (v := ?vTA_16) rfl (by kernel_rfl) (by kernel_rfl) (by kernel_rfl) (fun _ _ _ h => h) (Or.inl ⟨by rfl, ?hTA_16⟩) ?rTA_16
      case hTA_16 => (intro wz; go_simp; try with_reducible rfl)
      simp only [Act.put, List.setIfInBounds_toArray, List.set_cons_zero, List.set_cons_succ]
      refine wpAny_ready (rs := [8]) (by kernel_rfl) (by simp) ?_
      refine AllReady.cons (o := { dst := some 29, op := Go.Op.load 22 (Go.Operand.tmp 3), type := 22, pos := "law.go:24", after := #[{ on := 7, ground := Go.Ground.guard }], guard := some (7, true) }) rfl (fun K hK => ?_) AllReady.nil
      go_simp
      refine hK _ _ ?_
      clear hK K
      try simp only [Act.put, List.setIfInBounds_toArray, List.set_cons_zero, List.set_cons_succ]
      refine wpAny_ready (rs := [11]) (by kernel_rfl) (by simp) ?_
      refine AllReady.cons (o := { dst := some 32, op := Go.Op.call { callee := Go.Callee.value (Go.Operand.func 11), args := #[Go.Operand.tmp 29, Go.Operand.tmp 30, Go.Operand.tmp 31], argTypes := #[22, 3, 24] }, type := 24, pos := "law.go:24", after := #[{ on := 8, ground := Go.Ground.data }, { on := 9, ground := Go.Ground.data }, { on := 10, ground := Go.Ground.data }, { on := 7, ground := Go.Ground.chain }, { on := 7, ground := Go.Ground.guard }], guard := some (7, true) }) rfl (fun K hK => ?_) AllReady.nil
      go_simp
      refine (apply_at _ [k0, k1, k2, k3] m a.data.toList _ z p _ a.size _ rfl rfl (HSW.out _ (by first | exact Keeps.refl _ _ | exact (Keeps.refl _ _).drew | exact (Keeps.refl _ _).drew.drew | exact (Keeps.refl _ _).drew.drew.drew | exact (Keeps.refl _ _).drewN _ | exact hk4' | exact hk4'.drew | exact hk4'.drew.drew | exact hk4'.drewN _)) (by omega) HP.out HB.out).mono ?_
      rintro e w5 ⟨B5, rfl, hs5, hk5⟩
      have hk5' : Still w4 w5 := by first | exact hk5 | exact hk5.drew_of | exact hk5.drew_of.drew_of | exact hk5.drew_of.drew_of.drew_of | exact hk5.drewN_of
      refine hK _ _ ?_
      clear hK K
      try simp only [Act.put, List.setIfInBounds_toArray, List.set_cons_zero, List.set_cons_succ]
      refine wpAny_ready (rs := [12]) (by kernel_rfl) (by simp) ?_
      refine AllReady.cons (o := { dst := some 33, op := Go.Op.convert 24 9 (Go.Operand.tmp 32), type := 9, pos := "law.go:24", after := #[{ on := 11, ground := Go.Ground.data }, { on := 7, ground := Go.Ground.guard }], guard := some (7, true) }) rfl (fun K hK => ?_) AllReady.nil
      refine step_string (by rfl) (.tmp 32) 24 9 rfl 5 Try.underlying24 Try.underlying5 Try.underlying9 _ _ _ a.data.toList a rfl hs5 rfl ?_
      refine hK _ _ ?_
      clear hK K
      try simp only [Act.put, List.setIfInBounds_toArray, List.set_cons_zero, List.set_cons_succ]
      refine wpAny_take (i := 14) (oi := { dst := some 35, op := Go.Op.binOp Go.BinOp.eql 9 (Go.Operand.tmp 33) (Go.Operand.tmp 34) 9, type := 4, pos := "law.go:24", after := #[{ on := 12, ground := Go.Ground.data }, { on := 13, ground := Go.Ground.data }, { on := 7, ground := Go.Ground.guard }], guard := some (7, true) }) (v := ?vTA_17) rfl (by kernel_rfl) (by kernel_rfl) (by kernel_rfl) (fun _ _ _ h => h) (Or.inl ⟨by rfl, ?hTA_17⟩) ?rTA_17
      case hTA_17 => (intro wz; go_simp; try with_reducible rfl)
      simp only [Act.put, List.setIfInBounds_toArray, List.set_cons_zero, List.set_cons_succ]
      refine wpAny_take (i := 15) (oi := { dst := some 36, op := Go.Op.pick (Go.Operand.tmp 28) (Go.Operand.tmp 35) (Go.Operand.const (Go.Value.bool false)), type := 4, pos := "law.go:24", after := #[{ on := 7, ground := Go.Ground.data }, { on := 14, ground := Go.Ground.data }], guard := none }) (v := ?vTA_18) rfl (by kernel_rfl) (by kernel_rfl) (by kernel_rfl) (fun _ _ _ h => h) (Or.inl ⟨by rfl, ?hTA_18⟩) ?rTA_18
      case hTA_18 => (intro wz; go_simp; try with_reducible rfl)
      simp only [Act.put, List.setIfInBounds_toArray, List.set_cons_zero, List.set_cons_succ]
      refine wpAny_take (i := 16) (oi := { dst := some 6, op := Go.Op.assign (Go.Operand.tmp 36), type := 4, pos := "law.go:24", after := #[{ on := 15, ground := Go.Ground.data }, { on := 11, ground := Go.Ground.chain }, { on := 0, ground := Go.Ground.phase }, { on := 1, ground := Go.Ground.phase }, { on := 2, ground := Go.Ground.phase }, { on := 3, ground := Go.Ground.phase }, { on := 4, ground := Go.Ground.phase }, { on := 5, ground := Go.Ground.phase }, { on := 6, ground := Go.Ground.phase }, { on := 7, ground := Go.Ground.phase }, { on := 8, ground := Go.Ground.phase }, { on := 9, ground := Go.Ground.phase }, { on := 10, ground := Go.Ground.phase }, { on := 11, ground := Go.Ground.phase }, { on := 12, ground := Go.Ground.phase }, { on := 13, ground := Go.Ground.phase }, { on := 14, ground := Go.Ground.phase }, { on := 15, ground := Go.Ground.phase }], guard := none }) (v := ?vTA_19) rfl (by kernel_rfl) (by kernel_rfl) (by kernel_rfl) (fun _ _ _ h => h) (Or.inl ⟨by rfl, ?hTA_19⟩) ?rTA_19
      case hTA_19 => (intro wz; go_simp; try with_reducible rfl)
      simp only [Act.put, List.setIfInBounds_toArray, List.set_cons_zero, List.set_cons_succ]
      refine wpAny_done (by kernel_rfl) ?_ _
      go_wp2
      go_ret
      have hall := ((((hk1.trans hk2).trans hk3).trans hk4').trans hk5')
      first | exact ⟨rfl, hall.below'⟩ | exact ⟨rfl, hall.drew.below'⟩ | exact ⟨rfl, (hall.drewN _).below'⟩
    · skip
      go_simp
      refine (ref_apply_at _ [k0, k1, k2, k3] a t _ z p rfl rfl (by omega) HP.out HZ.out (by rw [HT.out, HM.out])).mono ?_
      rintro e w4 ⟨rfl, hk4⟩
      replace hk4' : Still w3 w4 := by first | exact hk4.drew_of | exact hk4.drew_of.drew_of | exact hk4.drew_of.drew_of.drew_of | exact hk4.drewN_of
      obtain ⟨x0, x1, x2, x3⟩ := Box4.keeps ⟨y0, y1, y2, y3⟩ hk4'
      refine hK _ _ ?_
      clear hK K
      try simp only [Act.put, List.setIfInBounds_toArray, List.set_cons_zero, List.set_cons_succ]
      refine wpAny_ready (rs := [1]) (by kernel_rfl) (by simp) ?_
      refine AllReady.cons (o := { dst := some 22, op := Go.Op.convert 24 9 (Go.Operand.tmp 21), type := 9, pos := "law.go:24", after := #[{ on := 0, ground := Go.Ground.data }], guard := none }) rfl (fun K hK => ?_) AllReady.nil
      refine step_string (by rfl) (.tmp 21) 24 9 rfl 5 Try.underlying24 Try.underlying5 Try.underlying9 _ _ _ m t rfl (HSW.out _ (by first | exact Keeps.refl _ _ | exact (Keeps.refl _ _).drew | exact (Keeps.refl _ _).drew.drew | exact (Keeps.refl _ _).drew.drew.drew | exact (Keeps.refl _ _).drewN _ | exact hk4' | exact hk4'.drew | exact hk4'.drew.drew | exact hk4'.drewN _)) HT.out ?_
      refine hK _ _ ?_
      clear hK K
      try simp only [Act.put, List.setIfInBounds_toArray, List.set_cons_zero, List.set_cons_succ]
      refine wpAny_take (i := 6) (oi := { dst := some 27, op := Go.Op.binOp Go.BinOp.eql 9 (Go.Operand.tmp 22) (Go.Operand.tmp 26) 9, type := 4, pos := "law.go:24", after := #[{ on := 1, ground := Go.Ground.data }, { on := 5, ground := Go.Ground.data }], guard := none }) (v := ?vTA_20) rfl (by kernel_rfl) (by kernel_rfl) (by kernel_rfl) (fun _ _ _ h => h) (Or.inl ⟨by rfl, ?hTA_20⟩) ?rTA_20
      case hTA_20 => (intro wz; go_simp; try with_reducible rfl)
      simp only [Act.put, List.setIfInBounds_toArray, List.set_cons_zero, List.set_cons_succ]
      refine wpAny_take (i := 7) (oi := { dst := some 28, op := Go.Op.move (Go.Operand.tmp 27), type := 4, pos := "law.go:24", after := #[{ on := 6, ground := Go.Ground.data }, { on := 5, ground := Go.Ground.chain }], guard := none }) (v := ?vTA_21) rfl (by kernel_rfl) (by kernel_rfl) (by kernel_rfl) (fun _ _ _ h => h) (Or.inl ⟨by rfl, ?hTA_21⟩) ?rTA_21
      case hTA_21 => (intro wz; go_simp; try with_reducible rfl)
      simp only [Act.put, List.setIfInBounds_toArray, List.set_cons_zero, List.set_cons_succ]
      refine wpAny_take (i := 9) (oi := { dst := some 30, op := Go.Op.move (Go.Operand.tmp 1), type := 3, pos := "law.go:24", after := #[{ on := 7, ground := Go.Ground.guard }], guard := some (7, true) }) (v := ?vTA_22) rfl (by kernel_rfl) (by kernel_rfl) (by kernel_rfl) (fun _ _ _ h => h) (Or.inl ⟨by rfl, ?hTA_22⟩) ?rTA_22
      case hTA_22 => (intro wz; go_simp; try with_reducible rfl)
      simp only [Act.put, List.setIfInBounds_toArray, List.set_cons_zero, List.set_cons_succ]
      refine wpAny_take (i := 10) (oi := { dst := some 31, op := Go.Op.move (Go.Operand.tmp 7), type := 24, pos := "law.go:24", after := #[{ on := 7, ground := Go.Ground.guard }], guard := some (7, true) }) (v := ?vTA_23) rfl (by kernel_rfl) (by kernel_rfl) (by kernel_rfl) (fun _ _ _ h => h) (Or.inl ⟨by rfl, ?hTA_23⟩) ?rTA_23
      case hTA_23 => (intro wz; go_simp; try with_reducible rfl)
      simp only [Act.put, List.setIfInBounds_toArray, List.set_cons_zero, List.set_cons_succ]
      refine wpAny_take (i := 13) (oi := { dst := some 34, op := Go.Op.move (Go.Operand.tmp 2), type := 9, pos := "law.go:24", after := #[{ on := 7, ground := Go.Ground.guard }], guard := some (7, true) }) (v := ?vTA_24) rfl (by kernel_rfl) (by kernel_rfl) (by kernel_rfl) (fun _ _ _ h => h) (Or.inl ⟨by rfl, ?hTA_24⟩) ?rTA_24
      case hTA_24 => (intro wz; go_simp; try with_reducible rfl)
      simp only [Act.put, List.setIfInBounds_toArray, List.set_cons_zero, List.set_cons_succ]
      refine wpAny_ready (rs := [8]) (by kernel_rfl) (by simp) ?_
      refine AllReady.cons (o := { dst := some 29, op := Go.Op.load 22 (Go.Operand.tmp 3), type := 22, pos := "law.go:24", after := #[{ on := 7, ground := Go.Ground.guard }], guard := some (7, true) }) rfl (fun K hK => ?_) AllReady.nil
      go_simp
      refine hK _ _ ?_
      clear hK K
      try simp only [Act.put, List.setIfInBounds_toArray, List.set_cons_zero, List.set_cons_succ]
      refine wpAny_ready (rs := [11]) (by kernel_rfl) (by simp) ?_
      refine AllReady.cons (o := { dst := some 32, op := Go.Op.call { callee := Go.Callee.value (Go.Operand.func 11), args := #[Go.Operand.tmp 29, Go.Operand.tmp 30, Go.Operand.tmp 31], argTypes := #[22, 3, 24] }, type := 24, pos := "law.go:24", after := #[{ on := 8, ground := Go.Ground.data }, { on := 9, ground := Go.Ground.data }, { on := 10, ground := Go.Ground.data }, { on := 7, ground := Go.Ground.chain }, { on := 7, ground := Go.Ground.guard }], guard := some (7, true) }) rfl (fun K hK => ?_) AllReady.nil
      go_simp
      refine (apply_at _ [k0, k1, k2, k3] m a.data.toList _ z p _ a.size _ rfl rfl (HSW.out _ (by first | exact Keeps.refl _ _ | exact (Keeps.refl _ _).drew | exact (Keeps.refl _ _).drew.drew | exact (Keeps.refl _ _).drew.drew.drew | exact (Keeps.refl _ _).drewN _ | exact hk4' | exact hk4'.drew | exact hk4'.drew.drew | exact hk4'.drewN _)) (by omega) HP.out HB.out).mono ?_
      rintro e w5 ⟨B5, rfl, hs5, hk5⟩
      have hk5' : Still w4 w5 := by first | exact hk5 | exact hk5.drew_of | exact hk5.drew_of.drew_of | exact hk5.drew_of.drew_of.drew_of | exact hk5.drewN_of
      refine hK _ _ ?_
      clear hK K
      try simp only [Act.put, List.setIfInBounds_toArray, List.set_cons_zero, List.set_cons_succ]
      refine wpAny_ready (rs := [12]) (by kernel_rfl) (by simp) ?_
      refine AllReady.cons (o := { dst := some 33, op := Go.Op.convert 24 9 (Go.Operand.tmp 32), type := 9, pos := "law.go:24", after := #[{ on := 11, ground := Go.Ground.data }, { on := 7, ground := Go.Ground.guard }], guard := some (7, true) }) rfl (fun K hK => ?_) AllReady.nil
      refine step_string (by rfl) (.tmp 32) 24 9 rfl 5 Try.underlying24 Try.underlying5 Try.underlying9 _ _ _ a.data.toList a rfl hs5 rfl ?_
      refine hK _ _ ?_
      clear hK K
      try simp only [Act.put, List.setIfInBounds_toArray, List.set_cons_zero, List.set_cons_succ]
      refine wpAny_take (i := 14) (oi := { dst := some 35, op := Go.Op.binOp Go.BinOp.eql 9 (Go.Operand.tmp 33) (Go.Operand.tmp 34) 9, type := 4, pos := "law.go:24", after := #[{ on := 12, ground := Go.Ground.data }, { on := 13, ground := Go.Ground.data }, { on := 7, ground := Go.Ground.guard }], guard := some (7, true) }) (v := ?vTA_25) rfl (by kernel_rfl) (by kernel_rfl) (by kernel_rfl) (fun _ _ _ h => h) (Or.inl ⟨by rfl, ?hTA_25⟩) ?rTA_25
      case hTA_25 => (intro wz; go_simp; try with_reducible rfl)
      simp only [Act.put, List.setIfInBounds_toArray, List.set_cons_zero, List.set_cons_succ]
      refine wpAny_take (i := 15) (oi := { dst := some 36, op := Go.Op.pick (Go.Operand.tmp 28) (Go.Operand.tmp 35) (Go.Operand.const (Go.Value.bool false)), type := 4, pos := "law.go:24", after := #[{ on := 7, ground := Go.Ground.data }, { on := 14, ground := Go.Ground.data }], guard := none }) (v := ?vTA_26) rfl (by kernel_rfl) (by kernel_rfl) (by kernel_rfl) (fun _ _ _ h => h) (Or.inl ⟨by rfl, ?hTA_26⟩) ?rTA_26
      case hTA_26 => (intro wz; go_simp; try with_reducible rfl)
      simp only [Act.put, List.setIfInBounds_toArray, List.set_cons_zero, List.set_cons_succ]
      refine wpAny_take (i := 16) (oi := { dst := some 6, op := Go.Op.assign (Go.Operand.tmp 36), type := 4, pos := "law.go:24", after := #[{ on := 15, ground := Go.Ground.data }, { on := 11, ground := Go.Ground.chain }, { on := 0, ground := Go.Ground.phase }, { on := 1, ground := Go.Ground.phase }, { on := 2, ground := Go.Ground.phase }, { on := 3, ground := Go.Ground.phase }, { on := 4, ground := Go.Ground.phase }, { on := 5, ground := Go.Ground.phase }, { on := 6, ground := Go.Ground.phase }, { on := 7, ground := Go.Ground.phase }, { on := 8, ground := Go.Ground.phase }, { on := 9, ground := Go.Ground.phase }, { on := 10, ground := Go.Ground.phase }, { on := 11, ground := Go.Ground.phase }, { on := 12, ground := Go.Ground.phase }, { on := 13, ground := Go.Ground.phase }, { on := 14, ground := Go.Ground.phase }, { on := 15, ground := Go.Ground.phase }], guard := none }) (v := ?vTA_27) rfl (by kernel_rfl) (by kernel_rfl) (by kernel_rfl) (fun _ _ _ h => h) (Or.inl ⟨by rfl, ?hTA_27⟩) ?rTA_27
      case hTA_27 => (intro wz; go_simp; try with_reducible rfl)
      simp only [Act.put, List.setIfInBounds_toArray, List.set_cons_zero, List.set_cons_succ]
      refine wpAny_done (by kernel_rfl) ?_ _
      go_wp2
      go_ret
      have hall := ((((hk1.trans hk2).trans hk3).trans hk4').trans hk5')
      first | exact ⟨rfl, hall.below'⟩ | exact ⟨rfl, hall.drew.below'⟩ | exact ⟨rfl, (hall.drewN _).below'⟩
end Go.Proofs.Ytkpahpoobbjgiaa
