/- The document's words: turned, and a round's f. -/
import Derived.Test.YtogojfmaiphiaaaDoorRefW
namespace Go.Proofs.YtogojfmaiphiaaaDoor
open Go.RowKit

theorem bit_rotl (x : UInt32) (k i : Nat) (hk0 : 0 < k) (hk : k < 32) (hi : i < 32) : bit (rotl x k) i = bit x ((i + k) % 32) := by
  rw [bit_test, bit_test, toNat_rotl, Nat.testBit_or, show (4294967296 : Nat) = 2 ^ 32 from rfl, Nat.testBit_mod_two_pow, Nat.testBit_mul_two_pow, Nat.testBit_div_two_pow]
  have hlt := w_lt x
  by_cases h : k ≤ 31 - i
  · have hp : (2 : Nat) ^ 32 ≤ 2 ^ (31 - i + (32 - k)) := Nat.pow_le_pow_right (by omega) (by omega)
    have h2 : x.toNat.testBit (31 - i + (32 - k)) = false := Nat.testBit_lt_two_pow (Nat.lt_of_lt_of_le hlt hp)
    rw [h2, Nat.mod_eq_of_lt (by omega), show 31 - (i + k) = 31 - i - k by omega]
    simp [h, show 31 - i < 32 by omega]
  · rw [show (i + k) % 32 = i + k - 32 by omega, show 31 - (i + k - 32) = 31 - i + (32 - k) by omega]
    simp [h]
theorem rot_bits (x : UInt32) (k : Nat) (hk0 : 0 < k) (hk : k < 32) : (bitsV x 32).drop k ++ (bitsV x 32).take k = bitsV (rotl x k) 32 := by
  apply List.ext_getElem?
  intro i
  by_cases hi : i < 32
  · rw [bitsV_at _ 32 i hi, bit_rotl x k i hk0 hk hi]
    by_cases h : i < 32 - k
    · rw [List.getElem?_append_left (by rw [List.length_drop, length_bitsV]; exact h), List.getElem?_drop, bitsV_at _ 32 _ (by omega), Nat.mod_eq_of_lt (by omega), Nat.add_comm]
    · rw [List.getElem?_append_right (by rw [List.length_drop, length_bitsV]; omega), List.length_drop, length_bitsV, List.getElem?_take, if_pos (by omega), bitsV_at _ 32 _ (by omega), show (i + k) % 32 = i - (32 - k) by omega]
  · rw [List.getElem?_eq_none (by simp [length_bitsV]; omega), List.getElem?_eq_none (by rw [length_bitsV]; omega)]

theorem el49 : Tryd.prog.elem 49 = 3 := by kernel_rfl
theorem un49 : Tryd.prog.underlying 49 = some (.slice (Tryd.prog.elem 49)) := by kernel_rfl
theorem size3 (w : World) : (sizeOf 3).run Tryd.prog w = .ok 1 w := by kernel_rfl
theorem slice49l (w : World) (g n cap k : Nat) (hk : k ≤ n) (hc : k < cap) : (Instr.slice 49 (.slice (some ⟨g, 0, none⟩) n cap) (some (.int .i64 k)) none none).run Tryd.prog w = .ok (.slice (some ⟨g, k, none⟩) (n - k) (cap - k)) w := by
  rw [run_slice_l w 49 _ n cap un49 .i64 k (by omega) (by omega), el49, size3]
  simp only [Result.andThen_ok, Int.toNat_natCast, sliced, Nat.mul_one, Option.map_some]
  rw [if_neg (by omega), Addr.add_lit, Nat.zero_add]
theorem slice49h (w : World) (g n cap k : Nat) (hk : k ≤ cap) (hc : 0 < cap) : (Instr.slice 49 (.slice (some ⟨g, 0, none⟩) n cap) none (some (.int .i64 k)) none).run Tryd.prog w = .ok (.slice (some ⟨g, 0, none⟩) k cap) w := by
  rw [run_slice_h w 49 _ n cap un49 .i64 k (by omega) (by omega), el49, size3]
  simp only [Result.andThen_ok, Int.toNat_natCast, sliced, Nat.mul_one, Nat.sub_zero, Option.map_some]
  rw [if_neg (by omega), Addr.add_lit]
theorem one_bits (x : UInt32) (k : Nat) : ∀ u ∈ bitsV x k, u.oneCell' = true := by
  intro u hu
  obtain ⟨_, _, rfl⟩ := List.mem_map.1 hu
  rfl

set_option maxHeartbeats 8000000 in
theorem turn_any (w : World) (v : Value) (x z : UInt32) (k : Nat) (hx : WordAt w v x) (hk0 : 0 < k) (hk : k < 32) (hz : z = rotl x k) :
    Calls Tryd.prog 20 #[v, .int .i64 k] w fun e w' => ∃ v', e = .returned v' ∧ WordAt w' v' z ∧ Still w w' := by
  obtain ⟨g, cap, rfl, hcap, hg, hcell⟩ := hx.open_
  have HR := Lib.hid (show (bitsV x 32).drop k ++ (bitsV x 32).take k = bitsV z 32 by rw [rot_bits x k hk0 hk, hz])
  have hs1 := fun w' => slice49l w' g 32 cap k (by omega) (by omega)
  have hs2 := fun w' => slice49h w' g 32 cap k (by omega) (by omega)
  have HN1 : ∀ w', Still w w' → ∀ j u, ((bitsV x 32).drop k)[j]? = some u → w'.cell? ((⟨g, k, none⟩ : Addr).add j) = some u := fun w' h j u hj => by
    have hlen : j < 32 - k := by
      rcases Nat.lt_or_ge j (32 - k) with q | q
      · exact q
      · rw [List.getElem?_eq_none (by rw [List.length_drop, length_bitsV]; exact q)] at hj; cases hj
    rw [List.getElem?_drop, bitsV_at x 32 _ (by omega)] at hj
    rw [Addr.add_lit, h.cell (hcell (k + j) (by omega)) id]
    exact hj
  have HN2 : ∀ w', Still w w' → ∀ j u, ((bitsV x 32).take k)[j]? = some u → w'.cell? ((⟨g, 0, none⟩ : Addr).add j) = some u := fun w' h j u hj => by
    have hlen : j < k := by
      rcases Nat.lt_or_ge j k with q | q
      · exact q
      · rw [List.getElem?_eq_none (by rw [List.length_take, length_bitsV]; omega)] at hj; cases hj
    rw [List.getElem?_take, if_pos hlen, bitsV_at x 32 _ (by omega)] at hj
    rw [Addr.add_lit, Nat.zero_add, h.cell (hcell j (by omega)) id]
    exact hj
  have HO1 := Lib.hid (show ∀ u ∈ (bitsV x 32).drop k, u.oneCell' = true from fun u hu => one_bits x 32 u (List.mem_of_mem_drop hu))
  have HO2 := Lib.hid (show ∀ u ∈ (bitsV x 32).take k, u.oneCell' = true from fun u hu => one_bits x 32 u (List.mem_of_mem_take hu))
  obtain ⟨i3, hi1, hi2, hi3, hi4⟩ := info_partsN info3
  clear hx hz hcell
  go_enter Tryd.func20, Tryd.ntmps20
  go_wp2_with fail
  refine wp_region_any (by kernel_rfl) ?_
  change wpAny _ _ _ _ _ _ _ (World.drew _)
  refine wpAny_take (i := 1) (oi := { dst := some 6, op := Go.Op.move (Go.Operand.tmp 0), type := 49, pos := "ref.go:23", after := #[], guard := none }) (v := ?vCT_1) rfl (by kernel_rfl) (by kernel_rfl) (by kernel_rfl) (fun _ _ _ h => h) (Or.inl ⟨by rfl, ?hCT_1⟩) ?rCT_1
  case hCT_1 => (intro wz; go_simp; try with_reducible rfl)
  simp only [Act.put, List.setIfInBounds_toArray, List.set_cons_zero, List.set_cons_succ]
  refine wpAny_take (i := 2) (oi := { dst := some 7, op := Go.Op.move (Go.Operand.tmp 1), type := 3, pos := "ref.go:23", after := #[], guard := none }) (v := ?vCT_2) rfl (by kernel_rfl) (by kernel_rfl) (by kernel_rfl) (fun _ _ _ h => h) (Or.inl ⟨by rfl, ?hCT_2⟩) ?rCT_2
  case hCT_2 => (intro wz; go_simp; try with_reducible rfl)
  simp only [Act.put, List.setIfInBounds_toArray, List.set_cons_zero, List.set_cons_succ]
  refine wpAny_take (i := 3) (oi := { dst := some 8, op := Go.Op.slice 49 (Go.Operand.tmp 6) (some (Go.Operand.tmp 7)) none none, type := 49, pos := "ref.go:23", after := #[{ on := 1, ground := Go.Ground.data }, { on := 2, ground := Go.Ground.data }], guard := none }) (v := ?vCT_3) rfl (by kernel_rfl) (by kernel_rfl) (by kernel_rfl) (fun _ _ _ h => h) (Or.inl ⟨by rfl, ?hCT_3⟩) ?rCT_3
  case hCT_3 => (intro wz; go_simp; try with_reducible rfl)
  simp only [Act.put, List.setIfInBounds_toArray, List.set_cons_zero, List.set_cons_succ]
  refine wpAny_take (i := 5) (oi := { dst := some 10, op := Go.Op.move (Go.Operand.tmp 0), type := 49, pos := "ref.go:23", after := #[], guard := none }) (v := ?vCT_4) rfl (by kernel_rfl) (by kernel_rfl) (by kernel_rfl) (fun _ _ _ h => h) (Or.inl ⟨by rfl, ?hCT_4⟩) ?rCT_4
  case hCT_4 => (intro wz; go_simp; try with_reducible rfl)
  simp only [Act.put, List.setIfInBounds_toArray, List.set_cons_zero, List.set_cons_succ]
  refine wpAny_take (i := 6) (oi := { dst := some 11, op := Go.Op.move (Go.Operand.tmp 1), type := 3, pos := "ref.go:23", after := #[], guard := none }) (v := ?vCT_5) rfl (by kernel_rfl) (by kernel_rfl) (by kernel_rfl) (fun _ _ _ h => h) (Or.inl ⟨by rfl, ?hCT_5⟩) ?rCT_5
  case hCT_5 => (intro wz; go_simp; try with_reducible rfl)
  simp only [Act.put, List.setIfInBounds_toArray, List.set_cons_zero, List.set_cons_succ]
  refine wpAny_take (i := 7) (oi := { dst := some 12, op := Go.Op.slice 49 (Go.Operand.tmp 10) none (some (Go.Operand.tmp 11)) none, type := 49, pos := "ref.go:23", after := #[{ on := 5, ground := Go.Ground.data }, { on := 6, ground := Go.Ground.data }], guard := none }) (v := ?vCT_6) rfl (by kernel_rfl) (by kernel_rfl) (by kernel_rfl) (fun _ _ _ h => h) (Or.inl ⟨by rfl, ?hCT_6⟩) ?rCT_6
  case hCT_6 => (intro wz; go_simp; try with_reducible rfl)
  simp only [Act.put, List.setIfInBounds_toArray, List.set_cons_zero, List.set_cons_succ]
  refine wpAny_ready (rs := [0]) (by kernel_rfl) (by simp) ?_
  refine AllReady.cons (o := { dst := some 5, op := Go.Op.buildSlice 49 0 #[], type := 49, pos := "ref.go:23", after := #[], guard := none }) rfl (fun K hK => ?_) AllReady.nil
  go_simp
  refine hK _ _ ?_
  clear hK K
  try simp only [Act.put, List.setIfInBounds_toArray, List.set_cons_zero, List.set_cons_succ]
  refine wpAny_ready (rs := [4]) (by kernel_rfl) (by simp) ?_
  refine AllReady.cons (o := { dst := some 9, op := Go.Op.call { callee := Go.Callee.builtin Go.Builtin.append, args := #[Go.Operand.tmp 5, Go.Operand.tmp 8], argTypes := #[49, 49] }, type := 49, pos := "ref.go:23", after := #[{ on := 0, ground := Go.Ground.data }, { on := 3, ground := Go.Ground.data }], guard := none }) rfl (fun K hK => ?_) AllReady.nil
  rw [if_pos (by rfl)]
  refine wp_append_own _ (.tmp 5) (.tmp 8) 49 rfl w.heap.size 3 i3 (.int .i64 0) 1 8 Tryd.underlying49 hi1 hi2 hi3 hi4 rfl (by decide) _ 0 [] rfl (own_new w.drew w.heap.size 3 (Nat.le_refl _)) ⟨g, k, none⟩ (32 - k) _ ((bitsV x 32).drop k) rfl (by rw [List.length_drop, length_bitsV, Nat.mul_one]) (HN1 _ ((Keeps.refl _ _).drew.alloc _)) HO1.out (by unfold maxLen; omega) (by omega) (by simp) ?_
  intro v1 w1 ho1 hg1 _
  refine hK _ _ ?_
  clear hK K
  try simp only [Act.put, List.setIfInBounds_toArray, List.set_cons_zero, List.set_cons_succ]
  refine wpAny_ready (rs := [8]) (by kernel_rfl) (by simp) ?_
  refine AllReady.cons (o := { dst := some 13, op := Go.Op.call { callee := Go.Callee.builtin Go.Builtin.append, args := #[Go.Operand.tmp 9, Go.Operand.tmp 12], argTypes := #[49, 49] }, type := 49, pos := "ref.go:23", after := #[{ on := 4, ground := Go.Ground.data }, { on := 7, ground := Go.Ground.data }, { on := 4, ground := Go.Ground.chain }], guard := none }) rfl (fun K hK => ?_) AllReady.nil
  rw [if_pos (by rfl)]
  refine wp_append_own _ (.tmp 9) (.tmp 12) 49 rfl w.heap.size 3 i3 (.int .i64 0) 1 8 Tryd.underlying49 hi1 hi2 hi3 hi4 rfl (by decide) _ (0 + (32 - k)) ([] ++ (bitsV x 32).drop k) rfl ho1 ⟨g, 0, none⟩ k _ ((bitsV x 32).take k) rfl (by rw [List.length_take, length_bitsV, Nat.mul_one, Nat.min_eq_left (by omega)]) (HN2 _ (((Keeps.refl _ _).drew.alloc _).on (T := fun _ => False) (grown_keeps hg1) (fun i hi e => by cases e; exact Nat.lt_irrefl _ hi))) HO2.out (by unfold maxLen; omega) (by omega) (Nat.le_trans (by simp) hg1.size) ?_
  intro v2 w2 ho2 hg2 _
  refine hK _ _ ?_
  clear hK K
  try simp only [Act.put, List.setIfInBounds_toArray, List.set_cons_zero, List.set_cons_succ]
  refine wpAny_take (i := 9) (oi := { dst := some 4, op := Go.Op.assign (Go.Operand.tmp 13), type := 49, pos := "ref.go:23", after := #[{ on := 8, ground := Go.Ground.data }, { on := 8, ground := Go.Ground.chain }, { on := 0, ground := Go.Ground.phase }, { on := 1, ground := Go.Ground.phase }, { on := 2, ground := Go.Ground.phase }, { on := 3, ground := Go.Ground.phase }, { on := 4, ground := Go.Ground.phase }, { on := 5, ground := Go.Ground.phase }, { on := 6, ground := Go.Ground.phase }, { on := 7, ground := Go.Ground.phase }, { on := 8, ground := Go.Ground.phase }], guard := none }) (v := ?vCT_7) rfl (by kernel_rfl) (by kernel_rfl) (by kernel_rfl) (fun _ _ _ h => h) (Or.inl ⟨by rfl, ?hCT_7⟩) ?rCT_7
  case hCT_7 => (intro wz; go_simp; try with_reducible rfl)
  simp only [Act.put, List.setIfInBounds_toArray, List.set_cons_zero, List.set_cons_succ]
  refine wpAny_done (by kernel_rfl) ?_ _
  have HK1 : Still w w1 := ((Keeps.refl _ _).drew.alloc _).on (T := fun _ => False) (grown_keeps hg1) (fun i hi e => by cases e; exact Nat.lt_irrefl _ hi)
  have HK2 := Lib.hid (HK1.on (T := fun _ => False) (grown_keeps hg2) (fun i hi e => by have := own_ge ho1 i e; omega))
  have HV := Lib.hid (show WordAt w2 v2 z by
    have := owns_base ho2 (Nat.zero_le _)
    rw [List.nil_append, HR.out, show 0 + (32 - k) + k = 32 by omega] at this
    exact this)
  clear ho1 hg1 ho2 hg2 HK1
  go_wp2_with fail
  go_ret
  exact ⟨v2, rfl, HV.out, HK2.out⟩

/-! ### f -/
theorem bit_choose (b c d : UInt32) (i : Nat) : bit (d ^^^ (b &&& (c ^^^ d))) i = if bit b i = 1 then bit c i else bit d i := by
  rw [bit_xor, bit_and, bit_xor]
  have h1 := bit_lt b i
  have h2 := bit_lt c i
  have h3 := bit_lt d i
  generalize bit b i = p at *
  generalize bit c i = q at *
  generalize bit d i = r at *
  rcases (show p = 0 ∨ p = 1 by omega) with rfl | rfl <;> rcases (show q = 0 ∨ q = 1 by omega) with rfl | rfl <;> rcases (show r = 0 ∨ r = 1 by omega) with rfl | rfl <;> rfl
theorem bit_most (b c d : UInt32) (i : Nat) : bit ((b &&& c) ||| (d &&& (b ||| c))) i = if 2 ≤ bit b i + bit c i + bit d i then 1 else 0 := by
  rw [bit_or, bit_and, bit_and, bit_or]
  have h1 := bit_lt b i
  have h2 := bit_lt c i
  have h3 := bit_lt d i
  generalize bit b i = p at *
  generalize bit c i = q at *
  generalize bit d i = r at *
  rcases (show p = 0 ∨ p = 1 by omega) with rfl | rfl <;> rcases (show q = 0 ∨ q = 1 by omega) with rfl | rfl <;> rcases (show r = 0 ∨ r = 1 by omega) with rfl | rfl <;> rfl
theorem bit_par (b c d : UInt32) (i : Nat) : bit (b ^^^ c ^^^ d) i = (bit b i + bit c i + bit d i) % 2 := by
  rw [bit_xor, bit_xor]; omega

set_option maxRecDepth 100000 in
set_option maxHeartbeats 16000000 in
theorem f_any (w : World) (t : Nat) (vb vc vd : Value) (b c d z : UInt32) (ht : t < 80) (hb : WordAt w vb b) (hc : WordAt w vc c) (hd : WordAt w vd d) (hz : z = mixf t b c d) :
    Calls Tryd.prog 23 #[.int .i64 t, vb, vc, vd] w fun e w' => ∃ v, e = .returned v ∧ WordAt w' v z ∧ Still w w' := by
  obtain ⟨gb, cb, rfl, hcb, _, hcellb⟩ := hb.open_
  obtain ⟨gc, cc, rfl, hcc, _, hcellc⟩ := hc.open_
  obtain ⟨gd, cd, rfl, hcd, _, hcelld⟩ := hd.open_
  have HCB := Lib.hid hcellb
  have HCC := Lib.hid hcellc
  have HCD := Lib.hid hcelld
  have HZ := Lib.hid hz
  have hown := own_new w w.heap.size 3 (Nat.le_refl _)
  have hk : Still w (w.alloc (.cells #[] 3 (0, 0))) := (Keeps.refl _ _).alloc _
  clear hb hc hd hcellb hcellc hcelld hz
  go_enter Tryd.func23, Tryd.ntmps23
  go_wp2_with fail
  generalize w.alloc (.cells #[] 3 (0, 0)) = w1 at hown hk ⊢
  have HO := Lib.hid hown
  have HK := Lib.hid hk
  clear hown hk
  go_loopw [9, 10] (fun v i wr => RelO2 w wr z v i) (fun _ i _ => 32 - (intOf i).toNat)
  case atStart => exact relO2 0 rfl (by omega) HO HK
  case round =>
    clear HO HK
    obtain ⟨k, rfl, hk, hown, hst⟩ := hrel
    by_cases hlt : k < 32
    · obtain ⟨p, hp⟩ : ∃ p, p = bit b k := ⟨_, rfl⟩
      obtain ⟨q, hq⟩ : ∃ q, q = bit c k := ⟨_, rfl⟩
      obtain ⟨r, hr⟩ : ∃ r, r = bit d k := ⟨_, rfl⟩
      obtain ⟨m, hm⟩ : ∃ m, m = bit z k := ⟨_, rfl⟩
      have hp2 : p < 2 := by rw [hp]; exact bit_lt _ _
      have hq2 : q < 2 := by rw [hq]; exact bit_lt _ _
      have hr2 : r < 2 := by rw [hr]; exact bit_lt _ _
      have hF : m = if t < 20 then (if p = 1 then q else r) else if 40 ≤ t ∧ t < 60 then (if 2 ≤ p + q + r then 1 else 0) else (p + q + r) % 2 := by
        rw [hm, HZ.out, hp, hq, hr]
        unfold mixf
        by_cases h1 : t < 20
        · rw [if_pos h1, if_pos h1, bit_choose]
        · rw [if_neg h1, if_neg h1]
          by_cases h2 : t < 40
          · rw [if_pos h2, if_neg (by omega), bit_par]
          · rw [if_neg h2]
            by_cases h3 : t < 60
            · rw [if_pos h3, if_pos (by omega), bit_most]
            · rw [if_neg h3, if_neg (by omega), bit_par]
      have cb0 : wr.cell? ⟨gb, k, none⟩ = some (.int .i64 (p : Int)) := by rw [hp]; exact hst.out.cell (HCB.out k hlt) id
      have cc0 : wr.cell? ⟨gc, k, none⟩ = some (.int .i64 (q : Int)) := by rw [hq]; exact hst.out.cell (HCC.out k hlt) id
      have cd0 : wr.cell? ⟨gd, k, none⟩ = some (.int .i64 (r : Int)) := by rw [hr]; exact hst.out.cell (HCD.out k hlt) id
      have e3 : (k : Int) < 32 := by omega
      have e4 : (0 : Int) ≤ (k : Int) := by omega
      obtain ⟨s, hs⟩ : ∃ s, s = p + q + r := ⟨_, rfl⟩
      have e5 : (p : Int) + (q : Int) + (r : Int) = (s : Int) := by omega
      have hs4 : s < 4 := by omega
      have HM := Lib.hid hm
      have HFF := Lib.hid hF
      have HSS := Lib.hid hs
      clear hp hq hr hm hF hs
      go_wp2_with fail
      go_quiet (fail)
      have hwd : Still wr (wr.drewN nq) := (Keeps.refl _ _).drewN nq
      have cb1 := hwd.cell cb0 id
      have cc1 := hwd.cell cc0 id
      have cd1 := hwd.cell cd0 id
      have HOD := Lib.hid (owns_keeps hown.out hwd (fun _ _ => id))
      have HST := Lib.hid (hst.out.trans hwd)
      have hbase := HST.out.size
      clear hwd hown hst cb0 cc0 cd0
      generalize wr.drewN nq = wd at cb1 cc1 cd1 HOD HST hbase ⊢
      by_cases h1 : t < 20
      · by_cases h2 : p = 1
        · have e6 : ((p : Int) == 1) = true := by simp; omega
          have HV := Lib.hid (show m = q by rw [HFF.out, if_pos h1, if_pos h2])
          go_wp2_with (with_reducible refine wpList_push (o := ⟨some 52, _, _, _, _, _⟩) 3 49 8 (.int .i64 0) Tryd.underlying49 info3 rfl (by omega) rfl rfl (.tmp 46) (.tmp 51) rfl w.heap.size k u9 _ rfl HOD 1 rfl (by omega) hbase ?_; intro v' w4 ho4 hk4)
          have h1 : Keeps (fun i => w.heap.size ≤ i) wd w4 := hk4.out.mono (fun i _ e => own_ge HOD.out i e)
          have HO4 := Lib.hid (show w4.ownsRow w.heap.size 3 1 v' (k + 1) (bitsV z (k + 1)) by rw [bitsV_next, ← HM.out, HV.out]; exact ho4.out)
          have HK4 := Lib.hid (HST.out.on (T := fun _ => False) h1 (fun i hi e => by omega))
          clear ho4 hk4 h1 HOD HST
          first
          | exact ⟨relO2 (k + 1) rfl (by omega) HO4 HK4, by simp [intOf]; omega⟩
          | (go_roundw
             case rel => first | exact relO2 (k + 1) rfl (by omega) HO4 HK4 | ((repeat apply Exists.intro); exact ⟨relO2 (k + 1) rfl (by omega) HO4 HK4, by and_intros <;> first | rfl | simp⟩)
             case measure => simp [intOf]; omega)
        · have e6 : ((p : Int) == 1) = false := by simp; omega
          have HV := Lib.hid (show m = r by rw [HFF.out, if_pos h1, if_neg h2])
          go_wp2_with (with_reducible refine wpList_push (o := ⟨some 62, _, _, _, _, _⟩) 3 49 8 (.int .i64 0) Tryd.underlying49 info3 rfl (by omega) rfl rfl (.tmp 56) (.tmp 61) rfl w.heap.size k u9 _ rfl HOD 1 rfl (by omega) hbase ?_; intro v' w4 ho4 hk4)
          have h1 : Keeps (fun i => w.heap.size ≤ i) wd w4 := hk4.out.mono (fun i _ e => own_ge HOD.out i e)
          have HO4 := Lib.hid (show w4.ownsRow w.heap.size 3 1 v' (k + 1) (bitsV z (k + 1)) by rw [bitsV_next, ← HM.out, HV.out]; exact ho4.out)
          have HK4 := Lib.hid (HST.out.on (T := fun _ => False) h1 (fun i hi e => by omega))
          clear ho4 hk4 h1 HOD HST
          first
          | exact ⟨relO2 (k + 1) rfl (by omega) HO4 HK4, by simp [intOf]; omega⟩
          | (go_roundw
             case rel => first | exact relO2 (k + 1) rfl (by omega) HO4 HK4 | ((repeat apply Exists.intro); exact ⟨relO2 (k + 1) rfl (by omega) HO4 HK4, by and_intros <;> first | rfl | simp⟩)
             case measure => simp [intOf]; omega)
      · by_cases h2 : 40 ≤ t ∧ t < 60
        · obtain ⟨h3, h4⟩ := h2
          by_cases h5 : 2 ≤ s
          · have HV := Lib.hid (show m = 1 by rw [HFF.out, if_neg h1, if_pos ⟨h3, h4⟩, if_pos (by have := HSS.out; omega)])
            go_wp2_with (with_reducible refine wpList_push (o := ⟨some 76, _, _, _, _, _⟩) 3 49 8 (.int .i64 0) Tryd.underlying49 info3 rfl (by omega) rfl rfl (.tmp 74) (.tmp 75) rfl w.heap.size k u9 _ rfl HOD 1 rfl (by omega) hbase ?_; intro v' w4 ho4 hk4)
            have h1 : Keeps (fun i => w.heap.size ≤ i) wd w4 := hk4.out.mono (fun i _ e => own_ge HOD.out i e)
            have HO4 := Lib.hid (show w4.ownsRow w.heap.size 3 1 v' (k + 1) (bitsV z (k + 1)) by rw [bitsV_next, ← HM.out, HV.out]; exact ho4.out)
            have HK4 := Lib.hid (HST.out.on (T := fun _ => False) h1 (fun i hi e => by omega))
            clear ho4 hk4 h1 HOD HST
            first
            | exact ⟨relO2 (k + 1) rfl (by omega) HO4 HK4, by simp [intOf]; omega⟩
            | (go_roundw
               case rel => first | exact relO2 (k + 1) rfl (by omega) HO4 HK4 | ((repeat apply Exists.intro); exact ⟨relO2 (k + 1) rfl (by omega) HO4 HK4, by and_intros <;> first | rfl | simp⟩)
               case measure => simp [intOf]; omega)
          · have HV := Lib.hid (show m = 0 by rw [HFF.out, if_neg h1, if_pos ⟨h3, h4⟩, if_neg (by have := HSS.out; omega)])
            go_wp2_with (with_reducible refine wpList_push (o := ⟨some 86, _, _, _, _, _⟩) 3 49 8 (.int .i64 0) Tryd.underlying49 info3 rfl (by omega) rfl rfl (.tmp 84) (.tmp 85) rfl w.heap.size k u9 _ rfl HOD 1 rfl (by omega) hbase ?_; intro v' w4 ho4 hk4)
            have h1 : Keeps (fun i => w.heap.size ≤ i) wd w4 := hk4.out.mono (fun i _ e => own_ge HOD.out i e)
            have HO4 := Lib.hid (show w4.ownsRow w.heap.size 3 1 v' (k + 1) (bitsV z (k + 1)) by rw [bitsV_next, ← HM.out, HV.out]; exact ho4.out)
            have HK4 := Lib.hid (HST.out.on (T := fun _ => False) h1 (fun i hi e => by omega))
            clear ho4 hk4 h1 HOD HST
            first
            | exact ⟨relO2 (k + 1) rfl (by omega) HO4 HK4, by simp [intOf]; omega⟩
            | (go_roundw
               case rel => first | exact relO2 (k + 1) rfl (by omega) HO4 HK4 | ((repeat apply Exists.intro); exact ⟨relO2 (k + 1) rfl (by omega) HO4 HK4, by and_intros <;> first | rfl | simp⟩)
               case measure => simp [intOf]; omega)
        · have e7 : (s : Int).tmod 2 = (m : Int) := by rw [Int.tmod_eq_emod_of_nonneg (by omega), HFF.out, if_neg h1, if_neg h2, ← HSS.out]; omega
          have e8 : (s : Int) % 2 = (m : Int) := by rw [← e7, Int.tmod_eq_emod_of_nonneg (by omega)]
          rcases (show t < 40 ∨ 60 ≤ t by omega) with h3 | h3
          · have HV := Lib.hid (show m = m by rfl)
            go_wp2_with (with_reducible refine wpList_push (o := ⟨some 35, _, _, _, _, _⟩) 3 49 8 (.int .i64 0) Tryd.underlying49 info3 rfl (by omega) rfl rfl (.tmp 31) (.tmp 34) rfl w.heap.size k u9 _ rfl HOD 1 rfl (by omega) hbase ?_; intro v' w4 ho4 hk4)
            have h1 : Keeps (fun i => w.heap.size ≤ i) wd w4 := hk4.out.mono (fun i _ e => own_ge HOD.out i e)
            have HO4 := Lib.hid (show w4.ownsRow w.heap.size 3 1 v' (k + 1) (bitsV z (k + 1)) by rw [bitsV_next, ← HM.out, HV.out]; exact ho4.out)
            have HK4 := Lib.hid (HST.out.on (T := fun _ => False) h1 (fun i hi e => by omega))
            clear ho4 hk4 h1 HOD HST
            first
            | exact ⟨relO2 (k + 1) rfl (by omega) HO4 HK4, by simp [intOf]; omega⟩
            | (go_roundw
               case rel => first | exact relO2 (k + 1) rfl (by omega) HO4 HK4 | ((repeat apply Exists.intro); exact ⟨relO2 (k + 1) rfl (by omega) HO4 HK4, by and_intros <;> first | rfl | simp⟩)
               case measure => simp [intOf]; omega)
          · have HV := Lib.hid (show m = m by rfl)
            go_wp2_with (with_reducible refine wpList_push (o := ⟨some 35, _, _, _, _, _⟩) 3 49 8 (.int .i64 0) Tryd.underlying49 info3 rfl (by omega) rfl rfl (.tmp 31) (.tmp 34) rfl w.heap.size k u9 _ rfl HOD 1 rfl (by omega) hbase ?_; intro v' w4 ho4 hk4)
            have h1 : Keeps (fun i => w.heap.size ≤ i) wd w4 := hk4.out.mono (fun i _ e => own_ge HOD.out i e)
            have HO4 := Lib.hid (show w4.ownsRow w.heap.size 3 1 v' (k + 1) (bitsV z (k + 1)) by rw [bitsV_next, ← HM.out, HV.out]; exact ho4.out)
            have HK4 := Lib.hid (HST.out.on (T := fun _ => False) h1 (fun i hi e => by omega))
            clear ho4 hk4 h1 HOD HST
            first
            | exact ⟨relO2 (k + 1) rfl (by omega) HO4 HK4, by simp [intOf]; omega⟩
            | (go_roundw
               case rel => first | exact relO2 (k + 1) rfl (by omega) HO4 HK4 | ((repeat apply Exists.intro); exact ⟨relO2 (k + 1) rfl (by omega) HO4 HK4, by and_intros <;> first | rfl | simp⟩)
               case measure => simp [intOf]; omega)
    · obtain rfl : k = 32 := by omega
      go_wp2_with fail
      go_ret
      exact ⟨u9, rfl, owns_base hown.out (Nat.zero_le _), hst.out⟩
end Go.Proofs.YtogojfmaiphiaaaDoor
