/- A block is taken: the contract of step. -/
import Derived.Test.YtogojfmaiphiaaaDoorState
import Derived.LoopTactic
import Derived.RegionTactic
import Derived.Deep.CutRange
import Derived.BigRegion
import Derived.StillTailTactics
import Derived.Deep.QuietTactic
import Derived.BigQuiet
import Derived.Great.Walk
namespace Go.Proofs.YtogojfmaiphiaaaDoor
open Go.RowKit

/-- The schedule in memory. -/
def RowAt (w : World) (b : Nat) (l : List UInt32) : Prop := w.heap[b]? = some (.cells (ws l).toArray 56 (0, 0))
theorem RowAt.cell {w : World} {b : Nat} {l : List UInt32} (h : RowAt w b l) (j : Nat) (hj : j < l.length) : w.cell? ⟨b, j, none⟩ = some (.int .u32 ((l.getD j 0).toNat : Int)) := by
  rw [cell_of_row w b j _ _ _ h, List.getElem?_toArray]
  simp [ws, List.getD, List.getElem?_eq_getElem hj]
theorem RowAt.free {w : World} {b : Nat} {l : List UInt32} (h : RowAt w b l) (j : Nat) : w.frozen? ⟨b, j, none⟩ = false := frozen_of_row w b j _ _ h
theorem RowAt.set {w : World} {b : Nat} {l : List UInt32} (h : RowAt w b l) (j : Nat) (x : UInt32) : RowAt (w.setCell ⟨b, j, none⟩ (.int .u32 (x.toNat : Int))) b (l.set j x) := by
  unfold RowAt
  rw [heap_setCell_same w b j _ _ _ h]
  simp [ws, List.map_set]
theorem set_next (a : List UInt32) (k n : Nat) (hk : a.length = k) (hn : k < n) (x : UInt32) : (a ++ List.replicate (n - k) 0).set k x = (a ++ [x]) ++ List.replicate (n - (k + 1)) 0 := by
  subst hk
  obtain ⟨m, hm⟩ : ∃ m, n - a.length = m + 1 := ⟨n - a.length - 1, by omega⟩
  rw [List.set_append_right _ _ (by omega), Nat.sub_self, hm, List.replicate_succ, List.set_cons_zero, show n - (a.length + 1) = m by omega]
  simp

theorem still_set {w wr : World} {b : Nat} (h : Still w wr) (hb : b = w.heap.size) (j : Nat) (v : Value) : Still w (wr.setCell ⟨b, j, none⟩ v) :=
  h.on (S := fun k => k = b) ((Keeps.refl (fun k => k = b) wr).setCell (p := ⟨b, j, none⟩) rfl v) (fun i hi e => by omega)

def zero80 : List UInt32 := List.replicate 80 0
theorem zero56 (w : World) : (zeroValue 56).run Tryd.prog w = .ok (.agg (ws zero80).toArray) w := by kernel_rfl

theorem ix0 (x0 x1 x2 x3 x4 : Value) (w : World) : (Instr.index 43 (.agg #[x0, x1, x2, x3, x4]) (.int .i64 0)).run Tryd.prog w = .ok x0 w := by kernel_rfl
theorem ix1 (x0 x1 x2 x3 x4 : Value) (w : World) : (Instr.index 43 (.agg #[x0, x1, x2, x3, x4]) (.int .i64 1)).run Tryd.prog w = .ok x1 w := by kernel_rfl
theorem ix2 (x0 x1 x2 x3 x4 : Value) (w : World) : (Instr.index 43 (.agg #[x0, x1, x2, x3, x4]) (.int .i64 2)).run Tryd.prog w = .ok x2 w := by kernel_rfl
theorem ix3 (x0 x1 x2 x3 x4 : Value) (w : World) : (Instr.index 43 (.agg #[x0, x1, x2, x3, x4]) (.int .i64 3)).run Tryd.prog w = .ok x3 w := by kernel_rfl
theorem ix4 (x0 x1 x2 x3 x4 : Value) (w : World) : (Instr.index 43 (.agg #[x0, x1, x2, x3, x4]) (.int .i64 4)).run Tryd.prog w = .ok x4 w := by kernel_rfl

def Rel2 (w wr : World) (b : Nat) (s : Sum) (i : Value) : Prop := ∃ t k : Nat, i = .int .i64 t ∧ t = 16 + k ∧ k ≤ 64 ∧ Hid (RowAt wr b (ext (base s.part 16) k ++ List.replicate (80 - t) 0)) ∧ Hid (Still w wr)
theorem rel2 {w wr : World} {b : Nat} {s : Sum} {i : Value} (t k : Nat) (h1 : i = .int .i64 t) (h2 : t = 16 + k) (h3 : k ≤ 64) (h4 : Hid (RowAt wr b (ext (base s.part 16) k ++ List.replicate (80 - t) 0))) (h5 : Hid (Still w wr)) : Rel2 w wr b s i := ⟨t, k, h1, h2, h3, h4, h5⟩

def Rel3 (w wr : World) (b : Nat) (W : List UInt32) (h : S5) (va vb vc vd ve i : Value) : Prop := ∃ (k : Nat) (t : S5), i = .int .i64 k ∧ k ≤ 80 ∧ t = st W h k ∧ va = .int .u32 t.a.toNat ∧ vb = .int .u32 t.b.toNat ∧ vc = .int .u32 t.c.toNat ∧ vd = .int .u32 t.d.toNat ∧ ve = .int .u32 t.e.toNat ∧
  Hid (RowAt wr b W) ∧ Hid (Still w wr)
theorem rel3 {w wr : World} {b : Nat} {W : List UInt32} {h : S5} {va vb vc vd ve i : Value} (k : Nat) (t : S5) (h0 : i = .int .i64 k) (h1 : k ≤ 80) (h2 : t = st W h k) (h3 : va = .int .u32 t.a.toNat) (h4 : vb = .int .u32 t.b.toNat) (h5 : vc = .int .u32 t.c.toNat) (h6 : vd = .int .u32 t.d.toNat)
    (h7 : ve = .int .u32 t.e.toNat) (h8 : Hid (RowAt wr b W)) (h9 : Hid (Still w wr)) : Rel3 w wr b W h va vb vc vd ve i := ⟨k, t, h0, h1, h2, h3, h4, h5, h6, h7, h8, h9⟩

/-- The first k fields added. -/
def plusK (k : Nat) (h t : S5) : S5 := ⟨if 0 < k then h.a + t.a else h.a, if 1 < k then h.b + t.b else h.b, if 2 < k then h.c + t.c else h.c, if 3 < k then h.d + t.d else h.d, if 4 < k then h.e + t.e else h.e⟩
def Rel4 (w wr : World) (p : Nat) (s : Sum) (t : S5) (i : Value) : Prop := ∃ k : Nat, i = .int .i64 k ∧ k ≤ 5 ∧ Hid (SumAt wr p ⟨plusK k s.h t, s.part, s.n⟩) ∧ Hid (Keeps (fun k => k = p) w wr)
theorem rel4 {w wr : World} {p : Nat} {s : Sum} {t : S5} {i : Value} (k : Nat) (h0 : i = .int .i64 k) (h1 : k ≤ 5) (h2 : Hid (SumAt wr p ⟨plusK k s.h t, s.part, s.n⟩)) (h3 : Hid (Keeps (fun k => k = p) w wr)) : Rel4 w wr p s t i := ⟨k, h0, h1, h2, h3⟩

set_option maxRecDepth 100000 in
set_option maxHeartbeats 8000000 in
theorem step_any (w : World) (p : Nat) (s : Sum) (h : SumAt w p s) :
    Calls Tryd.prog 18 #[.pointer (some ⟨p, 0, none⟩)] w fun e w' => e = .returned (.tuple #[]) ∧ SumAt w' p ⟨comp s.h s.part, s.part, s.n⟩ ∧ Keeps (fun k => k = p) w w' := by
  have HS := Lib.hid h
  clear h
  go_enter Tryd.func18, Tryd.ntmps18
  have hz := zero56
  go_wp2_with fail
  have hb : RowAt (w.alloc (.cells (ws zero80).toArray 56 (0, 0))) w.heap.size zero80 := heap_alloc_new _ _
  have hk : Still w (w.alloc (.cells (ws zero80).toArray 56 (0, 0))) := (Keeps.refl _ _).alloc _
  clear hz
  generalize w.alloc (.cells (ws zero80).toArray 56 (0, 0)) = w1 at hb hk ⊢
  obtain ⟨b, hbe⟩ : ∃ b, b = w.heap.size := ⟨_, rfl⟩
  rw [← hbe] at hb ⊢
  have HB := Lib.hid hb
  have HK := Lib.hid hk
  have HBE := Lib.hid hbe
  clear hb hk hbe
  go_loopw [16] (fun i wr => ∃ k : Nat, i = .int .i64 k ∧ k ≤ 16 ∧ Hid (RowAt wr b (base s.part k ++ List.replicate (80 - k) 0)) ∧ Hid (Still w wr)) (fun i _ => 16 - (intOf i).toNat)
  case atStart => exact ⟨0, rfl, by omega, HB, HK⟩
  case round =>
    obtain ⟨k, rfl, hk16, hrow, hst⟩ := hrel
    by_cases hlt : k < 16
    · have hs := HS.out.keeps hst.out id
      obtain ⟨q0, h0⟩ : ∃ q, q = s.part.getD (4 * k) 0 := ⟨_, rfl⟩
      obtain ⟨q1, h1⟩ : ∃ q, q = s.part.getD (4 * k + 1) 0 := ⟨_, rfl⟩
      obtain ⟨q2, h2⟩ : ∃ q, q = s.part.getD (4 * k + 2) 0 := ⟨_, rfl⟩
      obtain ⟨q3, h3⟩ : ∃ q, q = s.part.getD (4 * k + 3) 0 := ⟨_, rfl⟩
      have c0 := hs.part_cell (4 * k) (by omega)
      have c1 := hs.part_cell (4 * k + 1) (by omega)
      have c2 := hs.part_cell (4 * k + 2) (by omega)
      have c3 := hs.part_cell (4 * k + 3) (by omega)
      rw [← Nat.add_assoc] at c1 c2 c3
      rw [← h0] at c0
      rw [← h1] at c1
      rw [← h2] at c2
      rw [← h3] at c3
      have cw := hrow.out.cell k (by simp; omega)
      have fw := hrow.out.free k
      have hsl := slice44 wr p (4 * k) (4 * k) (by omega) (by omega)
      have H0 := Lib.hid h0
      have H1 := Lib.hid h1
      have H2 := Lib.hid h2
      have H3 := Lib.hid h3
      clear h0 h1 h2 h3 hs
      go_wp2_with fail
      go_region
      rw [word4_val]
      have hn := hrow.out.set k (word4 q0 q1 q2 q3)
      rw [set_next _ k 80 (length_base _ _) (by omega)] at hn
      have HN := Lib.hid (show RowAt (wr.setCell ⟨b, k, none⟩ (.int .u32 ((word4 q0 q1 q2 q3).toNat : Int))).drew b (base s.part (k + 1) ++ List.replicate (80 - (k + 1)) 0) by
        show RowAt (wr.setCell ⟨b, k, none⟩ (.int .u32 ((word4 q0 q1 q2 q3).toNat : Int))) b _
        have e : base s.part (k + 1) = base s.part k ++ [word4 q0 q1 q2 q3] := by rw [H0.out, H1.out, H2.out, H3.out]; rfl
        rw [e]
        exact hn)
      have HK2 := Lib.hid ((still_set hst.out HBE.out k (.int .u32 ((word4 q0 q1 q2 q3).toNat : Int))).drew)
      clear hn
      generalize word4 q0 q1 q2 q3 = x at HN HK2 ⊢
      generalize (wr.setCell ⟨b, k, none⟩ (.int .u32 (x.toNat : Int))).drew = w4 at HN HK2 ⊢
      go_wp2
      go_roundw
      case rel => exact ⟨k + 1, by simp, by omega, HN, HK2⟩
      case measure => simp [intOf]; omega
    · obtain rfl : k = 16 := by omega
      have hrow2 := Lib.hid (show RowAt wr b (ext (base s.part 16) 0 ++ List.replicate (80 - 16) 0) from hrow.out)
      go_wp2_with fail
      clear hrow HB HK
      go_loopw [5] (fun i wr => Rel2 w wr b s i) (fun i _ => 80 - (intOf i).toNat)
      case atStart => exact rel2 16 0 rfl rfl (by omega) hrow2 hst
      case round =>
        clear hrow2 hst hk16
        obtain ⟨t, k, rfl, ht, hk64, hrow, hst⟩ := hrel
        by_cases hlt : t < 80
        · have hlen : (ext (base s.part 16) k).length = t := by simp [ht]
          obtain ⟨L, hL⟩ : ∃ L, L = ext (base s.part 16) k := ⟨_, rfl⟩
          rw [← hL] at hlen hrow
          have hat : ∀ j, j < t → wr.cell? ⟨b, j, none⟩ = some (.int .u32 ((L.getD j 0).toNat : Int)) := by
            intro j hj
            have := hrow.out.cell j (by simp; omega)
            rw [List.getD_eq_getElem?_getD, List.getElem?_append_left (by omega)] at this
            rw [List.getD_eq_getElem?_getD]
            exact this
          obtain ⟨x3, e3⟩ : ∃ x, x = L.getD (t - 3) 0 := ⟨_, rfl⟩
          obtain ⟨x8, e8⟩ : ∃ x, x = L.getD (t - 8) 0 := ⟨_, rfl⟩
          obtain ⟨x14, e14⟩ : ∃ x, x = L.getD (t - 14) 0 := ⟨_, rfl⟩
          obtain ⟨x16, e16⟩ : ∃ x, x = L.getD (t - 16) 0 := ⟨_, rfl⟩
          obtain ⟨t3, q3⟩ : ∃ j, j = t - 3 := ⟨_, rfl⟩
          have c3 := hat t3 (by omega)
          rw [q3] at c3
          obtain ⟨t8, q8⟩ : ∃ j, j = t - 8 := ⟨_, rfl⟩
          have c8 := hat t8 (by omega)
          rw [q8] at c8
          obtain ⟨t14, q14⟩ : ∃ j, j = t - 14 := ⟨_, rfl⟩
          have c14 := hat t14 (by omega)
          rw [q14] at c14
          obtain ⟨t16, q16⟩ : ∃ j, j = t - 16 := ⟨_, rfl⟩
          have c16 := hat t16 (by omega)
          rw [q16] at c16
          rw [← e3, ← q3] at c3
          have f3 : IntKind.i64.wrap ((t : Int) - 3) = (t3 : Int) := by rw [IntWalk.i64_in _ (by omega)]; omega
          have l3 : (t3 : Int) < 80 := by omega
          rw [← e8, ← q8] at c8
          have f8 : IntKind.i64.wrap ((t : Int) - 8) = (t8 : Int) := by rw [IntWalk.i64_in _ (by omega)]; omega
          have l8 : (t8 : Int) < 80 := by omega
          rw [← e14, ← q14] at c14
          have f14 : IntKind.i64.wrap ((t : Int) - 14) = (t14 : Int) := by rw [IntWalk.i64_in _ (by omega)]; omega
          have l14 : (t14 : Int) < 80 := by omega
          rw [← e16, ← q16] at c16
          have f16 : IntKind.i64.wrap ((t : Int) - 16) = (t16 : Int) := by rw [IntWalk.i64_in _ (by omega)]; omega
          have l16 : (t16 : Int) < 80 := by omega
          have cw := hrow.out.cell t (by simp; omega)
          have fw := hrow.out.free t
          obtain ⟨y1, g1⟩ : ∃ y, y = x3 ^^^ x8 := ⟨_, rfl⟩
          obtain ⟨y2, g2⟩ : ∃ y, y = y1 ^^^ x14 := ⟨_, rfl⟩
          obtain ⟨y3, g3⟩ : ∃ y, y = y2 ^^^ x16 := ⟨_, rfl⟩
          have v1 : bits .xor .u32 (x3.toNat : Int) (x8.toNat : Int) = (y1.toNat : Int) := by rw [w_xor, g1]
          have v2 : bits .xor .u32 (y1.toNat : Int) (x14.toNat : Int) = (y2.toNat : Int) := by rw [w_xor, g2]
          have v3 : bits .xor .u32 (y2.toNat : Int) (x16.toNat : Int) = (y3.toNat : Int) := by rw [w_xor, g3]
          obtain ⟨z, hz⟩ : ∃ z, z = rotl y3 1 := ⟨_, rfl⟩
          have HX := Lib.hid (show z = nextW L by rw [hz, g3, g2, g1, e3, e8, e14, e16]; simp only [nextW, hlen])
          have HZ := Lib.hid hz
          clear hz
          have HLN := Lib.hid hlen
          have HLL := Lib.hid hL
          have HT := Lib.hid ht
          have ht16 : 16 ≤ t := by omega
          clear e3 e8 e14 e16 g1 g2 g3 hat hlen hL ht q3 q8 q14 q16
          go_wp2_with fail
          refine wp_region_still_tail 21 (by kernel_rfl) (by kernel_rfl) ?_
          change wpStill _ _ wr.drew _ _ _
          simp only [List.take_succ_cons, List.take_zero, List.drop_succ_cons, List.drop_zero]
          repeat still_step
          still_call (rot_still wr.drew y3 z 1 (Or.inl rfl) HZ.out)
          refine wpStill_nil ?_
          change wpList _ _ _ _ _ wr.drew
          have HN := Lib.hid (show RowAt (wr.drew.setCell ⟨b, t, none⟩ (.int .u32 (z.toNat : Int))) b (ext (base s.part 16) (k + 1) ++ List.replicate (80 - (t + 1)) 0) by
            have hn := RowAt.set (w := wr.drew) (show RowAt wr.drew b _ from hrow.out) t z
            rw [set_next _ t 80 HLN.out (by omega), HX.out, HLL.out] at hn
            rw [HX.out, HLL.out]
            exact hn)
          have HK2 := Lib.hid (still_set (hst.out.drew) HBE.out t (.int .u32 (z.toNat : Int)))
          go_wp2
          go_roundw
          case rel => ((repeat apply Exists.intro); exact ⟨rel2 (t + 1) (k + 1) rfl (by have := HT.out; omega) (by have := HT.out; omega) HN HK2, by and_intros <;> first | rfl | simp⟩)
          case measure => simp [intOf]; omega
        · obtain rfl : k = 64 := by omega
          subst ht
          have hrow2 := Lib.hid (show RowAt wr b (sched s.part) by have := hrow.out; simpa [sched] using this)
          clear hrow
          have hs := HS.out.keeps hst.out id
          have c0 := hs.h_cell 0 (by omega)
          have c1 := hs.h_cell 1 (by omega)
          have c2 := hs.h_cell 2 (by omega)
          have c3 := hs.h_cell 3 (by omega)
          have c4 := hs.h_cell 4 (by omega)
          change wr.cell? _ = some (.int .u32 (s.h.a.toNat : Int)) at c0
          change wr.cell? _ = some (.int .u32 (s.h.b.toNat : Int)) at c1
          change wr.cell? _ = some (.int .u32 (s.h.c.toNat : Int)) at c2
          change wr.cell? _ = some (.int .u32 (s.h.d.toNat : Int)) at c3
          change wr.cell? _ = some (.int .u32 (s.h.e.toNat : Int)) at c4
          clear hs
          go_wp2_with fail
          go_quiet (fail)
          have HR := Lib.hid (show RowAt (wr.drewN nq) b (sched s.part) from hrow2.out)
          have HK3 := Lib.hid (hst.out.drewN nq)
          clear hrow2 hst c0 c1 c2 c3 c4
          go_wp2_with fail
          go_loopw [6, 7, 8, 9, 10, 101] (fun va vb vc vd ve i wr => Rel3 w wr b (sched s.part) s.h va vb vc vd ve i) (fun _ _ _ _ _ i _ => 80 - (intOf i).toNat)
          case atStart => exact rel3 0 s.h rfl (by omega) rfl rfl rfl rfl rfl rfl HR HK3
          case round =>
            clear HR HK3
            obtain ⟨k, t, rfl, hk80, ht, rfl, rfl, rfl, rfl, rfl, hrow, hst⟩ := hrel
            obtain ⟨ta, tb, tc, td, te⟩ := t
            by_cases hlt : k < 80
            · obtain ⟨x, hx⟩ : ∃ x, x = (sched s.part).getD k 0 := ⟨_, rfl⟩
              have cx := hrow.out.cell k (by rw [length_sched]; exact hlt)
              rw [← hx] at cx
              obtain ⟨f, hf⟩ : ∃ f, f = mixf k tb tc td := ⟨_, rfl⟩
              obtain ⟨kk, hkk⟩ : ∃ f, f = mixk k := ⟨_, rfl⟩
              obtain ⟨z5, hz5⟩ : ∃ z, z = rotl ta 5 := ⟨_, rfl⟩
              obtain ⟨z30, hz30⟩ : ∃ z, z = rotl tb 30 := ⟨_, rfl⟩
              obtain ⟨s1, hs1⟩ : ∃ z, z = z5 + f := ⟨_, rfl⟩
              obtain ⟨s2, hs2⟩ : ∃ z, z = s1 + te := ⟨_, rfl⟩
              obtain ⟨s3, hs3⟩ : ∃ z, z = s2 + x := ⟨_, rfl⟩
              obtain ⟨s4, hs4⟩ : ∃ z, z = s3 + kk := ⟨_, rfl⟩
              have v1 : ((z5.toNat : Int) + (f.toNat : Int)) % 4294967296 = (s1.toNat : Int) := by rw [w_add_mod, hs1]
              have v2 : ((s1.toNat : Int) + (te.toNat : Int)) % 4294967296 = (s2.toNat : Int) := by rw [w_add_mod, hs2]
              have v3 : ((s2.toNat : Int) + (x.toNat : Int)) % 4294967296 = (s3.toNat : Int) := by rw [w_add_mod, hs3]
              have v4 : ((s3.toNat : Int) + (kk.toNat : Int)) % 4294967296 = (s4.toNat : Int) := by rw [w_add_mod, hs4]
              have u1 : IntKind.u32.wrap ((z5.toNat : Int) + (f.toNat : Int)) = (s1.toNat : Int) := by rw [w_add, hs1]
              have u2 : IntKind.u32.wrap ((s1.toNat : Int) + (te.toNat : Int)) = (s2.toNat : Int) := by rw [w_add, hs2]
              have u3 : IntKind.u32.wrap ((s2.toNat : Int) + (x.toNat : Int)) = (s3.toNat : Int) := by rw [w_add, hs3]
              have u4 : IntKind.u32.wrap ((s3.toNat : Int) + (kk.toNat : Int)) = (s4.toNat : Int) := by rw [w_add, hs4]
              have HT := Lib.hid (show (⟨s4, ta, z30, tc, td⟩ : S5) = st (sched s.part) s.h (k + 1) by
                show _ = rnd k ((sched s.part).getD k 0) (st (sched s.part) s.h k)
                rw [← ht, ← hx, hs4, hs3, hs2, hs1, hz5, hz30, hf, hkk]
                rfl)
              have HF := Lib.hid hf
              have HKK := Lib.hid hkk
              have H5 := Lib.hid hz5
              have H30 := Lib.hid hz30
              clear hf hkk hz5 hz30 hs1 hs2 hs3 hs4 ht hx
              go_wp2_with fail
              have hq := mix_any wr k tb tc td f kk hlt HF.out HKK.out
              refine hq.mono ?_
              clear hq
              rintro e w' ⟨rfl, rfl⟩
              go_wp2_with fail
              go_quiet (first | (go_at_call 25; with_reducible exact Calls.quiet_of_same (rot5 _ ta z5 H5.out)) | (go_at_call 25; with_reducible exact Calls.quiet_of_same (rot30 _ tb z30 H30.out)))
              trace_state
              have HR := Lib.hid (show RowAt (wr.drewN nq) b (sched s.part) from hrow.out)
              have HK3 := Lib.hid (hst.out.drewN nq)
              go_wp2
              go_roundw
              case rel => ((repeat apply Exists.intro); exact ⟨rel3 (k + 1) ⟨s4, ta, z30, tc, td⟩ rfl (by omega) HT.out rfl rfl rfl rfl rfl HR HK3, by and_intros <;> first | rfl | simp⟩)
              case measure => simp [intOf]; omega
            · obtain rfl : k = 80 := by omega
              have HTT := Lib.hid ht
              clear ht
              have HS3 := Lib.hid (show SumAt wr p ⟨plusK 0 s.h ⟨ta, tb, tc, td, te⟩, s.part, s.n⟩ from HS.out.keeps hst.out id)
              have HK4 := Lib.hid (show Keeps (fun k => k = p) w wr from hst.out.still)
              clear hrow hst
              go_wp2_with fail
              go_loopw [136] (fun i wr => Rel4 w wr p s ⟨ta, tb, tc, td, te⟩ i) (fun i _ => 5 - (intOf i).toNat)
              case atStart => exact rel4 0 rfl (by omega) HS3 HK4
              case round =>
                clear HS3 HK4
                obtain ⟨k, rfl, hk5, hsa, hkp⟩ := hrel
                by_cases hlt : k < 5
                · rcases (show k = 0 ∨ k = 1 ∨ k = 2 ∨ k = 3 ∨ k = 4 by omega) with rfl | rfl | rfl | rfl | rfl
                  · obtain ⟨x, hx⟩ : ∃ x, x = s.h.a := ⟨_, rfl⟩
                    obtain ⟨y, hy⟩ : ∃ y, y = x + ta := ⟨_, rfl⟩
                    have v1 : ((x.toNat : Int) + (ta.toNat : Int)) % 4294967296 = (y.toNat : Int) := by rw [w_add_mod, hy]
                    have v2 : IntKind.u32.wrap ((x.toNat : Int) + (ta.toNat : Int)) = (y.toNat : Int) := by rw [w_add, hy]
                    have cx : wr.cell? ⟨p, 0, none⟩ = some (.int .u32 (x.toNat : Int)) := by rw [hx]; exact hsa.out.h_cell 0 (by omega)
                    have fx := hsa.out.free 0
                    have hi := ix0 (.int .u32 ta.toNat) (.int .u32 tb.toNat) (.int .u32 tc.toNat) (.int .u32 td.toNat) (.int .u32 te.toNat)
                    have HN := Lib.hid (show SumAt (wr.drew.setCell ⟨p, 0, none⟩ (.int .u32 (y.toNat : Int))) p ⟨plusK 1 s.h ⟨ta, tb, tc, td, te⟩, s.part, s.n⟩ by
                      have hn := SumAt.seta (w := wr.drew) (show SumAt wr.drew p _ from hsa.out) y
                      rw [hy, hx] at hn ⊢
                      exact hn)
                    have HK5 := Lib.hid (hkp.out.drew.setCell (p := ⟨p, 0, none⟩) rfl (.int .u32 (y.toNat : Int)))
                    clear hsa hkp hx hy HS
                    go_wp2_with fail
                    go_region
                    go_wp2
                    go_roundw
                    case rel => first | exact rel4 1 rfl (by omega) HN HK5 | ((repeat apply Exists.intro); exact ⟨rel4 1 rfl (by omega) HN HK5, by and_intros <;> first | rfl | simp⟩)
                    case measure => simp [intOf]
                  · obtain ⟨x, hx⟩ : ∃ x, x = s.h.b := ⟨_, rfl⟩
                    obtain ⟨y, hy⟩ : ∃ y, y = x + tb := ⟨_, rfl⟩
                    have v1 : ((x.toNat : Int) + (tb.toNat : Int)) % 4294967296 = (y.toNat : Int) := by rw [w_add_mod, hy]
                    have v2 : IntKind.u32.wrap ((x.toNat : Int) + (tb.toNat : Int)) = (y.toNat : Int) := by rw [w_add, hy]
                    have cx : wr.cell? ⟨p, 1, none⟩ = some (.int .u32 (x.toNat : Int)) := by rw [hx]; exact hsa.out.h_cell 1 (by omega)
                    have fx := hsa.out.free 1
                    have hi := ix1 (.int .u32 ta.toNat) (.int .u32 tb.toNat) (.int .u32 tc.toNat) (.int .u32 td.toNat) (.int .u32 te.toNat)
                    have HN := Lib.hid (show SumAt (wr.drew.setCell ⟨p, 1, none⟩ (.int .u32 (y.toNat : Int))) p ⟨plusK 2 s.h ⟨ta, tb, tc, td, te⟩, s.part, s.n⟩ by
                      have hn := SumAt.setb (w := wr.drew) (show SumAt wr.drew p _ from hsa.out) y
                      rw [hy, hx] at hn ⊢
                      exact hn)
                    have HK5 := Lib.hid (hkp.out.drew.setCell (p := ⟨p, 1, none⟩) rfl (.int .u32 (y.toNat : Int)))
                    clear hsa hkp hx hy HS
                    go_wp2_with fail
                    go_region
                    go_wp2
                    go_roundw
                    case rel => first | exact rel4 2 rfl (by omega) HN HK5 | ((repeat apply Exists.intro); exact ⟨rel4 2 rfl (by omega) HN HK5, by and_intros <;> first | rfl | simp⟩)
                    case measure => simp [intOf]
                  · obtain ⟨x, hx⟩ : ∃ x, x = s.h.c := ⟨_, rfl⟩
                    obtain ⟨y, hy⟩ : ∃ y, y = x + tc := ⟨_, rfl⟩
                    have v1 : ((x.toNat : Int) + (tc.toNat : Int)) % 4294967296 = (y.toNat : Int) := by rw [w_add_mod, hy]
                    have v2 : IntKind.u32.wrap ((x.toNat : Int) + (tc.toNat : Int)) = (y.toNat : Int) := by rw [w_add, hy]
                    have cx : wr.cell? ⟨p, 2, none⟩ = some (.int .u32 (x.toNat : Int)) := by rw [hx]; exact hsa.out.h_cell 2 (by omega)
                    have fx := hsa.out.free 2
                    have hi := ix2 (.int .u32 ta.toNat) (.int .u32 tb.toNat) (.int .u32 tc.toNat) (.int .u32 td.toNat) (.int .u32 te.toNat)
                    have HN := Lib.hid (show SumAt (wr.drew.setCell ⟨p, 2, none⟩ (.int .u32 (y.toNat : Int))) p ⟨plusK 3 s.h ⟨ta, tb, tc, td, te⟩, s.part, s.n⟩ by
                      have hn := SumAt.setc (w := wr.drew) (show SumAt wr.drew p _ from hsa.out) y
                      rw [hy, hx] at hn ⊢
                      exact hn)
                    have HK5 := Lib.hid (hkp.out.drew.setCell (p := ⟨p, 2, none⟩) rfl (.int .u32 (y.toNat : Int)))
                    clear hsa hkp hx hy HS
                    go_wp2_with fail
                    go_region
                    go_wp2
                    go_roundw
                    case rel => first | exact rel4 3 rfl (by omega) HN HK5 | ((repeat apply Exists.intro); exact ⟨rel4 3 rfl (by omega) HN HK5, by and_intros <;> first | rfl | simp⟩)
                    case measure => simp [intOf]
                  · obtain ⟨x, hx⟩ : ∃ x, x = s.h.d := ⟨_, rfl⟩
                    obtain ⟨y, hy⟩ : ∃ y, y = x + td := ⟨_, rfl⟩
                    have v1 : ((x.toNat : Int) + (td.toNat : Int)) % 4294967296 = (y.toNat : Int) := by rw [w_add_mod, hy]
                    have v2 : IntKind.u32.wrap ((x.toNat : Int) + (td.toNat : Int)) = (y.toNat : Int) := by rw [w_add, hy]
                    have cx : wr.cell? ⟨p, 3, none⟩ = some (.int .u32 (x.toNat : Int)) := by rw [hx]; exact hsa.out.h_cell 3 (by omega)
                    have fx := hsa.out.free 3
                    have hi := ix3 (.int .u32 ta.toNat) (.int .u32 tb.toNat) (.int .u32 tc.toNat) (.int .u32 td.toNat) (.int .u32 te.toNat)
                    have HN := Lib.hid (show SumAt (wr.drew.setCell ⟨p, 3, none⟩ (.int .u32 (y.toNat : Int))) p ⟨plusK 4 s.h ⟨ta, tb, tc, td, te⟩, s.part, s.n⟩ by
                      have hn := SumAt.setd (w := wr.drew) (show SumAt wr.drew p _ from hsa.out) y
                      rw [hy, hx] at hn ⊢
                      exact hn)
                    have HK5 := Lib.hid (hkp.out.drew.setCell (p := ⟨p, 3, none⟩) rfl (.int .u32 (y.toNat : Int)))
                    clear hsa hkp hx hy HS
                    go_wp2_with fail
                    go_region
                    go_wp2
                    go_roundw
                    case rel => first | exact rel4 4 rfl (by omega) HN HK5 | ((repeat apply Exists.intro); exact ⟨rel4 4 rfl (by omega) HN HK5, by and_intros <;> first | rfl | simp⟩)
                    case measure => simp [intOf]
                  · obtain ⟨x, hx⟩ : ∃ x, x = s.h.e := ⟨_, rfl⟩
                    obtain ⟨y, hy⟩ : ∃ y, y = x + te := ⟨_, rfl⟩
                    have v1 : ((x.toNat : Int) + (te.toNat : Int)) % 4294967296 = (y.toNat : Int) := by rw [w_add_mod, hy]
                    have v2 : IntKind.u32.wrap ((x.toNat : Int) + (te.toNat : Int)) = (y.toNat : Int) := by rw [w_add, hy]
                    have cx : wr.cell? ⟨p, 4, none⟩ = some (.int .u32 (x.toNat : Int)) := by rw [hx]; exact hsa.out.h_cell 4 (by omega)
                    have fx := hsa.out.free 4
                    have hi := ix4 (.int .u32 ta.toNat) (.int .u32 tb.toNat) (.int .u32 tc.toNat) (.int .u32 td.toNat) (.int .u32 te.toNat)
                    have HN := Lib.hid (show SumAt (wr.drew.setCell ⟨p, 4, none⟩ (.int .u32 (y.toNat : Int))) p ⟨plusK 5 s.h ⟨ta, tb, tc, td, te⟩, s.part, s.n⟩ by
                      have hn := SumAt.sete (w := wr.drew) (show SumAt wr.drew p _ from hsa.out) y
                      rw [hy, hx] at hn ⊢
                      exact hn)
                    have HK5 := Lib.hid (hkp.out.drew.setCell (p := ⟨p, 4, none⟩) rfl (.int .u32 (y.toNat : Int)))
                    clear hsa hkp hx hy HS
                    go_wp2_with fail
                    go_region
                    go_wp2
                    go_roundw
                    case rel => first | exact rel4 5 rfl (by omega) HN HK5 | ((repeat apply Exists.intro); exact ⟨rel4 5 rfl (by omega) HN HK5, by and_intros <;> first | rfl | simp⟩)
                    case measure => simp [intOf]
                · obtain rfl : k = 5 := by omega
                  have HN := Lib.hid (show SumAt wr p ⟨comp s.h s.part, s.part, s.n⟩ by
                    have := hsa.out
                    unfold comp
                    rw [← HTT.out]
                    exact this)
                  clear hsa
                  go_wp2_with fail
                  go_end0
                  exact ⟨rfl, HN.out, hkp.out⟩
end Go.Proofs.YtogojfmaiphiaaaDoor
