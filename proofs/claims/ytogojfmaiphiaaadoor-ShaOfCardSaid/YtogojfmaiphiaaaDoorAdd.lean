/- Bytes are added: the contract of Add. -/
import Derived.Test.YtogojfmaiphiaaaDoorLaw
import Derived.Test.YtogojfmaiphiaaaDoorStep
namespace Go.Proofs.YtogojfmaiphiaaaDoor
open Go.RowKit

theorem sz5 : (Tryd.prog.info? 5).map (·.size) = some 1 := by kernel_rfl
theorem el25 : Tryd.prog.elem 25 = 5 := by kernel_rfl
theorem un25 : Tryd.prog.underlying 25 = some (.slice (Tryd.prog.elem 25)) := by kernel_rfl
/-- b[m:]. -/
theorem slice25 (w : World) (g off n cap m : Nat) (hm : m ≤ n) :
    (Instr.slice 25 (.slice (some ⟨g, off, none⟩) n cap) (some (.int .i64 m)) none none).run Tryd.prog w = .ok (.slice (some ⟨g, if cap = m then off else off + m, none⟩) (n - m) (cap - m)) w := by
  rw [run_slice_l w 25 _ n cap un25 .i64 m (by omega) (by omega), el25, size5]
  simp only [Result.andThen_ok, Int.toNat_natCast, sliced, Nat.mul_one, Option.map_some]
  by_cases h : cap = m
  · rw [if_pos h, if_pos h]
  · rw [if_neg h, if_neg h, Addr.add_lit]
theorem SumAt.set_n {w : World} {p : Nat} {s : Sum} (h : SumAt w p s) (n : Nat) : SumAt (w.setCell ⟨p, 69, none⟩ (.int .u64 (n : Int))) p ⟨s.h, s.part, n⟩ := by
  refine ⟨h.1, ?_⟩
  rw [heap_setCell_same w p 69 _ _ _ h.2, List.setIfInBounds_toArray]
  have h5 : (ws s.h.list).length = 5 := by simp [S5.list]
  have hb : (bts s.part).length = 64 := by rw [length_bts, h.1]
  congr 3
  unfold cellsSum
  rw [List.set_append_right _ _ (by omega), h5, List.set_append_right _ _ (by omega), hb]
  rfl

theorem copied {w : World} {p a : Nat} {s : Sum} {c : List UInt8} (h : Hid (w.heap[p]? = some (.cells (splice (cellsSum s) (5 + a) (bts c)).toArray 46 (0, 0)))) (hp : s.part.length = 64) (hi : a + c.length ≤ 64) : SumAt w p ⟨s.h, over s.part a c, s.n⟩ := by
  have h' := h.out
  rw [cells_over s a c hp hi] at h'
  exact ⟨by rw [length_over _ _ _ (by omega)]; exact hp, h'⟩

def RelA (w wr : World) (p : Nat) (s : Sum) (l : List UInt8) (n cap : Nat) (x : Value) : Prop := ∃ (k : Nat) (A : Option Addr), k ≤ n ∧ x = .slice A (n - k) (cap - k) ∧ (∀ ad, A = some ad → ad.block ≠ p) ∧ Hid (SliceOf wr A (n - k) (l.drop k)) ∧ Hid (SumAt wr p (s.add (l.take k))) ∧ Hid (Keeps (fun k => k = p) w wr)
theorem relA {w wr : World} {p : Nat} {s : Sum} {l : List UInt8} {n cap : Nat} {x : Value} (k : Nat) (A : Option Addr) (h1 : k ≤ n) (h2 : x = .slice A (n - k) (cap - k)) (h3 : ∀ ad, A = some ad → ad.block ≠ p) (h4 : Hid (SliceOf wr A (n - k) (l.drop k))) (h5 : Hid (SumAt wr p (s.add (l.take k))))
    (h6 : Hid (Keeps (fun k => k = p) w wr)) : RelA w wr p s l n cap x := ⟨k, A, h1, h2, h3, h4, h5, h6⟩

set_option maxRecDepth 100000 in
set_option maxHeartbeats 8000000 in
theorem add_any (w : World) (p : Nat) (s : Sum) (l : List UInt8) (A : Option Addr) (n cap : Nat) (h : SumAt w p s) (hs : SliceOf w A n l) (hcap : n ≤ cap) (hA : ∀ ad, A = some ad → ad.block ≠ p) (hb : s.n + n ≤ 1000000000) :
    Calls Tryd.prog 11 #[.pointer (some ⟨p, 0, none⟩), .slice A n cap] w fun e w' => e = .returned (.tuple #[]) ∧ SumAt w' p (s.add l) ∧ Keeps (fun k => k = p) w w' := by
  have hl := hs.1
  have HS := Lib.hid h
  have HL := Lib.hid hs
  clear h hs
  go_enter Tryd.func11, Tryd.ntmps11
  go_wp2_with fail
  go_loopw [1] (fun x wr => RelA w wr p s l n cap x) (fun x _ => match x with | .slice _ k _ => k | _ => 0)
  case atStart => exact relA 0 A (Nat.zero_le _) rfl hA HL HS (Keeps.refl _ _)
  case round =>
    obtain ⟨k, B, hk, rfl, hB, hsl, hsum, hkp⟩ := hrel
    by_cases hlt : k < n
    · obtain ⟨s', hs'⟩ : ∃ s', s' = s.add (l.take k) := ⟨_, rfl⟩
      rw [← hs'] at hsum
      have hn' : s'.n = s.n + k := by rw [hs', Sum.n_add, List.length_take]; omega
      obtain ⟨n0, hn0⟩ : ∃ n0, n0 = s'.n := ⟨_, rfl⟩
      obtain ⟨a, ha⟩ : ∃ a, a = n0 % 64 := ⟨_, rfl⟩
      have ha64 : a < 64 := by omega
      obtain ⟨m, hm⟩ : ∃ m, m = min (n - k) (64 - a) := ⟨_, rfl⟩
      have hm1 : 0 < m ∧ m ≤ n - k ∧ a + m ≤ 64 := by omega
      obtain ⟨g, off, rfl, hg, hcell⟩ := hsl.out.2 (by omega)
      have cn := hsum.out.n_cell
      rw [← hn0] at cn
      have e1 : (n0 : Int) % 64 = (a : Int) := by omega
      have hd := slice44 wr p a a rfl ha64
      have e2 : IntKind.i64.wrap (a : Int) = (a : Int) := IntWalk.i64_in _ (by omega)
      have e3 : IntKind.u64.wrap (m : Int) = (m : Int) := by rw [IntKind.wrap_u64]; omega
      obtain ⟨n1, hn1⟩ : ∃ n1, n1 = n0 + m := ⟨_, rfl⟩
      have e4 : (n0 : Int) + (m : Int) = (n1 : Int) := by omega
      have e5 : n1 ≤ 1000000000 := by omega
      have HN' := Lib.hid hn'
      have HS' := Lib.hid hs'
      have HN0 := Lib.hid hn0
      have HN1 := Lib.hid hn1
      have HA := Lib.hid ha
      have HM := Lib.hid hm
      have hkn : 0 < n - k := by omega
      have hsrc := hsl.out.source m
      have hld : (l.drop k).length = n - k := hsl.out.1
      have HLD := Lib.hid hld
      have HSRC := Lib.hid (hsrc (by rw [length_bts, List.length_take, hld]; omega))
      have HBC := Lib.hid (show (bts ((l.drop k).take m)).length = m by rw [length_bts, List.length_take]; omega)
      have hgp : g ≠ p := by simpa using hB ⟨g, off, none⟩ rfl
      obtain ⟨off', hoff⟩ : ∃ o, o = if cap - k = m then off else off + m := ⟨_, rfl⟩
      have hsl2 : ∀ w', (Instr.slice 25 (.slice (some ⟨g, off, none⟩) (n - k) (cap - k)) (some (.int .i64 m)) none none).run Tryd.prog w' = .ok (.slice (some ⟨g, off', none⟩) (n - k - m) (cap - k - m)) w' := fun w' => by rw [hoff]; exact slice25 w' g off (n - k) (cap - k) m hm1.2.1
      have HOFF := Lib.hid (show m < n - k → some (⟨g, off', none⟩ : Addr) = (some (⟨g, off, none⟩ : Addr)).map (·.add m) from fun h => by rw [hoff, if_neg (by omega)]; simp [Addr.add_lit])
      clear hoff
      have HM2 := Lib.hid (show m = Nat.min (n - k) (64 - a) from hm)
      have HCUR := Lib.hid (show wr.heap[p]? = some (.cells (cellsSum s').toArray 46 (0, 0)) from hsum.out.2)
      have HFIT := Lib.hid (show 5 + a + m ≤ (cellsSum s').length by have := hsum.out.1; simp [cellsSum, S5.list]; omega)
      clear hn' hs' hn0 ha hm hn1 hsrc hld hB hcell
      have HP := Lib.hid hsum.out.1
      have hlc : ((l.drop k).take m).length = m := by rw [List.length_take, HLD.out]; omega
      obtain ⟨c, hc⟩ : ∃ c, c = (l.drop k).take m := ⟨_, rfl⟩
      rw [← hc] at hlc
      have HI := Lib.hid (show a + c.length ≤ 64 by omega)
      rw [← hc] at HSRC HBC
      have HLC := Lib.hid hlc
      have HC := Lib.hid hc
      clear hc hlc
      have HX := Lib.hid (show s.add (l.take (k + m)) = ⟨if a + m = 64 then comp s'.h (over s'.part a c) else s'.h, over s'.part a c, n1⟩ by
        rw [List.take_add, Sum.add_append, ← HS'.out, ← HC.out, Sum.add_over c s' HP.out (by rw [HLC.out]; omega) (by rw [HLC.out, ← HN0.out, ← HA.out]; omega), HLC.out, ← HN0.out, ← HA.out, ← HN1.out])
      by_cases hfull : a + m = 64
      · go_wp2_with (with_reducible refine wpList_copy_keeps (o := ⟨some 21, _, _, _, _, _⟩) rfl (.tmp 19) (.tmp 20) 25 25 rfl 5 Tryd.underlying25 sz5 _ _ _ _ _ _ rfl rfl p (5 + a) (cellsSum s') 46 HCUR.out (bts c) m HBC.out HM2.out (fun h0 => ⟨rfl, HSRC.out⟩) HFIT.out (bts_one _) ?_; intro w2 HO2 hk2; have hs2 := Lib.hid (copied HO2 HP.out HI.out); have cn2 : w2.cell? ⟨p, 69, none⟩ = some (.int .u64 (n0 : Int)) := (by rw [HN0.out]; exact hs2.out.n_cell); have fn2 := hs2.out.free 69)
        have hs3 := SumAt.set_n hs2.out n1
        have hk3 := hk2.setCell (p := ⟨p, 69, none⟩) rfl (.int .u64 (n1 : Int))
        generalize w2.setCell ⟨p, 69, none⟩ (.int .u64 (n1 : Int)) = w3 at hs3 hk3 ⊢
        have hq := step_any w3 p _ hs3
        refine hq.mono ?_
        clear hq
        rintro e w4 ⟨rfl, hs4, hk4⟩
        have hk5 := hk3.trans hk4
        have HR1 := Lib.hid (show SliceOf w4 (some ⟨g, off', none⟩) (n - (k + m)) (l.drop (k + m)) by
          have := (hsl.out.keeps hk5 (by intro ad h; cases h; exact hgp)).cut m hm1.2.1 HOFF.out
          rwa [Nat.sub_sub, List.drop_drop] at this)
        have HR2 := Lib.hid (show SumAt w4 p (s.add (l.take (k + m))) by rw [HX.out, if_pos hfull]; exact hs4)
        have HR3 := Lib.hid (hkp.out.trans hk5)
        clear hs4 hk5 hk2 hs2 cn2 fn2 HO2 hk3 hk4
        go_wp2_with fail
        go_roundw
        case rel => first | exact relA (k + m) _ (by omega) (by rw [Nat.sub_sub, Nat.sub_sub]) (by intro ad h; cases h; exact hgp) HR1 HR2 HR3 | ((repeat apply Exists.intro); exact ⟨relA (k + m) _ (by omega) (by rw [Nat.sub_sub, Nat.sub_sub]) (by intro ad h; cases h; exact hgp) HR1 HR2 HR3, by and_intros <;> first | rfl | simp⟩)
        case measure => simp; omega
      · go_wp2_with (with_reducible refine wpList_copy_keeps (o := ⟨some 21, _, _, _, _, _⟩) rfl (.tmp 19) (.tmp 20) 25 25 rfl 5 Tryd.underlying25 sz5 _ _ _ _ _ _ rfl rfl p (5 + a) (cellsSum s') 46 HCUR.out (bts c) m HBC.out HM2.out (fun h0 => ⟨rfl, HSRC.out⟩) HFIT.out (bts_one _) ?_; intro w2 HO2 hk2; have hs2 := Lib.hid (copied HO2 HP.out HI.out); have cn2 : w2.cell? ⟨p, 69, none⟩ = some (.int .u64 (n0 : Int)) := (by rw [HN0.out]; exact hs2.out.n_cell); have fn2 := hs2.out.free 69)
        have hs4 := SumAt.set_n hs2.out n1
        have hk5 := hk2.setCell (p := ⟨p, 69, none⟩) rfl (.int .u64 (n1 : Int))
        generalize w2.setCell ⟨p, 69, none⟩ (.int .u64 (n1 : Int)) = w4 at hs4 hk5 ⊢
        have HR1 := Lib.hid (show SliceOf w4 (some ⟨g, off', none⟩) (n - (k + m)) (l.drop (k + m)) by
          have := (hsl.out.keeps hk5 (by intro ad h; cases h; exact hgp)).cut m hm1.2.1 HOFF.out
          rwa [Nat.sub_sub, List.drop_drop] at this)
        have HR2 := Lib.hid (show SumAt w4 p (s.add (l.take (k + m))) by rw [HX.out, if_neg hfull]; exact hs4)
        have HR3 := Lib.hid (hkp.out.trans hk5)
        clear hs4 hk5 hk2 hs2 cn2 fn2 HO2
        go_wp2_with fail
        go_roundw
        case rel => first | exact relA (k + m) _ (by omega) (by rw [Nat.sub_sub, Nat.sub_sub]) (by intro ad h; cases h; exact hgp) HR1 HR2 HR3 | ((repeat apply Exists.intro); exact ⟨relA (k + m) _ (by omega) (by rw [Nat.sub_sub, Nat.sub_sub]) (by intro ad h; cases h; exact hgp) HR1 HR2 HR3, by and_intros <;> first | rfl | simp⟩)
        case measure => simp; omega
    · obtain rfl : k = n := by omega
      have HF := Lib.hid (show SumAt wr p (s.add l) by have := hsum.out; rwa [List.take_of_length_le (by omega)] at this)
      clear hsum
      go_wp2_with fail
      go_end0
      exact ⟨rfl, HF.out, hkp.out⟩
end Go.Proofs.YtogojfmaiphiaaaDoor
