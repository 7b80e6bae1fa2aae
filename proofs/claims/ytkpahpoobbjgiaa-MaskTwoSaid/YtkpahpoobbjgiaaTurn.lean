/- The contracts of Key and Apply, and the plain law of turning. -/
import Derived.Test.YtkpahpoobbjgiaaPut
import Derived.RegionTactic
namespace Go.Proofs.Ytkpahpoobbjgiaa
open Go.RowKit

/-- Bytes as a mask turns them. -/
def applyL (ks : List UInt8) (p : Nat) (l : List UInt8) : List UInt8 := l.mapIdx fun i c => c ^^^ ks.getD ((p + i) % 4) 0
@[simp] theorem length_applyL (ks : List UInt8) (p : Nat) (l : List UInt8) : (applyL ks p l).length = l.length := by simp [applyL]
theorem applyL_one (ks : List UInt8) (p : Nat) (l : List UInt8) (c : UInt8) : applyL ks p (l ++ [c]) = applyL ks p l ++ [c ^^^ ks.getD ((p + l.length) % 4) 0] := by simp [applyL, List.mapIdx_append]
theorem applyL_append (ks : List UInt8) (p : Nat) (a b : List UInt8) : applyL ks p (a ++ b) = applyL ks p a ++ applyL ks (p + a.length) b := by
  unfold applyL
  rw [List.mapIdx_append]
  congr 2
  funext i c
  congr 3
  omega
theorem applyL_mod (ks : List UInt8) (p q : Nat) (h : p % 4 = q % 4) (l : List UInt8) : applyL ks p l = applyL ks q l := by
  unfold applyL
  congr 1
  funext i c
  congr 2
  omega
theorem applyL_two (a b c : List UInt8) (p : Nat) (l : List UInt8) (h : ∀ i, i < 4 → c.getD i 0 = a.getD i 0 ^^^ b.getD i 0) : applyL b p (applyL a p l) = applyL c p l := by
  apply List.ext_getElem (by simp)
  intro i h1 h2
  simp only [applyL, List.getElem_mapIdx]
  rw [h _ (Nat.mod_lt _ (by omega)), UInt8.xor_assoc]
theorem applyL_zero (ks : List UInt8) (p : Nat) (l : List UInt8) (h : ∀ i, i < 4 → ks.getD i 0 = 0) : applyL ks p l = l := by
  apply List.ext_getElem (by simp)
  intro i h1 h2
  simp only [applyL, List.getElem_mapIdx]
  rw [h _ (Nat.mod_lt _ (by omega)), UInt8.xor_zero]
theorem applyL_back (ks : List UInt8) (p : Nat) (l : List UInt8) : applyL ks p (applyL ks p l) = l := by
  rw [applyL_two ks ks [0, 0, 0, 0] p l (by
    intro i hi
    rw [UInt8.xor_self]
    match i, hi with
    | 0, _ => rfl
    | 1, _ => rfl
    | 2, _ => rfl
    | 3, _ => rfl)]
  exact applyL_zero _ p l (by
    intro i hi
    match i, hi with
    | 0, _ => rfl
    | 1, _ => rfl
    | 2, _ => rfl
    | 3, _ => rfl)

theorem and3 (n : Int) : bits .and .i64 n 3 = n % 4 := by
  have h3 : (BitVec.ofInt 64 3).toNat = 2 ^ 2 - 1 := by decide
  have key : (BitVec.ofInt 64 n &&& BitVec.ofInt 64 3).toNat = (n % ((2 ^ 64 : Nat) : Int)).toNat % 2 ^ 2 := by
    rw [BitVec.toNat_and, BitVec.toNat_ofInt, h3, Nat.and_two_pow_sub_one_eq_mod]
  show IntKind.i64.wrap ((BitVec.ofInt 64 n &&& BitVec.ofInt 64 3).toNat : Nat) = n % 4
  rw [key, IntKind.wrap_i64]
  omega

theorem key_any (w : World) (n : Nat) (hn : n < 4294967296) :
    Calls Try.prog 17 #[.int .u32 n] w fun e w' => e = .returned (.agg #[.int .u8 ((n : Int) / 16777216), .int .u8 ((n : Int) / 65536 % 256), .int .u8 ((n : Int) / 256 % 256), .int .u8 ((n : Int) % 256)]) ∧ Still w w' := by
  go_enter Try.func17, Try.ntmps17
  go_wp2
  refine bodyPost_ret (v := .agg #[.int .u8 ((n : Int) / 16777216), .int .u8 ((n : Int) / 65536 % 256), .int .u8 ((n : Int) / 256 % 256), .int .u8 ((n : Int) % 256)]) (by simp [results, Try.results17, go_sem]) rfl ⟨rfl, (Keeps.refl _ w).alloc _⟩

/-- The cells of an array of four bytes. -/
theorem key_cell (w : World) (ks : List UInt8) (j : Nat) (hj : j < ks.length) (t : TypeId) :
    (w.alloc (.cells (bts ks).toArray t (0, 0))).cell? ⟨w.heap.size, j, none⟩ = some (.int .u8 ((ks.getD j 0).toNat : Int)) := by
  rw [cell_of_row _ _ j _ _ _ (heap_alloc_new w _), List.getElem?_toArray, bts_at ks j hj, List.getD_eq_getElem?_getD, List.getElem?_eq_getElem hj]
  rfl

/-- The room of a turn: so many bytes done, noughts behind. -/
def Part (w : World) (g : Nat) (l : List UInt8) (n : Nat) : Prop := w.heap[g]? = some (.cells (bts l ++ List.replicate (n - l.length) (Value.int .u8 0)).toArray 5 (0, 0))
theorem Part.next {w : World} {g : Nat} {l : List UInt8} {n : Nat} (h : Part w g l n) (hn : l.length < n) (c : UInt8) (v : Value) (hv : v = .int .u8 (c.toNat : Int)) :
    Part (w.setCell ⟨g, l.length, none⟩ v) g (l ++ [c]) n := by
  unfold Part at h ⊢
  rw [row_set h, hv]
  congr 3
  rw [List.set_append_right _ _ (by simp), List.length_append, List.length_singleton]
  obtain ⟨m, hm⟩ : ∃ m, n - l.length = m + 1 := ⟨n - l.length - 1, by omega⟩
  rw [hm, show n - (l.length + 1) = m by omega]
  simp [bts, List.replicate_succ]

set_option maxHeartbeats 1000000 in
theorem apply_any (w : World) (ks l : List UInt8) (kv : Array Value) (z : Int) (p : Nat) (A : Option Addr) (n cap : Nat) (hkv : kv = (bts ks).toArray) (hks : ks.length = 4) (hs : SliceOf w A n l) (hn : n ≤ 1000) (hp : (p : Int) = z % 4) :
    Calls Try.prog 11 #[.agg kv, .int .i64 z, .slice A n cap] w fun e w' => e = .returned (.slice (some ⟨w.heap.size + 1, 0, none⟩) n n) ∧
      w'.heap[w.heap.size + 1]? = some (.cells (bts (applyL ks p l)).toArray 5 (0, 0)) ∧ Still w w' := by
  match ks, hks with
  | [k0, k1, k2, k3], _ =>
  subst hkv
  have hz := and3 z
  rw [← hp] at hz
  have hp4 : p < 4 := by omega
  have hkc := fun (j : Nat) (hj : j < 4) => key_cell w [k0, k1, k2, k3] j hj 22
  have HKC := Lib.hid hkc
  have HP := Lib.hid hp
  clear hp hkc
  go_enter Try.func11, Try.ntmps11
  go_wp2_with (at_make; refine wpList_zeros rfl _ _ 24 rfl 5 Try.underlying24 info5 .i64 .i64 _ _ n rfl rfl rfl rfl (by omega) ?_; intro w1 hk hz1 hb)
  go_loopw [16] (fun i wr => ∃ k : Nat, i = .int .i64 k ∧ k ≤ n ∧ Hid (Part wr (w.heap.size + 1) (applyL [k0, k1, k2, k3] p (l.take k)) n) ∧ Keeps (fun k => k = w.heap.size + 1) w1 wr) (fun i _ => n - (intOf i).toNat)
  case atStart =>
    refine ⟨0, rfl, by omega, ?_, Keeps.refl _ _⟩
    have := hb.out
    rw [show (w.alloc (.cells (bts [k0, k1, k2, k3]).toArray 22 (0, 0))).heap.size = w.heap.size + 1 by simp] at this
    show _ = _
    rw [this]
    simp [applyL, bts]
  case round =>
    obtain ⟨k, rfl, hkn, hpart, hkr⟩ := hrel
    have hkw : Still (w.alloc (.cells (bts [k0, k1, k2, k3]).toArray 22 (0, 0))) wr := ⟨hkr.os.trans hk.os, hkr.tape.trans hk.tape, hkr.output.trans hk.output, Nat.le_trans hk.size hkr.size, fun i hi _ => by
      have hi' : i < w.heap.size + 1 := by simpa using hi
      have := hk.size
      rw [hkr.block i (by omega) (by omega), hk.block i hi id]⟩
    by_cases hlt : k < n
    · obtain ⟨j, hj⟩ : ∃ j, j = (p + k) % 4 := ⟨_, rfl⟩
      have hj4 : j < 4 := by omega
      have hnd := and3 ((p : Int) + k)
      rw [show ((p : Int) + k) % 4 = (j : Int) by omega] at hnd
      obtain ⟨g, off, rfl, hg, hcell⟩ := hs.2 (by omega)
      have hkl : k < l.length := by rw [hs.1]; exact hlt
      obtain ⟨c, hc⟩ : ∃ c, c = l[k] := ⟨_, rfl⟩
      obtain ⟨q, hq⟩ : ∃ q, q = [k0, k1, k2, k3].getD j 0 := ⟨_, rfl⟩
      have c1 : wr.cell? ⟨g, off + k, none⟩ = some (.int .u8 (c.toNat : Int)) := by
        rw [hc]
        exact hkw.cell (((Keeps.refl (fun _ => False) w).alloc _).cell (hcell k hkl) id) id
      have c2 : wr.cell? ⟨w.heap.size, j, none⟩ = some (.int .u8 (q.toNat : Int)) := by
        rw [hq]
        exact hkw.cell (HKC.out j hj4) id
      have hlen : (applyL [k0, k1, k2, k3] p (l.take k)).length = k := by rw [length_applyL, List.length_take]; omega
      have c3 : wr.cell? ⟨w.heap.size + 1, k, none⟩ = some (.int .u8 0) := by
        rw [cell_of_row wr _ k _ _ _ hpart.out, List.getElem?_toArray, List.getElem?_append_right (by rw [length_bts, hlen]; exact Nat.le_refl _), length_bts, hlen, Nat.sub_self, List.getElem?_replicate, if_pos (by omega)]
      have c4 : wr.frozen? ⟨w.heap.size + 1, k, none⟩ = false := frozen_of_row wr _ k _ 5 hpart.out
      have hx := u8_xor_nat c.toNat q.toNat (UInt8.toNat_lt c) (UInt8.toNat_lt q)
      have hn2 := hpart.out.next (by rw [hlen]; exact hlt) (c ^^^ q) (.int .u8 ((c.toNat ^^^ q.toNat : Nat) : Int)) (by rw [UInt8.toNat_xor])
      rw [hlen] at hn2
      have HN2 := Lib.hid hn2
      have HT := Lib.hid (show applyL [k0, k1, k2, k3] p (l.take k) ++ [c ^^^ q] = applyL [k0, k1, k2, k3] p (l.take (k + 1)) by
        rw [take_one l k hkl, applyL_one, hc, hq, hj, List.length_take, Nat.min_eq_left (by omega)])
      have HS := Lib.hid hs
      have HKW := Lib.hid hkw
      clear hc hq hj hcell hs hn2 hkw
      go_wp2_with fail
      go_region
      go_wp2
      go_roundw
      case rel =>
        refine ⟨k + 1, by simp, by omega, ?_, (hkr.setCell rfl _).drew⟩
        rw [← HT.out]
        exact HN2.out
      case measure => simp [intOf]; omega
    · obtain rfl : k = n := by omega
      have ht : l.take k = l := List.take_of_length_le (by rw [hs.1]; exact Nat.le_refl _)
      have h1 := hpart.out
      rw [ht] at h1
      unfold Part at h1
      rw [length_applyL, hs.1, Nat.sub_self, List.replicate_zero, List.append_nil] at h1
      have H1 := Lib.hid h1
      have HKW := Lib.hid (((Keeps.refl (fun _ => False) w).alloc _).trans hkw)
      clear h1 ht hkw
      go_wp2
      go_ret
      exact ⟨rfl, H1.out, HKW.out⟩

theorem one_byte_drew (w : World) (v : Int) (c : UInt8) (n : Nat) (h : v = c.toNat) :
    (convert 24 9 (.slice (some ⟨w.heap.size, 0, none⟩) 1 n)).run Try.prog (w.alloc (.cells #[.int .u8 v] 5 (0, 0))).drew = .ok (.string ⟨#[c]⟩) (w.alloc (.cells #[.int .u8 v] 5 (0, 0))).drew := by
  subst h
  exact run_string_of (P := Try.prog) (cap := n) Try.underlying24 Try.underlying5 Try.underlying9 ((slice_new w _ 5 (0, 0) [c] 1 rfl rfl).keeps ((Keeps.refl (fun _ => False) _).drew) (fun _ _ h => h))

set_option maxHeartbeats 1000000 in
theorem ref_apply (w : World) (ks : List UInt8) (s : ByteArray) (kv : Array Value) (z : Int) (p : Nat) (hkv : kv = (bts ks).toArray) (hks : ks.length = 4) (hn : s.size ≤ 1000) (hp : (p : Int) = z % 4) (hz : (Lit.int .i64 z).wf = true) :
    Calls Try.prog 12 #[.agg kv, .int .i64 z, .string s] w fun e w' => e = .returned (.string ⟨(applyL ks p s.data.toList).toArray⟩) ∧ Still w w' := by
  match ks, hks with
  | [k0, k1, k2, k3], _ =>
  subst hkv
  have hp4 : p < 4 := by omega
  have hkc := fun (j : Nat) (hj : j < 4) => key_cell w [k0, k1, k2, k3] j hj 22
  have HKC := Lib.hid hkc
  have hm : z.tmod 4 = p ∨ z.tmod 4 = (p : Int) - 4 := by
    rcases Int.le_total 0 z with h | h
    · left; rw [Int.tmod_eq_emod_of_nonneg h, hp]
    · obtain ⟨m, rfl⟩ : ∃ m : Nat, z = -(m : Int) := ⟨z.natAbs, by omega⟩
      rw [Int.neg_tmod, Int.tmod_eq_emod_of_nonneg (by omega)]
      omega
  clear hp hkc
  rcases hm with hm | hm
  all_goals
    go_enter Try.func12, Try.ntmps12
    go_wp2
    go_loopw [8, 9] (fun o i wr => ∃ k : Nat, i = .int .i64 k ∧ k ≤ s.size ∧ o = .string ⟨(applyL [k0, k1, k2, k3] p (s.data.toList.take k)).toArray⟩ ∧ Still (w.alloc (.cells (bts [k0, k1, k2, k3]).toArray 22 (0, 0))) wr) (fun _ i _ => s.size - (intOf i).toNat)
    case atStart => exact ⟨0, rfl, by omega, by simp [applyL], Keeps.refl _ _⟩
    case round =>
      obtain ⟨k, rfl, hkn, rfl, hkw⟩ := hrel
      by_cases hlt : k < s.size
      · obtain ⟨j, hj⟩ : ∃ j, j = (p + k) % 4 := ⟨_, rfl⟩
        have hj4 : j < 4 := by omega
        have hj' : ((p : Int) + k) % 4 = (j : Int) := by omega
        have hjt : ((p : Int) + k).tmod 4 = (j : Int) := by rw [Int.tmod_eq_emod_of_nonneg (by omega), hj']
        have hkl : k < s.data.toList.length := by rw [len_data]; exact hlt
        obtain ⟨c, hc⟩ : ∃ c, c = s.data.toList[k] := ⟨_, rfl⟩
        obtain ⟨q, hq⟩ : ∃ q, q = [k0, k1, k2, k3].getD j 0 := ⟨_, rfl⟩
        have c1 : s[k] = c := by
          rw [hc]
          have h3 : s.data[k]? = some (s[k]) := Array.getElem?_eq_getElem hlt
          rw [← Array.getElem?_toList, List.getElem?_eq_getElem hkl] at h3
          exact (Option.some.inj h3).symm
        have c2 : wr.cell? ⟨w.heap.size, j, none⟩ = some (.int .u8 (q.toNat : Int)) := by
          rw [hq]
          exact hkw.cell (HKC.out j hj4) id
        have hlen : (applyL [k0, k1, k2, k3] p (s.data.toList.take k)).length = k := by rw [length_applyL, List.length_take]; omega
        have hx := u8_xor_nat c.toNat q.toNat (UInt8.toNat_lt c) (UInt8.toNat_lt q)
        have HT := Lib.hid (show applyL [k0, k1, k2, k3] p (s.data.toList.take k) ++ [c ^^^ q] = applyL [k0, k1, k2, k3] p (s.data.toList.take (k + 1)) by
          rw [take_one _ k hkl, applyL_one, hc, hq, hj, List.length_take, Nat.min_eq_left (by omega)])
        have cv1 := one_byte wr ((c.toNat ^^^ q.toNat : Nat) : Int) (c ^^^ q) 1 (by rw [UInt8.toNat_xor])
        have cv2 := one_byte_drew wr ((c.toNat ^^^ q.toNat : Nat) : Int) (c ^^^ q) 1 (by rw [UInt8.toNat_xor])
        obtain ⟨o, ho⟩ : ∃ o : ByteArray, o = ⟨(applyL [k0, k1, k2, k3] p (s.data.toList.take k)).toArray⟩ := ⟨_, rfl⟩
        rw [← ho]
        have hadd : ∀ w', (Op.stringOp .add o ⟨#[c ^^^ q]⟩).run Try.prog w' = .ok (.string ⟨(applyL [k0, k1, k2, k3] p (s.data.toList.take (k + 1))).toArray⟩) w' := fun w' => by
          rw [run_string_add_sum w' _ _ (by rw [ho, size_mk, hlen, size_mk]; simp; omega), ← HT.out, ho]
          congr 2
        have HKW := Lib.hid hkw
        clear hc hq hj ho
        go_wp2_with fail
        go_region
        go_wp2
        go_roundw
        case rel => exact ⟨k + 1, by simp, by omega, rfl, by first | exact (hkw.alloc _).drew | exact (hkw.drew.alloc _)⟩
        case measure => simp [intOf]; omega
      · obtain rfl : k = s.size := by omega
        have ht : s.data.toList.take s.size = s.data.toList := List.take_of_length_le (by rw [len_data]; exact Nat.le_refl _)
        rw [ht]
        clear ht
        go_wp2
        go_ret
        exact ⟨rfl, ((Keeps.refl (fun _ => False) w).alloc _).trans hkw⟩
end Go.Proofs.Ytkpahpoobbjgiaa
