/- The contracts of Put, and of the document's answer for it. -/
import Derived.Test.YtkpahpoobbjgiaaNum
namespace Go.Proofs.Ytkpahpoobbjgiaa
open Go.RowKit

/-- append onto a literal of one byte: a new slice that reads as both. -/
theorem wpList_glue {P : Program} {w : World} {ops : Array Oper} {rest : List Oper} {o : Oper} {a : Act} {Q : Exit → Act → World → Prop} (hgd : o.guard = none) (s x : Operand) (t : TypeId)
    (ho : o.op = .call { callee := .builtin .append, args := #[s, x], argTypes := #[t, t] }) (e : TypeId) (ht : P.underlying t = some (.slice e)) (hi : (P.info? e).map (fun i => (i.zero, i.size, i.bytes)) = some (some (.int .u8 0), 1, 1))
    (g : Nat) (z : Int) (c0 : UInt8) (hz : z = c0.toNat) (hs : a.eval s = .slice (some ⟨g, 0, none⟩) 1 1) (hg : w.heap[g]? = some (.cells #[.int .u8 z] e (0, 0))) (l : List UInt8) (ad : Addr) (m c : Nat)
    (hx : a.eval x = .slice (some ad) m c) (hl : SliceOf w (some ad) m l) (hm : m ≤ 1000) (k : Nat) (hk : k = 1 + m)
    (h : ∀ A c' w', SliceOf w' A k (c0 :: l) → Keeps (fun k => k = g) w w' → wpList P ops Q rest (a.put o.dst (.slice A k c')) w') :
    wpList P ops Q (o :: rest) a w := by
  obtain ⟨i, hi1, hi2, hi3, hi4⟩ := info_parts hi
  have hlt := lt_of_block hg
  subst hz
  subst hk
  refine wpList_append_own w hgd s x t ho 0 e i (.int .u8 0) 1 1 ht hi1 hi2 hi3 hi4 rfl (by decide) _ 1 [.int .u8 (c0.toNat : Int)] hs ⟨rfl, .inr ⟨g, 1, _, rfl, by omega, hg, by omega, by decide, rfl, rfl⟩⟩ ad m c (bts l) hx (by rw [length_bts, hl.1]; omega) ?_ (bts_one l) (by unfold maxLen; omega) (by omega) (by omega) ?_
  · intro j u hj
    have hp : 0 < (bts (l.take m)).length := by
      rcases Nat.lt_or_ge j (bts l).length with q | q
      · have := hl.1; simp at q ⊢; omega
      · rw [List.getElem?_eq_none q] at hj; cases hj
    obtain ⟨ad', e1, e2⟩ := hl.source m hp
    cases e1
    exact e2 j u (by rw [List.take_of_length_le (by have := hl.1; omega)]; exact hj)
  · intro v' w' hown hgr _
    obtain ⟨_, ⟨_, h0⟩ | ⟨g', cap, cur, rfl, _, hb, _, _, hc, hcur⟩⟩ := hown
    · omega
    · refine h _ _ _ ⟨by simp [hl.1]; omega, fun _ => ⟨g', 0, rfl, lt_of_block hb, fun j hj => ?_⟩⟩ ?_
      · rw [Nat.zero_add]
        have hj2 : j < 1 + m := by simp [hl.1] at hj; omega
        have h1 : cur.toList[j]? = (bts (c0 :: l))[j]? := by
          rw [← List.getElem?_take_of_lt (show j < (1 + m) * 1 by omega), hcur]; rfl
        rw [bts_at _ j hj] at h1
        rw [cell_of_row w' g' j cur e _ hb, ← Array.getElem?_toList]
        exact h1
      · exact ⟨hgr.os, hgr.tape, hgr.output, hgr.size, fun k hk hn => hgr.block k hk (fun e => hn (Option.some.inj e))⟩

theorem slice_row {w : World} {g : Nat} {l : List UInt8} {t : TypeId} (h : w.heap[g]? = some (.cells (bts l).toArray t (0, 0))) (n : Nat) (hn : l.length = n) : SliceOf w (some ⟨g, 0, none⟩) n l := by
  refine ⟨hn, fun _ => ⟨g, 0, rfl, lt_of_block h, fun j hj => ?_⟩⟩
  rw [Nat.zero_add, cell_of_row w _ j _ _ _ h]
  have := bts_at l j hj
  simpa using this

theorem put_no (w : World) (n : Nat) (hn : 9223372036854775807 < n) :
    Calls Try.prog 13 #[.int .u64 n] w fun e w' => e = .returned (.tuple #[.slice none 0 0, .int .i64 81]) ∧ Still w w' := by
  have h : (9223372036854775807 : Int) < n := by omega
  go_enter Try.func13, Try.ntmps13
  go_wp2
  go_ret2
  exact ⟨rfl, Keeps.refl _ _⟩

set_option maxHeartbeats 400000 in
theorem put_any (w : World) (n : Nat) (hn : n ≤ 9223372036854775807) :
    Calls Try.prog 13 #[.int .u64 n] w fun e w' => ∃ A c, e = .returned (.tuple #[.slice A (putF n).length c, .int .i64 0]) ∧ SliceOf w' A (putF n).length (putF n) ∧ Still w w' := by
  have h0 : ¬ (9223372036854775807 : Int) < n := by omega
  by_cases h1 : n < 126
  · have hp : putF n = [UInt8.ofNat n] := by unfold putF; rw [if_pos h1]
    rw [hp]
    have h1' : (n : Int) < 126 := by omega
    go_enter Try.func13, Try.ntmps13
    go_wp2
    go_ret2
    exact ⟨_, ⟨_, rfl⟩, slice_new w _ 5 (0, 0) [UInt8.ofNat n] 1 rfl (by show [Value.int IntKind.u8 (n : Int)] = [Value.int IntKind.u8 ((UInt8.ofNat n).toNat : Int)]; rw [toNat_ofNat8, Nat.mod_eq_of_lt (by omega)]), (Keeps.refl _ w).alloc _⟩
  · have h1' : ¬ (n : Int) < 126 := by omega
    by_cases h2 : n < 65536
    · have hp : putF n = 126 :: numB n 2 := by unfold putF; rw [if_neg h1, if_pos h2]
      have hpl : (putF n).length = 3 := by rw [hp]; simp
      have HP := Lib.hid hp
      have HPL := Lib.hid hpl
      have h2' : (n : Int) < 65536 := by omega
      clear hn hp hpl h1 h2
      go_enter Try.func13, Try.ntmps13
      go_wp2_with fail
      refine (number_any _ n 2 (by omega)).mono ?_
      rintro e w1 ⟨rfl, hr1, hk1⟩
      have hr0 := hk1.at_ (heap_alloc_new w _) id
      rw [show (w.alloc (.cells #[.int .u8 126] 5 (0, 0))).heap.size = w.heap.size + 1 by simp] at hr1
      have hs1 := slice_row hr1 2 (by simp)
      have hk1' : Still w w1 := ((Keeps.refl _ w).alloc _).trans hk1
      go_wp2_with (at_builtin; refine wpList_glue (o := ⟨some 19, _, _, _, _, _⟩) rfl _ _ 24 rfl 5 Try.underlying24 info5 w.heap.size 126 126 rfl rfl hr0 (numB n 2) ⟨w.heap.size + 1, 0, none⟩ 2 2 rfl hs1 (by omega) 3 rfl ?_; intro A c w2 hs2 hk2)
      go_ret2
      rw [HPL.out, HP.out]
      exact ⟨_, _, rfl, hs2, hk1'.fresh hk2 (Keeps.refl _ _)⟩
    · have hp : putF n = 127 :: numB n 8 := by unfold putF; rw [if_neg h1, if_neg h2]
      have hpl : (putF n).length = 9 := by rw [hp]; simp
      have HP := Lib.hid hp
      have HPL := Lib.hid hpl
      have h2' : ¬ (n : Int) < 65536 := by omega
      clear hn hp hpl h1 h2
      go_enter Try.func13, Try.ntmps13
      go_wp2_with fail
      refine (number_any _ n 8 (by omega)).mono ?_
      rintro e w1 ⟨rfl, hr1, hk1⟩
      have hr0 := hk1.at_ (heap_alloc_new w _) id
      rw [show (w.alloc (.cells #[.int .u8 127] 5 (0, 0))).heap.size = w.heap.size + 1 by simp] at hr1
      have hs1 := slice_row hr1 8 (by simp)
      have hk1' : Still w w1 := ((Keeps.refl _ w).alloc _).trans hk1
      go_wp2_with (at_builtin; refine wpList_glue (o := ⟨some 23, _, _, _, _, _⟩) rfl _ _ 24 rfl 5 Try.underlying24 info5 w.heap.size 127 127 rfl rfl hr0 (numB n 8) ⟨w.heap.size + 1, 0, none⟩ 8 8 rfl hs1 (by omega) 9 rfl ?_; intro A c w2 hs2 hk2)
      go_ret2
      rw [HPL.out, HP.out]
      exact ⟨_, _, rfl, hs2, hk1'.fresh hk2 (Keeps.refl _ _)⟩

theorem ref_put_no (w : World) (n : Nat) (hn : 9223372036854775807 < n) :
    Calls Try.prog 14 #[.int .u64 n] w fun e w' => e = .returned (.tuple #[.string ⟨#[]⟩, .bool false]) ∧ Still w w' := by
  have h : (9223372036854775807 : Int) < n := by omega
  go_enter Try.func14, Try.ntmps14
  go_wp2
  go_ret2
  exact ⟨rfl, Keeps.refl _ _⟩

set_option maxHeartbeats 400000 in
theorem ref_put_any (w : World) (n : Nat) (hn : n ≤ 9223372036854775807) :
    Calls Try.prog 14 #[.int .u64 n] w fun e w' => e = .returned (.tuple #[.string ⟨(putF n).toArray⟩, .bool true]) ∧ Still w w' := by
  have h0 : ¬ (9223372036854775807 : Int) < n := by omega
  by_cases h1 : n < 126
  · have hp : putF n = [UInt8.ofNat n] := by unfold putF; rw [if_pos h1]
    rw [hp]
    have h1' : (n : Int) < 126 := by omega
    have cv := one_byte w (n : Int) (UInt8.ofNat n) 1 (by rw [toNat_ofNat8]; omega)
    clear hp hn
    go_enter Try.func14, Try.ntmps14
    go_wp2
    go_ret2
    exact ⟨rfl, (Keeps.refl _ w).alloc _⟩
  · have h1' : ¬ (n : Int) < 126 := by omega
    by_cases h2 : n < 65536
    · have hp : putF n = 126 :: numB n 2 := by unfold putF; rw [if_neg h1, if_pos h2]
      have HP := Lib.hid hp
      have h2' : (n : Int) ≤ 65535 := by omega
      have hadd : ∀ w', (Op.stringOp .add ⟨#[126]⟩ ⟨(numB n 2).toArray⟩).run Try.prog w' = .ok (.string ⟨(126 :: numB n 2).toArray⟩) w' := fun w' => by
        rw [run_string_add_sum w' _ _ (by rw [size_mk, size_mk, length_numB]; decide)]
        congr 2
      clear hp h1 h2
      go_enter Try.func14, Try.ntmps14
      go_wp2_with fail
      refine (digits_any _ n 2 (by omega) (by omega)).mono ?_
      rintro e w1 ⟨rfl, hk1⟩
      clear hn
      go_wp2_with fail
      go_ret2
      rw [HP.out]
      exact ⟨rfl, hk1⟩
    · have hp : putF n = 127 :: numB n 8 := by unfold putF; rw [if_neg h1, if_neg h2]
      have HP := Lib.hid hp
      have h2' : ¬ (n : Int) ≤ 65535 := by omega
      have hadd : ∀ w', (Op.stringOp .add ⟨#[127]⟩ ⟨(numB n 8).toArray⟩).run Try.prog w' = .ok (.string ⟨(127 :: numB n 8).toArray⟩) w' := fun w' => by
        rw [run_string_add_sum w' _ _ (by rw [size_mk, size_mk, length_numB]; decide)]
        congr 2
      clear hp h1 h2
      go_enter Try.func14, Try.ntmps14
      go_wp2_with fail
      refine (digits_any _ n 8 (by omega) (by omega)).mono ?_
      rintro e w1 ⟨rfl, hk1⟩
      clear hn
      go_wp2_with fail
      go_ret2
      rw [HP.out]
      exact ⟨rfl, hk1⟩
end Go.Proofs.Ytkpahpoobbjgiaa
