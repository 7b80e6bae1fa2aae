/- The contracts of the document's answer for a ring (pendentiveref04): Put, Rest, Peek on texts. -/
import Derived.Test.YtmioglkibjmmfaaChecked
import Derived.Test.YtmioglkibjmmfaaRing
import Derived.WalkLawsBesides
import Derived.WalkSpells
import Derived.BigGuardPart
import Derived.OpenShut
namespace Go.Proofs.Ytmioglkibjmmfaa
open Go.RowKit

theorem ref_put (w : World) (s b : ByteArray) (most : Nat) (hs : s.size ≤ most) (hm : most ≤ 65536) (hb : b.size ≤ 100) :
    Calls Try.prog 11 #[.string s, .string b, .int .i64 most] w fun e w' => ∃ t : ByteArray, e = .returned (.tuple #[.string t, .int .i64 (min b.size (most - s.size) : Nat)]) ∧
      t.data.toList = s.data.toList ++ b.data.toList.take (most - s.size) ∧ w = w' := by
  go_enter Try.func11, Try.ntmps11
  go_wp2
  go_loop [8] (fun i => ∃ k : Nat, k ≤ min b.size (most - s.size) ∧ i = .int .i64 k) (fun i => b.size - (intOf i).toNat)
  case atStart => exact ⟨0, Nat.zero_le _, rfl⟩
  case round =>
    obtain ⟨k, hk, rfl⟩ := hrel
    by_cases hlt : k < min b.size (most - s.size)
    · have h1 : k < b.size := by omega
      have h2 : s.size + k < most := by omega
      clear hlt
      go_wp2
      go_round
      case rel => exact ⟨k + 1, by omega, by go_num⟩
      case measure => simp [intOf]; omega
    · have hk2 : k = min b.size (most - s.size) := by omega
      have HK := Lib.hid hk2
      clear hk2
      have hkb : k ≤ b.size := by omega
      have FIN := Lib.hid (show (s ++ b.extract 0 k).data.toList = s.data.toList ++ b.data.toList.take (most - s.size) by
        rw [data_append, data_extract, List.drop_zero, HK.out]
        by_cases h : b.size ≤ most - s.size
        · rw [Nat.min_eq_left h, List.take_of_length_le (by rw [len_data]; omega), List.take_of_length_le (by rw [len_data]; omega)]
        · rw [Nat.min_eq_right (by omega)])
      by_cases h1 : k < b.size
      · have h2 : ¬ s.size + k < most := by omega
        go_wp2
        go_ret2
        exact ⟨_, by rw [← HK.out]; rfl, FIN.out, rfl⟩
      · go_wp2
        go_ret2
        exact ⟨_, by rw [← HK.out]; rfl, FIN.out, rfl⟩

theorem ref_peek (w : World) (s : ByteArray) (z : Int) :
    Calls Try.prog 14 #[.string s, .int .i64 z] w fun e w' => ∃ t : ByteArray, e = .returned (.string t) ∧ t.data.toList = s.data.toList.take (min z.toNat s.size) ∧ w = w' := by
  by_cases h0 : z < 0
  · go_enter Try.func14, Try.ntmps14
    go_wp2
    go_ret
    exact ⟨_, rfl, by simp [show z.toNat = 0 by omega], rfl⟩
  · obtain ⟨n, rfl⟩ : ∃ n : Nat, z = n := ⟨z.toNat, by omega⟩
    by_cases h1 : s.size < n
    · go_enter Try.func14, Try.ntmps14
      go_wp2
      go_ret
      exact ⟨_, rfl, by rw [List.take_of_length_le (by rw [len_data]; omega)], rfl⟩
    · go_enter Try.func14, Try.ntmps14
      go_wp2
      go_ret
      exact ⟨_, rfl, by rw [data_extract, List.drop_zero]; congr 1; omega, rfl⟩

theorem ref_rest (w : World) (s : ByteArray) (z : Int) (hz : (Lit.int .i64 z).wf = true) :
    Calls Try.prog 15 #[.string s, .int .i64 z] w fun e w' => ∃ t : ByteArray, e = .returned (.string t) ∧ t.data.toList = s.data.toList.drop (min z.toNat s.size) ∧ w = w' := by
  by_cases h0 : z ≤ 0
  · go_enter Try.func15, Try.ntmps15
    go_wp2
    refine wp_loop_rounds 1 ?_
    rw [rounds_succ]
    go_wp2
    go_ret
    exact ⟨_, rfl, by simp [show z.toNat = 0 by omega], rfl⟩
  · obtain ⟨N, rfl⟩ : ∃ N : Nat, z = N := ⟨z.toNat, by omega⟩
    have HW := Lib.hid (bounds_i64 hz).2
    clear hz
    go_enter Try.func15, Try.ntmps15
    go_wp2
    go_loop [0, 1] (fun x n => ∃ (m : Nat) (t : ByteArray), x = .string t ∧ n = .int .i64 m ∧ m ≤ N ∧ t.size + (N - m) = s.size ∧ t.data.toList = s.data.toList.drop (N - m)) (fun _ n => (intOf n).toNat)
    case atStart => exact ⟨N, s, rfl, rfl, by omega, by omega, by simp⟩
    case round =>
      obtain ⟨m, t, rfl, rfl, h1, h2, h3⟩ := hrel
      have H2 := Lib.hid h2
      have H3 := Lib.hid h3
      clear h2 h3
      by_cases hm : 0 < m
      · by_cases ht : 0 < t.size
        · have hne : (!t.toList.isEmpty) = true := by
            rw [ByteArray.toList_eq]
            cases h : t.data.toList with
            | nil => have := len_data t; rw [h] at this; simp at this; omega
            | cons => rfl
          go_wp2
          go_round
          case rel =>
            refine ⟨m - 1, _, rfl, ?_, by omega, ?_, ?_⟩
            · rw [IntWalk.wrap64_in _ (by have := HW.out; omega)]; congr 1; omega
            · rw [ByteArray.size_extract]; have := H2.out; omega
            · rw [data_extract, List.take_of_length_le (by rw [len_data]; omega), H3.out, List.drop_drop]; congr 1; omega
          case measure =>
            rw [IntWalk.wrap64_in _ (by have := HW.out; omega)]; simp [intOf]; omega
        · have hne : (!t.toList.isEmpty) = false := by
            rw [ByteArray.toList_eq]
            cases h : t.data.toList with
            | nil => rfl
            | cons => have := len_data t; rw [h] at this; simp at this; omega
          go_wp2
          go_ret
          refine ⟨_, rfl, ?_, rfl⟩
          rw [H3.out]
          have := H2.out
          congr 1; omega
      · obtain rfl : m = 0 := by omega
        go_wp2
        go_ret
        refine ⟨_, rfl, ?_, rfl⟩
        rw [H3.out]
        have := H2.out
        congr 1; omega
end Go.Proofs.Ytmioglkibjmmfaa
