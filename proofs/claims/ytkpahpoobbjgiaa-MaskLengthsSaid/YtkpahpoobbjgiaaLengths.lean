/- The walk of MaskLengths: whatever the input, the law returns true and leaves old memory alone. -/
import Derived.Test.YtkpahpoobbjgiaaAnchor
namespace Go.Proofs.Ytkpahpoobbjgiaa
open Go.RowKit

set_option maxRecDepth 100000 in
set_option maxHeartbeats 1000000 in
theorem maskLengths_far (n : Int) (a : ByteArray) (w : World) (h : 100 < a.size) :
    Calls Try.prog 5 #[.int .u64 n, .string a] w fun e w' => e = .returned (.bool true) ∧ Below w.heap.size w w' := by
  go_enter Try.func5, Try.ntmps5
  go_wp2_with fail
  refine (awake_any _).mono ?_
  rintro e w1 ⟨rfl, hk1⟩
  go_wp2_with fail
  refine (awake_any _).mono ?_
  rintro e w2 ⟨rfl, hk2⟩
  go_wp2_with fail
  go_ret
  exact ⟨rfl, (hk1.trans hk2).below'⟩

set_option maxRecDepth 100000 in
set_option maxHeartbeats 1000000 in
theorem maskLengths_no (n : Nat) (a : ByteArray) (w : World) (h : a.size ≤ 100) (hn : 9223372036854775807 < n) :
    Calls Try.prog 5 #[.int .u64 n, .string a] w fun e w' => e = .returned (.bool true) ∧ Below w.heap.size w w' := by
  have HN := Lib.hid hn
  clear hn
  go_enter Try.func5, Try.ntmps5
  go_wp2_with fail
  refine (awake_any _).mono ?_
  rintro e w1 ⟨rfl, hk1⟩
  go_wp2_with fail
  refine (put_no _ n HN.out).mono ?_
  rintro e w2 ⟨rfl, hk2⟩
  go_wp2_with fail
  refine (ref_put_no _ n HN.out).mono ?_
  rintro e w3 ⟨rfl, hk3⟩
  go_wp2_with fail
  go_ret
  exact ⟨rfl, ((hk1.trans hk2).trans hk3).below'⟩

theorem putF_le9 (n : Nat) : (putF n).length ≤ 9 := by
  rw [length_putF]
  repeat' split
  all_goals omega
theorem ref_put_at (w : World) (n : Nat) (s : ByteArray) (hn : n ≤ 9223372036854775807) (hs : s = ⟨(putF n).toArray⟩) :
    Calls Try.prog 14 #[.int .u64 n] w fun e w' => e = .returned (.tuple #[.string s, .bool true]) ∧ Still w w' := by
  subst hs
  exact ref_put_any w n hn

set_option maxRecDepth 100000 in
set_option maxHeartbeats 4000000 in
theorem maskLengths_yes (n : Nat) (a : ByteArray) (w : World) (h : a.size ≤ 100) (hn : n ≤ 9223372036854775807) :
    Calls Try.prog 5 #[.int .u64 n, .string a] w fun e w' => e = .returned (.bool true) ∧ Below w.heap.size w w' := by
  obtain ⟨s, hs⟩ : ∃ s : ByteArray, s = ⟨(putF n).toArray⟩ := ⟨_, rfl⟩
  have hd : s.data.toList = putF n := by rw [hs]
  have hsz : (putF n).length = s.size := by rw [← len_data, hd]
  have h9 : s.size ≤ 9 := by rw [← hsz]; exact putF_le9 n
  have hg : getF (s ++ a).data.toList = (n, s.size, 0) := by rw [data_append, hd, get_put n hn, hsz]
  have hfew : ∀ k, k < s.size → getF (s.extract 0 k).data.toList = (0, 0, 80) := by
    intro k hk
    rw [data_extract, List.drop_zero, hd]
    exact get_few n hn k (by omega)
  obtain ⟨sa, hsa⟩ : ∃ sa : ByteArray, sa = s ++ a := ⟨_, rfl⟩
  have hadd : ∀ w', (Op.stringOp .add s a).run Try.prog w' = .ok (.string sa) w' := fun w' => by rw [hsa]; exact run_string_add_sum w' _ _ (by omega)
  have hsl : sa.size ≤ 1000 := by rw [hsa, ByteArray.size_append]; omega
  rw [← hsa] at hg
  clear hsa
  have HN := Lib.hid hn
  have HS := Lib.hid hs
  have HD := Lib.hid hd
  have HSZ := Lib.hid hsz
  have HG := Lib.hid hg
  have HF := Lib.hid hfew
  clear hn hs hd hsz hg hfew
  go_enter Try.func5, Try.ntmps5
  go_wp2_with fail
  refine (awake_any _).mono ?_
  rintro e w1 ⟨rfl, hk1⟩
  go_wp2_with fail
  refine (put_at _ n (putF n) s.size HN.out rfl HSZ.out.symm).mono ?_
  rintro e w2 ⟨A, c, rfl, hs2, hk2⟩
  go_wp2_with fail
  refine (ref_put_at _ n s HN.out HS.out).mono ?_
  rintro e w3 ⟨rfl, hk3⟩
  go_wp2_with (with_reducible refine wpList_bytes (o := ⟨some 47, _, _, _, _, _⟩) rfl _ _ _ rfl 5 Try.underlying9 Try.underlying24 Try.underlying5 sa rfl ?_; intro w4 c4 hk4 hz4 hc4 hs4 hf4)
  have hq := get_at w4 _ _ _ c4 n s.size 0 hs4 hc4 hsl HG.out
  refine hq.mono ?_
  clear hq
  rintro e w5 ⟨rfl, hk5⟩
  go_wp2_with fail
  have hall := (((hk1.trans hk2).trans hk3).trans hk4).trans hk5
  have hs5 := ((hs2.keeps hk3 (fun _ _ h => h)).keeps hk4 (fun _ _ h => h)).keeps hk5 (fun _ _ h => h)
  have HALL := Lib.hid hall
  have HS5 := Lib.hid hs5
  clear hall hs5
  go_loopw [12] (fun i wr => ∃ k : Nat, i = .int .i64 k ∧ k ≤ s.size ∧ Still w5 wr) (fun i _ => s.size - (intOf i).toNat)
  case atStart => exact ⟨0, rfl, by omega, Keeps.refl _ _⟩
  case round =>
    obtain ⟨k, rfl, hks, hkr⟩ := hrel
    by_cases hlt : k < s.size
    · have hex : (s.extract 0 k).size = k := by rw [ByteArray.size_extract]; omega
      have HEX := Lib.hid hex
      clear hex
      go_wp2_with (with_reducible refine wpList_bytes (o := ⟨some 62, _, _, _, _, _⟩) rfl _ _ _ rfl 5 Try.underlying9 Try.underlying24 Try.underlying5 (s.extract 0 k) rfl ?_; intro w6 c6 hk6 hz6 hc6 hs6 hf6)
      have hle : (s.extract 0 k).size ≤ 1000 := by rw [ByteArray.size_extract]; omega
      have hex : (s.extract 0 k).size = k := by rw [ByteArray.size_extract]; omega
      have hq := get_at w6 _ _ _ c6 0 0 80 hs6 hc6 hle (HF.out k hlt)
      rw [hex] at hq
      clear hle hex
      trace_state
      refine hq.mono ?_
      clear hq
      rintro e w7 ⟨rfl, hk7⟩
      go_wp2_with fail
      go_roundw
      case rel => exact ⟨k + 1, by simp, by omega, (hkr.trans hk6).trans hk7⟩
      case measure => simp [intOf]; omega
    · have cv := run_string_as (P := Try.prog) (cap := c) Try.underlying24 Try.underlying5 Try.underlying9 s (HS5.out.keeps hkr (fun _ _ h => h)) HD.out
      go_wp2_with fail
      go_ret
      exact ⟨rfl, (HALL.out.trans hkr).below'⟩
end Go.Proofs.Ytkpahpoobbjgiaa
