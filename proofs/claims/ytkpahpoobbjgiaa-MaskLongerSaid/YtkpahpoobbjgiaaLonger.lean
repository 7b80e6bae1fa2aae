/- The walk of MaskLonger: whatever the input, the law returns true and leaves old memory alone. -/
import Derived.Test.YtkpahpoobbjgiaaAnchor
namespace Go.Proofs.Ytkpahpoobbjgiaa
open Go.RowKit

set_option maxRecDepth 100000 in
set_option maxHeartbeats 1000000 in
theorem maskLonger_no (n m : Nat) (w : World) (h : 9223372036854775807 < n ∨ 9223372036854775807 < m) :
    Calls Try.prog 9 #[.int .u64 n, .int .u64 m] w fun e w' => e = .returned (.bool true) ∧ Below w.heap.size w w' := by
  obtain ⟨M, hM⟩ : ∃ M : Int, M = 9223372036854775808 := ⟨_, rfl⟩
  by_cases h1 : 9223372036854775807 < n
  · have f1 : ¬ (n : Int) < M := by omega
    by_cases h2 : 9223372036854775807 < m
    · have f2 : ¬ (m : Int) < M := by omega
      go_enter Try.func9, Try.ntmps9
      rw [← hM]
      go_wp2_with fail
      refine (put_no _ n h1).mono ?_
      rintro e w1 ⟨rfl, hk1⟩
      go_wp2_with fail
      refine (put_no _ m h2).mono ?_
      rintro e w2 ⟨rfl, hk2⟩
      have F1 := Lib.hid f1
      have F2 := Lib.hid f2
      clear h h1 h2 hM
      go_wp2_with fail
      refine (awake_any _).mono ?_
      rintro e w3 ⟨rfl, hk3⟩
      go_wp2_with fail
      go_ret
      refine ⟨?_, ((hk1.trans hk2).trans hk3).below'⟩
      show Ending.returned (Value.bool _) = Ending.returned (Value.bool true)
      congr 2
      have f1 := F1.out
      have f2 := F2.out
      simp [f1, f2]
    · have f2 : (m : Int) < M := by omega
      go_enter Try.func9, Try.ntmps9
      rw [← hM]
      go_wp2_with fail
      refine (put_no _ n h1).mono ?_
      rintro e w1 ⟨rfl, hk1⟩
      go_wp2_with fail
      refine (put_at _ m (putF m) _ (by omega) rfl rfl).mono ?_
      rintro e w2 ⟨A, c, rfl, hs2, hk2⟩
      have F1 := Lib.hid f1
      have F2 := Lib.hid f2
      clear h h1 h2 hM
      go_wp2_with fail
      refine (awake_any _).mono ?_
      rintro e w3 ⟨rfl, hk3⟩
      go_wp2_with fail
      go_ret
      refine ⟨?_, ((hk1.trans hk2).trans hk3).below'⟩
      show Ending.returned (Value.bool _) = Ending.returned (Value.bool true)
      congr 2
      have f1 := F1.out
      have f2 := F2.out
      simp [f1, f2]
  · have f1 : (n : Int) < M := by omega
    have h2 : 9223372036854775807 < m := by omega
    have f2 : ¬ (m : Int) < M := by omega
    go_enter Try.func9, Try.ntmps9
    rw [← hM]
    go_wp2_with fail
    refine (put_at _ n (putF n) _ (by omega) rfl rfl).mono ?_
    rintro e w1 ⟨A, c, rfl, hs1, hk1⟩
    go_wp2_with fail
    refine (put_no _ m h2).mono ?_
    rintro e w2 ⟨rfl, hk2⟩
    have F1 := Lib.hid f1
    have F2 := Lib.hid f2
    clear h h1 h2 hM
    go_wp2_with fail
    refine (awake_any _).mono ?_
    rintro e w3 ⟨rfl, hk3⟩
    go_wp2_with fail
    go_ret
    refine ⟨?_, ((hk1.trans hk2).trans hk3).below'⟩
    show Ending.returned (Value.bool _) = Ending.returned (Value.bool true)
    congr 2
    have f1 := F1.out
    have f2 := F2.out
    simp [f1, f2]

theorem putF_le (n m : Nat) (h : n ≤ m) : (putF n).length ≤ (putF m).length := by
  rw [length_putF, length_putF]
  repeat' split
  all_goals omega

set_option maxRecDepth 100000 in
set_option maxHeartbeats 4000000 in
theorem maskLonger_yes (n m : Nat) (w : World) (hn : n ≤ 9223372036854775807) (hm : m ≤ 9223372036854775807) :
    Calls Try.prog 9 #[.int .u64 n, .int .u64 m] w fun e w' => e = .returned (.bool true) ∧ Below w.heap.size w w' := by
  have hlen := length_putF n
  have hle := putF_le n m
  have hinj := putF_inj n m hn hm
  obtain ⟨K, hK⟩ : ∃ K, K = (putF n).length := ⟨_, rfl⟩
  obtain ⟨L, hL⟩ : ∃ L, L = (putF m).length := ⟨_, rfl⟩
  obtain ⟨sa, hsa⟩ : ∃ s : ByteArray, s = ⟨(putF n).toArray⟩ := ⟨_, rfl⟩
  obtain ⟨sb, hsb⟩ : ∃ s : ByteArray, s = ⟨(putF m).toArray⟩ := ⟨_, rfl⟩
  have da := Lib.hid (show sa.data.toList = putF n by rw [hsa])
  have db := Lib.hid (show sb.data.toList = putF m by rw [hsb])
  rw [← hK, ← hL] at hle
  rw [← hK] at hlen
  have HN := Lib.hid hn
  have HM := Lib.hid hm
  have HK := Lib.hid hK
  have HL := Lib.hid hL
  have hc : (n ≤ 125 ∧ K = 1) ∨ (125 < n ∧ n ≤ 65535 ∧ K = 3) ∨ (125 < n ∧ 65535 < n ∧ K = 9) := by
    rw [hlen]
    repeat' split
    all_goals omega
  have heq : n ≠ m → (sa.toList == sb.toList) = false := by
    intro h
    rw [ByteArray.toList_eq, ByteArray.toList_eq, da.out, db.out]
    simpa using fun e => h (hinj e)
  have heq' : n = m → (sa.toList == sb.toList) = true := by
    intro h
    rw [hsa, hsb, h]
    simp
  clear hlen hsa hsb hK hL hn hm hinj
  rcases hc with ⟨c1, rfl⟩ | ⟨c1, c2, rfl⟩ | ⟨c1, c2, rfl⟩
  all_goals
    go_enter Try.func9, Try.ntmps9
    go_wp2_with fail
    refine (put_at _ n (putF n) _ HN.out rfl HK.out).mono ?_
    rintro e w1 ⟨A, c, rfl, hs1, hk1⟩
    go_wp2_with fail
    refine (put_at _ m (putF m) _ HM.out rfl HL.out).mono ?_
    rintro e w2 ⟨B, d, rfl, hs2, hk2⟩
    go_wp2_with fail
    refine (awake_any _).mono ?_
    rintro e w3 ⟨rfl, hk3⟩
    have cv1 := run_string_as (P := Try.prog) (cap := c) Try.underlying24 Try.underlying5 Try.underlying9 sa ((hs1.keeps hk2 (fun _ _ h => h)).keeps hk3 (fun _ _ h => h)) da.out
    have cv2 := run_string_as (P := Try.prog) (cap := d) Try.underlying24 Try.underlying5 Try.underlying9 sb (hs2.keeps hk3 (fun _ _ h => h)) db.out
    have HFIN := Lib.hid (((hk1.trans hk2).trans hk3).below')
    rcases Nat.lt_trichotomy n m with q | q | q
    · have g1 := heq (by omega)
      have g2 : ((n : Int) == m) = false := by simp; omega
      have g3 := Int.ofNat_le.2 (hle (by omega))
      have q' : ¬ (m : Int) < n := by omega
      clear heq heq' hle
      go_wp2_with fail
      go_ret
      refine ⟨?_, HFIN.out⟩
      show Ending.returned (Value.bool _) = Ending.returned (Value.bool true)
      congr 2
      simp
      omega
    · have g1 := heq' q
      have g3 := Int.ofNat_le.2 (hle (by omega))
      clear heq heq' hle
      subst q
      go_wp2_with fail
      go_ret
      exact ⟨rfl, HFIN.out⟩
    · have g1 := heq (by omega)
      have g2 : ((n : Int) == m) = false := by simp; omega
      clear heq heq' hle
      go_wp2_with fail
      go_ret
      exact ⟨rfl, HFIN.out⟩
end Go.Proofs.Ytkpahpoobbjgiaa
