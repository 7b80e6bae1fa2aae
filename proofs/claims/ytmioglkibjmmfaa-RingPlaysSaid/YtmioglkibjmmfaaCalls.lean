/- The contracts of package ring: New, Len, Room, Put, Peek, Take: each returns what the bytes that wait say, and leaves all other memory alone. -/
import Derived.Test.YtmioglkibjmmfaaChecked
import Derived.Test.YtmioglkibjmmfaaRing
import Derived.WalkLawsBesides
import Derived.WalkSpells
import Derived.BigQuiet
import Derived.Deep.QuietTactic
import Derived.StillTailTactics
namespace Go.Proofs.Ytmioglkibjmmfaa
open Go.RowKit

theorem info5 : (Try.prog.info? 5).map (fun i => (i.zero, i.size, i.bytes)) = some (some (.int .u8 0), 1, 1) := by kernel_rfl
theorem size5 : (Try.prog.info? 5).map (·.size) = some 1 := by kernel_rfl

/-- At p lies a ring for so many bytes whose bytes lie in block bb: s waits. -/
def RingAt (w : World) (p bb most : Nat) (s : List UInt8) : Prop :=
  ∃ (a : Nat) (cur : List Value), p ≠ bb ∧ a < most ∧ s.length ≤ most ∧ most ≤ 65536 ∧ cur.length = most ∧ Held cur a s ∧
    w.heap[p]? = some (.cells #[.slice (some ⟨bb, 0, none⟩) most most, .int .i64 a, .int .i64 s.length] 45 (0, 0)) ∧
    w.heap[bb]? = some (.cells cur.toArray 5 (0, 0))

theorem RingAt.keeps {S : Nat → Prop} {w w' : World} {p bb most : Nat} {s : List UInt8} (h : RingAt w p bb most s) (hk : Keeps S w w') (h1 : ¬ S p) (h2 : ¬ S bb) : RingAt w' p bb most s := by
  obtain ⟨a, cur, q1, q2, q3, q4, q5, q6, q7, q8⟩ := h
  exact ⟨a, cur, q1, q2, q3, q4, q5, q6, hk.at_ q7 h1, hk.at_ q8 h2⟩
theorem RingAt.lt {w : World} {p bb most : Nat} {s : List UInt8} (h : RingAt w p bb most s) : p < w.heap.size ∧ bb < w.heap.size := by
  obtain ⟨a, cur, _, _, _, _, _, _, q7, q8⟩ := h
  exact ⟨lt_of_block q7, lt_of_block q8⟩
theorem RingAt.le {w : World} {p bb most : Nat} {s : List UInt8} (h : RingAt w p bb most s) : s.length ≤ most ∧ most ≤ 65536 ∧ 0 < most := by
  obtain ⟨a, cur, _, q2, q3, q4, _⟩ := h
  exact ⟨q3, q4, by omega⟩

/-- The three cells of a ring. -/
theorem cells3 {w : World} {p : Nat} {c0 c1 c2 : Value} {t : TypeId} (h : w.heap[p]? = some (.cells #[c0, c1, c2] t (0, 0))) :
    w.cell? ⟨p, 0, none⟩ = some c0 ∧ w.cell? ⟨p, 1, none⟩ = some c1 ∧ w.cell? ⟨p, 2, none⟩ = some c2 ∧ w.frozen? ⟨p, 0, none⟩ = false ∧ w.frozen? ⟨p, 1, none⟩ = false ∧ w.frozen? ⟨p, 2, none⟩ = false := by
  refine ⟨?_, ?_, ?_, ?_, ?_, ?_⟩ <;> simp [World.cell?, World.frozen?, h]
theorem set3 {w : World} {p : Nat} {c0 c1 c2 : Value} {t : TypeId} (h : w.heap[p]? = some (.cells #[c0, c1, c2] t (0, 0))) (v : Value) :
    (w.setCell ⟨p, 1, none⟩ v).heap[p]? = some (.cells #[c0, v, c2] t (0, 0)) ∧ (w.setCell ⟨p, 2, none⟩ v).heap[p]? = some (.cells #[c0, c1, v] t (0, 0)) := by
  constructor <;> simp [World.setCell, Array.getElem?_modify, h]

theorem len_any (w : World) (p bb most : Nat) (s : List UInt8) (h : RingAt w p bb most s) :
    Calls Try.prog 17 #[.pointer (some ⟨p, 0, none⟩)] w fun e w' => e = .returned (.int .i64 s.length) ∧ w = w' := by
  obtain ⟨a, cur, _, _, _, _, _, _, hp, _⟩ := h
  obtain ⟨c0, c1, c2, _⟩ := cells3 hp
  clear hp
  go_enter Try.func17, Try.ntmps17
  go_wp2
  go_ret
  exact ⟨rfl, rfl⟩

theorem room_any (w : World) (p bb most : Nat) (s : List UInt8) (h : RingAt w p bb most s) :
    Calls Try.prog 18 #[.pointer (some ⟨p, 0, none⟩)] w fun e w' => e = .returned (.int .i64 (most - s.length)) ∧ ∃ n, w' = w.drewN n := by
  obtain ⟨a, cur, _, _, h1, h2, _, _, hp, _⟩ := h
  obtain ⟨c0, c1, c2, _⟩ := cells3 hp
  clear hp
  go_enter Try.func18, Try.ntmps18
  go_wp2
  go_quiet (fail)
  go_wp2
  go_ret
  exact ⟨rfl, _, rfl⟩

theorem new_yes (w : World) (m : Nat) (h0 : 1 ≤ m) (h : m ≤ 65536) :
    Calls Try.prog 9 #[.int .i64 m] w fun e w' => ∃ p bb, e = .returned (.tuple #[.pointer (some ⟨p, 0, none⟩), .int .i64 0]) ∧ RingAt w' p bb m [] ∧ Still w w' ∧ w.heap.size ≤ p ∧ w.heap.size ≤ bb := by
  go_enter Try.func9, Try.ntmps9
  go_wp2_with (at_make; refine wpList_zeros rfl _ _ 33 rfl 5 Try.underlying33 info5 .i64 .i64 _ _ m rfl rfl rfl rfl (by omega) ?_; intro w1 hk hz hb)
  go_ret2
  refine ⟨_, _, rfl, ⟨0, List.replicate m (.int .u8 0), ?_, by omega, by simp, h, by simp, fun j hj => by simp at hj, ?_, ?_⟩, hk.alloc _, ?_, Nat.le_refl _⟩
  · omega
  · rw [← hz]; exact heap_alloc_new w1 _
  · exact (Below.heap_alloc w1 _ _ (by omega)).trans hb.out
  · omega

theorem new_at (w : World) (z : Int) (m : Nat) (hz : z = m) (h0 : 1 ≤ m) (h : m ≤ 65536) :
    Calls Try.prog 9 #[.int .i64 z] w fun e w' => ∃ p bb, e = .returned (.tuple #[.pointer (some ⟨p, 0, none⟩), .int .i64 0]) ∧ RingAt w' p bb m [] ∧ Still w w' ∧ w.heap.size ≤ p ∧ w.heap.size ≤ bb := by
  subst hz
  exact new_yes w m h0 h

theorem put_end (w w2 w3 : World) (p bb most a e k m : Nat) (s b : List UInt8) (cur : List Value) (z : Int) (k1 : p ≠ bb) (k2 : a < most) (k4 : most ≤ 65536) (k5 : cur.length = most) (k6 : Held cur a s)
    (he : e = (a + s.length) % most) (hm : b.length = m) (hb : s.length + m ≤ most) (hk : k = min m (most - e))
    (hB : w3.heap[bb]? = some (.cells (splice (splice cur e (bts (b.take k))) 0 (bts (b.drop k))).toArray 5 (0, 0)))
    (hP : w3.heap[p]? = some (.cells #[.slice (some ⟨bb, 0, none⟩) most most, .int .i64 a, .int .i64 s.length] 45 (0, 0)))
    (h2 : Keeps (fun k => k = bb) w w2) (h3 : Keeps (fun k => k = bb) w2 w3) (hz : z = (s ++ b).length) :
    RingAt (w3.setCell ⟨p, 2, none⟩ (.int .i64 z)) p bb most (s ++ b) ∧ Keeps (fun k => k = p ∨ k = bb) w (w3.setCell ⟨p, 2, none⟩ (.int .i64 z)) := by
  subst hm
  subst k5
  have hp := held_put cur a s b e k k2 hb k6 he hk
  refine ⟨⟨a, _, k1, k2, by simp; omega, k4, hp.1, hp.2, ?_, ?_⟩, ?_⟩
  · rw [hz]; exact (set3 hP _).2
  · exact (heap_setCell_other w3 ⟨p, 2, none⟩ bb _ (Ne.symm k1)).trans hB
  · exact (((h2.trans h3).mono fun _ _ h => .inr h)).setCell (.inl rfl) _

set_option maxHeartbeats 400000 in
theorem put_any (w : World) (p bb most : Nat) (s l : List UInt8) (A : Option Addr) (n cap : Nat) (h : RingAt w p bb most s) (hs : SliceOf w A n l) (hcap : n ≤ cap) (hA : ∀ ad, A = some ad → ad.block ≠ p ∧ ad.block ≠ bb) :
    Calls Try.prog 12 #[.pointer (some ⟨p, 0, none⟩), .slice A n cap] w fun e w' => e = .returned (.int .i64 (min n (most - s.length) : Nat)) ∧
      RingAt w' p bb most (s ++ l.take (most - s.length)) ∧ Keeps (fun k => k = p ∨ k = bb) w w' := by
  have hr := h
  obtain ⟨a, cur, k1, k2, k3, k4, k5, k6, hp, hb⟩ := h
  obtain ⟨c0, c1, c2, f0, f1, f2⟩ := cells3 hp
  have HK := Lib.hid k5
  have HP := Lib.hid hp
  have HB := Lib.hid hb
  clear k5 hp hb
  obtain ⟨e, he⟩ : ∃ e, e = (a + s.length) % most := ⟨_, rfl⟩
  have e0 : e < most := by rw [he]; exact Nat.mod_lt _ (by omega)
  have HE := Lib.hid (show ((a : Int) + (s.length : Int)) % (most : Int) = (e : Int) by rw [he]; simp)
  have HF := Lib.hid he
  clear he
  by_cases hle : n ≤ most - s.length
  · have hb : l.take (most - s.length) = l := List.take_of_length_le (by have := hs.1; omega)
    rw [hb]
    clear hb
    have hs' := hs
    obtain ⟨b, rfl⟩ : ∃ b, b = l := ⟨_, rfl⟩
    obtain ⟨k, hk⟩ : ∃ k, k = min n (most - e) := ⟨_, rfl⟩
    have k7 : k ≤ n := by omega
    have k8 : k ≤ most - e := by omega
    have HN := Lib.hid hk
    clear hk
    go_enter Try.func12, Try.ntmps12
    go_wp2_with (go_at_call 18; refine (room_any _ _ _ _ _ hr).mono ?_; rintro e w1 ⟨rfl, nq, rfl⟩)
    go_quiet (fail)
    rw [HE.out]
    go_wp2_with (with_reducible refine wpList_copy_keeps (o := ⟨some 38, _, _, _, _, _⟩) rfl _ _ _ _ rfl 5 Try.underlying33 size5 _ _ _ _ _ _ rfl rfl bb e cur 5 ?g1 (bts (b.take k)) k ?g2 ?g3 ?g4 ?g5 ?g6 ?g7)
    case g1 => exact HB.out
    case g2 => have := hs'.1; simp; omega
    case g3 => exact HN.out
    case g4 => intro h0; exact hs'.source k (by have := hs'.1; simp; omega)
    case g5 => rw [HK.out]; omega
    case g6 => exact bts_one _
    intro w2 HB2 hk2
    replace hk2 := hk2.drewN_of
    have HP2 := Lib.hid (hk2.at_ HP.out k1)
    obtain ⟨d0, d1, d2, e0, e1, e2⟩ := cells3 HP2.out
    have hs2 : SliceOf w2 A n b := hs'.keeps hk2 (fun ad h => (hA ad h).2)
    have q2 : (bts (b.drop k)).length = n - k := by have := hs'.1; simp; omega
    have HQ2 := Lib.hid q2
    have HQ3 := Lib.hid (show (splice cur e (bts (b.take k))).length = most by rw [length_splice _ _ _ (by have := HK.out; have := hs'.1; simp; omega)]; exact HK.out)
    have q4 : n ≤ most := by omega
    clear q2
    go_wp2_with fail
    go_region_law (refine step_copy_keeps rfl (.tmp 42) (.tmp 45) 33 33 rfl 5 Try.underlying33 size5 _ _ _ _ _ _ rfl rfl bb 0 (splice cur e (bts (b.take k))) 5 HB2.out (bts (b.drop k)) (n - k) HQ2.out (Nat.min_eq_left (by omega)).symm (fun h0 => ⟨rfl, hs2.cut_source k (by omega) (by intro h; first | rfl | (rw [if_neg (by omega)]))⟩) (by rw [HQ3.out]; omega) (bts_one _) ?_; intro w3 HB3 hk3)
    replace hk3 := hk3.drew_of
    have HP3 := Lib.hid (hk3.at_ HP2.out k1)
    obtain ⟨y0, y1, y2, z0, z1, z2⟩ := cells3 HP3.out
    have fin := fun z hz => put_end w w2 w3 p bb most a e k n s b cur z k1 k2 k4 HK.out k6 HF.out hs'.1 (by omega) HN.out HB3.out HP3.out hk2 hk3 hz
    have HFIN := Lib.hid fin
    clear fin
    go_wp2
    all_goals go_ret
    all_goals refine ⟨?_, HFIN.out _ (by have := hs'.1; simp; omega)⟩
    all_goals first | rfl | (show _ = Ending.returned (.int .i64 _); congr 2; simp; omega)
  · have hs' := hs.front (most - s.length) (by omega)
    obtain ⟨b, hb⟩ : ∃ b, b = l.take (most - s.length) := ⟨_, rfl⟩
    rw [← hb] at hs' ⊢
    clear hb
    obtain ⟨k, hk⟩ : ∃ k, k = min (most - s.length) (most - e) := ⟨_, rfl⟩
    have k7 : k ≤ (most - s.length) := by omega
    have k8 : k ≤ most - e := by omega
    have HN := Lib.hid hk
    clear hk
    go_enter Try.func12, Try.ntmps12
    go_wp2_with (go_at_call 18; refine (room_any _ _ _ _ _ hr).mono ?_; rintro e w1 ⟨rfl, nq, rfl⟩)
    go_quiet (fail)
    rw [HE.out]
    go_wp2_with (with_reducible refine wpList_copy_keeps (o := ⟨some 38, _, _, _, _, _⟩) rfl _ _ _ _ rfl 5 Try.underlying33 size5 _ _ _ _ _ _ rfl rfl bb e cur 5 ?j1 (bts (b.take k)) k ?j2 ?j3 ?j4 ?j5 ?j6 ?j7)
    case j1 => exact HB.out
    case j2 => have := hs'.1; simp; omega
    case j3 => exact HN.out
    case j4 => intro h0; exact hs'.source k (by have := hs'.1; simp; omega)
    case j5 => rw [HK.out]; omega
    case j6 => exact bts_one _
    intro w2 HB2 hk2
    replace hk2 := hk2.drewN_of
    have HP2 := Lib.hid (hk2.at_ HP.out k1)
    obtain ⟨d0, d1, d2, e0, e1, e2⟩ := cells3 HP2.out
    have hs2 : SliceOf w2 A (most - s.length) b := hs'.keeps hk2 (fun ad h => (hA ad h).2)
    have q2 : (bts (b.drop k)).length = (most - s.length) - k := by have := hs'.1; simp; omega
    have HQ2 := Lib.hid q2
    have HQ3 := Lib.hid (show (splice cur e (bts (b.take k))).length = most by rw [length_splice _ _ _ (by have := HK.out; have := hs'.1; simp; omega)]; exact HK.out)
    have q4 : (most - s.length) ≤ most := by omega
    clear q2
    go_wp2_with fail
    go_region_law (refine step_copy_keeps rfl (.tmp 42) (.tmp 45) 33 33 rfl 5 Try.underlying33 size5 _ _ _ _ _ _ rfl rfl bb 0 (splice cur e (bts (b.take k))) 5 HB2.out (bts (b.drop k)) ((most - s.length) - k) HQ2.out (Nat.min_eq_left (by omega)).symm (fun h0 => ⟨rfl, hs2.cut_source k (by omega) (by intro h; first | rfl | (rw [if_neg (by omega)]))⟩) (by rw [HQ3.out]; omega) (bts_one _) ?_; intro w3 HB3 hk3)
    replace hk3 := hk3.drew_of
    have HP3 := Lib.hid (hk3.at_ HP2.out k1)
    obtain ⟨y0, y1, y2, z0, z1, z2⟩ := cells3 HP3.out
    have fin := fun z hz => put_end w w2 w3 p bb most a e k (most - s.length) s b cur z k1 k2 k4 HK.out k6 HF.out hs'.1 (by omega) HN.out HB3.out HP3.out hk2 hk3 hz
    have HFIN := Lib.hid fin
    clear fin
    go_wp2
    all_goals go_ret
    all_goals refine ⟨?_, HFIN.out _ (by have := hs'.1; simp; omega)⟩
    all_goals first | rfl | (show _ = Ending.returned (.int .i64 _); congr 2; simp; omega)

/-- What Peek hands out: a new row that reads as the first n. -/
def Out (w w' : World) (s : List UInt8) (n : Nat) : Prop := n ≤ s.length ∧ w'.heap[w.heap.size]? = some (.cells (bts (s.take n)).toArray 5 (0, 0)) ∧ Still w w'
theorem Out.slice {w w' : World} {s : List UInt8} {n : Nat} (h : Out w w' s n) : SliceOf w' (some ⟨w.heap.size, 0, none⟩) n (s.take n) := by
  obtain ⟨h1, h2, h3⟩ := h
  refine ⟨by simp; omega, fun _ => ⟨_, 0, rfl, lt_of_block h2, fun j hj => ?_⟩⟩
  rw [Nat.zero_add, cell_of_row w' _ j _ _ _ h2]
  have := bts_at (s.take n) j hj
  simpa using this

set_option maxHeartbeats 400000 in
theorem peek_core (w : World) (p bb most : Nat) (s : List UInt8) (z : Int) (n : Nat) (h : RingAt w p bb most s) (hn : n = min z.toNat s.length) :
    Calls Try.prog 13 #[.pointer (some ⟨p, 0, none⟩), .int .i64 z] w fun e w' => e = .returned (.slice (some ⟨w.heap.size, 0, none⟩) n n) ∧ Out w w' s n := by
  obtain ⟨a, cur, k1, k2, k3, k4, k5, k6, hp, hb⟩ := h
  obtain ⟨c0, c1, c2, f0, f1, f2⟩ := cells3 hp
  have HK := Lib.hid k5
  have HP := Lib.hid hp
  have HB := Lib.hid hb
  have n1 : n ≤ s.length := by omega
  obtain ⟨y, hy⟩ : ∃ y, y = max z 0 := ⟨_, rfl⟩
  have HY := Lib.hid hy
  have HN := Lib.hid (show (n : Int) = min y (s.length : Int) by omega)
  have b1 := lt_of_block hp
  have b2 := lt_of_block hb
  obtain ⟨k, hk⟩ : ∃ k, k = min n (most - a) := ⟨_, rfl⟩
  have k7 : k ≤ n := by omega
  have k8 : k ≤ most - a := by omega
  have HK2 := Lib.hid hk
  have k9 : a ≤ most := by omega
  have k10 : ¬ most = a := by omega
  clear k5 hp hb hn hy hk
  go_enter Try.func13, Try.ntmps13
  go_wp2_with (first | (with_reducible refine wpList_max (o := ⟨some 8, _, _, _, _, _⟩) rfl _ _ _ _ rfl _ _ _ _ y rfl rfl HY.out ?_) | (with_reducible refine wpList_min (o := ⟨some 13, _, _, _, _, _⟩) rfl _ _ _ _ rfl _ _ _ _ (n : Int) rfl rfl HN.out ?_) | (at_make; refine wpList_zeros rfl _ _ 33 rfl 5 Try.underlying33 info5 .i64 .i64 _ _ n rfl rfl rfl rfl (by omega) ?_; intro w1 hk hz hb))
  have HP1 := Lib.hid (hk.at_ HP.out id)
  have HB1 := Lib.hid (hk.at_ HB.out id)
  obtain ⟨d0, d1, d2, e0, e1, e2⟩ := cells3 HP1.out
  have hf : ∀ j v, (bts (s.take k))[j]? = some v → w1.cell? ((⟨bb, a, none⟩ : Addr).add j) = some v := by
    intro j v hv
    rw [Addr.add_lit, cell_of_row w1 bb _ _ _ _ HB1.out]
    have := held_first cur a s n k (by rw [HK.out]; exact k2) n1 (by rw [HK.out]; exact k3) (by rw [HK.out]; exact HK2.out) k6 j v hv
    simpa using this
  have HF := Lib.hid hf
  have HL := Lib.hid (show (bts (s.take k)).length = k by simp; omega)
  have HL2 := Lib.hid (show (bts ((s.take n).drop k)).length = n - k by simp; omega)
  have HM : Hid (k = Nat.min (most - a) n) := by show _ = min _ _; have := HK2.out; omega
  have HZ := Lib.hid (show (splice (List.replicate n (Value.int .u8 0)) 0 (bts (s.take k))).length = n by rw [length_splice _ _ _ (by rw [HL.out, List.length_replicate]; omega), List.length_replicate])
  clear hf
  have HbD : Hid (w1.drew.heap[w.heap.size]? = some (.cells (List.replicate n (Value.int .u8 0)).toArray 5 (0, 0))) := hb
  have HFD : Hid (∀ j v, (bts (s.take k))[j]? = some v → w1.drew.cell? ((⟨bb, a, none⟩ : Addr).add j) = some v) := HF
  clear HF hb
  go_still_tail 10, (by kernel_rfl)
  change wpList _ _ _ _ _ w1.drew
  go_wp2_with (with_reducible refine wpList_copy_keeps (o := ⟨some 26, _, _, _, _, _⟩) rfl (.tmp 16) (.tmp 25) 33 33 rfl 5 Try.underlying33 size5 _ _ _ _ _ _ rfl rfl w.heap.size 0 (List.replicate n (.int .u8 0)) 5 HbD.out (bts (s.take k)) k HL.out HM.out (fun h0 => ⟨rfl, _, rfl, HFD.out⟩) (by rw [List.length_replicate]; omega) (bts_one _) ?_; intro w2 HO2 hk2)
  replace hk2 := hk2.drew_of
  have HP2 := Lib.hid (hk2.at_ HP1.out (by omega))
  have HB2 := Lib.hid (hk2.at_ HB1.out (by omega))
  obtain ⟨y0, y1, y2, z0, z1, z2⟩ := cells3 HP2.out
  have hf : ∀ j v, (bts ((s.take n).drop k))[j]? = some v → w2.cell? ((⟨bb, 0, none⟩ : Addr).add j) = some v := by
    intro j v hv
    rw [Addr.add_lit, cell_of_row w2 bb _ _ _ _ HB2.out]
    have := held_second cur a s n k (by rw [HK.out]; exact k2) n1 (by rw [HK.out]; exact k3) (by rw [HK.out]; exact HK2.out) k6 j v hv
    simpa using this
  have HF2 := Lib.hid hf
  clear hf
  have HOD : Hid (w2.drew.heap[w.heap.size]? = some (.cells (splice (List.replicate n (Value.int .u8 0)) 0 (bts (s.take k))).toArray 5 (0, 0))) := HO2
  have HFD2 : Hid (∀ j v, (bts ((s.take n).drop k))[j]? = some v → w2.drew.cell? ((⟨bb, 0, none⟩ : Addr).add j) = some v) := HF2
  clear HF2 HO2
  have HS := Lib.hid (peek_row (List.replicate n (Value.int .u8 0)) s n k List.length_replicate n1 k7)
  have q5 : Hid (n - k = Nat.min most (n - k)) := (Nat.min_eq_right (by omega)).symm
  go_wp2_with fail
  go_still_tail 7, (by kernel_rfl)
  change wpList _ _ _ _ _ w2.drew
  go_wp2_with (with_reducible refine wpList_copy_keeps (o := ⟨some 34, _, _, _, _, _⟩) rfl (.tmp 29) (.tmp 33) 33 33 rfl 5 Try.underlying33 size5 _ _ _ _ _ _ rfl rfl w.heap.size k (splice (List.replicate n (.int .u8 0)) 0 (bts (s.take k))) 5 HOD.out (bts ((s.take n).drop k)) (n - k) HL2.out q5.out (fun h0 => ⟨by first | rfl | (rw [if_neg (by omega)]), _, rfl, HFD2.out⟩) (by rw [HZ.out]; omega) (bts_one _) ?_; intro w3 HO3 hk3; replace hk3 := hk3.drew_of)
  all_goals go_ret
  all_goals refine ⟨rfl, by omega, ?_, hk.fresh hk2 hk3⟩
  all_goals have e := HO3.out
  all_goals rw [HS.out] at e
  all_goals first | exact e | (have q : n = k := by assumption
                               rw [← q]; exact e)

theorem peek_any (w : World) (p bb most : Nat) (s : List UInt8) (z : Int) (h : RingAt w p bb most s) :
    Calls Try.prog 13 #[.pointer (some ⟨p, 0, none⟩), .int .i64 z] w fun e w' => e = .returned (.slice (some ⟨w.heap.size, 0, none⟩) (min z.toNat s.length) (min z.toNat s.length)) ∧ Out w w' s (min z.toNat s.length) :=
  peek_core w p bb most s z _ h rfl

theorem take_end (w w1 : World) (p bb most a n : Nat) (s : List UInt8) (cur : List Value) (z1 z2 : Int) (k1 : p ≠ bb) (k2 : a < most) (k3 : s.length ≤ most) (k4 : most ≤ 65536) (k5 : cur.length = most) (k6 : Held cur a s)
    (hP : w1.heap[p]? = some (.cells #[.slice (some ⟨bb, 0, none⟩) most most, .int .i64 a, .int .i64 s.length] 45 (0, 0)))
    (hB : w1.heap[bb]? = some (.cells cur.toArray 5 (0, 0))) (hn : n ≤ s.length)
    (h1 : z1 = ((a + n) % most : Nat)) (h2 : z2 = (s.length - n : Nat)) (hs : Still w w1) :
    RingAt ((w1.setCell ⟨p, 1, none⟩ (.int .i64 z1)).setCell ⟨p, 2, none⟩ (.int .i64 z2)) p bb most (s.drop n) ∧
      Keeps (fun k => k = p) w ((w1.setCell ⟨p, 1, none⟩ (.int .i64 z1)).setCell ⟨p, 2, none⟩ (.int .i64 z2)) := by
  subst k5
  refine ⟨⟨(a + n) % cur.length, cur, k1, Nat.mod_lt _ (by omega), by simp; omega, k4, rfl, held_drop cur a s n hn k6, ?_, ?_⟩, Keeps.setCell (S := fun k => k = p) (Keeps.setCell (S := fun k => k = p) hs.still (p := ⟨p, 1, none⟩) rfl _) (p := ⟨p, 2, none⟩) rfl _⟩
  · have e := (set3 (set3 hP (.int .i64 z1)).1 (.int .i64 z2)).2
    rw [e, h1, h2]; simp
  · rw [heap_setCell_other _ ⟨p, 2, none⟩ bb _ (Ne.symm k1), heap_setCell_other _ ⟨p, 1, none⟩ bb _ (Ne.symm k1)]; exact hB

theorem take_any (w : World) (p bb most : Nat) (s : List UInt8) (z : Int) (h : RingAt w p bb most s) :
    Calls Try.prog 16 #[.pointer (some ⟨p, 0, none⟩), .int .i64 z] w fun e w' => e = .returned (.slice (some ⟨w.heap.size, 0, none⟩) (min z.toNat s.length) (min z.toNat s.length)) ∧
      SliceOf w' (some ⟨w.heap.size, 0, none⟩) (min z.toNat s.length) (s.take (min z.toNat s.length)) ∧ RingAt w' p bb most (s.drop (min z.toNat s.length)) ∧ Keeps (fun k => k = p) w w' := by
  have hpk := peek_any w p bb most s z h
  obtain ⟨n, hn⟩ : ∃ n, n = min z.toNat s.length := ⟨_, rfl⟩
  rw [← hn] at hpk ⊢
  have n1 : n ≤ s.length := by omega
  clear hn
  have hl := h.lt
  obtain ⟨a, cur, k1, k2, k3, k4, k5, k6, hp, hb⟩ := h
  have HK := Lib.hid k5
  have HP := Lib.hid hp
  have HB := Lib.hid hb
  have HE := Lib.hid (show ((a : Int) + (n : Int)) % (most : Int) = (((a + n) % most : Nat) : Int) by simp)
  clear k5 hp hb
  go_enter Try.func16, Try.ntmps16
  go_wp2_with (go_at_call 13; refine hpk.mono ?_; rintro e w1 ⟨rfl, ho⟩)
  have HP1 := Lib.hid (ho.2.2.at_ HP.out id)
  have HB1 := Lib.hid (ho.2.2.at_ HB.out id)
  obtain ⟨d0, d1, d2, e0, e1, e2⟩ := cells3 HP1.out
  have hsl := ho.slice
  have HFIN := Lib.hid (take_end w w1 p bb most a n s cur (((a : Int) + (n : Int)) % (most : Int)) ((s.length : Int) - (n : Int)) k1 k2 k3 k4 HK.out k6 HP1.out HB1.out n1 (by simp) (by omega) ho.2.2)
  go_region
  go_wp2
  go_ret
  have f := HFIN.out
  refine ⟨rfl, ?_, f.1, f.2.drew⟩
  have hk : Keeps (fun k => k = p) w1 ((w1.setCell ⟨p, 1, none⟩ (.int .i64 (((a : Int) + (n : Int)) % (most : Int)))).setCell ⟨p, 2, none⟩ (.int .i64 ((s.length : Int) - (n : Int)))).drew :=
    (Keeps.setCell (S := fun k => k = p) (Keeps.setCell (S := fun k => k = p) (Keeps.refl _ w1) (p := ⟨p, 1, none⟩) rfl _) (p := ⟨p, 2, none⟩) rfl _).drew
  exact hsl.keeps hk (fun ad h => by
    cases h
    show ¬ w.heap.size = p
    have := hl.1
    omega)

theorem new_no (w : World) (m : Int) (h : m < 1 ∨ 65536 < m) :
    Calls Try.prog 9 #[.int .i64 m] w fun e w' => e = .returned (.tuple #[.pointer none, .int .i64 40]) ∧ w = w' := by
  rcases h with h | h
  · go_enter Try.func9, Try.ntmps9
    go_wp2
    go_ret2
    exact ⟨rfl, rfl⟩
  · have h' : ¬ m < 1 := by omega
    go_enter Try.func9, Try.ntmps9
    go_wp2
    go_ret2
    exact ⟨rfl, rfl⟩

/-! The same contracts, the outcome under names of the caller's own. -/
theorem len_at (w : World) (p bb most : Nat) (s : List UInt8) (z : Int) (h : RingAt w p bb most s) (hz : z = s.length) :
    Calls Try.prog 17 #[.pointer (some ⟨p, 0, none⟩)] w fun e w' => e = .returned (.int .i64 z) ∧ w = w' := by
  subst hz
  exact len_any w p bb most s h
theorem room_at (w : World) (p bb most : Nat) (s : List UInt8) (z : Int) (h : RingAt w p bb most s) (hz : z = most - s.length) :
    Calls Try.prog 18 #[.pointer (some ⟨p, 0, none⟩)] w fun e w' => e = .returned (.int .i64 z) ∧ ∃ n, w' = w.drewN n := by
  subst hz
  exact room_any w p bb most s h
theorem put_at (w : World) (p bb most : Nat) (s l t : List UInt8) (A : Option Addr) (n cap k : Nat) (h : RingAt w p bb most s) (hs : SliceOf w A n l) (hcap : n ≤ cap) (hA : ∀ ad, A = some ad → ad.block ≠ p ∧ ad.block ≠ bb)
    (hk : k = min n (most - s.length)) (ht : t = s ++ l.take (most - s.length)) :
    Calls Try.prog 12 #[.pointer (some ⟨p, 0, none⟩), .slice A n cap] w fun e w' => e = .returned (.int .i64 k) ∧ RingAt w' p bb most t ∧ Keeps (fun k => k = p ∨ k = bb) w w' := by
  subst hk
  subst ht
  exact put_any w p bb most s l A n cap h hs hcap hA
theorem put_z (w : World) (p bb most : Nat) (s l t : List UInt8) (A : Option Addr) (n cap : Nat) (z : Int) (h : RingAt w p bb most s) (hs : SliceOf w A n l) (hcap : n ≤ cap) (hA : ∀ ad, A = some ad → ad.block ≠ p ∧ ad.block ≠ bb)
    (hk : z = min n (most - s.length : Nat)) (ht : t = s ++ l.take (most - s.length)) :
    Calls Try.prog 12 #[.pointer (some ⟨p, 0, none⟩), .slice A n cap] w fun e w' => e = .returned (.int .i64 z) ∧ RingAt w' p bb most t ∧ Keeps (fun k => k = p ∨ k = bb) w w' := by
  rw [show z = ((min n (most - s.length) : Nat) : Int) by rw [hk]]
  exact put_at w p bb most s l t A n cap _ h hs hcap hA rfl ht
theorem peek_at (w : World) (p bb most n : Nat) (s : List UInt8) (z : Int) (h : RingAt w p bb most s) (hn : n = min z.toNat s.length) :
    Calls Try.prog 13 #[.pointer (some ⟨p, 0, none⟩), .int .i64 z] w fun e w' => e = .returned (.slice (some ⟨w.heap.size, 0, none⟩) n n) ∧ Out w w' s n := peek_core w p bb most s z n h hn
theorem take_at (w : World) (p bb most n : Nat) (s l t : List UInt8) (z : Int) (h : RingAt w p bb most s) (hn : n = min z.toNat s.length) (hl : l = s.take n) (ht : t = s.drop n) :
    Calls Try.prog 16 #[.pointer (some ⟨p, 0, none⟩), .int .i64 z] w fun e w' => e = .returned (.slice (some ⟨w.heap.size, 0, none⟩) n n) ∧
      SliceOf w' (some ⟨w.heap.size, 0, none⟩) n l ∧ RingAt w' p bb most t ∧ Keeps (fun k => k = p) w w' := by
  subst hn
  subst hl
  subst ht
  exact take_any w p bb most s z h
end Go.Proofs.Ytmioglkibjmmfaa
