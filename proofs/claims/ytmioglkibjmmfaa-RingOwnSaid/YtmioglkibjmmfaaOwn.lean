/- The walk of RingOwn: whatever the input, the law returns true and leaves old memory alone. -/
import Derived.Test.YtmioglkibjmmfaaAwake
import Derived.LoopTactic
namespace Go.Proofs.Ytmioglkibjmmfaa
open Go.RowKit

/-- n cells of block g are there and may be written. -/
def Free (w : World) (g n : Nat) : Prop := ∀ j, j < n → (∃ v, w.cell? ⟨g, j, none⟩ = some v) ∧ w.frozen? ⟨g, j, none⟩ = false
theorem Free.set {w : World} {g n : Nat} (h : Free w g n) (a : Addr) (v : Value) : Free (w.setCell a v) g n := by
  intro j hj
  obtain ⟨⟨u, hu⟩, hf⟩ := h j hj
  refine ⟨?_, by rw [World.frozen?_setCell]; exact hf⟩
  by_cases e : a = ⟨g, j, none⟩
  · subst e; exact ⟨v, World.cell?_setCell_same w _ v hu⟩
  · exact ⟨u, by rw [World.cell?_setCell_other w _ _ v e]; exact hu⟩
theorem Free.keeps {S : Nat → Prop} {w w' : World} {g n : Nat} (h : Free w g n) (hk : Keeps S w w') (hg : ¬ S g) : Free w' g n := by
  intro j hj
  obtain ⟨⟨u, hu⟩, hf⟩ := h j hj
  have hlt := World.block_lt_of_cell? w _ hu
  exact ⟨⟨u, hk.cell hu hg⟩, (World.frozen?_of_block (w := w) (hk.block g hlt hg)).trans hf⟩
theorem Free.of_row {w : World} {g n : Nat} {l : List Value} {t : TypeId} (h : w.heap[g]? = some (.cells l.toArray t (0, 0))) (hn : n ≤ l.length) : Free w g n := by
  intro j hj
  refine ⟨⟨l[j], ?_⟩, frozen_of_row w g j _ t h⟩
  rw [cell_of_row w g j _ _ _ h]; simp
theorem Free.of_slice {w : World} {g n : Nat} {l : List UInt8} (h : SliceOf w (some ⟨g, 0, none⟩) n l) (hf : ∀ j, j < n → w.frozen? ⟨g, j, none⟩ = false) : Free w g n := by
  intro j hj
  obtain ⟨g', off, he, _, hc⟩ := h.2 (by omega)
  cases he
  have := hc j (by have := h.1; omega)
  rw [Nat.zero_add] at this
  exact ⟨⟨_, this⟩, hf j hj⟩

set_option maxHeartbeats 1000000 in
theorem ringOwn_far (a : ByteArray) (b : Int) (w : World) (g1 : 100 < a.size) :
    Calls Try.prog 5 #[.string a, .int .u8 b] w fun e w' => e = .returned (.bool true) ∧ Below w.heap.size w w' := by
  go_enter Try.func5, Try.ntmps5
  go_wp2_with fail
  refine (new_at _ _ 100 (by omega) (by omega) (by omega)).mono ?_
  rintro e w1 ⟨p, bb, rfl, hr, hk, h1, h2⟩
  go_wp2_with fail
  refine (awake_any _).mono ?_
  rintro e w2 ⟨rfl, hk2⟩
  go_wp2_with fail
  refine (awake_any _).mono ?_
  rintro e w3 ⟨rfl, hk3⟩
  go_wp2_with fail
  go_ret
  exact ⟨rfl, ((hk.trans hk2).trans hk3).below'⟩

set_option maxHeartbeats 2000000 in
theorem ringOwn_near (a : ByteArray) (b : Int) (w : World) (ha : a.size ≤ 100) :
    Calls Try.prog 5 #[.string a, .int .u8 b] w fun e w' => e = .returned (.bool true) ∧ Below w.heap.size w w' := by
  have hl := len_data a
  have HL := Lib.hid hl
  clear hl
  go_enter Try.func5, Try.ntmps5
  go_wp2_with fail
  refine (new_at _ _ 100 (by omega) (by omega) (by omega)).mono ?_
  rintro e w1 ⟨p, bb, rfl, hr, hk, h1, h2⟩
  go_wp2_with fail
  refine (awake_any _).mono ?_
  rintro e w2 ⟨rfl, hk2⟩
  have hr2 := hr.keeps hk2 id id
  have q2 := hr2.lt
  have s2 := hk2.size
  have s1 := hk.size
  go_wp2_with (with_reducible refine wpList_bytes (o := ⟨some 33, _, _, _, _, _⟩) rfl _ _ _ rfl 5 Try.underlying9 Try.underlying33 Try.underlying5 a rfl ?_; intro w3 c hk3 hz3 hc3 hs3 hf3)
  have hr3 := hr2.keeps hk3 id id
  refine (put_at _ p bb 100 _ _ a.data.toList _ _ _ a.size hr3 hs3 hc3 ?_ (by simp; omega) ?_).mono ?_
  · intro ad h; cases h; simp; omega
  · rw [List.nil_append, List.take_of_length_le (by rw [HL.out]; simp; omega)]
  rintro e w4 ⟨rfl, hr4, hk4⟩
  obtain ⟨g, hg⟩ : ∃ g, g = w2.heap.size := ⟨_, rfl⟩
  have hfr := (Free.of_slice hs3 hf3).keeps hk4 (by omega)
  rw [← hg] at hfr ⊢
  have gp : ¬ p = g := by omega
  have gb : ¬ bb = g := by omega
  have HG := Lib.hid hg
  clear hg
  go_wp2_with fail
  go_loopw [8] (fun i wr => ∃ k : Nat, k ≤ a.size ∧ i = .int .i64 k ∧ Free wr g a.size ∧ Keeps (fun k => k = g) w4 wr) (fun i _ => a.size - (intOf i).toNat)
  case atStart => exact ⟨0, by omega, rfl, hfr, Keeps.refl _ _⟩
  case round =>
    obtain ⟨k, hka, rfl, hfk, hkk⟩ := hrel
    by_cases hlt : k < a.size
    · obtain ⟨⟨u, hu⟩, hff⟩ := hfk k hlt
      go_wp2
      go_roundw
      case rel => exact ⟨k + 1, by omega, by go_num, hfk.set _ _, hkk.setCell rfl _⟩
      case measure => simp [intOf]; omega
    · have hr5 := hr4.keeps hkk gp gb
      have q5 := hr5.lt
      go_wp2_with fail
      refine (peek_at _ p bb 100 a.size _ _ hr5 (by rw [HL.out]; simp; omega)).mono ?_
      rintro e w6 ⟨rfl, ho⟩
      have hr6 := hr5.keeps ho.2.2 id id
      have cv : ∀ c, (convert 33 9 (.slice (some ⟨wr.heap.size, 0, none⟩) a.size c)).run Try.prog w6 = .ok (.string a) w6 := fun c => run_string_as (P := Try.prog) (cap := c) Try.underlying33 Try.underlying5 Try.underlying9 a ho.slice (by rw [List.take_of_length_le (by rw [HL.out]; omega)])
      obtain ⟨g2, hg2⟩ : ∃ g2, g2 = wr.heap.size := ⟨_, rfl⟩
      have hfr2 : Free w6 g2 a.size := by rw [hg2]; exact Free.of_row ho.2.1 (by rw [length_bts, List.length_take, HL.out]; omega)
      rw [← hg2] at cv ⊢
      have gp2 : ¬ p = g2 := by omega
      have gb2 : ¬ bb = g2 := by omega
      have HG2 := Lib.hid hg2
      clear hg2
      go_wp2_with fail
      go_loopw [11] (fun i wq => ∃ k : Nat, k ≤ a.size ∧ i = .int .i64 k ∧ Free wq g2 a.size ∧ Keeps (fun k => k = g2) w6 wq) (fun i _ => a.size - (intOf i).toNat)
      case atStart => exact ⟨0, by omega, rfl, hfr2, Keeps.refl _ _⟩
      case round =>
        obtain ⟨j, hja, rfl, hfj, hkj⟩ := hrel
        by_cases hlt2 : j < a.size
        · obtain ⟨⟨u, hu⟩, hff⟩ := hfj j hlt2
          go_wp2
          go_roundw
          case rel => exact ⟨j + 1, by omega, by go_num, hfj.set _ _, hkj.setCell rfl _⟩
          case measure => simp [intOf]; omega
        · have hr7 := hr6.keeps hkj gp2 gb2
          go_wp2_with fail
          refine (take_at _ p bb 100 a.size a.data.toList a.data.toList [] 100 hr7 (by rw [HL.out]; simp; omega) (by rw [List.take_of_length_le (by rw [HL.out]; omega)]) (by rw [List.drop_eq_nil_of_le (by rw [HL.out]; omega)])).mono ?_
          rintro e w8 ⟨rfl, hs8, hr8, hk8⟩
          have cv8 : ∀ c, (convert 33 9 (.slice (some ⟨wr.heap.size, 0, none⟩) a.size c)).run Try.prog w8 = .ok (.string a) w8 := fun c => run_string_as (P := Try.prog) (cap := c) Try.underlying33 Try.underlying5 Try.underlying9 a hs8 rfl
          go_wp2
          go_ret
          refine ⟨rfl, Keeps.below' ?_⟩
          have s6 := ho.2.2.size
          have skk := hkk.size
          have s4 := hk4.size
          have s3 := hk3.size
          have f1 := HG.out
          have f2 := HG2.out
          have hS : ∀ k, k < w.heap.size → ¬ (k = p ∨ k = bb) := by intro k hk; omega
          exact (((((((hk.trans hk2).trans hk3).on hk4 hS).on hkk (fun i hi e => by omega)).trans ho.2.2).on hkj (fun i hi e => by omega)).on hk8 (fun i hi e => hS i hi (.inl e)))
end Go.Proofs.Ytmioglkibjmmfaa
