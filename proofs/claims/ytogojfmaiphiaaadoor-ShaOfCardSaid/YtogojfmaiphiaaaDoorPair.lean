/- The walk of ShaTwo: whatever the input, the law returns true and leaves old memory alone. -/
import Derived.Test.YtogojfmaiphiaaaDoorParts
namespace Go.Proofs.YtogojfmaiphiaaaDoor
open Go.RowKit

/-- []byte(s): what it yields, and the world behind it. -/
theorem bytes_run (w : World) (s : ByteArray) : ∃ (w' : World) (c : Nat), (convert 9 25 (.string s)).run Tryd.prog w = .ok (.slice (some ⟨w.heap.size, 0, none⟩) s.size c) w' ∧ Still w w' ∧ w.heap.size < w'.heap.size ∧ s.size ≤ c ∧
    SliceOf w' (some ⟨w.heap.size, 0, none⟩) s.size s.data.toList := by
  refine ⟨_, _, run_bytes_of_string (P := Tryd.prog) w 9 25 5 s Tryd.underlying9 Tryd.underlying25 Tryd.underlying5, ((Keeps.refl _ _).drew).alloc _, by simp, grownCap_ge _ _ _ _, Array.length_toList, fun hn => ⟨_, 0, rfl, by simp, fun j hj => ?_⟩⟩
  have hj' : j < s.data.size := by simpa using hj
  rw [Nat.zero_add]
  refine (World.cell?_alloc_mark w.drew _ _ _ j).trans ?_
  rw [bytesRow_at s _ j hj']; simp
set_option maxRecDepth 100000 in
set_option maxHeartbeats 4000000 in
theorem shaTwo_far (A B : Option Addr) (la ca lb cb : Nat) (w : World) (h0 : Start w) (g1 : 20 < la ∨ 20 < lb) :
    Calls Tryd.prog 7 #[.slice A la ca, .slice B lb cb] w fun e w' => e = .returned (.bool true) ∧ Below w.heap.size w w' := by
  rcases (show 20 < la ∨ (¬ 20 < la ∧ 20 < lb) by omega) with g | ⟨g, g2⟩
  all_goals
    clear g1
    go_enter Tryd.func7, Tryd.ntmps7
    go_wp2_with fail
    have hq := new_any w h0
    refine hq.mono ?_
    clear hq
    rintro e w1 ⟨rfl, hn1, hk1⟩
    have h1 := h0.keeps hk1 id
    go_wp2_with fail
    have hq := new_any w1 h1
    refine hq.mono ?_
    clear hq
    rintro e w2 ⟨rfl, hn2, hk2⟩
    have h2 := h1.keeps hk2 id
    go_wp2_with fail
    have hq := awake_any w2 h2
    refine hq.mono ?_
    clear hq
    rintro e w3 ⟨rfl, hk3⟩
    have h3 := h2.keeps hk3 id
    go_wp2_with fail
    have hq := awake_any w3 h3
    refine hq.mono ?_
    clear hq
    rintro e w4 ⟨rfl, hk4⟩
    have HF := Lib.hid (((hk1.trans hk2).trans hk3).trans hk4)
    clear hk1 hk2 hk3 hk4 hn1 hn2 h0 h1 h2 h3
    go_wp2_with fail
    go_ret
    exact ⟨rfl, HF.out.below'⟩

def RelT (w wr : World) (q : Nat) (vx vy i : Value) : Prop := ∃ (k : Nat) (x y : ByteArray), i = .int .i64 k ∧ k ≤ 20 ∧ vx = .string x ∧ vy = .string y ∧ x.size ≤ 200 * k ∧ y.size ≤ 200 * k ∧ Hid (Two w wr w.heap.size q (Sum.init.add x.data.toList) (Sum.init.add y.data.toList))
theorem relT {w wr : World} {q : Nat} {vx vy i : Value} (k : Nat) (x y : ByteArray) (h1 : i = .int .i64 k) (h2 : k ≤ 20) (h3 : vx = .string x) (h4 : vy = .string y) (h5 : x.size ≤ 200 * k) (h6 : y.size ≤ 200 * k) (h7 : Hid (Two w wr w.heap.size q (Sum.init.add x.data.toList) (Sum.init.add y.data.toList))) : RelT w wr q vx vy i :=
  ⟨k, x, y, h1, h2, h3, h4, h5, h6, h7⟩

set_option maxRecDepth 100000 in
set_option maxHeartbeats 16000000 in
theorem shaTwo_near (A B : Option Addr) (la ca lb cb : Nat) (w : World) (h0 : Start w) (hla : la ≤ 20) (hlb : lb ≤ 20) (hTA : Texts w A la) (hTB : Texts w B lb) :
    Calls Tryd.prog 7 #[.slice A la ca, .slice B lb cb] w fun e w' => e = .returned (.bool true) ∧ Below w.heap.size w w' := by
  have HW := Lib.hid h0
  have HXA := Lib.hid hTA
  have HXB := Lib.hid hTB
  clear hTA hTB
  go_enter Tryd.func7, Tryd.ntmps7
  go_wp2_with fail
  have hq := new_any w h0
  refine hq.mono ?_
  clear hq
  rintro e w1 ⟨rfl, hn1, hk1⟩
  have h1 := h0.keeps hk1 id
  go_wp2_with fail
  have hq := new_any w1 h1
  refine hq.mono ?_
  clear hq
  rintro e w2 ⟨rfl, hn2, hk2⟩
  have h2 := h1.keeps hk2 id
  have hlt1 := hn1.lt
  obtain ⟨q, hq⟩ : ∃ q, q = w1.heap.size := ⟨_, rfl⟩
  rw [← hq] at hn2 ⊢
  have hT2 := Lib.hid (show Two w w2 w.heap.size q Sum.init Sum.init from ⟨hn1.keeps hk2 id, hn2, hk1.trans hk2, Nat.le_refl _, by omega, by omega⟩)
  clear hn1 hn2 hk1 hk2 h0 h1 hlt1 hq
  go_wp2_with fail
  have hq := awake_any w2 h2
  refine hq.mono ?_
  clear hq
  rintro e w3 ⟨rfl, hk3⟩
  have HT3 := Lib.hid (show Two w w3 w.heap.size q (Sum.init.add (⟨#[]⟩ : ByteArray).data.toList) (Sum.init.add (⟨#[]⟩ : ByteArray).data.toList) from hT2.out.still hk3)
  clear hT2 hk3 h2
  go_wp2_with fail
  go_loopw [7, 8, 9] (fun vx vy i wr => RelT w wr q vx vy i) (fun _ _ i _ => 20 - (intOf i).toNat)
  case atStart => exact relT 0 ⟨#[]⟩ ⟨#[]⟩ rfl (by omega) rfl rfl (by show 0 ≤ _; omega) (by show 0 ≤ _; omega) HT3
  case round =>
    clear HT3
    obtain ⟨k, x, y, rfl, hk, rfl, rfl, hx, hy, hT⟩ := hrel
    by_cases hA : k < la
    · by_cases hB : k < lb
      · obtain ⟨ga, oa, rfl, _, hcella⟩ := HXA.out (by omega)
        obtain ⟨sa, hsa⟩ := hcella k hA
        have HCa := Lib.hid hsa
        have ca : wr.cell? ⟨ga, oa + k, none⟩ = some (.string sa) := hT.out.2.2.1.cell hsa id
        clear hcella hsa
        obtain ⟨gb, ob, rfl, _, hcellb⟩ := HXB.out (by omega)
        obtain ⟨sb, hsb⟩ := hcellb k hB
        have HCb := Lib.hid hsb
        have cb : wr.cell? ⟨gb, ob + k, none⟩ = some (.string sb) := hT.out.2.2.1.cell hsb id
        clear hcellb hsb
        by_cases hbiga : 200 < sa.size
        · have HF := Lib.hid hT.out.2.2.1
          clear hT
          go_wp2_with fail
          go_ret
          exact ⟨rfl, HF.out.below'⟩
        · obtain ⟨x', hx'⟩ : ∃ a, a = x ++ sa := ⟨_, rfl⟩
          have hsza : x'.size = x.size + sa.size := by rw [hx', ByteArray.size_append]
          have hdta : x'.data.toList = x.data.toList ++ sa.data.toList := by rw [hx', data_append]
          have hadda : ∀ w', (Op.stringOp .add x sa).run Tryd.prog w' = .ok (.string x') w' := fun w' => by rw [run_string_add_sum w' _ _ (by omega), hx']
          have hba' : x'.size ≤ 200 * (k + 1) := by omega
          have HSa := Lib.hid (show Sum.init.add x'.data.toList = (Sum.init.add x.data.toList).add sa.data.toList by rw [hdta, Sum.add_append])
          have HNa := Lib.hid (init_n x)
          clear hx' hsza hdta
          by_cases hbigb : 200 < sb.size
          · go_wp2_with (with_reducible refine wpList_bytes (o := ⟨some 60, _, _, _, _, _⟩) rfl _ _ _ rfl 5 Tryd.underlying9 Tryd.underlying25 Tryd.underlying5 sa rfl ?_; intro w3 c3 hk3 hz3 hc3 hs3 hf3)
            have hT3 := hT.out.still hk3
            have l1 := hT.out.1.lt
            have hq := add_at w3 w.heap.size (Sum.init.add x.data.toList) (Sum.init.add x'.data.toList) sa.data.toList (some ⟨wr.heap.size, 0, none⟩) sa.size c3 hT3.1 hs3 hc3 (by intro ad h; cases h; show wr.heap.size ≠ _; omega) (by rw [HNa.out]; omega) HSa.out
            refine hq.mono ?_
            clear hq
            rintro e w4 ⟨rfl, hs4, hk4⟩
            have HT4 := Lib.hid (hT3.left hs4 hk4)
            clear hT3 hs4 hk4 hk3 hz3 hc3 hs3 hf3 l1
            have ca : w4.cell? ⟨ga, oa + k, none⟩ = some (.string sa) := HT4.out.2.2.1.cell HCa.out id
            have cb : w4.cell? ⟨gb, ob + k, none⟩ = some (.string sb) := HT4.out.2.2.1.cell HCb.out id
            clear hT
            have HF := Lib.hid HT4.out.2.2.1
            clear HT4
            go_wp2_with fail
            go_ret
            exact ⟨rfl, HF.out.below'⟩
          · obtain ⟨y', hy'⟩ : ∃ a, a = y ++ sb := ⟨_, rfl⟩
            have hszb : y'.size = y.size + sb.size := by rw [hy', ByteArray.size_append]
            have hdtb : y'.data.toList = y.data.toList ++ sb.data.toList := by rw [hy', data_append]
            have haddb : ∀ w', (Op.stringOp .add y sb).run Tryd.prog w' = .ok (.string y') w' := fun w' => by rw [run_string_add_sum w' _ _ (by omega), hy']
            have hbb' : y'.size ≤ 200 * (k + 1) := by omega
            have HSb := Lib.hid (show Sum.init.add y'.data.toList = (Sum.init.add y.data.toList).add sb.data.toList by rw [hdtb, Sum.add_append])
            have HNb := Lib.hid (init_n y)
            clear hy' hszb hdtb
            go_wp2_with (with_reducible refine wpList_bytes (o := ⟨some 60, _, _, _, _, _⟩) rfl _ _ _ rfl 5 Tryd.underlying9 Tryd.underlying25 Tryd.underlying5 sa rfl ?_; intro w3 c3 hk3 hz3 hc3 hs3 hf3)
            have hT3 := hT.out.still hk3
            have l1 := hT.out.1.lt
            have hq := add_at w3 w.heap.size (Sum.init.add x.data.toList) (Sum.init.add x'.data.toList) sa.data.toList (some ⟨wr.heap.size, 0, none⟩) sa.size c3 hT3.1 hs3 hc3 (by intro ad h; cases h; show wr.heap.size ≠ _; omega) (by rw [HNa.out]; omega) HSa.out
            refine hq.mono ?_
            clear hq
            rintro e w4 ⟨rfl, hs4, hk4⟩
            have HT4 := Lib.hid (hT3.left hs4 hk4)
            clear hT3 hs4 hk4 hk3 hz3 hc3 hs3 hf3 l1
            have ca : w4.cell? ⟨ga, oa + k, none⟩ = some (.string sa) := HT4.out.2.2.1.cell HCa.out id
            have cb : w4.cell? ⟨gb, ob + k, none⟩ = some (.string sb) := HT4.out.2.2.1.cell HCb.out id
            clear hT
            go_wp2_with (with_reducible refine wpList_bytes (o := ⟨some 83, _, _, _, _, _⟩) rfl _ _ _ rfl 5 Tryd.underlying9 Tryd.underlying25 Tryd.underlying5 sb rfl ?_; intro w5 c3 hk3 hz3 hc3 hs3 hf3)
            have hT3 := HT4.out.still hk3
            have l1 := HT4.out.2.1.lt
            have hq := add_at w5 q (Sum.init.add y.data.toList) (Sum.init.add y'.data.toList) sb.data.toList (some ⟨w4.heap.size, 0, none⟩) sb.size c3 hT3.2.1 hs3 hc3 (by intro ad h; cases h; show w4.heap.size ≠ _; omega) (by rw [HNb.out]; omega) HSb.out
            refine hq.mono ?_
            clear hq
            rintro e w6 ⟨rfl, hs4, hk4⟩
            have HT6 := Lib.hid (hT3.right hs4 hk4)
            clear hT3 hs4 hk4 hk3 hz3 hc3 hs3 hf3 l1
            have ca : w6.cell? ⟨ga, oa + k, none⟩ = some (.string sa) := HT6.out.2.2.1.cell HCa.out id
            have cb : w6.cell? ⟨gb, ob + k, none⟩ = some (.string sb) := HT6.out.2.2.1.cell HCb.out id
            clear HT4
            go_wp2_with fail
            first
            | (go_roundw
               case rel => first | exact relT (k + 1) x' y' rfl (by omega) rfl rfl (by omega) (by omega) HT6 | ((repeat apply Exists.intro); exact ⟨relT (k + 1) x' y' rfl (by omega) rfl rfl (by omega) (by omega) HT6, by and_intros <;> first | rfl | simp⟩)
               case measure => simp [intOf]; omega)
            | exact ⟨relT (k + 1) x' y' rfl (by omega) rfl rfl (by omega) (by omega) HT6, by simp [intOf]; omega⟩
      · obtain ⟨ga, oa, rfl, _, hcella⟩ := HXA.out (by omega)
        obtain ⟨sa, hsa⟩ := hcella k hA
        have HCa := Lib.hid hsa
        have ca : wr.cell? ⟨ga, oa + k, none⟩ = some (.string sa) := hT.out.2.2.1.cell hsa id
        clear hcella hsa
        by_cases hbiga : 200 < sa.size
        · have HF := Lib.hid hT.out.2.2.1
          clear hT
          go_wp2_with fail
          go_ret
          exact ⟨rfl, HF.out.below'⟩
        · obtain ⟨x', hx'⟩ : ∃ a, a = x ++ sa := ⟨_, rfl⟩
          have hsza : x'.size = x.size + sa.size := by rw [hx', ByteArray.size_append]
          have hdta : x'.data.toList = x.data.toList ++ sa.data.toList := by rw [hx', data_append]
          have hadda : ∀ w', (Op.stringOp .add x sa).run Tryd.prog w' = .ok (.string x') w' := fun w' => by rw [run_string_add_sum w' _ _ (by omega), hx']
          have hba' : x'.size ≤ 200 * (k + 1) := by omega
          have HSa := Lib.hid (show Sum.init.add x'.data.toList = (Sum.init.add x.data.toList).add sa.data.toList by rw [hdta, Sum.add_append])
          have HNa := Lib.hid (init_n x)
          clear hx' hsza hdta
          go_wp2_with (with_reducible refine wpList_bytes (o := ⟨some 60, _, _, _, _, _⟩) rfl _ _ _ rfl 5 Tryd.underlying9 Tryd.underlying25 Tryd.underlying5 sa rfl ?_; intro w3 c3 hk3 hz3 hc3 hs3 hf3)
          have hT3 := hT.out.still hk3
          have l1 := hT.out.1.lt
          have hq := add_at w3 w.heap.size (Sum.init.add x.data.toList) (Sum.init.add x'.data.toList) sa.data.toList (some ⟨wr.heap.size, 0, none⟩) sa.size c3 hT3.1 hs3 hc3 (by intro ad h; cases h; show wr.heap.size ≠ _; omega) (by rw [HNa.out]; omega) HSa.out
          refine hq.mono ?_
          clear hq
          rintro e w4 ⟨rfl, hs4, hk4⟩
          have HT4 := Lib.hid (hT3.left hs4 hk4)
          clear hT3 hs4 hk4 hk3 hz3 hc3 hs3 hf3 l1
          have ca : w4.cell? ⟨ga, oa + k, none⟩ = some (.string sa) := HT4.out.2.2.1.cell HCa.out id
          clear hT
          go_wp2_with fail
          first
          | (go_roundw
             case rel => first | exact relT (k + 1) x' y rfl (by omega) rfl rfl (by omega) (by omega) HT4 | ((repeat apply Exists.intro); exact ⟨relT (k + 1) x' y rfl (by omega) rfl rfl (by omega) (by omega) HT4, by and_intros <;> first | rfl | simp⟩)
             case measure => simp [intOf]; omega)
          | exact ⟨relT (k + 1) x' y rfl (by omega) rfl rfl (by omega) (by omega) HT4, by simp [intOf]; omega⟩
    · by_cases hB : k < lb
      · obtain ⟨gb, ob, rfl, _, hcellb⟩ := HXB.out (by omega)
        obtain ⟨sb, hsb⟩ := hcellb k hB
        have HCb := Lib.hid hsb
        have cb : wr.cell? ⟨gb, ob + k, none⟩ = some (.string sb) := hT.out.2.2.1.cell hsb id
        clear hcellb hsb
        by_cases hbigb : 200 < sb.size
        · have HF := Lib.hid hT.out.2.2.1
          clear hT
          go_wp2_with fail
          go_ret
          exact ⟨rfl, HF.out.below'⟩
        · obtain ⟨y', hy'⟩ : ∃ a, a = y ++ sb := ⟨_, rfl⟩
          have hszb : y'.size = y.size + sb.size := by rw [hy', ByteArray.size_append]
          have hdtb : y'.data.toList = y.data.toList ++ sb.data.toList := by rw [hy', data_append]
          have haddb : ∀ w', (Op.stringOp .add y sb).run Tryd.prog w' = .ok (.string y') w' := fun w' => by rw [run_string_add_sum w' _ _ (by omega), hy']
          have hbb' : y'.size ≤ 200 * (k + 1) := by omega
          have HSb := Lib.hid (show Sum.init.add y'.data.toList = (Sum.init.add y.data.toList).add sb.data.toList by rw [hdtb, Sum.add_append])
          have HNb := Lib.hid (init_n y)
          clear hy' hszb hdtb
          go_wp2_with (with_reducible refine wpList_bytes (o := ⟨some 83, _, _, _, _, _⟩) rfl _ _ _ rfl 5 Tryd.underlying9 Tryd.underlying25 Tryd.underlying5 sb rfl ?_; intro w3 c3 hk3 hz3 hc3 hs3 hf3)
          have hT3 := hT.out.still hk3
          have l1 := hT.out.2.1.lt
          have hq := add_at w3 q (Sum.init.add y.data.toList) (Sum.init.add y'.data.toList) sb.data.toList (some ⟨wr.heap.size, 0, none⟩) sb.size c3 hT3.2.1 hs3 hc3 (by intro ad h; cases h; show wr.heap.size ≠ _; omega) (by rw [HNb.out]; omega) HSb.out
          refine hq.mono ?_
          clear hq
          rintro e w4 ⟨rfl, hs4, hk4⟩
          have HT4 := Lib.hid (hT3.right hs4 hk4)
          clear hT3 hs4 hk4 hk3 hz3 hc3 hs3 hf3 l1
          have cb : w4.cell? ⟨gb, ob + k, none⟩ = some (.string sb) := HT4.out.2.2.1.cell HCb.out id
          clear hT
          go_wp2_with fail
          first
          | (go_roundw
             case rel => first | exact relT (k + 1) x y' rfl (by omega) rfl rfl (by omega) (by omega) HT4 | ((repeat apply Exists.intro); exact ⟨relT (k + 1) x y' rfl (by omega) rfl rfl (by omega) (by omega) HT4, by and_intros <;> first | rfl | simp⟩)
             case measure => simp [intOf]; omega)
          | exact ⟨relT (k + 1) x y' rfl (by omega) rfl rfl (by omega) (by omega) HT4, by simp [intOf]; omega⟩
      · have hlx : x.size ≤ 5000 := by omega
        have hly : y.size ≤ 5000 := by omega
        have ewx : IntKind.u64.wrap (x.size : Int) = (x.size : Int) := by rw [IntKind.wrap_u64]; omega
        have ewy : IntKind.u64.wrap (y.size : Int) = (y.size : Int) := by rw [IntKind.wrap_u64]; omega
        have HNX := Lib.hid (init_n x)
        have HNY := Lib.hid (init_n y)
        obtain ⟨dx, hdx⟩ : ∃ d, d = (Sum.init.add x.data.toList).told := ⟨_, rfl⟩
        obtain ⟨dy, hdy⟩ : ∃ d, d = (Sum.init.add y.data.toList).told := ⟨_, rfl⟩
        have HDX := Lib.hid hdx
        have HDY := Lib.hid hdy
        have HOX := Lib.hid (show dx = sumOf x.data.toList from hdx)
        have HOY := Lib.hid (show dy = sumOf y.data.toList from hdy)
        have hex := eq_same dx (by rw [hdx]; exact length_told _)
        have hey := eq_same dy (by rw [hdy]; exact length_told _)
        clear hdx hdy
        go_wp2_with fail
        have hq := told_at wr w.heap.size (Sum.init.add x.data.toList) dx hT.out.1 (by rw [HNX.out]; omega) HDX.out
        refine hq.mono ?_
        clear hq
        rintro e w3 ⟨rfl, hkA⟩
        have HAw3 := Lib.hid (hT.out.still hkA)
        clear hT hkA
        obtain ⟨w4, c4, hrun, hk4, hz4, hc4, hs4⟩ := bytes_run w3 x
        go_wp2_with fail
        have hT4 := HAw3.out.still hk4
        have hq := of_at w4 x.data.toList dx (some ⟨w3.heap.size, 0, none⟩) x.size c4 (HW.out.keeps hT4.2.2.1 id) hs4 hc4 (by intro ad h; cases h; exact hz4) (by omega) HOX.out
        refine hq.mono ?_
        clear hq
        rintro e w5 ⟨rfl, hkB⟩
        have HBw5 := Lib.hid (hT4.still hkB)
        clear hT4 hkB hk4 hz4 hc4 hs4 hrun HAw3
        go_wp2_with fail
        have hq := told_at w5 q (Sum.init.add y.data.toList) dy HBw5.out.2.1 (by rw [HNY.out]; omega) HDY.out
        refine hq.mono ?_
        clear hq
        rintro e w6 ⟨rfl, hkA⟩
        have HAw6 := Lib.hid (HBw5.out.still hkA)
        clear HBw5 hkA
        obtain ⟨w7, c4, hrun, hk4, hz4, hc4, hs4⟩ := bytes_run w6 y
        go_wp2_with fail
        have hT4 := HAw6.out.still hk4
        have hq := of_at w7 y.data.toList dy (some ⟨w6.heap.size, 0, none⟩) y.size c4 (HW.out.keeps hT4.2.2.1 id) hs4 hc4 (by intro ad h; cases h; exact hz4) (by omega) HOY.out
        refine hq.mono ?_
        clear hq
        rintro e w8 ⟨rfl, hkB⟩
        have HBw8 := Lib.hid (hT4.still hkB)
        clear hT4 hkB hk4 hz4 hc4 hs4 hrun HAw6
        go_wp2_with fail
        have hq := len_any w8 w.heap.size (Sum.init.add x.data.toList) x.size HBw8.out.1 HNX.out.symm
        refine hq.mono ?_
        clear hq
        rintro e w9 ⟨rfl, rfl⟩
        go_wp2_with fail
        have hq := len_any w8 q (Sum.init.add y.data.toList) y.size HBw8.out.2.1 HNY.out.symm
        refine hq.mono ?_
        clear hq
        rintro e w9 ⟨rfl, rfl⟩
        have HF := Lib.hid HBw8.out.2.2.1
        clear HBw8
        go_wp2_with fail
        go_ret
        exact ⟨by first | rfl | simp, HF.out.below'⟩
end Go.Proofs.YtogojfmaiphiaaaDoor
