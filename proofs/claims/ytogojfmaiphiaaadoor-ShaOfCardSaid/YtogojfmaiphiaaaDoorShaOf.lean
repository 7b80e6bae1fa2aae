/- The walk of ShaOf: whatever the input, the law returns true and leaves old memory alone. -/
import Derived.Test.YtogojfmaiphiaaaDoorRefQ
import Derived.Test.YtogojfmaiphiaaaDoorPair
namespace Go.Proofs.YtogojfmaiphiaaaDoor
open Go.RowKit

set_option maxRecDepth 100000 in
set_option maxHeartbeats 4000000 in
theorem shaOf_far (a : ByteArray) (w : World) (h0 : Start w) (g1 : 300 < a.size) :
    Calls Tryd.prog 5 #[.string a] w fun e w' => e = .returned (.bool true) ∧ Below w.heap.size w w' := by
  go_enter Tryd.func5, Tryd.ntmps5
  go_wp2_with fail
  have hq := awake_any w h0
  refine hq.mono ?_
  clear hq
  rintro e w1 ⟨rfl, hk1⟩
  have HF := Lib.hid hk1
  clear hk1 h0
  go_wp2_with fail
  go_ret
  exact ⟨rfl, HF.out.below'⟩

theorem text_of (l : List UInt8) : ∃ q : ByteArray, q.data.toList = l := ⟨⟨l.toArray⟩, by simp⟩

set_option maxRecDepth 100000 in
set_option maxHeartbeats 8000000 in
theorem shaOf_near (a : ByteArray) (w : World) (h0 : Start w) (ha : a.size ≤ 300) :
    Calls Tryd.prog 5 #[.string a] w fun e w' => e = .returned (.bool true) ∧ Below w.heap.size w w' := by
  obtain ⟨q, hq⟩ := text_of (sumOf a.data.toList)
  have HQ := Lib.hid hq
  clear hq
  go_enter Tryd.func5, Tryd.ntmps5
  go_wp2_with fail
  have hq := awake_any w h0
  refine hq.mono ?_
  clear hq
  rintro e w1 ⟨rfl, hk1⟩
  have h1 := h0.keeps hk1 id
  obtain ⟨w2, c2, hrun, hk2, hz2, hc2, hs2⟩ := bytes_run w1 a
  have HK2 := Lib.hid hk2
  have HS2 := Lib.hid hs2
  have HZ2 := Lib.hid hz2
  clear hk2 hs2 hz2
  go_wp2_with fail
  have hq := of_at w2 a.data.toList (sumOf a.data.toList) (some ⟨w1.heap.size, 0, none⟩) a.size c2 (h1.keeps HK2.out id) HS2.out hc2 (by intro ad h; cases h; exact HZ2.out) (by omega) rfl
  refine hq.mono ?_
  clear hq
  rintro e w3 ⟨rfl, hk3⟩
  have HF3 := Lib.hid ((hk1.trans HK2.out).trans hk3)
  clear hk1 hk3 hrun hc2 HK2 HS2 HZ2 h1 h0
  go_wp2_with fail
  have hq := text_any w3 (sumOf a.data.toList) q (length_sumOf _) HQ.out
  refine hq.mono ?_
  clear hq
  rintro e w4 ⟨rfl, hk4⟩
  have HF4 := Lib.hid (HF3.out.trans hk4)
  clear HF3 hk4
  go_wp2_with fail
  have hq := ref_of w4 a q ha HQ.out
  refine hq.mono ?_
  clear hq
  rintro e w5 ⟨rfl, hk5⟩
  have HF := Lib.hid (HF4.out.trans hk5)
  clear HF4 hk5
  go_wp2_with fail
  go_ret
  exact ⟨rfl, HF.out.below'⟩

end Go.Proofs.YtogojfmaiphiaaaDoor
