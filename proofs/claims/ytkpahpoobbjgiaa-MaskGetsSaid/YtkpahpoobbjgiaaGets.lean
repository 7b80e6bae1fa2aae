/- The walk of MaskGets: whatever the input, the law returns true and leaves old memory alone. -/
import Derived.Test.YtkpahpoobbjgiaaAnchor
namespace Go.Proofs.Ytkpahpoobbjgiaa
open Go.RowKit

set_option maxHeartbeats 1000000 in
theorem maskGets_far (a : ByteArray) (w : World) (h : 100 < a.size) :
    Calls Try.prog 6 #[.string a] w fun e w' => e = .returned (.bool true) ∧ Below w.heap.size w w' := by
  go_enter Try.func6, Try.ntmps6
  go_wp2_with fail
  refine (awake_any _).mono ?_
  rintro e w1 ⟨rfl, hk1⟩
  go_wp2_with fail
  refine (awake_any _).mono ?_
  rintro e w2 ⟨rfl, hk2⟩
  go_wp2_with fail
  go_ret
  exact ⟨rfl, (hk1.trans hk2).below'⟩

set_option maxHeartbeats 1000000 in
theorem maskGets_near (a : ByteArray) (w : World) (h : a.size ≤ 100) :
    Calls Try.prog 6 #[.string a] w fun e w' => e = .returned (.bool true) ∧ Below w.heap.size w w' := by
  obtain ⟨x, y, z, hr⟩ : ∃ x y z, getF a.data.toList = (x, y, z) := ⟨_, _, _, rfl⟩
  have HR := Lib.hid hr
  clear hr
  go_enter Try.func6, Try.ntmps6
  go_wp2_with fail
  refine (awake_any _).mono ?_
  rintro e w1 ⟨rfl, hk1⟩
  go_wp2_with (with_reducible refine wpList_bytes (o := ⟨some 19, _, _, _, _, _⟩) rfl _ _ _ rfl 5 Try.underlying9 Try.underlying24 Try.underlying5 a rfl ?_; intro w2 c hk2 hz2 hc2 hs2 hf2)
  refine (get_at _ _ _ _ c x y z hs2 hc2 (by omega) HR.out).mono ?_
  rintro e w3 ⟨rfl, hk3⟩
  go_wp2_with fail
  refine (ref_get_at _ a x y z (by omega) HR.out).mono ?_
  rintro e w4 ⟨rfl, hk4⟩
  go_wp2_with fail
  go_ret
  exact ⟨rfl, (((hk1.trans hk2).trans hk3).trans hk4).below'⟩
end Go.Proofs.Ytkpahpoobbjgiaa
