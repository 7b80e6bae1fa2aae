/- The walk of RingTwo where there are more than 60 texts. -/
import Derived.Test.YtmioglkibjmmfaaTwoText
namespace Go.Proofs.Ytmioglkibjmmfaa
open Go.RowKit

set_option maxRecDepth 100000 in
set_option maxHeartbeats 2000000 in
theorem ringTwo_far (A : Option Addr) (len cap : Nat) (n : Int) (w : World) (h : 60 < len) :
    Calls Try.prog 6 #[.slice A len cap, .int .u8 n] w fun e w' => e = .returned (.bool true) ∧ Below w.heap.size w w' := by
  go_enter Try.func6, Try.ntmps6
  go_wp2_with fail
  refine (new_at _ _ 20 (by omega) (by omega) (by omega)).mono ?_
  rintro e w1 ⟨p, bb, rfl, hr, hk1, h1, h2⟩
  go_wp2_with fail
  refine (new_at _ _ 30 (by omega) (by omega) (by omega)).mono ?_
  rintro e w2 ⟨q, cc, rfl, hq, hk2, h3, h4⟩
  go_wp2_with fail
  refine (awake_any _).mono ?_
  rintro e w3 ⟨rfl, hk3⟩
  go_wp2_with fail
  refine (awake_any _).mono ?_
  rintro e w4 ⟨rfl, hk4⟩
  go_wp2_with fail
  go_ret
  exact ⟨rfl, (((hk1.trans hk2).trans hk3).trans hk4).below'⟩
end Go.Proofs.Ytmioglkibjmmfaa
