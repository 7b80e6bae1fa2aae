/- The walk of RingPlays where no ring is made. -/
import Derived.Test.YtmioglkibjmmfaaAwake
namespace Go.Proofs.Ytmioglkibjmmfaa
open Go.RowKit

set_option maxRecDepth 100000 in
set_option maxHeartbeats 2000000 in
theorem ringPlays_bad (m : Int) (A : Option Addr) (len cap : Nat) (w : World) (h : m < 1 ∨ 65536 < m) :
    Calls Try.prog 3 #[.int .i64 m, .slice A len cap] w fun e w' => e = .returned (.bool true) ∧ Below w.heap.size w w' := by
  have hno := fun w => new_no w m h
  rcases (show m < 1 ∨ (¬ m < 1 ∧ 65536 < m) by omega) with g1 | ⟨g1, g2⟩
  all_goals
    clear h
    go_enter Try.func3, Try.ntmps3
    go_wp2_with fail
    refine (hno _).mono ?_
    rintro e w1 ⟨rfl, rfl⟩
    go_wp2_with fail
    refine (awake_any _).mono ?_
    rintro e w2 ⟨rfl, hk2⟩
    go_wp2_with fail
    go_ret
    exact ⟨rfl, hk2.below'⟩
end Go.Proofs.Ytmioglkibjmmfaa
