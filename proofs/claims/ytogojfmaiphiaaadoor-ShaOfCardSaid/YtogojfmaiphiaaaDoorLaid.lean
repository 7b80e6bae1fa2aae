/- From the row's condition on the listed variable to the walks' fact; a world that meets it. -/
import Derived.Test.YtogojfmaiphiaaaDoorState
import Derived.Test.YtogojfmaiphiaaaDoorRows
import Derived.Lib.LaidTab
import Derived.ProofKit
import Derived.LaidMore
import Derived.Stop.Joined
namespace Go.Proofs.YtogojfmaiphiaaaDoor
open Go.ChangeShapes Go.WideShapes Go.ChangeAt Go.RowKit

theorem own : ownKnob Tryd.prog.godebug = none := by kernel_rfl
theorem laidOut : laidOutB Tryd.prog = true := by kernel_rfl
theorem gStart : Tryd.prog.globalNamed "pendentive/sha.start" = some 0 := by kernel_rfl
theorem tStart : (Tryd.prog.globals[0]?).map (·.type) = some 43 := by kernel_rfl
theorem cells42 : Tryd.prog.cellsOf 42 = 1 := by kernel_rfl
theorem cells43 : Tryd.prog.cellsOf 43 = 5 := by kernel_rfl
/-- What the row lists. -/
def laid1 : List (String × DataW Unit) := [("pendentive/sha.start", Rows.laid_pendentive_sha_start)]
/-- The door's own heap meets the condition. -/
theorem door_met (os : Os) (args : Array Value) : laidMetH Tryd.prog laid1 ((World.doorLaid Tryd.prog 14 os).forCall (fun _ _ => 0) ⟨#[], args, []⟩).memory :=
  laidMetH_of_parts3 (fuel := 8) (laidMet_of_run' 8 (by kernel_rfl) (by kernel_rfl)) (by kernel_rfl) (by kernel_rfl)
theorem start_of_laid {W : World} (h : laidMetH Tryd.prog laid1 W) : Start W := by
  rw [MakeChecks.laidMetH_plain _ _ _ (by kernel_rfl)] at h
  have h' : laidMet Tryd.prog [("pendentive/sha.start", Lib.tabData .u32 [1732584193, 4023233417, 2562383102, 271733878, 3285377520])] W := h
  have hT := Lib.tabIs_of_head gStart tStart Tryd.underlying43 Tryd.underlying42 cells42 cells43 h'
  exact ⟨hT.cell gStart 0 (by decide), hT.cell gStart 1 (by decide), hT.cell gStart 2 (by decide), hT.cell gStart 3 (by decide), hT.cell gStart 4 (by decide)⟩
end Go.Proofs.YtogojfmaiphiaaaDoor
