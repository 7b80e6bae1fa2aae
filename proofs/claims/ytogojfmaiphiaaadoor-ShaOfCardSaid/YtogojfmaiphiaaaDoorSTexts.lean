/- A slice of texts that came in. -/
import Derived.Test.YtogojfmaiphiaaaDoorMem
import Derived.SliceStrings
namespace Go.Proofs.YtogojfmaiphiaaaDoor
open Go.RowKit

/-- A slice of texts that came in: its elements. -/
def Texts (w : World) (A : Option Addr) (len : Nat) : Prop :=
  0 < len → ∃ g off, A = some ⟨g, off, none⟩ ∧ g < w.heap.size ∧ ∀ j, j < len → ∃ s : ByteArray, w.cell? ⟨g, off + j, none⟩ = some (.string s)
theorem texts_of {w : World} {x : Addr} {l c : Nat} {ss : List ByteArray} (hl : l ≤ c) (hz : ss.length = c) (hcell : ∀ i, i < ss.length → w.cell? (x.add i) = some (.string (ss.getD i ByteArray.empty))) : Texts w (some x) l := by
  intro hpos
  obtain ⟨g, off, spot⟩ := x
  have h0 := hcell 0 (by omega)
  have hspot : spot = none := by simpa [Addr.add] using World.cell?_spot h0
  subst hspot
  have hlt := World.block_lt_of_cell? w _ h0
  refine ⟨g, off, rfl, by simpa [Addr.add] using hlt, fun j hj => ⟨ss.getD j ByteArray.empty, ?_⟩⟩
  have := hcell j (by omega)
  rwa [Addr.add_lit] at this
end Go.Proofs.YtogojfmaiphiaaaDoor
