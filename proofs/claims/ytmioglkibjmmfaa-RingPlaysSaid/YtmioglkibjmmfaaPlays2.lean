/- RingPlays: a slice of acts that came in. -/
import Derived.Test.YtmioglkibjmmfaaPlays1
import Derived.Deep.SlicePairs
import Derived.Deep.Strs
namespace Go.Proofs.Ytmioglkibjmmfaa
open Go.RowKit Go.ChangeShapes Go.WideShapes

theorem cells_3 : Try.prog.cellsOf 3 = 1 := by kernel_rfl
theorem cells_9 : Try.prog.cellsOf 9 = 1 := by kernel_rfl
theorem cells_29 : Try.prog.cellsOf 29 = 3 := by kernel_rfl

theorem acts_of {H : Type} {enc : TypeId × Value → H} {W : World} {fuel : Nat} {A : Option Addr} {len cap : Nat} {x : DataW H × List MemPlace}
    (h : DataW.trod enc Try.prog W 0 (fun _ => true) true fuel 22 [.slice A len cap] = some x) : Acts W A len := by
  rcases Go.Deep.open_slice Try.underlying22 h with ⟨hcs, _⟩ | ⟨a, l, c, m, n, D, Pl, hcs, _, hl, hm, hmm, _, hx⟩
  · simp at hcs
    obtain ⟨rfl, rfl, rfl⟩ := hcs
    intro h
    omega
  · simp at hcs
    obtain ⟨rfl, rfl, rfl⟩ := hcs
    intro hpos
    have each : ∀ j, j < len → ∃ (kd N : Int) (s : ByteArray), (Lit.int .i64 N).wf = true ∧ W.cell? (a.add (j * 3)) = some (.int .i64 kd) ∧ W.cell? (a.add (j * 3 + 1)) = some (.int .i64 N) ∧
        W.cell? (a.add (j * 3 + 2)) = some (.string s) := by
      intro j hj
      obtain ⟨cs', h1, h2⟩ := hx j (by rw [hmm]; split <;> omega)
      rw [cells_29] at h1
      obtain ⟨_, hlen, hcell⟩ := World.cells?_some h1
      obtain ⟨y0, y1, y2, n', _, _, g0, g1, g2⟩ := Go.Deep.trod_struct3 Try.underlying29 h2
      match cs', hlen with
      | [v0, v1, v2], _ =>
        simp [cells_3, cells_9] at g0 g1 g2
        obtain ⟨kd, e0, _, _⟩ := DataW.trod_int Try.underlying3 g0
        obtain ⟨N, e1, _, hN⟩ := DataW.trod_int Try.underlying3 g1
        obtain ⟨s, e2, _, _⟩ := DataW.trod_string Try.underlying9 g2
        simp at e0 e1 e2
        subst e0 e1 e2
        have k0 := hcell 0 (by omega)
        have k1 := hcell 1 (by omega)
        have k2 := hcell 2 (by omega)
        rw [Go.Deep.add_add] at k0 k1 k2
        exact ⟨kd, N, s, hN, by simpa using k0, by simpa using k1, by simpa using k2⟩
    obtain ⟨g, off, spot⟩ := a
    obtain ⟨_, _, _, _, h0, _⟩ := each 0 hpos
    have hspot : spot = none := by simpa [Addr.add] using World.cell?_spot h0
    subst hspot
    have hlt := World.block_lt_of_cell? W _ h0
    refine ⟨g, off, rfl, by simpa [Addr.add] using hlt, fun j hj => ?_⟩
    obtain ⟨kd, N, s, hN, e0, e1, e2⟩ := each j hj
    rw [Addr.add_lit] at e0 e1 e2
    exact ⟨kd, N, s, hN, e0, e1, e2⟩
end Go.Proofs.Ytmioglkibjmmfaa
