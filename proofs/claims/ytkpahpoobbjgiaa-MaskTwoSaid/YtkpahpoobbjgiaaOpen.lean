/- An array of four bytes that came in, as the reader reads it. -/
import Derived.Test.YtkpahpoobbjgiaaAnchor
import Derived.ChangeSame
import Derived.JoinedOf
import Derived.JoinedAt
import Derived.ProofKit
import Derived.RowKit3
import Derived.OpenShut
import Derived.Laws.IdiomArrays
namespace Go.Proofs.Ytkpahpoobbjgiaa
open Go.ChangeShapes Go.WideShapes Go.ChangeAt Go.RowKit

theorem cells5 : Try.prog.cellsOf 5 = 1 := by kernel_rfl
theorem cells22 : Try.prog.cellsOf 22 = 4 := by kernel_rfl
theorem list4 {α : Type} (l : List α) (h : (⟨l⟩ : Array α).size = 4) : ∃ a b c d, l = [a, b, c, d] := by
  match l, h with
  | [a, b, c, d], _ => exact ⟨a, b, c, d, rfl⟩
theorem byte_of (x : Int) (h : (Lit.int .u8 x).wf = true) : ∃ c : UInt8, x = (c.toNat : Int) := by
  have := bounds_u8 h
  refine ⟨UInt8.ofNat x.toNat, ?_⟩
  rw [toNat_ofNat8]
  omega
theorem open_key {H : Type} {enc : TypeId × Value → H} {W : World} {base b0 : Nat} {spare : Nat → Bool} {held : Bool} {r : Reach} {v : Value} {d : DataW H} {p : List MemPlace}
    (hv : Value.okWide Try.prog W r b0 22 v) (h : DataW.Trod enc Try.prog W base spare held 22 v d p) :
    ∃ ks : List UInt8, v = .agg (bts ks).toArray ∧ ks.length = 4 ∧ p = [] := by
  obtain ⟨cs, rfl, hsz, _⟩ : ∃ cs, v = .agg cs ∧ cs.size = Try.prog.cellsOf 22 ∧ Row.okWide Try.prog W r b0 22 cs := by
    simpa [Value.okWide, Try.underlying22] using hv
  rw [cells22] at hsz
  obtain ⟨l⟩ := cs
  obtain ⟨c0, c1, c2, c3, rfl⟩ := list4 l hsz
  obtain ⟨fuel, hf⟩ := h
  obtain ⟨y0, y1, y2, y3, m, hx, hy0, hy1, hy2, hy3⟩ := trod_array4 Try.underlying22 cells5 hf
  obtain ⟨x0, e0, rfl, w0⟩ := DataW.trod_int Try.underlying5 hy0
  obtain ⟨x1, e1, rfl, w1⟩ := DataW.trod_int Try.underlying5 hy1
  obtain ⟨x2, e2, rfl, w2⟩ := DataW.trod_int Try.underlying5 hy2
  obtain ⟨x3, e3, rfl, w3⟩ := DataW.trod_int Try.underlying5 hy3
  simp at e0 e1 e2 e3
  subst e0 e1 e2 e3
  simp only [Prod.mk.injEq] at hx
  obtain ⟨_, rfl⟩ := hx
  obtain ⟨k0, rfl⟩ := byte_of _ w0
  obtain ⟨k1, rfl⟩ := byte_of _ w1
  obtain ⟨k2, rfl⟩ := byte_of _ w2
  obtain ⟨k3, rfl⟩ := byte_of _ w3
  exact ⟨[k0, k1, k2, k3], rfl, rfl, rfl⟩
end Go.Proofs.Ytkpahpoobbjgiaa
