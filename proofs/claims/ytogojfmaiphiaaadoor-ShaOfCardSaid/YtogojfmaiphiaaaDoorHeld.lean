/- A region that draws its order, walked under one condition on the world: the small laws that the printed steps name. No program is named here. -/
import Derived.Test.YtogojfmaiphiaaaDoorMem
import Derived.RegionTactic
import Derived.OrdersHeld
namespace Go.Proofs.YtogojfmaiphiaaaDoor
open Go.RowKit

section
variable {P : Program} {ops : Array Oper} {Q : Exit → Act → World → Prop} {md : Region.Mode} {S : World → Prop}
theorem held_one {k fuel : Nat} {listed : Array Bool} {a : Act} {w : World} {o : Oper} (hr : Region.ready md ops listed = [k]) (ho : ops[k]? = some o)
    (h : ∀ K' : Act → World → Prop, (∀ a w, S w ∧ wpAnyH P md ops Q S fuel (listed.setIfInBounds k true) a w → K' a w) → if Region.wanted o (yielded ops a.tmps) = true then Oper.wp P o a w K' Q else K' (a.put o.dst undef) w) :
    wpAnyH P md ops Q S (fuel + 1) listed a w :=
  wpAnyH_all hr (by simp) fun i hi => by
    obtain rfl := List.mem_singleton.1 hi
    exact wpOp_step ho h
theorem held_go {w : World} {X : Prop} (h : S w) (f : S w → X) : S w ∧ X := ⟨h, f h⟩
theorem held_start {fuel : Nat} {listed : Array Bool} {a : Act} {w : World} (h : S w) (f : S w → wpAnyH P md ops Q S fuel listed a w) : wpAnyH P md ops Q S fuel listed a w := f h
end

/-- string(b), what it yields. -/
theorem exec_string {P : Program} {o : Oper} {a : Act} {w : World} (x : Operand) (src dst : TypeId) (ho : o.op = .convert src dst x) (e : TypeId) (hs : P.underlying src = some (.slice e)) (he : P.underlying e = some (.int .u8)) (hd : P.underlying dst = some .string)
    (A : Option Addr) (n cap : Nat) (l : List UInt8) (q : ByteArray) (hx : a.eval x = .slice A n cap) (hl : SliceOf w A n l) (hq : q.data.toList = l) :
    (execOp a.eval o).run P w = .ok (.value (.string q)) w := by
  subst hq
  have hrun := run_string_of (P := P) (cap := cap) hs he hd hl
  simp only [execOp, ho, hx, Sem.run_bind, Sem.run_pure, hrun, Result.andThen_ok]

/-- []byte(s) as one step of a region that draws its order. -/
theorem step_bytes {P : Program} {ops : Array Oper} {o : Oper} {a : Act} {w : World} {K : Act → World → Prop} {Q : Exit → Act → World → Prop} {E : Prop} (hw : Region.wanted o (yielded ops a.tmps) = true) (x : Operand) (src dst : TypeId)
    (ho : o.op = .convert src dst x) (e : TypeId) (hs : P.underlying src = some .string) (hd : P.underlying dst = some (.slice e)) (he : P.underlying e = some (.int .u8)) (s : ByteArray) (hx : a.eval x = .string s)
    (h : ∀ w' c, Still w w' → s.size ≤ c → SliceOf w' (some ⟨w.heap.size, 0, none⟩) s.size s.data.toList → K (a.put o.dst (.slice (some ⟨w.heap.size, 0, none⟩) s.size c)) w') :
    if Region.wanted o (yielded ops a.tmps) = true then Oper.wp P o a w K Q else E := by
  rw [if_pos hw]
  have hrun := run_bytes_of_string (P := P) w src dst e s hs hd he
  unfold Oper.wp
  simp only [execOp, ho, hx, Sem.run_bind, Sem.run_pure, hrun, Result.andThen_ok]
  refine h _ _ (((Keeps.refl _ _).drew).alloc _) (grownCap_ge _ _ _ _) ⟨Array.length_toList, fun hn => ⟨_, 0, rfl, by simp, fun j hj => ?_⟩⟩
  have hj' : j < s.data.size := by simpa using hj
  rw [Nat.zero_add]
  refine (World.cell?_alloc_mark w.drew _ _ _ j).trans ?_
  rw [bytesRow_at s _ j hj']; simp
end Go.Proofs.YtogojfmaiphiaaaDoor
