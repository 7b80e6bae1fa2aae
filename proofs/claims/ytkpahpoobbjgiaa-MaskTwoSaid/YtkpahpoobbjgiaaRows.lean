/-
  No cell of these rows narrows 'for every input' (looked for: loops, veiled, ifaces, maps, wideKeys, modest, calm, conditions, laid).
  DERIVED. THE GIVEN ROWS OF THIS SEAT. 7 by the template 'for every input the law returns true; each argument reads behind the call as it read before'; 0 by the template 'total and deterministic' (their statements: YtkpahpoobbjgiaaTotals.lean).
  GIVEN WITH THE SEED: the statements are not yours to turn. If you find one false, say at which input.
  Laid BY PROGRAM, IN A SANDBOX (cutbox-rows.mjs): the forced cells as the released guide's own fill.sh prints them over the translation 12fd163e0a7e3b79… (all of the seat's roots in one cut). By AI agents, Wed Nov 11 2026. No macro, syntax, notation, axiom, sorry.
-/
import Derived.Test.YtkpahpoobbjgiaaChecked
import GoSem.Claim
import GoSem.ClaimJoined
import GoSem.ClaimMapViews
import Derived.JoinedTies
import Derived.KernelRfl
namespace Go.Proofs.Ytkpahpoobbjgiaa
/- THE CELL 'sum', in the pinned program and in every row, IS THE sha256 OF THE DUMP (.gsa) THAT YtkpahpoobbjgiaaProg.lean LOADS. Nothing in Lean hashes anything: it is a label: what it is worth is what the hold of that sum in a sandbox is worth. -/
noncomputable def Try.pinned : Pinned := { name := "ytkpahpoobbjgiaa", sum := "12fd163e0a7e3b79ec06217258b5b81d0906570de8c8cbc318b10aa59ca67ebe", checked := Try.checked }
namespace Rows
def none {H : Type} : Left H := { results := [], args := [] }

/-- 'pendentivelaw08.MaskTurns': WHATEVER THE INPUT: true; the input reads as it did. -/
def maskTurnsSpec : ChangeSpec := { name := "maskTurns", fn := fun _ => fun
  | [d1, d2, d3] => { results := [.lit (.bool true)], args := [d1, d2, d3] }
  | _ => none }
def maskTurnsRow : OpenClaim := { program := "ytkpahpoobbjgiaa", sum := "12fd163e0a7e3b79ec06217258b5b81d0906570de8c8cbc318b10aa59ca67ebe", func := "pendentive/pendentivelaw08.MaskTurns", spec := "maskTurns", apart := false }
def MaskTurnsSaid : Prop := maskTurnsRow.holds Try.pinned (OpenSpec.ofChange maskTurnsSpec)

/-- ITS FALSE NEIGHBOUR: 'it returns false'. Refute it at one input. -/
def maskTurnsWrong : ChangeSpec := { name := "maskTurns", fn := fun _ => fun
  | [d1, d2, d3] => { results := [.lit (.bool false)], args := [d1, d2, d3] }
  | _ => none }
def MaskTurnsWrongFalsely : Prop := maskTurnsRow.holds Try.pinned (OpenSpec.ofChange maskTurnsWrong)

/-- 'pendentivelaw08.MaskCuts': WHATEVER THE INPUT: true; the input reads as it did. -/
def maskCutsSpec : ChangeSpec := { name := "maskCuts", fn := fun _ => fun
  | [d1, d2, d3, d4] => { results := [.lit (.bool true)], args := [d1, d2, d3, d4] }
  | _ => none }
def maskCutsRow : OpenClaim := { program := "ytkpahpoobbjgiaa", sum := "12fd163e0a7e3b79ec06217258b5b81d0906570de8c8cbc318b10aa59ca67ebe", func := "pendentive/pendentivelaw08.MaskCuts", spec := "maskCuts", apart := false }
def MaskCutsSaid : Prop := maskCutsRow.holds Try.pinned (OpenSpec.ofChange maskCutsSpec)

/-- ITS FALSE NEIGHBOUR: 'it returns false'. Refute it at one input. -/
def maskCutsWrong : ChangeSpec := { name := "maskCuts", fn := fun _ => fun
  | [d1, d2, d3, d4] => { results := [.lit (.bool false)], args := [d1, d2, d3, d4] }
  | _ => none }
def MaskCutsWrongFalsely : Prop := maskCutsRow.holds Try.pinned (OpenSpec.ofChange maskCutsWrong)

/-- 'pendentivelaw08.MaskLengths': WHATEVER THE INPUT: true; the input reads as it did. -/
def maskLengthsSpec : ChangeSpec := { name := "maskLengths", fn := fun _ => fun
  | [d1, d2] => { results := [.lit (.bool true)], args := [d1, d2] }
  | _ => none }
def maskLengthsRow : OpenClaim := { program := "ytkpahpoobbjgiaa", sum := "12fd163e0a7e3b79ec06217258b5b81d0906570de8c8cbc318b10aa59ca67ebe", func := "pendentive/pendentivelaw08.MaskLengths", spec := "maskLengths", apart := false }
def MaskLengthsSaid : Prop := maskLengthsRow.holds Try.pinned (OpenSpec.ofChange maskLengthsSpec)

/-- ITS FALSE NEIGHBOUR: 'it returns false'. Refute it at one input. -/
def maskLengthsWrong : ChangeSpec := { name := "maskLengths", fn := fun _ => fun
  | [d1, d2] => { results := [.lit (.bool false)], args := [d1, d2] }
  | _ => none }
def MaskLengthsWrongFalsely : Prop := maskLengthsRow.holds Try.pinned (OpenSpec.ofChange maskLengthsWrong)

/-- 'pendentivelaw08.MaskGets': WHATEVER THE INPUT: true; the input reads as it did. -/
def maskGetsSpec : ChangeSpec := { name := "maskGets", fn := fun _ => fun
  | [d] => { results := [.lit (.bool true)], args := [d] }
  | _ => none }
def maskGetsRow : OpenClaim := { program := "ytkpahpoobbjgiaa", sum := "12fd163e0a7e3b79ec06217258b5b81d0906570de8c8cbc318b10aa59ca67ebe", func := "pendentive/pendentivelaw08.MaskGets", spec := "maskGets", apart := false }
def MaskGetsSaid : Prop := maskGetsRow.holds Try.pinned (OpenSpec.ofChange maskGetsSpec)

/-- ITS FALSE NEIGHBOUR: 'it returns false'. Refute it at one input. -/
def maskGetsWrong : ChangeSpec := { name := "maskGets", fn := fun _ => fun
  | [d] => { results := [.lit (.bool false)], args := [d] }
  | _ => none }
def MaskGetsWrongFalsely : Prop := maskGetsRow.holds Try.pinned (OpenSpec.ofChange maskGetsWrong)

/-- 'pendentivelaw08.MaskKeys': WHATEVER THE INPUT: true; the input reads as it did. -/
def maskKeysSpec : ChangeSpec := { name := "maskKeys", fn := fun _ => fun
  | [d1, d2] => { results := [.lit (.bool true)], args := [d1, d2] }
  | _ => none }
def maskKeysRow : OpenClaim := { program := "ytkpahpoobbjgiaa", sum := "12fd163e0a7e3b79ec06217258b5b81d0906570de8c8cbc318b10aa59ca67ebe", func := "pendentive/pendentivelaw08.MaskKeys", spec := "maskKeys", apart := false }
def MaskKeysSaid : Prop := maskKeysRow.holds Try.pinned (OpenSpec.ofChange maskKeysSpec)

/-- ITS FALSE NEIGHBOUR: 'it returns false'. Refute it at one input. -/
def maskKeysWrong : ChangeSpec := { name := "maskKeys", fn := fun _ => fun
  | [d1, d2] => { results := [.lit (.bool false)], args := [d1, d2] }
  | _ => none }
def MaskKeysWrongFalsely : Prop := maskKeysRow.holds Try.pinned (OpenSpec.ofChange maskKeysWrong)

/-- 'pendentivelaw08.MaskTwo': WHATEVER THE INPUT: true; the input reads as it did. -/
def maskTwoSpec : ChangeSpec := { name := "maskTwo", fn := fun _ => fun
  | [d1, d2, d3, d4] => { results := [.lit (.bool true)], args := [d1, d2, d3, d4] }
  | _ => none }
def maskTwoRow : OpenClaim := { program := "ytkpahpoobbjgiaa", sum := "12fd163e0a7e3b79ec06217258b5b81d0906570de8c8cbc318b10aa59ca67ebe", func := "pendentive/pendentivelaw08.MaskTwo", spec := "maskTwo", apart := false }
def MaskTwoSaid : Prop := maskTwoRow.holds Try.pinned (OpenSpec.ofChange maskTwoSpec)

/-- ITS FALSE NEIGHBOUR: 'it returns false'. Refute it at one input. -/
def maskTwoWrong : ChangeSpec := { name := "maskTwo", fn := fun _ => fun
  | [d1, d2, d3, d4] => { results := [.lit (.bool false)], args := [d1, d2, d3, d4] }
  | _ => none }
def MaskTwoWrongFalsely : Prop := maskTwoRow.holds Try.pinned (OpenSpec.ofChange maskTwoWrong)

/-- 'pendentivelaw08.MaskLonger': WHATEVER THE INPUT: true; the input reads as it did. -/
def maskLongerSpec : ChangeSpec := { name := "maskLonger", fn := fun _ => fun
  | [d1, d2] => { results := [.lit (.bool true)], args := [d1, d2] }
  | _ => none }
def maskLongerRow : OpenClaim := { program := "ytkpahpoobbjgiaa", sum := "12fd163e0a7e3b79ec06217258b5b81d0906570de8c8cbc318b10aa59ca67ebe", func := "pendentive/pendentivelaw08.MaskLonger", spec := "maskLonger", apart := false }
def MaskLongerSaid : Prop := maskLongerRow.holds Try.pinned (OpenSpec.ofChange maskLongerSpec)

/-- ITS FALSE NEIGHBOUR: 'it returns false'. Refute it at one input. -/
def maskLongerWrong : ChangeSpec := { name := "maskLonger", fn := fun _ => fun
  | [d1, d2] => { results := [.lit (.bool false)], args := [d1, d2] }
  | _ => none }
def MaskLongerWrongFalsely : Prop := maskLongerRow.holds Try.pinned (OpenSpec.ofChange maskLongerWrong)

/- THE SECOND FORM. 'bulk': how many values and letters a reading holds, each counted each time it is reached (what is shared counts as often as it is met; a slice's spare places count too). A statement '..UptoSaid' is the law's where the arguments, and the package variables that the reading takes, are together of bulk at most 1048576: NARROWER than '..Said'. Prove '..Said' where nothing that the law and all that it calls make is longer than what came in: it says more and counts as full. Else prove '..UptoSaid'. A law counts once. -/
mutual
def uptoBulk {H : Type} : DataW H → Nat
  | .lit (.string bytes) => bytes.length + 1
  | .lit _ => 1
  | .nil => 1
  | .ptr d => uptoBulk d + 1
  | .slice elems spare => uptoBulkAll elems + uptoBulkAll spare + 1
  | .agg parts => uptoBulkAll parts + 1
  | .iface _ d => uptoBulk d + 1
  | .map entries => uptoBulkEntries entries + 1
  | .held _ => 1
def uptoBulkAll {H : Type} : List (DataW H) → Nat
  | [] => 0
  | d :: r => uptoBulk d + uptoBulkAll r
def uptoBulkEntries {H : Type} : List (Lit × DataW H) → Nat
  | [] => 0
  | x :: r => uptoBulkEntry x + uptoBulkEntries r
def uptoBulkEntry {H : Type} : Lit × DataW H → Nat
  | (.string bytes, d) => bytes.length + uptoBulk d + 1
  | (_, d) => uptoBulk d + 1
 end
def uptoSmall : (H : Type) → List (DataW H) → Bool := fun _ ds => decide (uptoBulkAll ds ≤ 1048576)
def OpenSpec.upto (s : _root_.Go.ChangeSpec) : _root_.Go.OpenSpec := { _root_.Go.OpenSpec.ofChange s with cond := some uptoSmall }

/-- 'pendentivelaw08.MaskTurns', WHERE WHAT IT READS IS OF BULK AT MOST 1048576: true; the input reads as it did. -/
def maskTurnsUptoRow : OpenClaim := { program := "ytkpahpoobbjgiaa", sum := "12fd163e0a7e3b79ec06217258b5b81d0906570de8c8cbc318b10aa59ca67ebe", func := "pendentive/pendentivelaw08.MaskTurns", spec := "maskTurns", apart := false, narrowed := true }
def MaskTurnsUptoSaid : Prop := maskTurnsUptoRow.holds Try.pinned (OpenSpec.upto maskTurnsSpec)

/-- 'pendentivelaw08.MaskCuts', WHERE WHAT IT READS IS OF BULK AT MOST 1048576: true; the input reads as it did. -/
def maskCutsUptoRow : OpenClaim := { program := "ytkpahpoobbjgiaa", sum := "12fd163e0a7e3b79ec06217258b5b81d0906570de8c8cbc318b10aa59ca67ebe", func := "pendentive/pendentivelaw08.MaskCuts", spec := "maskCuts", apart := false, narrowed := true }
def MaskCutsUptoSaid : Prop := maskCutsUptoRow.holds Try.pinned (OpenSpec.upto maskCutsSpec)

/-- 'pendentivelaw08.MaskLengths', WHERE WHAT IT READS IS OF BULK AT MOST 1048576: true; the input reads as it did. -/
def maskLengthsUptoRow : OpenClaim := { program := "ytkpahpoobbjgiaa", sum := "12fd163e0a7e3b79ec06217258b5b81d0906570de8c8cbc318b10aa59ca67ebe", func := "pendentive/pendentivelaw08.MaskLengths", spec := "maskLengths", apart := false, narrowed := true }
def MaskLengthsUptoSaid : Prop := maskLengthsUptoRow.holds Try.pinned (OpenSpec.upto maskLengthsSpec)

/-- 'pendentivelaw08.MaskGets', WHERE WHAT IT READS IS OF BULK AT MOST 1048576: true; the input reads as it did. -/
def maskGetsUptoRow : OpenClaim := { program := "ytkpahpoobbjgiaa", sum := "12fd163e0a7e3b79ec06217258b5b81d0906570de8c8cbc318b10aa59ca67ebe", func := "pendentive/pendentivelaw08.MaskGets", spec := "maskGets", apart := false, narrowed := true }
def MaskGetsUptoSaid : Prop := maskGetsUptoRow.holds Try.pinned (OpenSpec.upto maskGetsSpec)

/-- 'pendentivelaw08.MaskKeys', WHERE WHAT IT READS IS OF BULK AT MOST 1048576: true; the input reads as it did. -/
def maskKeysUptoRow : OpenClaim := { program := "ytkpahpoobbjgiaa", sum := "12fd163e0a7e3b79ec06217258b5b81d0906570de8c8cbc318b10aa59ca67ebe", func := "pendentive/pendentivelaw08.MaskKeys", spec := "maskKeys", apart := false, narrowed := true }
def MaskKeysUptoSaid : Prop := maskKeysUptoRow.holds Try.pinned (OpenSpec.upto maskKeysSpec)

/-- 'pendentivelaw08.MaskTwo', WHERE WHAT IT READS IS OF BULK AT MOST 1048576: true; the input reads as it did. -/
def maskTwoUptoRow : OpenClaim := { program := "ytkpahpoobbjgiaa", sum := "12fd163e0a7e3b79ec06217258b5b81d0906570de8c8cbc318b10aa59ca67ebe", func := "pendentive/pendentivelaw08.MaskTwo", spec := "maskTwo", apart := false, narrowed := true }
def MaskTwoUptoSaid : Prop := maskTwoUptoRow.holds Try.pinned (OpenSpec.upto maskTwoSpec)

/-- 'pendentivelaw08.MaskLonger', WHERE WHAT IT READS IS OF BULK AT MOST 1048576: true; the input reads as it did. -/
def maskLongerUptoRow : OpenClaim := { program := "ytkpahpoobbjgiaa", sum := "12fd163e0a7e3b79ec06217258b5b81d0906570de8c8cbc318b10aa59ca67ebe", func := "pendentive/pendentivelaw08.MaskLonger", spec := "maskLonger", apart := false, narrowed := true }
def MaskLongerUptoSaid : Prop := maskLongerUptoRow.holds Try.pinned (OpenSpec.upto maskLongerSpec)

end Rows
end Go.Proofs.Ytkpahpoobbjgiaa
