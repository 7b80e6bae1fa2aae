/-
  NARROWER THAN 'FOR EVERY INPUT', by the rows' own cells (each row's printed sentence says how): ShaKeeps: laid · ShaBlocks: laid · ShaOf: laid · ShaParts: laid · ShaTwo: laid · ShaNothing: laid.
  DERIVED. THE GIVEN ROWS OF THIS SEAT. 6 by the template 'for every input the law returns true; each argument reads behind the call as it read before'; 0 by the template 'total and deterministic' (their statements: YtogojfmaiphiaaaDoorTotals.lean).
  GIVEN WITH THE SEED: the statements are not yours to turn. If you find one false, say at which input.
  Laid BY PROGRAM, IN A SANDBOX (cutbox-rows.mjs): the forced cells as the released guide's own fill.sh prints them over the translation 8d043ce4e885eb48… (all of the seat's roots in one cut). By AI agents, Wed Nov 11 2026. No macro, syntax, notation, axiom, sorry.
-/
import Derived.Test.YtogojfmaiphiaaaDoorChecked
import GoSem.Claim
import GoSem.ClaimJoined
import GoSem.ClaimMapViews
import Derived.JoinedTies
import Derived.KernelRfl
namespace Go.Proofs.YtogojfmaiphiaaaDoor
/- THE CELL 'sum', in the pinned program and in every row, IS THE sha256 OF THE DUMP (.gsa) THAT YtogojfmaiphiaaaDoorProg.lean LOADS. Nothing in Lean hashes anything: it is a label: what it is worth is what the hold of that sum in a sandbox is worth. -/
noncomputable def Tryd.pinned : Pinned := { name := "ytogojfmaiphiaaadoor", sum := "8d043ce4e885eb48f03c892f3547385dedbc122486910f853cf61bc2f6ab3397", checked := Tryd.checked }
namespace Rows
def none {H : Type} : Left H := { results := [], args := [] }

/- WHAT THE LISTED PACKAGE-LEVEL VARIABLES READ AS WHEN THE CALL BEGINS. Each datum BY PROGRAM (the guide's laid-datum.mjs) off the statement by which the dump's own 'gosem.cut.vars' lays the variable. In a bare row this is a premise. The card (YtogojfmaiphiaaaDoorCards.lean) ties it to the program's text. -/
def laid_pendentive_sha_start {H : Type} : DataW H := .agg [.lit (.int .u32 1732584193), .lit (.int .u32 4023233417), .lit (.int .u32 2562383102), .lit (.int .u32 271733878), .lit (.int .u32 3285377520)]

/-- 'pendentivelaw01.ShaKeeps': WHATEVER THE INPUT: true; the input reads as it did. -/
def shaKeepsSpec : ChangeSpec := { name := "shaKeeps", fn := fun _ => fun
  | [d1, d2] => { results := [.lit (.bool true)], args := [d1, d2] }
  | _ => none }
def shaKeepsRow : OpenClaim := { program := "ytogojfmaiphiaaadoor", sum := "8d043ce4e885eb48f03c892f3547385dedbc122486910f853cf61bc2f6ab3397", func := "pendentive/pendentivelaw01.ShaKeeps", spec := "shaKeeps", named := ["pendentive/sha.start"], apart := false, laid := [("pendentive/sha.start", laid_pendentive_sha_start)] }
def ShaKeepsSaid : Prop := shaKeepsRow.holds Tryd.pinned (OpenSpec.ofChange shaKeepsSpec)

/-- ITS FALSE NEIGHBOUR: 'it returns false'. Refute it at one input. -/
def shaKeepsWrong : ChangeSpec := { name := "shaKeeps", fn := fun _ => fun
  | [d1, d2] => { results := [.lit (.bool false)], args := [d1, d2] }
  | _ => none }
def ShaKeepsWrongFalsely : Prop := shaKeepsRow.holds Tryd.pinned (OpenSpec.ofChange shaKeepsWrong)

/-- 'pendentivelaw01.ShaBlocks': WHATEVER THE INPUT: true; the input reads as it did. -/
def shaBlocksSpec : ChangeSpec := { name := "shaBlocks", fn := fun _ => fun
  | [d1, d2, d3] => { results := [.lit (.bool true)], args := [d1, d2, d3] }
  | _ => none }
def shaBlocksRow : OpenClaim := { program := "ytogojfmaiphiaaadoor", sum := "8d043ce4e885eb48f03c892f3547385dedbc122486910f853cf61bc2f6ab3397", func := "pendentive/pendentivelaw01.ShaBlocks", spec := "shaBlocks", named := ["pendentive/sha.start"], apart := false, laid := [("pendentive/sha.start", laid_pendentive_sha_start)] }
def ShaBlocksSaid : Prop := shaBlocksRow.holds Tryd.pinned (OpenSpec.ofChange shaBlocksSpec)

/-- ITS FALSE NEIGHBOUR: 'it returns false'. Refute it at one input. -/
def shaBlocksWrong : ChangeSpec := { name := "shaBlocks", fn := fun _ => fun
  | [d1, d2, d3] => { results := [.lit (.bool false)], args := [d1, d2, d3] }
  | _ => none }
def ShaBlocksWrongFalsely : Prop := shaBlocksRow.holds Tryd.pinned (OpenSpec.ofChange shaBlocksWrong)

/-- 'pendentivelaw01.ShaOf': WHATEVER THE INPUT: true; the input reads as it did. -/
def shaOfSpec : ChangeSpec := { name := "shaOf", fn := fun _ => fun
  | [d] => { results := [.lit (.bool true)], args := [d] }
  | _ => none }
def shaOfRow : OpenClaim := { program := "ytogojfmaiphiaaadoor", sum := "8d043ce4e885eb48f03c892f3547385dedbc122486910f853cf61bc2f6ab3397", func := "pendentive/pendentivelaw01.ShaOf", spec := "shaOf", named := ["pendentive/sha.start"], apart := false, laid := [("pendentive/sha.start", laid_pendentive_sha_start)] }
def ShaOfSaid : Prop := shaOfRow.holds Tryd.pinned (OpenSpec.ofChange shaOfSpec)

/-- ITS FALSE NEIGHBOUR: 'it returns false'. Refute it at one input. -/
def shaOfWrong : ChangeSpec := { name := "shaOf", fn := fun _ => fun
  | [d] => { results := [.lit (.bool false)], args := [d] }
  | _ => none }
def ShaOfWrongFalsely : Prop := shaOfRow.holds Tryd.pinned (OpenSpec.ofChange shaOfWrong)

/-- 'pendentivelaw01.ShaParts': WHATEVER THE INPUT: true; the input reads as it did. -/
def shaPartsSpec : ChangeSpec := { name := "shaParts", fn := fun _ => fun
  | [d] => { results := [.lit (.bool true)], args := [d] }
  | _ => none }
def shaPartsRow : OpenClaim := { program := "ytogojfmaiphiaaadoor", sum := "8d043ce4e885eb48f03c892f3547385dedbc122486910f853cf61bc2f6ab3397", func := "pendentive/pendentivelaw01.ShaParts", spec := "shaParts", named := ["pendentive/sha.start"], apart := false, laid := [("pendentive/sha.start", laid_pendentive_sha_start)] }
def ShaPartsSaid : Prop := shaPartsRow.holds Tryd.pinned (OpenSpec.ofChange shaPartsSpec)

/-- ITS FALSE NEIGHBOUR: 'it returns false'. Refute it at one input. -/
def shaPartsWrong : ChangeSpec := { name := "shaParts", fn := fun _ => fun
  | [d] => { results := [.lit (.bool false)], args := [d] }
  | _ => none }
def ShaPartsWrongFalsely : Prop := shaPartsRow.holds Tryd.pinned (OpenSpec.ofChange shaPartsWrong)

/-- 'pendentivelaw01.ShaTwo': WHATEVER THE INPUT: true; the input reads as it did. -/
def shaTwoSpec : ChangeSpec := { name := "shaTwo", fn := fun _ => fun
  | [d1, d2] => { results := [.lit (.bool true)], args := [d1, d2] }
  | _ => none }
def shaTwoRow : OpenClaim := { program := "ytogojfmaiphiaaadoor", sum := "8d043ce4e885eb48f03c892f3547385dedbc122486910f853cf61bc2f6ab3397", func := "pendentive/pendentivelaw01.ShaTwo", spec := "shaTwo", named := ["pendentive/sha.start"], apart := false, laid := [("pendentive/sha.start", laid_pendentive_sha_start)] }
def ShaTwoSaid : Prop := shaTwoRow.holds Tryd.pinned (OpenSpec.ofChange shaTwoSpec)

/-- ITS FALSE NEIGHBOUR: 'it returns false'. Refute it at one input. -/
def shaTwoWrong : ChangeSpec := { name := "shaTwo", fn := fun _ => fun
  | [d1, d2] => { results := [.lit (.bool false)], args := [d1, d2] }
  | _ => none }
def ShaTwoWrongFalsely : Prop := shaTwoRow.holds Tryd.pinned (OpenSpec.ofChange shaTwoWrong)

/-- 'pendentivelaw01.ShaNothing': WHATEVER THE INPUT: true; the input reads as it did. -/
def shaNothingSpec : ChangeSpec := { name := "shaNothing", fn := fun _ => fun
  | [d1, d2] => { results := [.lit (.bool true)], args := [d1, d2] }
  | _ => none }
def shaNothingRow : OpenClaim := { program := "ytogojfmaiphiaaadoor", sum := "8d043ce4e885eb48f03c892f3547385dedbc122486910f853cf61bc2f6ab3397", func := "pendentive/pendentivelaw01.ShaNothing", spec := "shaNothing", named := ["pendentive/sha.start"], apart := false, laid := [("pendentive/sha.start", laid_pendentive_sha_start)] }
def ShaNothingSaid : Prop := shaNothingRow.holds Tryd.pinned (OpenSpec.ofChange shaNothingSpec)

/-- ITS FALSE NEIGHBOUR: 'it returns false'. Refute it at one input. -/
def shaNothingWrong : ChangeSpec := { name := "shaNothing", fn := fun _ => fun
  | [d1, d2] => { results := [.lit (.bool false)], args := [d1, d2] }
  | _ => none }
def ShaNothingWrongFalsely : Prop := shaNothingRow.holds Tryd.pinned (OpenSpec.ofChange shaNothingWrong)

/- THE SECOND FORM. 'bulk': how many values and letters a reading holds, each counted each time it is reached (what is shared counts as often as it is met; a slice's spare places count too). A statement '..UptoSaid' is the law's where the arguments, and the package variables that the reading takes, are together of bulk at most 1048576: NARROWER than '..Said'. Prove '..Said' where nothing that the law and all that it calls make is longer than what came in: it says more and counts as full. Else prove '..UptoSaid'. A law counts once. -/
mutual
def uptoBulk {H : Type} : DataW H → Nat
  | .lit (.string bytes) => bytes.length + 1
  | .lit _ => 1
  | .nil => 1
  | .ptr d => uptoBulk d + 1
  | .slice elems spare => uptoBulkAll elems + uptoBulkAll spare + 1
  | .agg parts => uptoBulkAll parts + 1
  | .iface _ d => uptoBulk d + 1
  | .map entries => uptoBulkEntries entries + 1
  | .held _ => 1
def uptoBulkAll {H : Type} : List (DataW H) → Nat
  | [] => 0
  | d :: r => uptoBulk d + uptoBulkAll r
def uptoBulkEntries {H : Type} : List (Lit × DataW H) → Nat
  | [] => 0
  | x :: r => uptoBulkEntry x + uptoBulkEntries r
def uptoBulkEntry {H : Type} : Lit × DataW H → Nat
  | (.string bytes, d) => bytes.length + uptoBulk d + 1
  | (_, d) => uptoBulk d + 1
 end
def uptoSmall : (H : Type) → List (DataW H) → Bool := fun _ ds => decide (uptoBulkAll ds ≤ 1048576)
def OpenSpec.upto (s : _root_.Go.ChangeSpec) : _root_.Go.OpenSpec := { _root_.Go.OpenSpec.ofChange s with cond := some uptoSmall }

/-- 'pendentivelaw01.ShaKeeps', WHERE WHAT IT READS IS OF BULK AT MOST 1048576: true; the input reads as it did. -/
def shaKeepsUptoRow : OpenClaim := { program := "ytogojfmaiphiaaadoor", sum := "8d043ce4e885eb48f03c892f3547385dedbc122486910f853cf61bc2f6ab3397", func := "pendentive/pendentivelaw01.ShaKeeps", spec := "shaKeeps", named := ["pendentive/sha.start"], apart := false, laid := [("pendentive/sha.start", laid_pendentive_sha_start)], narrowed := true }
def ShaKeepsUptoSaid : Prop := shaKeepsUptoRow.holds Tryd.pinned (OpenSpec.upto shaKeepsSpec)

/-- 'pendentivelaw01.ShaBlocks', WHERE WHAT IT READS IS OF BULK AT MOST 1048576: true; the input reads as it did. -/
def shaBlocksUptoRow : OpenClaim := { program := "ytogojfmaiphiaaadoor", sum := "8d043ce4e885eb48f03c892f3547385dedbc122486910f853cf61bc2f6ab3397", func := "pendentive/pendentivelaw01.ShaBlocks", spec := "shaBlocks", named := ["pendentive/sha.start"], apart := false, laid := [("pendentive/sha.start", laid_pendentive_sha_start)], narrowed := true }
def ShaBlocksUptoSaid : Prop := shaBlocksUptoRow.holds Tryd.pinned (OpenSpec.upto shaBlocksSpec)

/-- 'pendentivelaw01.ShaOf', WHERE WHAT IT READS IS OF BULK AT MOST 1048576: true; the input reads as it did. -/
def shaOfUptoRow : OpenClaim := { program := "ytogojfmaiphiaaadoor", sum := "8d043ce4e885eb48f03c892f3547385dedbc122486910f853cf61bc2f6ab3397", func := "pendentive/pendentivelaw01.ShaOf", spec := "shaOf", named := ["pendentive/sha.start"], apart := false, laid := [("pendentive/sha.start", laid_pendentive_sha_start)], narrowed := true }
def ShaOfUptoSaid : Prop := shaOfUptoRow.holds Tryd.pinned (OpenSpec.upto shaOfSpec)

/-- 'pendentivelaw01.ShaParts', WHERE WHAT IT READS IS OF BULK AT MOST 1048576: true; the input reads as it did. -/
def shaPartsUptoRow : OpenClaim := { program := "ytogojfmaiphiaaadoor", sum := "8d043ce4e885eb48f03c892f3547385dedbc122486910f853cf61bc2f6ab3397", func := "pendentive/pendentivelaw01.ShaParts", spec := "shaParts", named := ["pendentive/sha.start"], apart := false, laid := [("pendentive/sha.start", laid_pendentive_sha_start)], narrowed := true }
def ShaPartsUptoSaid : Prop := shaPartsUptoRow.holds Tryd.pinned (OpenSpec.upto shaPartsSpec)

/-- 'pendentivelaw01.ShaTwo', WHERE WHAT IT READS IS OF BULK AT MOST 1048576: true; the input reads as it did. -/
def shaTwoUptoRow : OpenClaim := { program := "ytogojfmaiphiaaadoor", sum := "8d043ce4e885eb48f03c892f3547385dedbc122486910f853cf61bc2f6ab3397", func := "pendentive/pendentivelaw01.ShaTwo", spec := "shaTwo", named := ["pendentive/sha.start"], apart := false, laid := [("pendentive/sha.start", laid_pendentive_sha_start)], narrowed := true }
def ShaTwoUptoSaid : Prop := shaTwoUptoRow.holds Tryd.pinned (OpenSpec.upto shaTwoSpec)

/-- 'pendentivelaw01.ShaNothing', WHERE WHAT IT READS IS OF BULK AT MOST 1048576: true; the input reads as it did. -/
def shaNothingUptoRow : OpenClaim := { program := "ytogojfmaiphiaaadoor", sum := "8d043ce4e885eb48f03c892f3547385dedbc122486910f853cf61bc2f6ab3397", func := "pendentive/pendentivelaw01.ShaNothing", spec := "shaNothing", named := ["pendentive/sha.start"], apart := false, laid := [("pendentive/sha.start", laid_pendentive_sha_start)], narrowed := true }
def ShaNothingUptoSaid : Prop := shaNothingUptoRow.holds Tryd.pinned (OpenSpec.upto shaNothingSpec)

end Rows
end Go.Proofs.YtogojfmaiphiaaaDoor
