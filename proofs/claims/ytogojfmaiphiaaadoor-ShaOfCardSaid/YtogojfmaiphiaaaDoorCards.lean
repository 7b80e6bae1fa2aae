/-
  DERIVED. GIVEN WITH THE SEED: THE CARDS: each row of YtogojfmaiphiaaaDoorRows.lean that lists a variable, with what it lists TIED to the program's text (the seventh form; the later family's looks); each row that meets fmt, with fmt's text TOLD by the authors' own Lean function (tested against real Go, not proved from fmt's source: count such statements apart). THE CARD IS WHAT COUNTS. Prove the row's statement (the work); the ties are given (YtogojfmaiphiaaaDoorTie.lean); close each card by the builder's one call (the guide's Derived/Test/ToyasCard.lean, 'card_holds'). Laid BY PROGRAM, IN A SANDBOX (cutbox-door.mjs). By AI agents, Wed Nov 11 2026. No macro, syntax, notation, axiom, sorry.
-/
import Derived.Test.YtogojfmaiphiaaaDoorRows
import GoSem.ClaimSeven
namespace Go.Proofs.YtogojfmaiphiaaaDoor
namespace Rows

/-- THE TIED CARD OF 'pendentivelaw01.ShaKeeps'. -/
def shaKeepsCard : Claim7 := { stood := { row := shaKeepsRow, standIns := [], harness := (true, "41e8c14ddfff1044643ebf58d9928e988ab4651fcd41a493f9d58463df56e89f"), looks := false }, kinds := [], alts := [], laidByText := true, laidKinds := [.data], laidTests := true, laidLooks := .later }
def ShaKeepsCardSaid : Prop := Claim7.holds Tryd.pinned (.plain (OpenSpec.ofChange shaKeepsSpec)) shaKeepsCard

/-- THE TIED CARD OF 'pendentivelaw01.ShaBlocks'. -/
def shaBlocksCard : Claim7 := { stood := { row := shaBlocksRow, standIns := [], harness := (true, "41e8c14ddfff1044643ebf58d9928e988ab4651fcd41a493f9d58463df56e89f"), looks := false }, kinds := [], alts := [], laidByText := true, laidKinds := [.data], laidTests := true, laidLooks := .later }
def ShaBlocksCardSaid : Prop := Claim7.holds Tryd.pinned (.plain (OpenSpec.ofChange shaBlocksSpec)) shaBlocksCard

/-- THE TIED CARD OF 'pendentivelaw01.ShaOf'. -/
def shaOfCard : Claim7 := { stood := { row := shaOfRow, standIns := [], harness := (true, "41e8c14ddfff1044643ebf58d9928e988ab4651fcd41a493f9d58463df56e89f"), looks := false }, kinds := [], alts := [], laidByText := true, laidKinds := [.data], laidTests := true, laidLooks := .later }
def ShaOfCardSaid : Prop := Claim7.holds Tryd.pinned (.plain (OpenSpec.ofChange shaOfSpec)) shaOfCard

/-- THE TIED CARD OF 'pendentivelaw01.ShaParts'. -/
def shaPartsCard : Claim7 := { stood := { row := shaPartsRow, standIns := [], harness := (true, "41e8c14ddfff1044643ebf58d9928e988ab4651fcd41a493f9d58463df56e89f"), looks := false }, kinds := [], alts := [], laidByText := true, laidKinds := [.data], laidTests := true, laidLooks := .later }
def ShaPartsCardSaid : Prop := Claim7.holds Tryd.pinned (.plain (OpenSpec.ofChange shaPartsSpec)) shaPartsCard

/-- THE TIED CARD OF 'pendentivelaw01.ShaTwo'. -/
def shaTwoCard : Claim7 := { stood := { row := shaTwoRow, standIns := [], harness := (true, "41e8c14ddfff1044643ebf58d9928e988ab4651fcd41a493f9d58463df56e89f"), looks := false }, kinds := [], alts := [], laidByText := true, laidKinds := [.data], laidTests := true, laidLooks := .later }
def ShaTwoCardSaid : Prop := Claim7.holds Tryd.pinned (.plain (OpenSpec.ofChange shaTwoSpec)) shaTwoCard

/-- THE TIED CARD OF 'pendentivelaw01.ShaNothing'. -/
def shaNothingCard : Claim7 := { stood := { row := shaNothingRow, standIns := [], harness := (true, "41e8c14ddfff1044643ebf58d9928e988ab4651fcd41a493f9d58463df56e89f"), looks := false }, kinds := [], alts := [], laidByText := true, laidKinds := [.data], laidTests := true, laidLooks := .later }
def ShaNothingCardSaid : Prop := Claim7.holds Tryd.pinned (.plain (OpenSpec.ofChange shaNothingSpec)) shaNothingCard

/-- THE SECOND FORM's CARD OF 'pendentivelaw01.ShaKeeps'. -/
def shaKeepsUptoCard : Claim7 := { stood := { row := shaKeepsUptoRow, standIns := [], harness := (true, "41e8c14ddfff1044643ebf58d9928e988ab4651fcd41a493f9d58463df56e89f"), looks := false }, kinds := [], alts := [], laidByText := true, laidKinds := [.data], laidTests := true, laidLooks := .later }
def ShaKeepsUptoCardSaid : Prop := Claim7.holds Tryd.pinned (.plain (OpenSpec.upto shaKeepsSpec)) shaKeepsUptoCard

/-- THE SECOND FORM's CARD OF 'pendentivelaw01.ShaBlocks'. -/
def shaBlocksUptoCard : Claim7 := { stood := { row := shaBlocksUptoRow, standIns := [], harness := (true, "41e8c14ddfff1044643ebf58d9928e988ab4651fcd41a493f9d58463df56e89f"), looks := false }, kinds := [], alts := [], laidByText := true, laidKinds := [.data], laidTests := true, laidLooks := .later }
def ShaBlocksUptoCardSaid : Prop := Claim7.holds Tryd.pinned (.plain (OpenSpec.upto shaBlocksSpec)) shaBlocksUptoCard

/-- THE SECOND FORM's CARD OF 'pendentivelaw01.ShaOf'. -/
def shaOfUptoCard : Claim7 := { stood := { row := shaOfUptoRow, standIns := [], harness := (true, "41e8c14ddfff1044643ebf58d9928e988ab4651fcd41a493f9d58463df56e89f"), looks := false }, kinds := [], alts := [], laidByText := true, laidKinds := [.data], laidTests := true, laidLooks := .later }
def ShaOfUptoCardSaid : Prop := Claim7.holds Tryd.pinned (.plain (OpenSpec.upto shaOfSpec)) shaOfUptoCard

/-- THE SECOND FORM's CARD OF 'pendentivelaw01.ShaParts'. -/
def shaPartsUptoCard : Claim7 := { stood := { row := shaPartsUptoRow, standIns := [], harness := (true, "41e8c14ddfff1044643ebf58d9928e988ab4651fcd41a493f9d58463df56e89f"), looks := false }, kinds := [], alts := [], laidByText := true, laidKinds := [.data], laidTests := true, laidLooks := .later }
def ShaPartsUptoCardSaid : Prop := Claim7.holds Tryd.pinned (.plain (OpenSpec.upto shaPartsSpec)) shaPartsUptoCard

/-- THE SECOND FORM's CARD OF 'pendentivelaw01.ShaTwo'. -/
def shaTwoUptoCard : Claim7 := { stood := { row := shaTwoUptoRow, standIns := [], harness := (true, "41e8c14ddfff1044643ebf58d9928e988ab4651fcd41a493f9d58463df56e89f"), looks := false }, kinds := [], alts := [], laidByText := true, laidKinds := [.data], laidTests := true, laidLooks := .later }
def ShaTwoUptoCardSaid : Prop := Claim7.holds Tryd.pinned (.plain (OpenSpec.upto shaTwoSpec)) shaTwoUptoCard

/-- THE SECOND FORM's CARD OF 'pendentivelaw01.ShaNothing'. -/
def shaNothingUptoCard : Claim7 := { stood := { row := shaNothingUptoRow, standIns := [], harness := (true, "41e8c14ddfff1044643ebf58d9928e988ab4651fcd41a493f9d58463df56e89f"), looks := false }, kinds := [], alts := [], laidByText := true, laidKinds := [.data], laidTests := true, laidLooks := .later }
def ShaNothingUptoCardSaid : Prop := Claim7.holds Tryd.pinned (.plain (OpenSpec.upto shaNothingSpec)) shaNothingUptoCard
end Rows
end Go.Proofs.YtogojfmaiphiaaaDoor
