/-
  DERIVED. GIVEN WITH THE SEED: THE CARDS: each row of YtdcchpbncckhlaaGreatDoorRows.lean that lists a variable, with what it lists TIED to the program's text (the seventh form; the later family's looks); each row that meets fmt, with fmt's text TOLD by the authors' own Lean function (tested against real Go, not proved from fmt's source: count such statements apart). THE CARD IS WHAT COUNTS. Prove the row's statement (the work); the ties are given (YtdcchpbncckhlaaGreatDoorTie.lean); close each card by the builder's one call (the guide's Derived/Test/ToyasCard.lean, 'card_holds'). Laid BY PROGRAM, IN A SANDBOX (cutbox-door.mjs). By AI agents, Wed Nov 11 2026. No macro, syntax, notation, axiom, sorry.
-/
import Derived.Test.YtdcchpbncckhlaaGreatDoorRows
import GoSem.ClaimSeven
namespace Go.Proofs.YtdcchpbncckhlaaGreatDoor
namespace Rows

/-- THE TIED CARD OF 'bailifflaw10.ShowBack'. -/
def showBackCard : Claim7 := { stood := { row := showBackRow, standIns := [], harness := (true, "72492b21eb7101013db937b720b400d368985b7f3f8d9cb2f4ba952ae2eb4be0"), looks := true }, kinds := [], alts := [], laidByText := true, laidKinds := [.data, .data, .data, .sentinel, .sentinel], laidTests := true, laidLooks := .later }
def ShowBackCardSaid : Prop := Claim7.holds Tryz.pinned (.plain (OpenSpec.ofChange showBackSpec)) showBackCard

/-- THE TIED CARD OF 'bailifflaw10.ShowReads'. -/
def showReadsCard : Claim7 := { stood := { row := showReadsRow, standIns := [], harness := (true, "72492b21eb7101013db937b720b400d368985b7f3f8d9cb2f4ba952ae2eb4be0"), looks := true }, kinds := [], alts := [], laidByText := true, laidKinds := [.data, .data, .data, .sentinel, .sentinel], laidTests := true, laidLooks := .later }
def ShowReadsCardSaid : Prop := Claim7.holds Tryz.pinned (.plain (OpenSpec.ofChange showReadsSpec)) showReadsCard

/-- THE TIED CARD OF 'bailifflaw10.ShowParts'. -/
def showPartsCard : Claim7 := { stood := { row := showPartsRow, standIns := [], harness := (true, "72492b21eb7101013db937b720b400d368985b7f3f8d9cb2f4ba952ae2eb4be0"), looks := true }, kinds := [], alts := [], laidByText := true, laidKinds := [.data, .data, .data, .sentinel, .sentinel], laidTests := true, laidLooks := .later }
def ShowPartsCardSaid : Prop := Claim7.holds Tryz.pinned (.plain (OpenSpec.ofChange showPartsSpec)) showPartsCard

/-- THE SECOND FORM's CARD OF 'bailifflaw10.ShowBack'. -/
def showBackUptoCard : Claim7 := { stood := { row := showBackUptoRow, standIns := [], harness := (true, "72492b21eb7101013db937b720b400d368985b7f3f8d9cb2f4ba952ae2eb4be0"), looks := true }, kinds := [], alts := [], laidByText := true, laidKinds := [.data, .data, .data, .sentinel, .sentinel], laidTests := true, laidLooks := .later }
def ShowBackUptoCardSaid : Prop := Claim7.holds Tryz.pinned (.plain (OpenSpec.upto showBackSpec)) showBackUptoCard

/-- THE SECOND FORM's CARD OF 'bailifflaw10.ShowReads'. -/
def showReadsUptoCard : Claim7 := { stood := { row := showReadsUptoRow, standIns := [], harness := (true, "72492b21eb7101013db937b720b400d368985b7f3f8d9cb2f4ba952ae2eb4be0"), looks := true }, kinds := [], alts := [], laidByText := true, laidKinds := [.data, .data, .data, .sentinel, .sentinel], laidTests := true, laidLooks := .later }
def ShowReadsUptoCardSaid : Prop := Claim7.holds Tryz.pinned (.plain (OpenSpec.upto showReadsSpec)) showReadsUptoCard

/-- THE SECOND FORM's CARD OF 'bailifflaw10.ShowParts'. -/
def showPartsUptoCard : Claim7 := { stood := { row := showPartsUptoRow, standIns := [], harness := (true, "72492b21eb7101013db937b720b400d368985b7f3f8d9cb2f4ba952ae2eb4be0"), looks := true }, kinds := [], alts := [], laidByText := true, laidKinds := [.data, .data, .data, .sentinel, .sentinel], laidTests := true, laidLooks := .later }
def ShowPartsUptoCardSaid : Prop := Claim7.holds Tryz.pinned (.plain (OpenSpec.upto showPartsSpec)) showPartsUptoCard
end Rows
end Go.Proofs.YtdcchpbncckhlaaGreatDoor
