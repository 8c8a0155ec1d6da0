/-
  DERIVED. GIVEN WITH THE SEED: THE CARDS: each row of YtbbadggejjgihaaGreatDoorRows.lean that lists a variable, with what it lists TIED to the program's text (the seventh form; the later family's looks); each row that meets fmt, with fmt's text TOLD by the authors' own Lean function (tested against real Go, not proved from fmt's source: count such statements apart). THE CARD IS WHAT COUNTS. Prove the row's statement (the work); the ties are given (YtbbadggejjgihaaGreatDoorTie.lean); close each card by the builder's one call (the guide's Derived/Test/ToyasCard.lean, 'card_holds'). Laid BY PROGRAM, IN A SANDBOX (cutbox-door.mjs). By AI agents, Wed Nov 11 2026. No macro, syntax, notation, axiom, sorry.
-/
import Derived.Test.YtbbadggejjgihaaGreatDoorRows
import GoSem.ClaimSeven
namespace Go.Proofs.YtbbadggejjgihaaGreatDoor
namespace Rows

/-- THE TIED CARD OF 'bailifftop.TopVersions'. -/
def topVersionsCard : Claim7 := { stood := { row := topVersionsRow, standIns := [], harness := (true, "3c634aeee8249a6d22e9223b0b709fdf2fb80ab8efe0b132dcfb100e8a2a1f21"), looks := true }, kinds := [], alts := [], laidByText := true, laidKinds := [.data, .data, .data, .sentinel, .sentinel], laidTests := true, laidLooks := .later }
def TopVersionsCardSaid : Prop := Claim7.holds Tryz.pinned (.plain (OpenSpec.ofChange topVersionsSpec)) topVersionsCard

/-- THE TIED CARD OF 'bailifftop.TopAgain'. -/
def topAgainCard : Claim7 := { stood := { row := topAgainRow, standIns := [], harness := (true, "3c634aeee8249a6d22e9223b0b709fdf2fb80ab8efe0b132dcfb100e8a2a1f21"), looks := true }, kinds := [], alts := [], laidByText := true, laidKinds := [.data, .data, .data, .sentinel, .sentinel], laidTests := true, laidLooks := .later }
def TopAgainCardSaid : Prop := Claim7.holds Tryz.pinned (.plain (OpenSpec.ofChange topAgainSpec)) topAgainCard

/-- THE TIED CARD OF 'bailifftop.TopModel'. -/
def topModelCard : Claim7 := { stood := { row := topModelRow, standIns := [], harness := (true, "3c634aeee8249a6d22e9223b0b709fdf2fb80ab8efe0b132dcfb100e8a2a1f21"), looks := true }, kinds := [], alts := [], laidByText := true, laidKinds := [.data, .data, .data, .sentinel, .sentinel], laidTests := true, laidLooks := .later }
def TopModelCardSaid : Prop := Claim7.holds Tryz.pinned (.plain (OpenSpec.ofChange topModelSpec)) topModelCard

/-- THE TIED CARD OF 'bailifftop.TopReplay'. -/
def topReplayCard : Claim7 := { stood := { row := topReplayRow, standIns := [], harness := (true, "3c634aeee8249a6d22e9223b0b709fdf2fb80ab8efe0b132dcfb100e8a2a1f21"), looks := true }, kinds := [], alts := [], laidByText := true, laidKinds := [.data, .data, .data, .sentinel, .sentinel], laidTests := true, laidLooks := .later }
def TopReplayCardSaid : Prop := Claim7.holds Tryz.pinned (.plain (OpenSpec.ofChange topReplaySpec)) topReplayCard

/-- THE TIED CARD OF 'bailifftop.TopChainGrows'. -/
def topChainGrowsCard : Claim7 := { stood := { row := topChainGrowsRow, standIns := [], harness := (true, "3c634aeee8249a6d22e9223b0b709fdf2fb80ab8efe0b132dcfb100e8a2a1f21"), looks := true }, kinds := [], alts := [], laidByText := true, laidKinds := [.data, .data, .data, .sentinel, .sentinel], laidTests := true, laidLooks := .later }
def TopChainGrowsCardSaid : Prop := Claim7.holds Tryz.pinned (.plain (OpenSpec.ofChange topChainGrowsSpec)) topChainGrowsCard

/-- THE SECOND FORM's CARD OF 'bailifftop.TopVersions'. -/
def topVersionsUptoCard : Claim7 := { stood := { row := topVersionsUptoRow, standIns := [], harness := (true, "3c634aeee8249a6d22e9223b0b709fdf2fb80ab8efe0b132dcfb100e8a2a1f21"), looks := true }, kinds := [], alts := [], laidByText := true, laidKinds := [.data, .data, .data, .sentinel, .sentinel], laidTests := true, laidLooks := .later }
def TopVersionsUptoCardSaid : Prop := Claim7.holds Tryz.pinned (.plain (OpenSpec.upto topVersionsSpec)) topVersionsUptoCard

/-- THE SECOND FORM's CARD OF 'bailifftop.TopAgain'. -/
def topAgainUptoCard : Claim7 := { stood := { row := topAgainUptoRow, standIns := [], harness := (true, "3c634aeee8249a6d22e9223b0b709fdf2fb80ab8efe0b132dcfb100e8a2a1f21"), looks := true }, kinds := [], alts := [], laidByText := true, laidKinds := [.data, .data, .data, .sentinel, .sentinel], laidTests := true, laidLooks := .later }
def TopAgainUptoCardSaid : Prop := Claim7.holds Tryz.pinned (.plain (OpenSpec.upto topAgainSpec)) topAgainUptoCard

/-- THE SECOND FORM's CARD OF 'bailifftop.TopModel'. -/
def topModelUptoCard : Claim7 := { stood := { row := topModelUptoRow, standIns := [], harness := (true, "3c634aeee8249a6d22e9223b0b709fdf2fb80ab8efe0b132dcfb100e8a2a1f21"), looks := true }, kinds := [], alts := [], laidByText := true, laidKinds := [.data, .data, .data, .sentinel, .sentinel], laidTests := true, laidLooks := .later }
def TopModelUptoCardSaid : Prop := Claim7.holds Tryz.pinned (.plain (OpenSpec.upto topModelSpec)) topModelUptoCard

/-- THE SECOND FORM's CARD OF 'bailifftop.TopReplay'. -/
def topReplayUptoCard : Claim7 := { stood := { row := topReplayUptoRow, standIns := [], harness := (true, "3c634aeee8249a6d22e9223b0b709fdf2fb80ab8efe0b132dcfb100e8a2a1f21"), looks := true }, kinds := [], alts := [], laidByText := true, laidKinds := [.data, .data, .data, .sentinel, .sentinel], laidTests := true, laidLooks := .later }
def TopReplayUptoCardSaid : Prop := Claim7.holds Tryz.pinned (.plain (OpenSpec.upto topReplaySpec)) topReplayUptoCard

/-- THE SECOND FORM's CARD OF 'bailifftop.TopChainGrows'. -/
def topChainGrowsUptoCard : Claim7 := { stood := { row := topChainGrowsUptoRow, standIns := [], harness := (true, "3c634aeee8249a6d22e9223b0b709fdf2fb80ab8efe0b132dcfb100e8a2a1f21"), looks := true }, kinds := [], alts := [], laidByText := true, laidKinds := [.data, .data, .data, .sentinel, .sentinel], laidTests := true, laidLooks := .later }
def TopChainGrowsUptoCardSaid : Prop := Claim7.holds Tryz.pinned (.plain (OpenSpec.upto topChainGrowsSpec)) topChainGrowsUptoCard
end Rows
end Go.Proofs.YtbbadggejjgihaaGreatDoor
