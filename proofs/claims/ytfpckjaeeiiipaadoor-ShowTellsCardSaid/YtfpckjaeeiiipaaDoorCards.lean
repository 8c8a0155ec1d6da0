/-
  DERIVED. GIVEN WITH THE SEED: THE CARDS: each row of YtfpckjaeeiiipaaDoorRows.lean that lists a variable, with what it lists TIED to the program's text (the seventh form; the later family's looks); each row that meets fmt, with fmt's text TOLD by the authors' own Lean function (tested against real Go, not proved from fmt's source: count such statements apart). THE CARD IS WHAT COUNTS. Prove the row's statement (the work); the ties are given (YtfpckjaeeiiipaaDoorTie.lean); close each card by the builder's one call (the guide's Derived/Test/ToyasCard.lean, 'card_holds'). Laid BY PROGRAM, IN A SANDBOX (cutbox-door.mjs). By AI agents, Wed Nov 11 2026. No macro, syntax, notation, axiom, sorry.
-/
import Derived.Test.YtfpckjaeeiiipaaDoorRows
import GoSem.ClaimSeven
namespace Go.Proofs.YtfpckjaeeiiipaaDoor
namespace Rows

/-- THE TIED CARD OF 'bailifflaw10.ShowTells'. -/
def showTellsCard : Claim7 := { stood := { row := showTellsRow, standIns := [], harness := (true, "b8ee488602fd40b2cd0e01eb8a9dbc56693b30faf03fe9de8c887627f6d981c7"), looks := false }, kinds := [], alts := [], laidByText := true, laidKinds := [.data, .data, .data], laidTests := true, laidLooks := .later }
def ShowTellsCardSaid : Prop := Claim7.holds Tryd.pinned (.plain (OpenSpec.ofChange showTellsSpec)) showTellsCard

/-- THE SECOND FORM's CARD OF 'bailifflaw10.ShowTells'. -/
def showTellsUptoCard : Claim7 := { stood := { row := showTellsUptoRow, standIns := [], harness := (true, "b8ee488602fd40b2cd0e01eb8a9dbc56693b30faf03fe9de8c887627f6d981c7"), looks := false }, kinds := [], alts := [], laidByText := true, laidKinds := [.data, .data, .data], laidTests := true, laidLooks := .later }
def ShowTellsUptoCardSaid : Prop := Claim7.holds Tryd.pinned (.plain (OpenSpec.upto showTellsSpec)) showTellsUptoCard
end Rows
end Go.Proofs.YtfpckjaeeiiipaaDoor
