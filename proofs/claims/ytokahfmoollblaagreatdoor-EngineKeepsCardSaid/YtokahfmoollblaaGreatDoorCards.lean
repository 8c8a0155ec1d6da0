/-
  DERIVED. GIVEN WITH THE SEED: THE CARDS: each row of YtokahfmoollblaaGreatDoorRows.lean that lists a variable, with what it lists TIED to the program's text (the seventh form; the later family's looks); each row that meets fmt, with fmt's text TOLD by the authors' own Lean function (tested against real Go, not proved from fmt's source: count such statements apart). THE CARD IS WHAT COUNTS. Prove the row's statement (the work); the ties are given (YtokahfmoollblaaGreatDoorTie.lean); close each card by the builder's one call (the guide's Derived/Test/ToyasCard.lean, 'card_holds'). Laid BY PROGRAM, IN A SANDBOX (cutbox-door.mjs). By AI agents, Wed Nov 11 2026. No macro, syntax, notation, axiom, sorry.
-/
import Derived.Test.YtokahfmoollblaaGreatDoorRows
import GoSem.ClaimSeven
namespace Go.Proofs.YtokahfmoollblaaGreatDoor
namespace Rows

/-- THE TIED CARD OF 'bailifftop.TopModel'. -/
def topModelCard : Claim7 := { stood := { row := topModelRow, standIns := [], harness := (true, "d9843cf4e557d10872a774864f955d78067549da36daba88e7e93f5ca79c7647"), looks := true }, kinds := [], alts := [], laidByText := true, laidKinds := [.data, .data, .data, .sentinel, .sentinel], laidTests := true, laidLooks := .later }
def TopModelCardSaid : Prop := Claim7.holds Tryz.pinned (.plain (OpenSpec.ofChange topModelSpec)) topModelCard

/-- THE TIED CARD OF 'bailifflaw24.EngineKeeps'. -/
def engineKeepsCard : Claim7 := { stood := { row := engineKeepsRow, standIns := [], harness := (true, "d9843cf4e557d10872a774864f955d78067549da36daba88e7e93f5ca79c7647"), looks := true }, kinds := [], alts := [], laidByText := true, laidKinds := [.data, .data, .data, .sentinel, .sentinel], laidTests := true, laidLooks := .later }
def EngineKeepsCardSaid : Prop := Claim7.holds Tryz.pinned (.plain (OpenSpec.ofChange engineKeepsSpec)) engineKeepsCard

/-- THE TIED CARD OF 'bailifftop.TopReplay'. -/
def topReplayCard : Claim7 := { stood := { row := topReplayRow, standIns := [], harness := (true, "d9843cf4e557d10872a774864f955d78067549da36daba88e7e93f5ca79c7647"), looks := true }, kinds := [], alts := [], laidByText := true, laidKinds := [.data, .data, .data, .sentinel, .sentinel], laidTests := true, laidLooks := .later }
def TopReplayCardSaid : Prop := Claim7.holds Tryz.pinned (.plain (OpenSpec.ofChange topReplaySpec)) topReplayCard

/-- THE SECOND FORM's CARD OF 'bailifftop.TopModel'. -/
def topModelUptoCard : Claim7 := { stood := { row := topModelUptoRow, standIns := [], harness := (true, "d9843cf4e557d10872a774864f955d78067549da36daba88e7e93f5ca79c7647"), looks := true }, kinds := [], alts := [], laidByText := true, laidKinds := [.data, .data, .data, .sentinel, .sentinel], laidTests := true, laidLooks := .later }
def TopModelUptoCardSaid : Prop := Claim7.holds Tryz.pinned (.plain (OpenSpec.upto topModelSpec)) topModelUptoCard

/-- THE SECOND FORM's CARD OF 'bailifflaw24.EngineKeeps'. -/
def engineKeepsUptoCard : Claim7 := { stood := { row := engineKeepsUptoRow, standIns := [], harness := (true, "d9843cf4e557d10872a774864f955d78067549da36daba88e7e93f5ca79c7647"), looks := true }, kinds := [], alts := [], laidByText := true, laidKinds := [.data, .data, .data, .sentinel, .sentinel], laidTests := true, laidLooks := .later }
def EngineKeepsUptoCardSaid : Prop := Claim7.holds Tryz.pinned (.plain (OpenSpec.upto engineKeepsSpec)) engineKeepsUptoCard

/-- THE SECOND FORM's CARD OF 'bailifftop.TopReplay'. -/
def topReplayUptoCard : Claim7 := { stood := { row := topReplayUptoRow, standIns := [], harness := (true, "d9843cf4e557d10872a774864f955d78067549da36daba88e7e93f5ca79c7647"), looks := true }, kinds := [], alts := [], laidByText := true, laidKinds := [.data, .data, .data, .sentinel, .sentinel], laidTests := true, laidLooks := .later }
def TopReplayUptoCardSaid : Prop := Claim7.holds Tryz.pinned (.plain (OpenSpec.upto topReplaySpec)) topReplayUptoCard
end Rows
end Go.Proofs.YtokahfmoollblaaGreatDoor
