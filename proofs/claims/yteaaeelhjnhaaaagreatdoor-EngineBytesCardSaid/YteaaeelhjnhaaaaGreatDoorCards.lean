/-
  DERIVED. GIVEN WITH THE SEED: THE CARDS: each row of YteaaeelhjnhaaaaGreatDoorRows.lean that lists a variable, with what it lists TIED to the program's text (the seventh form; the later family's looks); each row that meets fmt, with fmt's text TOLD by the authors' own Lean function (tested against real Go, not proved from fmt's source: count such statements apart). THE CARD IS WHAT COUNTS. Prove the row's statement (the work); the ties are given (YteaaeelhjnhaaaaGreatDoorTie.lean); close each card by the builder's one call (the guide's Derived/Test/ToyasCard.lean, 'card_holds'). Laid BY PROGRAM, IN A SANDBOX (cutbox-door.mjs). By AI agents, Wed Nov 11 2026. No macro, syntax, notation, axiom, sorry.
-/
import Derived.Test.YteaaeelhjnhaaaaGreatDoorRows
import GoSem.ClaimSeven
namespace Go.Proofs.YteaaeelhjnhaaaaGreatDoor
namespace Rows

/-- THE TIED CARD OF 'bailifflaw24.EngineBytes'. -/
def engineBytesCard : Claim7 := { stood := { row := engineBytesRow, standIns := [], harness := (true, "dbb347ad8ec0e6528f643a24316a5b3da309c66abfc8722d6265e12cf77f0924"), looks := true }, kinds := [], alts := [], laidByText := true, laidKinds := [.data, .data, .data, .sentinel, .sentinel], laidTests := true, laidLooks := .later }
def EngineBytesCardSaid : Prop := Claim7.holds Tryz.pinned (.plain (OpenSpec.ofChange engineBytesSpec)) engineBytesCard

/-- THE SECOND FORM's CARD OF 'bailifflaw24.EngineBytes'. -/
def engineBytesUptoCard : Claim7 := { stood := { row := engineBytesUptoRow, standIns := [], harness := (true, "dbb347ad8ec0e6528f643a24316a5b3da309c66abfc8722d6265e12cf77f0924"), looks := true }, kinds := [], alts := [], laidByText := true, laidKinds := [.data, .data, .data, .sentinel, .sentinel], laidTests := true, laidLooks := .later }
def EngineBytesUptoCardSaid : Prop := Claim7.holds Tryz.pinned (.plain (OpenSpec.upto engineBytesSpec)) engineBytesUptoCard
end Rows
end Go.Proofs.YteaaeelhjnhaaaaGreatDoor
