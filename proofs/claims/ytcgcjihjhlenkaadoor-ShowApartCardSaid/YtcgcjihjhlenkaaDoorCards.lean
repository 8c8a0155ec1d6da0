/-
  DERIVED. GIVEN WITH THE SEED: THE CARDS: each row of YtcgcjihjhlenkaaDoorRows.lean that lists a variable, with what it lists TIED to the program's text (the seventh form; the later family's looks); each row that meets fmt, with fmt's text TOLD by the authors' own Lean function (tested against real Go, not proved from fmt's source: count such statements apart). THE CARD IS WHAT COUNTS. Prove the row's statement (the work); the ties are given (YtcgcjihjhlenkaaDoorTie.lean); close each card by the builder's one call (the guide's Derived/Test/ToyasCard.lean, 'card_holds'). Laid BY PROGRAM, IN A SANDBOX (cutbox-door.mjs). By AI agents, Wed Nov 11 2026. No macro, syntax, notation, axiom, sorry.
-/
import Derived.Test.YtcgcjihjhlenkaaDoorRows
import GoSem.ClaimSeven
namespace Go.Proofs.YtcgcjihjhlenkaaDoor
namespace Rows

/-- THE TIED CARD OF 'bailifflaw10.ShowApart'. -/
def showApartCard : Claim7 := { stood := { row := showApartRow, standIns := [], harness := (true, "a8e331f63ef3f42a067cb09262ac21e9a7301c0c59d67226c0d05d2d4931da01"), looks := false }, kinds := [], alts := [], laidByText := true, laidKinds := [.data, .data, .data], laidTests := true, laidLooks := .later }
def ShowApartCardSaid : Prop := Claim7.holds Tryd.pinned (.plain (OpenSpec.ofChange showApartSpec)) showApartCard

/-- THE SECOND FORM's CARD OF 'bailifflaw10.ShowApart'. -/
def showApartUptoCard : Claim7 := { stood := { row := showApartUptoRow, standIns := [], harness := (true, "a8e331f63ef3f42a067cb09262ac21e9a7301c0c59d67226c0d05d2d4931da01"), looks := false }, kinds := [], alts := [], laidByText := true, laidKinds := [.data, .data, .data], laidTests := true, laidLooks := .later }
def ShowApartUptoCardSaid : Prop := Claim7.holds Tryd.pinned (.plain (OpenSpec.upto showApartSpec)) showApartUptoCard
end Rows
end Go.Proofs.YtcgcjihjhlenkaaDoor
