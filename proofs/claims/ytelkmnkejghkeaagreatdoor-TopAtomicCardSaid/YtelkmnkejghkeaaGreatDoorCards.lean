/-
  DERIVED. GIVEN WITH THE SEED: THE CARDS: each row of YtelkmnkejghkeaaGreatDoorRows.lean that lists a variable, with what it lists TIED to the program's text (the seventh form; the later family's looks); each row that meets fmt, with fmt's text TOLD by the authors' own Lean function (tested against real Go, not proved from fmt's source: count such statements apart). THE CARD IS WHAT COUNTS. Prove the row's statement (the work); the ties are given (YtelkmnkejghkeaaGreatDoorTie.lean); close each card by the builder's one call (the guide's Derived/Test/ToyasCard.lean, 'card_holds'). Laid BY PROGRAM, IN A SANDBOX (cutbox-door.mjs). By AI agents, Wed Nov 11 2026. No macro, syntax, notation, axiom, sorry.
-/
import Derived.Test.YtelkmnkejghkeaaGreatDoorRows
import GoSem.ClaimSeven
namespace Go.Proofs.YtelkmnkejghkeaaGreatDoor
namespace Rows

/-- THE TIED CARD OF 'bailifftop.TopAtomic'. -/
def topAtomicCard : Claim7 := { stood := { row := topAtomicRow, standIns := [], harness := (true, "8794938c0715b1dfbfbc9260327b1c0f31c9006067dc28e3e10db6c81cfeef14"), looks := true }, kinds := [], alts := [], laidByText := true, laidKinds := [.data, .data, .data, .sentinel, .sentinel], laidTests := true, laidLooks := .later }
def TopAtomicCardSaid : Prop := Claim7.holds Tryz.pinned (.plain (OpenSpec.ofChange topAtomicSpec)) topAtomicCard

/-- THE TIED CARD OF 'bailifftop.TopLog'. -/
def topLogCard : Claim7 := { stood := { row := topLogRow, standIns := [], harness := (true, "8794938c0715b1dfbfbc9260327b1c0f31c9006067dc28e3e10db6c81cfeef14"), looks := true }, kinds := [], alts := [], laidByText := true, laidKinds := [.data, .data, .data, .sentinel, .sentinel], laidTests := true, laidLooks := .later }
def TopLogCardSaid : Prop := Claim7.holds Tryz.pinned (.plain (OpenSpec.ofChange topLogSpec)) topLogCard

/-- THE TIED CARD OF 'bailifftop.TopTampered'. -/
def topTamperedCard : Claim7 := { stood := { row := topTamperedRow, standIns := [], harness := (true, "8794938c0715b1dfbfbc9260327b1c0f31c9006067dc28e3e10db6c81cfeef14"), looks := true }, kinds := [], alts := [], laidByText := true, laidKinds := [.data, .data, .data, .sentinel, .sentinel], laidTests := true, laidLooks := .later }
def TopTamperedCardSaid : Prop := Claim7.holds Tryz.pinned (.plain (OpenSpec.ofChange topTamperedSpec)) topTamperedCard

/-- THE SECOND FORM's CARD OF 'bailifftop.TopAtomic'. -/
def topAtomicUptoCard : Claim7 := { stood := { row := topAtomicUptoRow, standIns := [], harness := (true, "8794938c0715b1dfbfbc9260327b1c0f31c9006067dc28e3e10db6c81cfeef14"), looks := true }, kinds := [], alts := [], laidByText := true, laidKinds := [.data, .data, .data, .sentinel, .sentinel], laidTests := true, laidLooks := .later }
def TopAtomicUptoCardSaid : Prop := Claim7.holds Tryz.pinned (.plain (OpenSpec.upto topAtomicSpec)) topAtomicUptoCard

/-- THE SECOND FORM's CARD OF 'bailifftop.TopLog'. -/
def topLogUptoCard : Claim7 := { stood := { row := topLogUptoRow, standIns := [], harness := (true, "8794938c0715b1dfbfbc9260327b1c0f31c9006067dc28e3e10db6c81cfeef14"), looks := true }, kinds := [], alts := [], laidByText := true, laidKinds := [.data, .data, .data, .sentinel, .sentinel], laidTests := true, laidLooks := .later }
def TopLogUptoCardSaid : Prop := Claim7.holds Tryz.pinned (.plain (OpenSpec.upto topLogSpec)) topLogUptoCard

/-- THE SECOND FORM's CARD OF 'bailifftop.TopTampered'. -/
def topTamperedUptoCard : Claim7 := { stood := { row := topTamperedUptoRow, standIns := [], harness := (true, "8794938c0715b1dfbfbc9260327b1c0f31c9006067dc28e3e10db6c81cfeef14"), looks := true }, kinds := [], alts := [], laidByText := true, laidKinds := [.data, .data, .data, .sentinel, .sentinel], laidTests := true, laidLooks := .later }
def TopTamperedUptoCardSaid : Prop := Claim7.holds Tryz.pinned (.plain (OpenSpec.upto topTamperedSpec)) topTamperedUptoCard
end Rows
end Go.Proofs.YtelkmnkejghkeaaGreatDoor
