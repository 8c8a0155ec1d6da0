/-
  DERIVED. GIVEN WITH THE SEED: THE CARDS: each row of YtnlbeamjpefpfaaGreatDoorRows.lean that lists a variable, with what it lists TIED to the program's text (the seventh form; the later family's looks); each row that meets fmt, with fmt's text TOLD by the authors' own Lean function (tested against real Go, not proved from fmt's source: count such statements apart). THE CARD IS WHAT COUNTS. Prove the row's statement (the work); the ties are given (YtnlbeamjpefpfaaGreatDoorTie.lean); close each card by the builder's one call (the guide's Derived/Test/ToyasCard.lean, 'card_holds'). Laid BY PROGRAM, IN A SANDBOX (cutbox-door.mjs). By AI agents, Wed Nov 11 2026. No macro, syntax, notation, axiom, sorry.
-/
import Derived.Test.YtnlbeamjpefpfaaGreatDoorRows
import GoSem.ClaimSeven
namespace Go.Proofs.YtnlbeamjpefpfaaGreatDoor
namespace Rows

/-- THE TIED CARD OF 'bailifflaw23.GuardOnly'. -/
def guardOnlyCard : Claim7 := { stood := { row := guardOnlyRow, standIns := [], harness := (true, "9245e049431e4ab16b4893c80746770984d5172d7f13dc82615788e737ba5d84"), looks := true }, kinds := [], alts := [], laidByText := true, laidKinds := [.data, .data, .data, .sentinel, .sentinel], laidTests := true, laidLooks := .later }
def GuardOnlyCardSaid : Prop := Claim7.holds Tryz.pinned (.plain (OpenSpec.ofChange guardOnlySpec)) guardOnlyCard

/-- THE TIED CARD OF 'bailifflaw23.GuardReviews'. -/
def guardReviewsCard : Claim7 := { stood := { row := guardReviewsRow, standIns := [], harness := (true, "9245e049431e4ab16b4893c80746770984d5172d7f13dc82615788e737ba5d84"), looks := true }, kinds := [], alts := [], laidByText := true, laidKinds := [.data, .data, .data, .sentinel, .sentinel], laidTests := true, laidLooks := .later }
def GuardReviewsCardSaid : Prop := Claim7.holds Tryz.pinned (.plain (OpenSpec.ofChange guardReviewsSpec)) guardReviewsCard

/-- THE TIED CARD OF 'bailifflaw23.GuardHides'. -/
def guardHidesCard : Claim7 := { stood := { row := guardHidesRow, standIns := [], harness := (true, "9245e049431e4ab16b4893c80746770984d5172d7f13dc82615788e737ba5d84"), looks := true }, kinds := [], alts := [], laidByText := true, laidKinds := [.data, .data, .data, .sentinel, .sentinel], laidTests := true, laidLooks := .later }
def GuardHidesCardSaid : Prop := Claim7.holds Tryz.pinned (.plain (OpenSpec.ofChange guardHidesSpec)) guardHidesCard

/-- THE TIED CARD OF 'bailifflaw23.GuardDuties'. -/
def guardDutiesCard : Claim7 := { stood := { row := guardDutiesRow, standIns := [], harness := (true, "9245e049431e4ab16b4893c80746770984d5172d7f13dc82615788e737ba5d84"), looks := true }, kinds := [], alts := [], laidByText := true, laidKinds := [.data, .data, .data, .sentinel, .sentinel], laidTests := true, laidLooks := .later }
def GuardDutiesCardSaid : Prop := Claim7.holds Tryz.pinned (.plain (OpenSpec.ofChange guardDutiesSpec)) guardDutiesCard

/-- THE TIED CARD OF 'bailifflaw23.GuardRoom'. -/
def guardRoomCard : Claim7 := { stood := { row := guardRoomRow, standIns := [], harness := (true, "9245e049431e4ab16b4893c80746770984d5172d7f13dc82615788e737ba5d84"), looks := true }, kinds := [], alts := [], laidByText := true, laidKinds := [.data, .data, .data, .sentinel, .sentinel], laidTests := true, laidLooks := .later }
def GuardRoomCardSaid : Prop := Claim7.holds Tryz.pinned (.plain (OpenSpec.ofChange guardRoomSpec)) guardRoomCard

/-- THE TIED CARD OF 'bailifflaw23.GuardPolicy'. -/
def guardPolicyCard : Claim7 := { stood := { row := guardPolicyRow, standIns := [], harness := (true, "9245e049431e4ab16b4893c80746770984d5172d7f13dc82615788e737ba5d84"), looks := true }, kinds := [], alts := [], laidByText := true, laidKinds := [.data, .data, .data, .sentinel, .sentinel], laidTests := true, laidLooks := .later }
def GuardPolicyCardSaid : Prop := Claim7.holds Tryz.pinned (.plain (OpenSpec.ofChange guardPolicySpec)) guardPolicyCard

/-- THE TIED CARD OF 'bailifflaw23.GuardAgain'. -/
def guardAgainCard : Claim7 := { stood := { row := guardAgainRow, standIns := [], harness := (true, "9245e049431e4ab16b4893c80746770984d5172d7f13dc82615788e737ba5d84"), looks := true }, kinds := [], alts := [], laidByText := true, laidKinds := [.data, .data, .data, .sentinel, .sentinel], laidTests := true, laidLooks := .later }
def GuardAgainCardSaid : Prop := Claim7.holds Tryz.pinned (.plain (OpenSpec.ofChange guardAgainSpec)) guardAgainCard

/-- THE TIED CARD OF 'bailifflaw23.GuardOverdue'. -/
def guardOverdueCard : Claim7 := { stood := { row := guardOverdueRow, standIns := [], harness := (true, "9245e049431e4ab16b4893c80746770984d5172d7f13dc82615788e737ba5d84"), looks := true }, kinds := [], alts := [], laidByText := true, laidKinds := [.data, .data, .data, .sentinel, .sentinel], laidTests := true, laidLooks := .later }
def GuardOverdueCardSaid : Prop := Claim7.holds Tryz.pinned (.plain (OpenSpec.ofChange guardOverdueSpec)) guardOverdueCard

/-- THE SECOND FORM's CARD OF 'bailifflaw23.GuardOnly'. -/
def guardOnlyUptoCard : Claim7 := { stood := { row := guardOnlyUptoRow, standIns := [], harness := (true, "9245e049431e4ab16b4893c80746770984d5172d7f13dc82615788e737ba5d84"), looks := true }, kinds := [], alts := [], laidByText := true, laidKinds := [.data, .data, .data, .sentinel, .sentinel], laidTests := true, laidLooks := .later }
def GuardOnlyUptoCardSaid : Prop := Claim7.holds Tryz.pinned (.plain (OpenSpec.upto guardOnlySpec)) guardOnlyUptoCard

/-- THE SECOND FORM's CARD OF 'bailifflaw23.GuardReviews'. -/
def guardReviewsUptoCard : Claim7 := { stood := { row := guardReviewsUptoRow, standIns := [], harness := (true, "9245e049431e4ab16b4893c80746770984d5172d7f13dc82615788e737ba5d84"), looks := true }, kinds := [], alts := [], laidByText := true, laidKinds := [.data, .data, .data, .sentinel, .sentinel], laidTests := true, laidLooks := .later }
def GuardReviewsUptoCardSaid : Prop := Claim7.holds Tryz.pinned (.plain (OpenSpec.upto guardReviewsSpec)) guardReviewsUptoCard

/-- THE SECOND FORM's CARD OF 'bailifflaw23.GuardHides'. -/
def guardHidesUptoCard : Claim7 := { stood := { row := guardHidesUptoRow, standIns := [], harness := (true, "9245e049431e4ab16b4893c80746770984d5172d7f13dc82615788e737ba5d84"), looks := true }, kinds := [], alts := [], laidByText := true, laidKinds := [.data, .data, .data, .sentinel, .sentinel], laidTests := true, laidLooks := .later }
def GuardHidesUptoCardSaid : Prop := Claim7.holds Tryz.pinned (.plain (OpenSpec.upto guardHidesSpec)) guardHidesUptoCard

/-- THE SECOND FORM's CARD OF 'bailifflaw23.GuardDuties'. -/
def guardDutiesUptoCard : Claim7 := { stood := { row := guardDutiesUptoRow, standIns := [], harness := (true, "9245e049431e4ab16b4893c80746770984d5172d7f13dc82615788e737ba5d84"), looks := true }, kinds := [], alts := [], laidByText := true, laidKinds := [.data, .data, .data, .sentinel, .sentinel], laidTests := true, laidLooks := .later }
def GuardDutiesUptoCardSaid : Prop := Claim7.holds Tryz.pinned (.plain (OpenSpec.upto guardDutiesSpec)) guardDutiesUptoCard

/-- THE SECOND FORM's CARD OF 'bailifflaw23.GuardRoom'. -/
def guardRoomUptoCard : Claim7 := { stood := { row := guardRoomUptoRow, standIns := [], harness := (true, "9245e049431e4ab16b4893c80746770984d5172d7f13dc82615788e737ba5d84"), looks := true }, kinds := [], alts := [], laidByText := true, laidKinds := [.data, .data, .data, .sentinel, .sentinel], laidTests := true, laidLooks := .later }
def GuardRoomUptoCardSaid : Prop := Claim7.holds Tryz.pinned (.plain (OpenSpec.upto guardRoomSpec)) guardRoomUptoCard

/-- THE SECOND FORM's CARD OF 'bailifflaw23.GuardPolicy'. -/
def guardPolicyUptoCard : Claim7 := { stood := { row := guardPolicyUptoRow, standIns := [], harness := (true, "9245e049431e4ab16b4893c80746770984d5172d7f13dc82615788e737ba5d84"), looks := true }, kinds := [], alts := [], laidByText := true, laidKinds := [.data, .data, .data, .sentinel, .sentinel], laidTests := true, laidLooks := .later }
def GuardPolicyUptoCardSaid : Prop := Claim7.holds Tryz.pinned (.plain (OpenSpec.upto guardPolicySpec)) guardPolicyUptoCard

/-- THE SECOND FORM's CARD OF 'bailifflaw23.GuardAgain'. -/
def guardAgainUptoCard : Claim7 := { stood := { row := guardAgainUptoRow, standIns := [], harness := (true, "9245e049431e4ab16b4893c80746770984d5172d7f13dc82615788e737ba5d84"), looks := true }, kinds := [], alts := [], laidByText := true, laidKinds := [.data, .data, .data, .sentinel, .sentinel], laidTests := true, laidLooks := .later }
def GuardAgainUptoCardSaid : Prop := Claim7.holds Tryz.pinned (.plain (OpenSpec.upto guardAgainSpec)) guardAgainUptoCard

/-- THE SECOND FORM's CARD OF 'bailifflaw23.GuardOverdue'. -/
def guardOverdueUptoCard : Claim7 := { stood := { row := guardOverdueUptoRow, standIns := [], harness := (true, "9245e049431e4ab16b4893c80746770984d5172d7f13dc82615788e737ba5d84"), looks := true }, kinds := [], alts := [], laidByText := true, laidKinds := [.data, .data, .data, .sentinel, .sentinel], laidTests := true, laidLooks := .later }
def GuardOverdueUptoCardSaid : Prop := Claim7.holds Tryz.pinned (.plain (OpenSpec.upto guardOverdueSpec)) guardOverdueUptoCard
end Rows
end Go.Proofs.YtnlbeamjpefpfaaGreatDoor
