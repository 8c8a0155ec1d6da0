/-
  DERIVED. GIVEN WITH THE SEED: THE CARDS: each row of YtmlhcdeamjkpjaaGreatDoorRows.lean that lists a variable, with what it lists TIED to the program's text (the seventh form; the later family's looks); each row that meets fmt, with fmt's text TOLD by the authors' own Lean function (tested against real Go, not proved from fmt's source: count such statements apart). THE CARD IS WHAT COUNTS. Prove the row's statement (the work); the ties are given (YtmlhcdeamjkpjaaGreatDoorTie.lean); close each card by the builder's one call (the guide's Derived/Test/ToyasCard.lean, 'card_holds'). Laid BY PROGRAM, IN A SANDBOX (cutbox-door.mjs). By AI agents, Wed Nov 11 2026. No macro, syntax, notation, axiom, sorry.
-/
import Derived.Test.YtmlhcdeamjkpjaaGreatDoorRows
import GoSem.ClaimSeven
namespace Go.Proofs.YtmlhcdeamjkpjaaGreatDoor
namespace Rows

/-- THE TIED CARD OF 'bailifflaw22.CasesPlays'. -/
def casesPlaysCard : Claim7 := { stood := { row := casesPlaysRow, standIns := [], harness := (true, "e353484a518137f84a6094b406f234325ee28076e71314a2795d1552fa2c64ed"), looks := true }, kinds := [], alts := [], laidByText := true, laidKinds := [.data, .data, .data, .sentinel, .sentinel], laidTests := true, laidLooks := .later }
def CasesPlaysCardSaid : Prop := Claim7.holds Tryz.pinned (.plain (OpenSpec.ofChange casesPlaysSpec)) casesPlaysCard

/-- THE TIED CARD OF 'bailifflaw22.CasesStays'. -/
def casesStaysCard : Claim7 := { stood := { row := casesStaysRow, standIns := [], harness := (true, "e353484a518137f84a6094b406f234325ee28076e71314a2795d1552fa2c64ed"), looks := true }, kinds := [], alts := [], laidByText := true, laidKinds := [.data, .data, .data, .sentinel, .sentinel], laidTests := true, laidLooks := .later }
def CasesStaysCardSaid : Prop := Claim7.holds Tryz.pinned (.plain (OpenSpec.ofChange casesStaysSpec)) casesStaysCard

/-- THE TIED CARD OF 'bailifflaw23.GuardRuns'. -/
def guardRunsCard : Claim7 := { stood := { row := guardRunsRow, standIns := [], harness := (true, "e353484a518137f84a6094b406f234325ee28076e71314a2795d1552fa2c64ed"), looks := true }, kinds := [], alts := [], laidByText := true, laidKinds := [.data, .data, .data, .sentinel, .sentinel], laidTests := true, laidLooks := .later }
def GuardRunsCardSaid : Prop := Claim7.holds Tryz.pinned (.plain (OpenSpec.ofChange guardRunsSpec)) guardRunsCard

/-- THE TIED CARD OF 'bailifflaw23.GuardOnly'. -/
def guardOnlyCard : Claim7 := { stood := { row := guardOnlyRow, standIns := [], harness := (true, "e353484a518137f84a6094b406f234325ee28076e71314a2795d1552fa2c64ed"), looks := true }, kinds := [], alts := [], laidByText := true, laidKinds := [.data, .data, .data, .sentinel, .sentinel], laidTests := true, laidLooks := .later }
def GuardOnlyCardSaid : Prop := Claim7.holds Tryz.pinned (.plain (OpenSpec.ofChange guardOnlySpec)) guardOnlyCard

/-- THE TIED CARD OF 'bailifflaw23.GuardReviews'. -/
def guardReviewsCard : Claim7 := { stood := { row := guardReviewsRow, standIns := [], harness := (true, "e353484a518137f84a6094b406f234325ee28076e71314a2795d1552fa2c64ed"), looks := true }, kinds := [], alts := [], laidByText := true, laidKinds := [.data, .data, .data, .sentinel, .sentinel], laidTests := true, laidLooks := .later }
def GuardReviewsCardSaid : Prop := Claim7.holds Tryz.pinned (.plain (OpenSpec.ofChange guardReviewsSpec)) guardReviewsCard

/-- THE TIED CARD OF 'bailifflaw23.GuardHides'. -/
def guardHidesCard : Claim7 := { stood := { row := guardHidesRow, standIns := [], harness := (true, "e353484a518137f84a6094b406f234325ee28076e71314a2795d1552fa2c64ed"), looks := true }, kinds := [], alts := [], laidByText := true, laidKinds := [.data, .data, .data, .sentinel, .sentinel], laidTests := true, laidLooks := .later }
def GuardHidesCardSaid : Prop := Claim7.holds Tryz.pinned (.plain (OpenSpec.ofChange guardHidesSpec)) guardHidesCard

/-- THE TIED CARD OF 'bailifflaw23.GuardDuties'. -/
def guardDutiesCard : Claim7 := { stood := { row := guardDutiesRow, standIns := [], harness := (true, "e353484a518137f84a6094b406f234325ee28076e71314a2795d1552fa2c64ed"), looks := true }, kinds := [], alts := [], laidByText := true, laidKinds := [.data, .data, .data, .sentinel, .sentinel], laidTests := true, laidLooks := .later }
def GuardDutiesCardSaid : Prop := Claim7.holds Tryz.pinned (.plain (OpenSpec.ofChange guardDutiesSpec)) guardDutiesCard

/-- THE TIED CARD OF 'bailifflaw23.GuardRoom'. -/
def guardRoomCard : Claim7 := { stood := { row := guardRoomRow, standIns := [], harness := (true, "e353484a518137f84a6094b406f234325ee28076e71314a2795d1552fa2c64ed"), looks := true }, kinds := [], alts := [], laidByText := true, laidKinds := [.data, .data, .data, .sentinel, .sentinel], laidTests := true, laidLooks := .later }
def GuardRoomCardSaid : Prop := Claim7.holds Tryz.pinned (.plain (OpenSpec.ofChange guardRoomSpec)) guardRoomCard

/-- THE TIED CARD OF 'bailifflaw23.GuardPolicy'. -/
def guardPolicyCard : Claim7 := { stood := { row := guardPolicyRow, standIns := [], harness := (true, "e353484a518137f84a6094b406f234325ee28076e71314a2795d1552fa2c64ed"), looks := true }, kinds := [], alts := [], laidByText := true, laidKinds := [.data, .data, .data, .sentinel, .sentinel], laidTests := true, laidLooks := .later }
def GuardPolicyCardSaid : Prop := Claim7.holds Tryz.pinned (.plain (OpenSpec.ofChange guardPolicySpec)) guardPolicyCard

/-- THE TIED CARD OF 'bailifflaw23.GuardAgain'. -/
def guardAgainCard : Claim7 := { stood := { row := guardAgainRow, standIns := [], harness := (true, "e353484a518137f84a6094b406f234325ee28076e71314a2795d1552fa2c64ed"), looks := true }, kinds := [], alts := [], laidByText := true, laidKinds := [.data, .data, .data, .sentinel, .sentinel], laidTests := true, laidLooks := .later }
def GuardAgainCardSaid : Prop := Claim7.holds Tryz.pinned (.plain (OpenSpec.ofChange guardAgainSpec)) guardAgainCard

/-- THE TIED CARD OF 'bailifflaw23.GuardPlays'. -/
def guardPlaysCard : Claim7 := { stood := { row := guardPlaysRow, standIns := [], harness := (true, "e353484a518137f84a6094b406f234325ee28076e71314a2795d1552fa2c64ed"), looks := true }, kinds := [], alts := [], laidByText := true, laidKinds := [.data, .data, .data, .sentinel, .sentinel], laidTests := true, laidLooks := .later }
def GuardPlaysCardSaid : Prop := Claim7.holds Tryz.pinned (.plain (OpenSpec.ofChange guardPlaysSpec)) guardPlaysCard

/-- THE TIED CARD OF 'bailifflaw23.GuardOverdue'. -/
def guardOverdueCard : Claim7 := { stood := { row := guardOverdueRow, standIns := [], harness := (true, "e353484a518137f84a6094b406f234325ee28076e71314a2795d1552fa2c64ed"), looks := true }, kinds := [], alts := [], laidByText := true, laidKinds := [.data, .data, .data, .sentinel, .sentinel], laidTests := true, laidLooks := .later }
def GuardOverdueCardSaid : Prop := Claim7.holds Tryz.pinned (.plain (OpenSpec.ofChange guardOverdueSpec)) guardOverdueCard

/-- THE SECOND FORM's CARD OF 'bailifflaw22.CasesPlays'. -/
def casesPlaysUptoCard : Claim7 := { stood := { row := casesPlaysUptoRow, standIns := [], harness := (true, "e353484a518137f84a6094b406f234325ee28076e71314a2795d1552fa2c64ed"), looks := true }, kinds := [], alts := [], laidByText := true, laidKinds := [.data, .data, .data, .sentinel, .sentinel], laidTests := true, laidLooks := .later }
def CasesPlaysUptoCardSaid : Prop := Claim7.holds Tryz.pinned (.plain (OpenSpec.upto casesPlaysSpec)) casesPlaysUptoCard

/-- THE SECOND FORM's CARD OF 'bailifflaw22.CasesStays'. -/
def casesStaysUptoCard : Claim7 := { stood := { row := casesStaysUptoRow, standIns := [], harness := (true, "e353484a518137f84a6094b406f234325ee28076e71314a2795d1552fa2c64ed"), looks := true }, kinds := [], alts := [], laidByText := true, laidKinds := [.data, .data, .data, .sentinel, .sentinel], laidTests := true, laidLooks := .later }
def CasesStaysUptoCardSaid : Prop := Claim7.holds Tryz.pinned (.plain (OpenSpec.upto casesStaysSpec)) casesStaysUptoCard

/-- THE SECOND FORM's CARD OF 'bailifflaw23.GuardRuns'. -/
def guardRunsUptoCard : Claim7 := { stood := { row := guardRunsUptoRow, standIns := [], harness := (true, "e353484a518137f84a6094b406f234325ee28076e71314a2795d1552fa2c64ed"), looks := true }, kinds := [], alts := [], laidByText := true, laidKinds := [.data, .data, .data, .sentinel, .sentinel], laidTests := true, laidLooks := .later }
def GuardRunsUptoCardSaid : Prop := Claim7.holds Tryz.pinned (.plain (OpenSpec.upto guardRunsSpec)) guardRunsUptoCard

/-- THE SECOND FORM's CARD OF 'bailifflaw23.GuardOnly'. -/
def guardOnlyUptoCard : Claim7 := { stood := { row := guardOnlyUptoRow, standIns := [], harness := (true, "e353484a518137f84a6094b406f234325ee28076e71314a2795d1552fa2c64ed"), looks := true }, kinds := [], alts := [], laidByText := true, laidKinds := [.data, .data, .data, .sentinel, .sentinel], laidTests := true, laidLooks := .later }
def GuardOnlyUptoCardSaid : Prop := Claim7.holds Tryz.pinned (.plain (OpenSpec.upto guardOnlySpec)) guardOnlyUptoCard

/-- THE SECOND FORM's CARD OF 'bailifflaw23.GuardReviews'. -/
def guardReviewsUptoCard : Claim7 := { stood := { row := guardReviewsUptoRow, standIns := [], harness := (true, "e353484a518137f84a6094b406f234325ee28076e71314a2795d1552fa2c64ed"), looks := true }, kinds := [], alts := [], laidByText := true, laidKinds := [.data, .data, .data, .sentinel, .sentinel], laidTests := true, laidLooks := .later }
def GuardReviewsUptoCardSaid : Prop := Claim7.holds Tryz.pinned (.plain (OpenSpec.upto guardReviewsSpec)) guardReviewsUptoCard

/-- THE SECOND FORM's CARD OF 'bailifflaw23.GuardHides'. -/
def guardHidesUptoCard : Claim7 := { stood := { row := guardHidesUptoRow, standIns := [], harness := (true, "e353484a518137f84a6094b406f234325ee28076e71314a2795d1552fa2c64ed"), looks := true }, kinds := [], alts := [], laidByText := true, laidKinds := [.data, .data, .data, .sentinel, .sentinel], laidTests := true, laidLooks := .later }
def GuardHidesUptoCardSaid : Prop := Claim7.holds Tryz.pinned (.plain (OpenSpec.upto guardHidesSpec)) guardHidesUptoCard

/-- THE SECOND FORM's CARD OF 'bailifflaw23.GuardDuties'. -/
def guardDutiesUptoCard : Claim7 := { stood := { row := guardDutiesUptoRow, standIns := [], harness := (true, "e353484a518137f84a6094b406f234325ee28076e71314a2795d1552fa2c64ed"), looks := true }, kinds := [], alts := [], laidByText := true, laidKinds := [.data, .data, .data, .sentinel, .sentinel], laidTests := true, laidLooks := .later }
def GuardDutiesUptoCardSaid : Prop := Claim7.holds Tryz.pinned (.plain (OpenSpec.upto guardDutiesSpec)) guardDutiesUptoCard

/-- THE SECOND FORM's CARD OF 'bailifflaw23.GuardRoom'. -/
def guardRoomUptoCard : Claim7 := { stood := { row := guardRoomUptoRow, standIns := [], harness := (true, "e353484a518137f84a6094b406f234325ee28076e71314a2795d1552fa2c64ed"), looks := true }, kinds := [], alts := [], laidByText := true, laidKinds := [.data, .data, .data, .sentinel, .sentinel], laidTests := true, laidLooks := .later }
def GuardRoomUptoCardSaid : Prop := Claim7.holds Tryz.pinned (.plain (OpenSpec.upto guardRoomSpec)) guardRoomUptoCard

/-- THE SECOND FORM's CARD OF 'bailifflaw23.GuardPolicy'. -/
def guardPolicyUptoCard : Claim7 := { stood := { row := guardPolicyUptoRow, standIns := [], harness := (true, "e353484a518137f84a6094b406f234325ee28076e71314a2795d1552fa2c64ed"), looks := true }, kinds := [], alts := [], laidByText := true, laidKinds := [.data, .data, .data, .sentinel, .sentinel], laidTests := true, laidLooks := .later }
def GuardPolicyUptoCardSaid : Prop := Claim7.holds Tryz.pinned (.plain (OpenSpec.upto guardPolicySpec)) guardPolicyUptoCard

/-- THE SECOND FORM's CARD OF 'bailifflaw23.GuardAgain'. -/
def guardAgainUptoCard : Claim7 := { stood := { row := guardAgainUptoRow, standIns := [], harness := (true, "e353484a518137f84a6094b406f234325ee28076e71314a2795d1552fa2c64ed"), looks := true }, kinds := [], alts := [], laidByText := true, laidKinds := [.data, .data, .data, .sentinel, .sentinel], laidTests := true, laidLooks := .later }
def GuardAgainUptoCardSaid : Prop := Claim7.holds Tryz.pinned (.plain (OpenSpec.upto guardAgainSpec)) guardAgainUptoCard

/-- THE SECOND FORM's CARD OF 'bailifflaw23.GuardPlays'. -/
def guardPlaysUptoCard : Claim7 := { stood := { row := guardPlaysUptoRow, standIns := [], harness := (true, "e353484a518137f84a6094b406f234325ee28076e71314a2795d1552fa2c64ed"), looks := true }, kinds := [], alts := [], laidByText := true, laidKinds := [.data, .data, .data, .sentinel, .sentinel], laidTests := true, laidLooks := .later }
def GuardPlaysUptoCardSaid : Prop := Claim7.holds Tryz.pinned (.plain (OpenSpec.upto guardPlaysSpec)) guardPlaysUptoCard

/-- THE SECOND FORM's CARD OF 'bailifflaw23.GuardOverdue'. -/
def guardOverdueUptoCard : Claim7 := { stood := { row := guardOverdueUptoRow, standIns := [], harness := (true, "e353484a518137f84a6094b406f234325ee28076e71314a2795d1552fa2c64ed"), looks := true }, kinds := [], alts := [], laidByText := true, laidKinds := [.data, .data, .data, .sentinel, .sentinel], laidTests := true, laidLooks := .later }
def GuardOverdueUptoCardSaid : Prop := Claim7.holds Tryz.pinned (.plain (OpenSpec.upto guardOverdueSpec)) guardOverdueUptoCard
end Rows
end Go.Proofs.YtmlhcdeamjkpjaaGreatDoor
