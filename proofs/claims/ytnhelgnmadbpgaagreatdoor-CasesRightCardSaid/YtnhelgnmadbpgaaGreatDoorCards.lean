/-
  DERIVED. GIVEN WITH THE SEED: THE CARDS: each row of YtnhelgnmadbpgaaGreatDoorRows.lean that lists a variable, with what it lists TIED to the program's text (the seventh form; the later family's looks); each row that meets fmt, with fmt's text TOLD by the authors' own Lean function (tested against real Go, not proved from fmt's source: count such statements apart). THE CARD IS WHAT COUNTS. Prove the row's statement (the work); the ties are given (YtnhelgnmadbpgaaGreatDoorTie.lean); close each card by the builder's one call (the guide's Derived/Test/ToyasCard.lean, 'card_holds'). Laid BY PROGRAM, IN A SANDBOX (cutbox-door.mjs). By AI agents, Wed Nov 11 2026. No macro, syntax, notation, axiom, sorry.
-/
import Derived.Test.YtnhelgnmadbpgaaGreatDoorRows
import GoSem.ClaimSeven
namespace Go.Proofs.YtnhelgnmadbpgaaGreatDoor
namespace Rows

/-- THE TIED CARD OF 'bailifflaw22.CasesRuns'. -/
def casesRunsCard : Claim7 := { stood := { row := casesRunsRow, standIns := [], harness := (true, "e40b0f7a634bf2a860532af48732191470d9a4fbbd208ee57453e9301d02172f"), looks := true }, kinds := [], alts := [], laidByText := true, laidKinds := [.data, .data, .data, .sentinel, .sentinel], laidTests := true, laidLooks := .later }
def CasesRunsCardSaid : Prop := Claim7.holds Tryz.pinned (.plain (OpenSpec.ofChange casesRunsSpec)) casesRunsCard

/-- THE TIED CARD OF 'bailifflaw22.CasesPlays'. -/
def casesPlaysCard : Claim7 := { stood := { row := casesPlaysRow, standIns := [], harness := (true, "e40b0f7a634bf2a860532af48732191470d9a4fbbd208ee57453e9301d02172f"), looks := true }, kinds := [], alts := [], laidByText := true, laidKinds := [.data, .data, .data, .sentinel, .sentinel], laidTests := true, laidLooks := .later }
def CasesPlaysCardSaid : Prop := Claim7.holds Tryz.pinned (.plain (OpenSpec.ofChange casesPlaysSpec)) casesPlaysCard

/-- THE TIED CARD OF 'bailifflaw22.CasesStays'. -/
def casesStaysCard : Claim7 := { stood := { row := casesStaysRow, standIns := [], harness := (true, "e40b0f7a634bf2a860532af48732191470d9a4fbbd208ee57453e9301d02172f"), looks := true }, kinds := [], alts := [], laidByText := true, laidKinds := [.data, .data, .data, .sentinel, .sentinel], laidTests := true, laidLooks := .later }
def CasesStaysCardSaid : Prop := Claim7.holds Tryz.pinned (.plain (OpenSpec.ofChange casesStaysSpec)) casesStaysCard

/-- THE TIED CARD OF 'bailifflaw22.CasesStates'. -/
def casesStatesCard : Claim7 := { stood := { row := casesStatesRow, standIns := [], harness := (true, "e40b0f7a634bf2a860532af48732191470d9a4fbbd208ee57453e9301d02172f"), looks := true }, kinds := [], alts := [], laidByText := true, laidKinds := [.data, .data, .data, .sentinel, .sentinel], laidTests := true, laidLooks := .later }
def CasesStatesCardSaid : Prop := Claim7.holds Tryz.pinned (.plain (OpenSpec.ofChange casesStatesSpec)) casesStatesCard

/-- THE TIED CARD OF 'bailifflaw22.CasesFields'. -/
def casesFieldsCard : Claim7 := { stood := { row := casesFieldsRow, standIns := [], harness := (true, "e40b0f7a634bf2a860532af48732191470d9a4fbbd208ee57453e9301d02172f"), looks := true }, kinds := [], alts := [], laidByText := true, laidKinds := [.data, .data, .data, .sentinel, .sentinel], laidTests := true, laidLooks := .later }
def CasesFieldsCardSaid : Prop := Claim7.holds Tryz.pinned (.plain (OpenSpec.ofChange casesFieldsSpec)) casesFieldsCard

/-- THE TIED CARD OF 'bailifflaw22.CasesNew'. -/
def casesNewCard : Claim7 := { stood := { row := casesNewRow, standIns := [], harness := (true, "e40b0f7a634bf2a860532af48732191470d9a4fbbd208ee57453e9301d02172f"), looks := true }, kinds := [], alts := [], laidByText := true, laidKinds := [.data, .data, .data, .sentinel, .sentinel], laidTests := true, laidLooks := .later }
def CasesNewCardSaid : Prop := Claim7.holds Tryz.pinned (.plain (OpenSpec.ofChange casesNewSpec)) casesNewCard

/-- THE TIED CARD OF 'bailifflaw22.CasesForm'. -/
def casesFormCard : Claim7 := { stood := { row := casesFormRow, standIns := [], harness := (true, "e40b0f7a634bf2a860532af48732191470d9a4fbbd208ee57453e9301d02172f"), looks := true }, kinds := [], alts := [], laidByText := true, laidKinds := [.data, .data, .data, .sentinel, .sentinel], laidTests := true, laidLooks := .later }
def CasesFormCardSaid : Prop := Claim7.holds Tryz.pinned (.plain (OpenSpec.ofChange casesFormSpec)) casesFormCard

/-- THE TIED CARD OF 'bailifflaw22.CasesRoles'. -/
def casesRolesCard : Claim7 := { stood := { row := casesRolesRow, standIns := [], harness := (true, "e40b0f7a634bf2a860532af48732191470d9a4fbbd208ee57453e9301d02172f"), looks := true }, kinds := [], alts := [], laidByText := true, laidKinds := [.data, .data, .data, .sentinel, .sentinel], laidTests := true, laidLooks := .later }
def CasesRolesCardSaid : Prop := Claim7.holds Tryz.pinned (.plain (OpenSpec.ofChange casesRolesSpec)) casesRolesCard

/-- THE TIED CARD OF 'bailifflaw22.CasesTicks'. -/
def casesTicksCard : Claim7 := { stood := { row := casesTicksRow, standIns := [], harness := (true, "e40b0f7a634bf2a860532af48732191470d9a4fbbd208ee57453e9301d02172f"), looks := true }, kinds := [], alts := [], laidByText := true, laidKinds := [.data, .data, .data, .sentinel, .sentinel], laidTests := true, laidLooks := .later }
def CasesTicksCardSaid : Prop := Claim7.holds Tryz.pinned (.plain (OpenSpec.ofChange casesTicksSpec)) casesTicksCard

/-- THE TIED CARD OF 'bailifflaw22.CasesRight'. -/
def casesRightCard : Claim7 := { stood := { row := casesRightRow, standIns := [], harness := (true, "e40b0f7a634bf2a860532af48732191470d9a4fbbd208ee57453e9301d02172f"), looks := true }, kinds := [], alts := [], laidByText := true, laidKinds := [.data, .data, .data, .sentinel, .sentinel], laidTests := true, laidLooks := .later }
def CasesRightCardSaid : Prop := Claim7.holds Tryz.pinned (.plain (OpenSpec.ofChange casesRightSpec)) casesRightCard

/-- THE SECOND FORM's CARD OF 'bailifflaw22.CasesRuns'. -/
def casesRunsUptoCard : Claim7 := { stood := { row := casesRunsUptoRow, standIns := [], harness := (true, "e40b0f7a634bf2a860532af48732191470d9a4fbbd208ee57453e9301d02172f"), looks := true }, kinds := [], alts := [], laidByText := true, laidKinds := [.data, .data, .data, .sentinel, .sentinel], laidTests := true, laidLooks := .later }
def CasesRunsUptoCardSaid : Prop := Claim7.holds Tryz.pinned (.plain (OpenSpec.upto casesRunsSpec)) casesRunsUptoCard

/-- THE SECOND FORM's CARD OF 'bailifflaw22.CasesPlays'. -/
def casesPlaysUptoCard : Claim7 := { stood := { row := casesPlaysUptoRow, standIns := [], harness := (true, "e40b0f7a634bf2a860532af48732191470d9a4fbbd208ee57453e9301d02172f"), looks := true }, kinds := [], alts := [], laidByText := true, laidKinds := [.data, .data, .data, .sentinel, .sentinel], laidTests := true, laidLooks := .later }
def CasesPlaysUptoCardSaid : Prop := Claim7.holds Tryz.pinned (.plain (OpenSpec.upto casesPlaysSpec)) casesPlaysUptoCard

/-- THE SECOND FORM's CARD OF 'bailifflaw22.CasesStays'. -/
def casesStaysUptoCard : Claim7 := { stood := { row := casesStaysUptoRow, standIns := [], harness := (true, "e40b0f7a634bf2a860532af48732191470d9a4fbbd208ee57453e9301d02172f"), looks := true }, kinds := [], alts := [], laidByText := true, laidKinds := [.data, .data, .data, .sentinel, .sentinel], laidTests := true, laidLooks := .later }
def CasesStaysUptoCardSaid : Prop := Claim7.holds Tryz.pinned (.plain (OpenSpec.upto casesStaysSpec)) casesStaysUptoCard

/-- THE SECOND FORM's CARD OF 'bailifflaw22.CasesStates'. -/
def casesStatesUptoCard : Claim7 := { stood := { row := casesStatesUptoRow, standIns := [], harness := (true, "e40b0f7a634bf2a860532af48732191470d9a4fbbd208ee57453e9301d02172f"), looks := true }, kinds := [], alts := [], laidByText := true, laidKinds := [.data, .data, .data, .sentinel, .sentinel], laidTests := true, laidLooks := .later }
def CasesStatesUptoCardSaid : Prop := Claim7.holds Tryz.pinned (.plain (OpenSpec.upto casesStatesSpec)) casesStatesUptoCard

/-- THE SECOND FORM's CARD OF 'bailifflaw22.CasesFields'. -/
def casesFieldsUptoCard : Claim7 := { stood := { row := casesFieldsUptoRow, standIns := [], harness := (true, "e40b0f7a634bf2a860532af48732191470d9a4fbbd208ee57453e9301d02172f"), looks := true }, kinds := [], alts := [], laidByText := true, laidKinds := [.data, .data, .data, .sentinel, .sentinel], laidTests := true, laidLooks := .later }
def CasesFieldsUptoCardSaid : Prop := Claim7.holds Tryz.pinned (.plain (OpenSpec.upto casesFieldsSpec)) casesFieldsUptoCard

/-- THE SECOND FORM's CARD OF 'bailifflaw22.CasesNew'. -/
def casesNewUptoCard : Claim7 := { stood := { row := casesNewUptoRow, standIns := [], harness := (true, "e40b0f7a634bf2a860532af48732191470d9a4fbbd208ee57453e9301d02172f"), looks := true }, kinds := [], alts := [], laidByText := true, laidKinds := [.data, .data, .data, .sentinel, .sentinel], laidTests := true, laidLooks := .later }
def CasesNewUptoCardSaid : Prop := Claim7.holds Tryz.pinned (.plain (OpenSpec.upto casesNewSpec)) casesNewUptoCard

/-- THE SECOND FORM's CARD OF 'bailifflaw22.CasesForm'. -/
def casesFormUptoCard : Claim7 := { stood := { row := casesFormUptoRow, standIns := [], harness := (true, "e40b0f7a634bf2a860532af48732191470d9a4fbbd208ee57453e9301d02172f"), looks := true }, kinds := [], alts := [], laidByText := true, laidKinds := [.data, .data, .data, .sentinel, .sentinel], laidTests := true, laidLooks := .later }
def CasesFormUptoCardSaid : Prop := Claim7.holds Tryz.pinned (.plain (OpenSpec.upto casesFormSpec)) casesFormUptoCard

/-- THE SECOND FORM's CARD OF 'bailifflaw22.CasesRoles'. -/
def casesRolesUptoCard : Claim7 := { stood := { row := casesRolesUptoRow, standIns := [], harness := (true, "e40b0f7a634bf2a860532af48732191470d9a4fbbd208ee57453e9301d02172f"), looks := true }, kinds := [], alts := [], laidByText := true, laidKinds := [.data, .data, .data, .sentinel, .sentinel], laidTests := true, laidLooks := .later }
def CasesRolesUptoCardSaid : Prop := Claim7.holds Tryz.pinned (.plain (OpenSpec.upto casesRolesSpec)) casesRolesUptoCard

/-- THE SECOND FORM's CARD OF 'bailifflaw22.CasesTicks'. -/
def casesTicksUptoCard : Claim7 := { stood := { row := casesTicksUptoRow, standIns := [], harness := (true, "e40b0f7a634bf2a860532af48732191470d9a4fbbd208ee57453e9301d02172f"), looks := true }, kinds := [], alts := [], laidByText := true, laidKinds := [.data, .data, .data, .sentinel, .sentinel], laidTests := true, laidLooks := .later }
def CasesTicksUptoCardSaid : Prop := Claim7.holds Tryz.pinned (.plain (OpenSpec.upto casesTicksSpec)) casesTicksUptoCard

/-- THE SECOND FORM's CARD OF 'bailifflaw22.CasesRight'. -/
def casesRightUptoCard : Claim7 := { stood := { row := casesRightUptoRow, standIns := [], harness := (true, "e40b0f7a634bf2a860532af48732191470d9a4fbbd208ee57453e9301d02172f"), looks := true }, kinds := [], alts := [], laidByText := true, laidKinds := [.data, .data, .data, .sentinel, .sentinel], laidTests := true, laidLooks := .later }
def CasesRightUptoCardSaid : Prop := Claim7.holds Tryz.pinned (.plain (OpenSpec.upto casesRightSpec)) casesRightUptoCard
end Rows
end Go.Proofs.YtnhelgnmadbpgaaGreatDoor
