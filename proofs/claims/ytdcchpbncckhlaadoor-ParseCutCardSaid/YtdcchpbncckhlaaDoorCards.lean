/-
  DERIVED. GIVEN WITH THE SEED: THE CARDS: each row of YtdcchpbncckhlaaDoorRows.lean that lists a variable, with what it lists TIED to the program's text (the seventh form; the later family's looks); each row that meets fmt, with fmt's text TOLD by the authors' own Lean function (tested against real Go, not proved from fmt's source: count such statements apart). THE CARD IS WHAT COUNTS. Prove the row's statement (the work); the ties are given (YtdcchpbncckhlaaDoorTie.lean); close each card by the builder's one call (the guide's Derived/Test/ToyasCard.lean, 'card_holds'). Laid BY PROGRAM, IN A SANDBOX (cutbox-door.mjs). By AI agents, Wed Nov 11 2026. No macro, syntax, notation, axiom, sorry.
-/
import Derived.Test.YtdcchpbncckhlaaDoorRows
import GoSem.ClaimSeven
namespace Go.Proofs.YtdcchpbncckhlaaDoor
namespace Rows

/-- THE TIED CARD OF 'bailifflaw10.ShowRuns'. -/
def showRunsCard : Claim7 := { stood := { row := showRunsRow, standIns := [], harness := (true, "2582c46ce5f210340caf8f09b420a7ee356d728a2314b1314f56cc707bbb3af4"), looks := true }, kinds := [], alts := [], laidByText := true, laidKinds := [.data, .data, .data], laidTests := true, laidLooks := .later }
def ShowRunsCardSaid : Prop := Claim7.holds Tryd.pinned (.plain (OpenSpec.ofChange showRunsSpec)) showRunsCard

/-- THE TIED CARD OF 'bailifflaw10.ShowTells'. -/
def showTellsCard : Claim7 := { stood := { row := showTellsRow, standIns := [], harness := (true, "2582c46ce5f210340caf8f09b420a7ee356d728a2314b1314f56cc707bbb3af4"), looks := true }, kinds := [], alts := [], laidByText := true, laidKinds := [.data, .data, .data], laidTests := true, laidLooks := .later }
def ShowTellsCardSaid : Prop := Claim7.holds Tryd.pinned (.plain (OpenSpec.ofChange showTellsSpec)) showTellsCard

/-- THE TIED CARD OF 'bailifflaw10.ShowApart'. -/
def showApartCard : Claim7 := { stood := { row := showApartRow, standIns := [], harness := (true, "2582c46ce5f210340caf8f09b420a7ee356d728a2314b1314f56cc707bbb3af4"), looks := true }, kinds := [], alts := [], laidByText := true, laidKinds := [.data, .data, .data], laidTests := true, laidLooks := .later }
def ShowApartCardSaid : Prop := Claim7.holds Tryd.pinned (.plain (OpenSpec.ofChange showApartSpec)) showApartCard

/-- THE TIED CARD OF 'bailifflaw9.ParseRuns'. -/
def parseRunsCard : Claim7 := { stood := { row := parseRunsRow, standIns := [], harness := (true, "2582c46ce5f210340caf8f09b420a7ee356d728a2314b1314f56cc707bbb3af4"), looks := true }, kinds := [], alts := [], laidByText := true, laidKinds := [.data, .data, .data, .sentinel, .sentinel], laidTests := true, laidLooks := .later }
def ParseRunsCardSaid : Prop := Claim7.holds Tryd.pinned (.plain (OpenSpec.ofChange parseRunsSpec)) parseRunsCard

/-- THE TIED CARD OF 'bailifflaw9.ParseRight'. -/
def parseRightCard : Claim7 := { stood := { row := parseRightRow, standIns := [], harness := (true, "2582c46ce5f210340caf8f09b420a7ee356d728a2314b1314f56cc707bbb3af4"), looks := true }, kinds := [], alts := [], laidByText := true, laidKinds := [.data, .data, .data, .sentinel, .sentinel], laidTests := true, laidLooks := .later }
def ParseRightCardSaid : Prop := Claim7.holds Tryd.pinned (.plain (OpenSpec.ofChange parseRightSpec)) parseRightCard

/-- THE TIED CARD OF 'bailifflaw9.ParseCut'. -/
def parseCutCard : Claim7 := { stood := { row := parseCutRow, standIns := [], harness := (true, "2582c46ce5f210340caf8f09b420a7ee356d728a2314b1314f56cc707bbb3af4"), looks := true }, kinds := [], alts := [], laidByText := true, laidKinds := [.data, .data, .data, .sentinel, .sentinel], laidTests := true, laidLooks := .later }
def ParseCutCardSaid : Prop := Claim7.holds Tryd.pinned (.plain (OpenSpec.ofChange parseCutSpec)) parseCutCard

/-- THE TIED CARD OF 'bailifflaw9.ParseDeep'. -/
def parseDeepCard : Claim7 := { stood := { row := parseDeepRow, standIns := [], harness := (true, "2582c46ce5f210340caf8f09b420a7ee356d728a2314b1314f56cc707bbb3af4"), looks := true }, kinds := [], alts := [], laidByText := true, laidKinds := [.data, .data, .data, .sentinel, .sentinel], laidTests := true, laidLooks := .later }
def ParseDeepCardSaid : Prop := Claim7.holds Tryd.pinned (.plain (OpenSpec.ofChange parseDeepSpec)) parseDeepCard

/-- THE TIED CARD OF 'bailifflaw9.ParseWords'. -/
def parseWordsCard : Claim7 := { stood := { row := parseWordsRow, standIns := [], harness := (true, "2582c46ce5f210340caf8f09b420a7ee356d728a2314b1314f56cc707bbb3af4"), looks := true }, kinds := [], alts := [], laidByText := true, laidKinds := [.data, .data, .data, .sentinel, .sentinel], laidTests := true, laidLooks := .later }
def ParseWordsCardSaid : Prop := Claim7.holds Tryd.pinned (.plain (OpenSpec.ofChange parseWordsSpec)) parseWordsCard

/-- THE TIED CARD OF 'bailifflaw9.ParseRules'. -/
def parseRulesCard : Claim7 := { stood := { row := parseRulesRow, standIns := [], harness := (true, "2582c46ce5f210340caf8f09b420a7ee356d728a2314b1314f56cc707bbb3af4"), looks := true }, kinds := [], alts := [], laidByText := true, laidKinds := [.data, .data, .data, .sentinel, .sentinel], laidTests := true, laidLooks := .later }
def ParseRulesCardSaid : Prop := Claim7.holds Tryd.pinned (.plain (OpenSpec.ofChange parseRulesSpec)) parseRulesCard

/-- THE TIED CARD OF 'bailifflaw9.ParseBlanks'. -/
def parseBlanksCard : Claim7 := { stood := { row := parseBlanksRow, standIns := [], harness := (true, "2582c46ce5f210340caf8f09b420a7ee356d728a2314b1314f56cc707bbb3af4"), looks := true }, kinds := [], alts := [], laidByText := true, laidKinds := [.data, .data, .data, .sentinel, .sentinel], laidTests := true, laidLooks := .later }
def ParseBlanksCardSaid : Prop := Claim7.holds Tryd.pinned (.plain (OpenSpec.ofChange parseBlanksSpec)) parseBlanksCard

/-- THE SECOND FORM's CARD OF 'bailifflaw10.ShowRuns'. -/
def showRunsUptoCard : Claim7 := { stood := { row := showRunsUptoRow, standIns := [], harness := (true, "2582c46ce5f210340caf8f09b420a7ee356d728a2314b1314f56cc707bbb3af4"), looks := true }, kinds := [], alts := [], laidByText := true, laidKinds := [.data, .data, .data], laidTests := true, laidLooks := .later }
def ShowRunsUptoCardSaid : Prop := Claim7.holds Tryd.pinned (.plain (OpenSpec.upto showRunsSpec)) showRunsUptoCard

/-- THE SECOND FORM's CARD OF 'bailifflaw10.ShowTells'. -/
def showTellsUptoCard : Claim7 := { stood := { row := showTellsUptoRow, standIns := [], harness := (true, "2582c46ce5f210340caf8f09b420a7ee356d728a2314b1314f56cc707bbb3af4"), looks := true }, kinds := [], alts := [], laidByText := true, laidKinds := [.data, .data, .data], laidTests := true, laidLooks := .later }
def ShowTellsUptoCardSaid : Prop := Claim7.holds Tryd.pinned (.plain (OpenSpec.upto showTellsSpec)) showTellsUptoCard

/-- THE SECOND FORM's CARD OF 'bailifflaw10.ShowApart'. -/
def showApartUptoCard : Claim7 := { stood := { row := showApartUptoRow, standIns := [], harness := (true, "2582c46ce5f210340caf8f09b420a7ee356d728a2314b1314f56cc707bbb3af4"), looks := true }, kinds := [], alts := [], laidByText := true, laidKinds := [.data, .data, .data], laidTests := true, laidLooks := .later }
def ShowApartUptoCardSaid : Prop := Claim7.holds Tryd.pinned (.plain (OpenSpec.upto showApartSpec)) showApartUptoCard

/-- THE SECOND FORM's CARD OF 'bailifflaw9.ParseRuns'. -/
def parseRunsUptoCard : Claim7 := { stood := { row := parseRunsUptoRow, standIns := [], harness := (true, "2582c46ce5f210340caf8f09b420a7ee356d728a2314b1314f56cc707bbb3af4"), looks := true }, kinds := [], alts := [], laidByText := true, laidKinds := [.data, .data, .data, .sentinel, .sentinel], laidTests := true, laidLooks := .later }
def ParseRunsUptoCardSaid : Prop := Claim7.holds Tryd.pinned (.plain (OpenSpec.upto parseRunsSpec)) parseRunsUptoCard

/-- THE SECOND FORM's CARD OF 'bailifflaw9.ParseRight'. -/
def parseRightUptoCard : Claim7 := { stood := { row := parseRightUptoRow, standIns := [], harness := (true, "2582c46ce5f210340caf8f09b420a7ee356d728a2314b1314f56cc707bbb3af4"), looks := true }, kinds := [], alts := [], laidByText := true, laidKinds := [.data, .data, .data, .sentinel, .sentinel], laidTests := true, laidLooks := .later }
def ParseRightUptoCardSaid : Prop := Claim7.holds Tryd.pinned (.plain (OpenSpec.upto parseRightSpec)) parseRightUptoCard

/-- THE SECOND FORM's CARD OF 'bailifflaw9.ParseCut'. -/
def parseCutUptoCard : Claim7 := { stood := { row := parseCutUptoRow, standIns := [], harness := (true, "2582c46ce5f210340caf8f09b420a7ee356d728a2314b1314f56cc707bbb3af4"), looks := true }, kinds := [], alts := [], laidByText := true, laidKinds := [.data, .data, .data, .sentinel, .sentinel], laidTests := true, laidLooks := .later }
def ParseCutUptoCardSaid : Prop := Claim7.holds Tryd.pinned (.plain (OpenSpec.upto parseCutSpec)) parseCutUptoCard

/-- THE SECOND FORM's CARD OF 'bailifflaw9.ParseDeep'. -/
def parseDeepUptoCard : Claim7 := { stood := { row := parseDeepUptoRow, standIns := [], harness := (true, "2582c46ce5f210340caf8f09b420a7ee356d728a2314b1314f56cc707bbb3af4"), looks := true }, kinds := [], alts := [], laidByText := true, laidKinds := [.data, .data, .data, .sentinel, .sentinel], laidTests := true, laidLooks := .later }
def ParseDeepUptoCardSaid : Prop := Claim7.holds Tryd.pinned (.plain (OpenSpec.upto parseDeepSpec)) parseDeepUptoCard

/-- THE SECOND FORM's CARD OF 'bailifflaw9.ParseWords'. -/
def parseWordsUptoCard : Claim7 := { stood := { row := parseWordsUptoRow, standIns := [], harness := (true, "2582c46ce5f210340caf8f09b420a7ee356d728a2314b1314f56cc707bbb3af4"), looks := true }, kinds := [], alts := [], laidByText := true, laidKinds := [.data, .data, .data, .sentinel, .sentinel], laidTests := true, laidLooks := .later }
def ParseWordsUptoCardSaid : Prop := Claim7.holds Tryd.pinned (.plain (OpenSpec.upto parseWordsSpec)) parseWordsUptoCard

/-- THE SECOND FORM's CARD OF 'bailifflaw9.ParseRules'. -/
def parseRulesUptoCard : Claim7 := { stood := { row := parseRulesUptoRow, standIns := [], harness := (true, "2582c46ce5f210340caf8f09b420a7ee356d728a2314b1314f56cc707bbb3af4"), looks := true }, kinds := [], alts := [], laidByText := true, laidKinds := [.data, .data, .data, .sentinel, .sentinel], laidTests := true, laidLooks := .later }
def ParseRulesUptoCardSaid : Prop := Claim7.holds Tryd.pinned (.plain (OpenSpec.upto parseRulesSpec)) parseRulesUptoCard

/-- THE SECOND FORM's CARD OF 'bailifflaw9.ParseBlanks'. -/
def parseBlanksUptoCard : Claim7 := { stood := { row := parseBlanksUptoRow, standIns := [], harness := (true, "2582c46ce5f210340caf8f09b420a7ee356d728a2314b1314f56cc707bbb3af4"), looks := true }, kinds := [], alts := [], laidByText := true, laidKinds := [.data, .data, .data, .sentinel, .sentinel], laidTests := true, laidLooks := .later }
def ParseBlanksUptoCardSaid : Prop := Claim7.holds Tryd.pinned (.plain (OpenSpec.upto parseBlanksSpec)) parseBlanksUptoCard
end Rows
end Go.Proofs.YtdcchpbncckhlaaDoor
