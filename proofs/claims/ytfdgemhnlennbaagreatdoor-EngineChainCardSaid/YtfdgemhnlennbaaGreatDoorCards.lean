/-
  DERIVED. GIVEN WITH THE SEED: THE CARDS: each row of YtfdgemhnlennbaaGreatDoorRows.lean that lists a variable, with what it lists TIED to the program's text (the seventh form; the later family's looks); each row that meets fmt, with fmt's text TOLD by the authors' own Lean function (tested against real Go, not proved from fmt's source: count such statements apart). THE CARD IS WHAT COUNTS. Prove the row's statement (the work); the ties are given (YtfdgemhnlennbaaGreatDoorTie.lean); close each card by the builder's one call (the guide's Derived/Test/ToyasCard.lean, 'card_holds'). Laid BY PROGRAM, IN A SANDBOX (cutbox-door.mjs). By AI agents, Wed Nov 11 2026. No macro, syntax, notation, axiom, sorry.
-/
import Derived.Test.YtfdgemhnlennbaaGreatDoorRows
import GoSem.ClaimSeven
namespace Go.Proofs.YtfdgemhnlennbaaGreatDoor
namespace Rows

/-- THE TIED CARD OF 'bailifflaw24.EngineChain'. -/
def engineChainCard : Claim7 := { stood := { row := engineChainRow, standIns := [], harness := (true, "4659c12685704bd2d21c10c86a2f40c9963570be86f9ff1c6adad5eea307bb4c"), looks := true }, kinds := [], alts := [], laidByText := true, laidKinds := [.data, .data, .data, .sentinel, .sentinel], laidTests := true, laidLooks := .later }
def EngineChainCardSaid : Prop := Claim7.holds Tryz.pinned (.plain (OpenSpec.ofChange engineChainSpec)) engineChainCard

/-- THE TIED CARD OF 'bailifflaw24.EngineKeeps'. -/
def engineKeepsCard : Claim7 := { stood := { row := engineKeepsRow, standIns := [], harness := (true, "4659c12685704bd2d21c10c86a2f40c9963570be86f9ff1c6adad5eea307bb4c"), looks := true }, kinds := [], alts := [], laidByText := true, laidKinds := [.data, .data, .data, .sentinel, .sentinel], laidTests := true, laidLooks := .later }
def EngineKeepsCardSaid : Prop := Claim7.holds Tryz.pinned (.plain (OpenSpec.ofChange engineKeepsSpec)) engineKeepsCard

/-- THE TIED CARD OF 'bailifflaw25.ScriptBack'. -/
def scriptBackCard : Claim7 := { stood := { row := scriptBackRow, standIns := [], harness := (true, "4659c12685704bd2d21c10c86a2f40c9963570be86f9ff1c6adad5eea307bb4c"), looks := true }, kinds := [], alts := [], laidByText := true, laidKinds := [.data, .data, .data, .sentinel, .sentinel], laidTests := true, laidLooks := .later }
def ScriptBackCardSaid : Prop := Claim7.holds Tryz.pinned (.plain (OpenSpec.ofChange scriptBackSpec)) scriptBackCard

/-- THE TIED CARD OF 'bailifflaw25.ScriptForm'. -/
def scriptFormCard : Claim7 := { stood := { row := scriptFormRow, standIns := [], harness := (true, "4659c12685704bd2d21c10c86a2f40c9963570be86f9ff1c6adad5eea307bb4c"), looks := true }, kinds := [], alts := [], laidByText := true, laidKinds := [.data, .data, .data, .sentinel, .sentinel], laidTests := true, laidLooks := .later }
def ScriptFormCardSaid : Prop := Claim7.holds Tryz.pinned (.plain (OpenSpec.ofChange scriptFormSpec)) scriptFormCard

/-- THE TIED CARD OF 'bailifflaw25.ScriptWhat'. -/
def scriptWhatCard : Claim7 := { stood := { row := scriptWhatRow, standIns := [], harness := (true, "4659c12685704bd2d21c10c86a2f40c9963570be86f9ff1c6adad5eea307bb4c"), looks := true }, kinds := [], alts := [], laidByText := true, laidKinds := [.data, .data, .data, .sentinel, .sentinel], laidTests := true, laidLooks := .later }
def ScriptWhatCardSaid : Prop := Claim7.holds Tryz.pinned (.plain (OpenSpec.ofChange scriptWhatSpec)) scriptWhatCard

/-- THE SECOND FORM's CARD OF 'bailifflaw24.EngineChain'. -/
def engineChainUptoCard : Claim7 := { stood := { row := engineChainUptoRow, standIns := [], harness := (true, "4659c12685704bd2d21c10c86a2f40c9963570be86f9ff1c6adad5eea307bb4c"), looks := true }, kinds := [], alts := [], laidByText := true, laidKinds := [.data, .data, .data, .sentinel, .sentinel], laidTests := true, laidLooks := .later }
def EngineChainUptoCardSaid : Prop := Claim7.holds Tryz.pinned (.plain (OpenSpec.upto engineChainSpec)) engineChainUptoCard

/-- THE SECOND FORM's CARD OF 'bailifflaw24.EngineKeeps'. -/
def engineKeepsUptoCard : Claim7 := { stood := { row := engineKeepsUptoRow, standIns := [], harness := (true, "4659c12685704bd2d21c10c86a2f40c9963570be86f9ff1c6adad5eea307bb4c"), looks := true }, kinds := [], alts := [], laidByText := true, laidKinds := [.data, .data, .data, .sentinel, .sentinel], laidTests := true, laidLooks := .later }
def EngineKeepsUptoCardSaid : Prop := Claim7.holds Tryz.pinned (.plain (OpenSpec.upto engineKeepsSpec)) engineKeepsUptoCard

/-- THE SECOND FORM's CARD OF 'bailifflaw25.ScriptBack'. -/
def scriptBackUptoCard : Claim7 := { stood := { row := scriptBackUptoRow, standIns := [], harness := (true, "4659c12685704bd2d21c10c86a2f40c9963570be86f9ff1c6adad5eea307bb4c"), looks := true }, kinds := [], alts := [], laidByText := true, laidKinds := [.data, .data, .data, .sentinel, .sentinel], laidTests := true, laidLooks := .later }
def ScriptBackUptoCardSaid : Prop := Claim7.holds Tryz.pinned (.plain (OpenSpec.upto scriptBackSpec)) scriptBackUptoCard

/-- THE SECOND FORM's CARD OF 'bailifflaw25.ScriptForm'. -/
def scriptFormUptoCard : Claim7 := { stood := { row := scriptFormUptoRow, standIns := [], harness := (true, "4659c12685704bd2d21c10c86a2f40c9963570be86f9ff1c6adad5eea307bb4c"), looks := true }, kinds := [], alts := [], laidByText := true, laidKinds := [.data, .data, .data, .sentinel, .sentinel], laidTests := true, laidLooks := .later }
def ScriptFormUptoCardSaid : Prop := Claim7.holds Tryz.pinned (.plain (OpenSpec.upto scriptFormSpec)) scriptFormUptoCard

/-- THE SECOND FORM's CARD OF 'bailifflaw25.ScriptWhat'. -/
def scriptWhatUptoCard : Claim7 := { stood := { row := scriptWhatUptoRow, standIns := [], harness := (true, "4659c12685704bd2d21c10c86a2f40c9963570be86f9ff1c6adad5eea307bb4c"), looks := true }, kinds := [], alts := [], laidByText := true, laidKinds := [.data, .data, .data, .sentinel, .sentinel], laidTests := true, laidLooks := .later }
def ScriptWhatUptoCardSaid : Prop := Claim7.holds Tryz.pinned (.plain (OpenSpec.upto scriptWhatSpec)) scriptWhatUptoCard
end Rows
end Go.Proofs.YtfdgemhnlennbaaGreatDoor
