/-
  DERIVED. GIVEN WITH THE SEED: THE CARDS: each row of YtcochaoekecfdaaGreatDoorRows.lean that lists a variable, with what it lists TIED to the program's text (the seventh form; the later family's looks); each row that meets fmt, with fmt's text TOLD by the authors' own Lean function (tested against real Go, not proved from fmt's source: count such statements apart). THE CARD IS WHAT COUNTS. Prove the row's statement (the work); the ties are given (YtcochaoekecfdaaGreatDoorTie.lean); close each card by the builder's one call (the guide's Derived/Test/ToyasCard.lean, 'card_holds'). Laid BY PROGRAM, IN A SANDBOX (cutbox-door.mjs). By AI agents, Wed Nov 11 2026. No macro, syntax, notation, axiom, sorry.
-/
import Derived.Test.YtcochaoekecfdaaGreatDoorRows
import GoSem.ClaimSeven
namespace Go.Proofs.YtcochaoekecfdaaGreatDoor
namespace Rows

/-- THE TIED CARD OF 'bailifflaw24.EngineRuns'. -/
def engineRunsCard : Claim7 := { stood := { row := engineRunsRow, standIns := [], harness := (true, "33efedeb698a8fb47e3355072059b55b4793814bb1f1c639c0c56de127859ec3"), looks := true }, kinds := [], alts := [], laidByText := true, laidKinds := [.data, .data, .data, .sentinel, .sentinel], laidTests := true, laidLooks := .later }
def EngineRunsCardSaid : Prop := Claim7.holds Tryz.pinned (.plain (OpenSpec.ofChange engineRunsSpec)) engineRunsCard

/-- THE TIED CARD OF 'bailifflaw24.EngineApart'. -/
def engineApartCard : Claim7 := { stood := { row := engineApartRow, standIns := [], harness := (true, "33efedeb698a8fb47e3355072059b55b4793814bb1f1c639c0c56de127859ec3"), looks := true }, kinds := [], alts := [], laidByText := true, laidKinds := [.data, .data, .data, .sentinel, .sentinel], laidTests := true, laidLooks := .later }
def EngineApartCardSaid : Prop := Claim7.holds Tryz.pinned (.plain (OpenSpec.ofChange engineApartSpec)) engineApartCard

/-- THE TIED CARD OF 'bailifflaw24.EngineFull'. -/
def engineFullCard : Claim7 := { stood := { row := engineFullRow, standIns := [], harness := (true, "33efedeb698a8fb47e3355072059b55b4793814bb1f1c639c0c56de127859ec3"), looks := true }, kinds := [], alts := [], laidByText := true, laidKinds := [.data, .data, .data, .sentinel, .sentinel], laidTests := true, laidLooks := .later }
def EngineFullCardSaid : Prop := Claim7.holds Tryz.pinned (.plain (OpenSpec.ofChange engineFullSpec)) engineFullCard

/-- THE TIED CARD OF 'bailifflaw24.EngineChain'. -/
def engineChainCard : Claim7 := { stood := { row := engineChainRow, standIns := [], harness := (true, "33efedeb698a8fb47e3355072059b55b4793814bb1f1c639c0c56de127859ec3"), looks := true }, kinds := [], alts := [], laidByText := true, laidKinds := [.data, .data, .data, .sentinel, .sentinel], laidTests := true, laidLooks := .later }
def EngineChainCardSaid : Prop := Claim7.holds Tryz.pinned (.plain (OpenSpec.ofChange engineChainSpec)) engineChainCard

/-- THE TIED CARD OF 'bailifflaw24.EngineKeeps'. -/
def engineKeepsCard : Claim7 := { stood := { row := engineKeepsRow, standIns := [], harness := (true, "33efedeb698a8fb47e3355072059b55b4793814bb1f1c639c0c56de127859ec3"), looks := true }, kinds := [], alts := [], laidByText := true, laidKinds := [.data, .data, .data, .sentinel, .sentinel], laidTests := true, laidLooks := .later }
def EngineKeepsCardSaid : Prop := Claim7.holds Tryz.pinned (.plain (OpenSpec.ofChange engineKeepsSpec)) engineKeepsCard

/-- THE TIED CARD OF 'bailifflaw24.EngineDown'. -/
def engineDownCard : Claim7 := { stood := { row := engineDownRow, standIns := [], harness := (true, "33efedeb698a8fb47e3355072059b55b4793814bb1f1c639c0c56de127859ec3"), looks := true }, kinds := [], alts := [], laidByText := true, laidKinds := [.data, .data, .data, .sentinel, .sentinel], laidTests := true, laidLooks := .later }
def EngineDownCardSaid : Prop := Claim7.holds Tryz.pinned (.plain (OpenSpec.ofChange engineDownSpec)) engineDownCard

/-- THE TIED CARD OF 'bailifflaw25.ScriptRuns'. -/
def scriptRunsCard : Claim7 := { stood := { row := scriptRunsRow, standIns := [], harness := (true, "33efedeb698a8fb47e3355072059b55b4793814bb1f1c639c0c56de127859ec3"), looks := true }, kinds := [], alts := [], laidByText := true, laidKinds := [.data, .data, .data, .sentinel, .sentinel], laidTests := true, laidLooks := .later }
def ScriptRunsCardSaid : Prop := Claim7.holds Tryz.pinned (.plain (OpenSpec.ofChange scriptRunsSpec)) scriptRunsCard

/-- THE TIED CARD OF 'bailifflaw25.ScriptBack'. -/
def scriptBackCard : Claim7 := { stood := { row := scriptBackRow, standIns := [], harness := (true, "33efedeb698a8fb47e3355072059b55b4793814bb1f1c639c0c56de127859ec3"), looks := true }, kinds := [], alts := [], laidByText := true, laidKinds := [.data, .data, .data, .sentinel, .sentinel], laidTests := true, laidLooks := .later }
def ScriptBackCardSaid : Prop := Claim7.holds Tryz.pinned (.plain (OpenSpec.ofChange scriptBackSpec)) scriptBackCard

/-- THE TIED CARD OF 'bailifflaw25.ScriptForm'. -/
def scriptFormCard : Claim7 := { stood := { row := scriptFormRow, standIns := [], harness := (true, "33efedeb698a8fb47e3355072059b55b4793814bb1f1c639c0c56de127859ec3"), looks := true }, kinds := [], alts := [], laidByText := true, laidKinds := [.data, .data, .data, .sentinel, .sentinel], laidTests := true, laidLooks := .later }
def ScriptFormCardSaid : Prop := Claim7.holds Tryz.pinned (.plain (OpenSpec.ofChange scriptFormSpec)) scriptFormCard

/-- THE TIED CARD OF 'bailifflaw25.ScriptWhat'. -/
def scriptWhatCard : Claim7 := { stood := { row := scriptWhatRow, standIns := [], harness := (true, "33efedeb698a8fb47e3355072059b55b4793814bb1f1c639c0c56de127859ec3"), looks := true }, kinds := [], alts := [], laidByText := true, laidKinds := [.data, .data, .data, .sentinel, .sentinel], laidTests := true, laidLooks := .later }
def ScriptWhatCardSaid : Prop := Claim7.holds Tryz.pinned (.plain (OpenSpec.ofChange scriptWhatSpec)) scriptWhatCard

/-- THE SECOND FORM's CARD OF 'bailifflaw24.EngineRuns'. -/
def engineRunsUptoCard : Claim7 := { stood := { row := engineRunsUptoRow, standIns := [], harness := (true, "33efedeb698a8fb47e3355072059b55b4793814bb1f1c639c0c56de127859ec3"), looks := true }, kinds := [], alts := [], laidByText := true, laidKinds := [.data, .data, .data, .sentinel, .sentinel], laidTests := true, laidLooks := .later }
def EngineRunsUptoCardSaid : Prop := Claim7.holds Tryz.pinned (.plain (OpenSpec.upto engineRunsSpec)) engineRunsUptoCard

/-- THE SECOND FORM's CARD OF 'bailifflaw24.EngineApart'. -/
def engineApartUptoCard : Claim7 := { stood := { row := engineApartUptoRow, standIns := [], harness := (true, "33efedeb698a8fb47e3355072059b55b4793814bb1f1c639c0c56de127859ec3"), looks := true }, kinds := [], alts := [], laidByText := true, laidKinds := [.data, .data, .data, .sentinel, .sentinel], laidTests := true, laidLooks := .later }
def EngineApartUptoCardSaid : Prop := Claim7.holds Tryz.pinned (.plain (OpenSpec.upto engineApartSpec)) engineApartUptoCard

/-- THE SECOND FORM's CARD OF 'bailifflaw24.EngineFull'. -/
def engineFullUptoCard : Claim7 := { stood := { row := engineFullUptoRow, standIns := [], harness := (true, "33efedeb698a8fb47e3355072059b55b4793814bb1f1c639c0c56de127859ec3"), looks := true }, kinds := [], alts := [], laidByText := true, laidKinds := [.data, .data, .data, .sentinel, .sentinel], laidTests := true, laidLooks := .later }
def EngineFullUptoCardSaid : Prop := Claim7.holds Tryz.pinned (.plain (OpenSpec.upto engineFullSpec)) engineFullUptoCard

/-- THE SECOND FORM's CARD OF 'bailifflaw24.EngineChain'. -/
def engineChainUptoCard : Claim7 := { stood := { row := engineChainUptoRow, standIns := [], harness := (true, "33efedeb698a8fb47e3355072059b55b4793814bb1f1c639c0c56de127859ec3"), looks := true }, kinds := [], alts := [], laidByText := true, laidKinds := [.data, .data, .data, .sentinel, .sentinel], laidTests := true, laidLooks := .later }
def EngineChainUptoCardSaid : Prop := Claim7.holds Tryz.pinned (.plain (OpenSpec.upto engineChainSpec)) engineChainUptoCard

/-- THE SECOND FORM's CARD OF 'bailifflaw24.EngineKeeps'. -/
def engineKeepsUptoCard : Claim7 := { stood := { row := engineKeepsUptoRow, standIns := [], harness := (true, "33efedeb698a8fb47e3355072059b55b4793814bb1f1c639c0c56de127859ec3"), looks := true }, kinds := [], alts := [], laidByText := true, laidKinds := [.data, .data, .data, .sentinel, .sentinel], laidTests := true, laidLooks := .later }
def EngineKeepsUptoCardSaid : Prop := Claim7.holds Tryz.pinned (.plain (OpenSpec.upto engineKeepsSpec)) engineKeepsUptoCard

/-- THE SECOND FORM's CARD OF 'bailifflaw24.EngineDown'. -/
def engineDownUptoCard : Claim7 := { stood := { row := engineDownUptoRow, standIns := [], harness := (true, "33efedeb698a8fb47e3355072059b55b4793814bb1f1c639c0c56de127859ec3"), looks := true }, kinds := [], alts := [], laidByText := true, laidKinds := [.data, .data, .data, .sentinel, .sentinel], laidTests := true, laidLooks := .later }
def EngineDownUptoCardSaid : Prop := Claim7.holds Tryz.pinned (.plain (OpenSpec.upto engineDownSpec)) engineDownUptoCard

/-- THE SECOND FORM's CARD OF 'bailifflaw25.ScriptRuns'. -/
def scriptRunsUptoCard : Claim7 := { stood := { row := scriptRunsUptoRow, standIns := [], harness := (true, "33efedeb698a8fb47e3355072059b55b4793814bb1f1c639c0c56de127859ec3"), looks := true }, kinds := [], alts := [], laidByText := true, laidKinds := [.data, .data, .data, .sentinel, .sentinel], laidTests := true, laidLooks := .later }
def ScriptRunsUptoCardSaid : Prop := Claim7.holds Tryz.pinned (.plain (OpenSpec.upto scriptRunsSpec)) scriptRunsUptoCard

/-- THE SECOND FORM's CARD OF 'bailifflaw25.ScriptBack'. -/
def scriptBackUptoCard : Claim7 := { stood := { row := scriptBackUptoRow, standIns := [], harness := (true, "33efedeb698a8fb47e3355072059b55b4793814bb1f1c639c0c56de127859ec3"), looks := true }, kinds := [], alts := [], laidByText := true, laidKinds := [.data, .data, .data, .sentinel, .sentinel], laidTests := true, laidLooks := .later }
def ScriptBackUptoCardSaid : Prop := Claim7.holds Tryz.pinned (.plain (OpenSpec.upto scriptBackSpec)) scriptBackUptoCard

/-- THE SECOND FORM's CARD OF 'bailifflaw25.ScriptForm'. -/
def scriptFormUptoCard : Claim7 := { stood := { row := scriptFormUptoRow, standIns := [], harness := (true, "33efedeb698a8fb47e3355072059b55b4793814bb1f1c639c0c56de127859ec3"), looks := true }, kinds := [], alts := [], laidByText := true, laidKinds := [.data, .data, .data, .sentinel, .sentinel], laidTests := true, laidLooks := .later }
def ScriptFormUptoCardSaid : Prop := Claim7.holds Tryz.pinned (.plain (OpenSpec.upto scriptFormSpec)) scriptFormUptoCard

/-- THE SECOND FORM's CARD OF 'bailifflaw25.ScriptWhat'. -/
def scriptWhatUptoCard : Claim7 := { stood := { row := scriptWhatUptoRow, standIns := [], harness := (true, "33efedeb698a8fb47e3355072059b55b4793814bb1f1c639c0c56de127859ec3"), looks := true }, kinds := [], alts := [], laidByText := true, laidKinds := [.data, .data, .data, .sentinel, .sentinel], laidTests := true, laidLooks := .later }
def ScriptWhatUptoCardSaid : Prop := Claim7.holds Tryz.pinned (.plain (OpenSpec.upto scriptWhatSpec)) scriptWhatUptoCard
end Rows
end Go.Proofs.YtcochaoekecfdaaGreatDoor
