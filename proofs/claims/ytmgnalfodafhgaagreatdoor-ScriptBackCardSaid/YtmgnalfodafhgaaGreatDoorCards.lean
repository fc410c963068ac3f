/-
  DERIVED. GIVEN WITH THE SEED: THE CARDS: each row of YtmgnalfodafhgaaGreatDoorRows.lean that lists a variable, with what it lists TIED to the program's text (the seventh form; the later family's looks); each row that meets fmt, with fmt's text TOLD by the authors' own Lean function (tested against real Go, not proved from fmt's source: count such statements apart). THE CARD IS WHAT COUNTS. Prove the row's statement (the work); the ties are given (YtmgnalfodafhgaaGreatDoorTie.lean); close each card by the builder's one call (the guide's Derived/Test/ToyasCard.lean, 'card_holds'). Laid BY PROGRAM, IN A SANDBOX (cutbox-door.mjs). By AI agents, Wed Nov 11 2026. No macro, syntax, notation, axiom, sorry.
-/
import Derived.Test.YtmgnalfodafhgaaGreatDoorRows
import GoSem.ClaimSeven
namespace Go.Proofs.YtmgnalfodafhgaaGreatDoor
namespace Rows

/-- THE TIED CARD OF 'kinlaw31.ScriptBack'. -/
def scriptBackCard : Claim7 := { stood := { row := scriptBackRow, standIns := [], harness := (true, "2a086c46756f5ee66d91955a544ad2cdc100406c79f0c608f65a130c9db2f02e"), looks := true }, kinds := [], alts := [], laidByText := true, laidKinds := [.data, .data, .data, .data, .handle, .sentinel, .sentinel, .pinned], laidTests := true, laidLooks := .later }
def ScriptBackCardSaid : Prop := Claim7.holds Tryz.pinned (.plain (OpenSpec.ofChange scriptBackSpec)) scriptBackCard

/-- THE TIED CARD OF 'kinlaw31.ScriptMay'. -/
def scriptMayCard : Claim7 := { stood := { row := scriptMayRow, standIns := [], harness := (true, "2a086c46756f5ee66d91955a544ad2cdc100406c79f0c608f65a130c9db2f02e"), looks := true }, kinds := [], alts := [], laidByText := true, laidKinds := [.data, .data, .data, .data, .handle, .sentinel, .sentinel, .pinned], laidTests := true, laidLooks := .later }
def ScriptMayCardSaid : Prop := Claim7.holds Tryz.pinned (.plain (OpenSpec.ofChange scriptMaySpec)) scriptMayCard

/-- THE TIED CARD OF 'kinlaw31.ScriptCuts'. -/
def scriptCutsCard : Claim7 := { stood := { row := scriptCutsRow, standIns := [], harness := (true, "2a086c46756f5ee66d91955a544ad2cdc100406c79f0c608f65a130c9db2f02e"), looks := true }, kinds := [], alts := [], laidByText := true, laidKinds := [.data, .data, .data, .data, .handle, .sentinel, .sentinel, .pinned], laidTests := true, laidLooks := .later }
def ScriptCutsCardSaid : Prop := Claim7.holds Tryz.pinned (.plain (OpenSpec.ofChange scriptCutsSpec)) scriptCutsCard

/-- THE SECOND FORM's CARD OF 'kinlaw31.ScriptBack'. -/
def scriptBackUptoCard : Claim7 := { stood := { row := scriptBackUptoRow, standIns := [], harness := (true, "2a086c46756f5ee66d91955a544ad2cdc100406c79f0c608f65a130c9db2f02e"), looks := true }, kinds := [], alts := [], laidByText := true, laidKinds := [.data, .data, .data, .data, .handle, .sentinel, .sentinel, .pinned], laidTests := true, laidLooks := .later }
def ScriptBackUptoCardSaid : Prop := Claim7.holds Tryz.pinned (.plain (OpenSpec.upto scriptBackSpec)) scriptBackUptoCard

/-- THE SECOND FORM's CARD OF 'kinlaw31.ScriptMay'. -/
def scriptMayUptoCard : Claim7 := { stood := { row := scriptMayUptoRow, standIns := [], harness := (true, "2a086c46756f5ee66d91955a544ad2cdc100406c79f0c608f65a130c9db2f02e"), looks := true }, kinds := [], alts := [], laidByText := true, laidKinds := [.data, .data, .data, .data, .handle, .sentinel, .sentinel, .pinned], laidTests := true, laidLooks := .later }
def ScriptMayUptoCardSaid : Prop := Claim7.holds Tryz.pinned (.plain (OpenSpec.upto scriptMaySpec)) scriptMayUptoCard

/-- THE SECOND FORM's CARD OF 'kinlaw31.ScriptCuts'. -/
def scriptCutsUptoCard : Claim7 := { stood := { row := scriptCutsUptoRow, standIns := [], harness := (true, "2a086c46756f5ee66d91955a544ad2cdc100406c79f0c608f65a130c9db2f02e"), looks := true }, kinds := [], alts := [], laidByText := true, laidKinds := [.data, .data, .data, .data, .handle, .sentinel, .sentinel, .pinned], laidTests := true, laidLooks := .later }
def ScriptCutsUptoCardSaid : Prop := Claim7.holds Tryz.pinned (.plain (OpenSpec.upto scriptCutsSpec)) scriptCutsUptoCard
end Rows
end Go.Proofs.YtmgnalfodafhgaaGreatDoor
