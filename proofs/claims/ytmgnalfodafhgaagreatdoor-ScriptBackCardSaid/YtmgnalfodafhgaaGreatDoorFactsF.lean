import Derived.Test.YtmgnalfodafhgaaGreatDoorRows
import Derived.Test.YtmgnalfodafhgaaGreatDoorTie
import Derived.Test.YtmgnalfodafhgaaGreatDoorCards
import Derived.ProofKit
set_option linter.unusedVariables false
set_option linter.unusedSimpArgs false
namespace Go.Proofs.YtmgnalfodafhgaaGreatDoor
open Go Rows
set_option maxRecDepth 100000
/-! The closed facts of the row, one by one: together they are more than the kernel's room holds. -/
theorem progF1 : laidOutB Tryz.prog = true := by kernel_rfl
theorem progF2 : mapsRowed Tryz.prog = true := by kernel_rfl
theorem progF3 : Tryz.prog.plainKeys = scriptCutsRow.plainKeys := by kernel_rfl
theorem progF4 : Tryz.prog.stopsHeard = true := by kernel_rfl
theorem progF5 : Tryz.prog.mayEnter = true := by kernel_rfl
theorem progF6 : Tryz.prog.liftsFinal = scriptCutsRow.lifted := by kernel_rfl
theorem progF7 : Tryz.prog.make = some scriptCutsRow.make := by kernel_rfl
theorem progF8 : Tryz.prog.stops = [] := by kernel_rfl
theorem progF9 : Tryz.prog.stopKnobs = [] := by kernel_rfl
theorem progG1 : Tryz.prog.mainIs = some (true, "2a086c46756f5ee66d91955a544ad2cdc100406c79f0c608f65a130c9db2f02e".toList) := by kernel_rfl
theorem progG2 : true = Tryz.prog.looks [] := by kernel_rfl
end Go.Proofs.YtmgnalfodafhgaaGreatDoor
