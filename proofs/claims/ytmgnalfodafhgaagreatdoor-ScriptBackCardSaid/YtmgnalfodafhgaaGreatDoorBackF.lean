import Derived.Test.YtmgnalfodafhgaaGreatDoorRows
import Derived.Test.YtmgnalfodafhgaaGreatDoorTie
import Derived.Test.YtmgnalfodafhgaaGreatDoorCards
import Derived.ProofKit
set_option linter.unusedVariables false
set_option linter.unusedSimpArgs false
namespace Go.Proofs.YtmgnalfodafhgaaGreatDoor
open Go Rows
set_option maxRecDepth 100000
/-! The closed facts of the row, one by one: together they are more than the kernel's room holds. -/
theorem backF1 : scriptBackRow.wf (OpenSpec.ofChange scriptBackSpec) = true := by kernel_rfl
theorem backF2 : Tryz.f3.params.all (Tryz.prog.readableRec ·) = true := by kernel_rfl
theorem backF3 : namedTie Tryz.prog scriptBackRow.named scriptBackSpec.vars = true := by kernel_rfl
theorem backF6 : scriptBackRow.recurses = Tryz.prog.recurses 3 := by kernel_rfl
theorem backF7 : scriptBackRow.named = Tryz.prog.varsNamed 3 := by kernel_rfl
theorem backF8 : Tryz.prog.funcNamed "kinescope/kinlaw31.ScriptBack" = some 3 := by kernel_rfl
theorem backG1 : scriptBackRow.wfByText (OpenSpec.ofChange scriptBackSpec) = true := by kernel_rfl
theorem backG3 : ([24, 9].all fun u => !Tryz.prog.wantsStandIn u) = true := by kernel_rfl
theorem backF4 : scriptBackRow.inPlace = Tryz.prog.inPlace 3 := by kernel_rfl
theorem backF5 : scriptBackRow.unfollowed = Tryz.prog.unfollowed 3 := by kernel_rfl
end Go.Proofs.YtmgnalfodafhgaaGreatDoor
