import Derived.Test.YtmgnalfodafhgaaGreatDoorRows
import Derived.Test.YtmgnalfodafhgaaGreatDoorTie
import Derived.Test.YtmgnalfodafhgaaGreatDoorCards
import Derived.ProofKit
set_option linter.unusedVariables false
set_option linter.unusedSimpArgs false
namespace Go.Proofs.YtmgnalfodafhgaaGreatDoor
open Go Rows
set_option maxRecDepth 100000
/-! The closed facts of the row, one by one: together they are more than the kernel's room holds. -/
theorem cutsF1 : scriptCutsRow.wf (OpenSpec.ofChange scriptCutsSpec) = true := by kernel_rfl
theorem cutsF2 : Tryz.f5.params.all (Tryz.prog.readableRec ·) = true := by kernel_rfl
theorem cutsF3 : namedTie Tryz.prog scriptCutsRow.named scriptCutsSpec.vars = true := by kernel_rfl
theorem cutsF6 : scriptCutsRow.recurses = Tryz.prog.recurses 5 := by kernel_rfl
theorem cutsF7 : scriptCutsRow.named = Tryz.prog.varsNamed 5 := by kernel_rfl
theorem cutsF8 : Tryz.prog.funcNamed "kinescope/kinlaw31.ScriptCuts" = some 5 := by kernel_rfl
theorem cutsG1 : scriptCutsRow.wfByText (OpenSpec.ofChange scriptCutsSpec) = true := by kernel_rfl
theorem cutsG3 : ([40, 3].all fun u => !Tryz.prog.wantsStandIn u) = true := by kernel_rfl
end Go.Proofs.YtmgnalfodafhgaaGreatDoor
