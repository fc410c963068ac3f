import Derived.Test.YtmgnalfodafhgaaGreatDoorRows
import Derived.Test.YtmgnalfodafhgaaGreatDoorTie
import Derived.Test.YtmgnalfodafhgaaGreatDoorCards
import Derived.ProofKit
set_option linter.unusedVariables false
set_option linter.unusedSimpArgs false
namespace Go.Proofs.YtmgnalfodafhgaaGreatDoor
open Go Rows
set_option maxRecDepth 100000
/-! The closed facts of the row, one by one: together they are more than the kernel's room holds. -/
theorem cutsF4 : scriptCutsRow.inPlace = Tryz.prog.inPlace 5 := by kernel_rfl
theorem cutsF5 : scriptCutsRow.unfollowed = Tryz.prog.unfollowed 5 := by kernel_rfl
end Go.Proofs.YtmgnalfodafhgaaGreatDoor
