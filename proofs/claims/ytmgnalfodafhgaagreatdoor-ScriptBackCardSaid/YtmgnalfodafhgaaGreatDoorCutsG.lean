import Derived.Test.YtmgnalfodafhgaaGreatDoorCards
import Derived.KernelRfl
set_option linter.unusedVariables false
set_option linter.unusedSimpArgs false
namespace Go.Kin
theorem goes_none {P : Program} (h : P.funcs.any Func.goes = false) (f : FuncId) : P.goes f = false := by
  unfold Program.goes
  rw [h, Bool.and_false, Bool.or_false, List.any_eq_false]
  intro g _
  cases hg : P.funcs[g]? with
  | none => simp
  | some fn =>
    have hm : fn ∈ P.funcs := Array.mem_of_getElem? hg
    rw [Array.any_eq_false'] at h
    simpa using h fn hm
end Go.Kin
namespace Go.Proofs.YtmgnalfodafhgaaGreatDoor
open Go Rows Go.Kin
set_option maxRecDepth 100000
theorem progG4 : Tryz.prog.funcs.any Func.goes = false := by kernel_rfl
theorem goesBy_none (c : OpenClaim) (h : c.start = .entering) : false = c.goesBy Tryz.prog := by
  unfold OpenClaim.goesBy Program.goesAt Program.goesFrom
  rw [h]
  cases Tryz.prog.funcNamed c.func with
  | none => rfl
  | some f => simp [goes_none progG4 f]
end Go.Proofs.YtmgnalfodafhgaaGreatDoor
