import Derived.Test.YtmgnalfodafhgaaGreatDoorErrFacts
set_option linter.unusedVariables false
set_option linter.unusedSimpArgs false
namespace Go.Proofs
open Go.RowKit Go.Extern.Stop Go.Stop Go.Extern Go.Kin
theorem Tq.ta488_223 (v : Value) (xT : TypeId) (w : World) : (Instr.typeAssert (.iface 92 v) xT 185 true).run Tryz.prog w = .ok (.tuple #[.nilIface, .bool false]) w := run_typeAssert_lacksB Tryz.underlying185 (by kernel_rfl) (by kernel_rfl) v xT w
theorem Tq.ta491_223 (p : Option Addr) (w : World) : (Instr.typeAssert (.iface 92 (.pointer p)) 27 188 true).run Tryz.prog w = .ok (.tuple #[.iface 92 (.pointer p), .bool true]) w := by kernel_rfl
theorem Tq.ta488_92 (v : Value) (xT : TypeId) (w : World) : (Instr.typeAssert (.iface 32 v) xT 185 true).run Tryz.prog w = .ok (.tuple #[.nilIface, .bool false]) w := run_typeAssert_lacksB Tryz.underlying185 (by kernel_rfl) (by kernel_rfl) v xT w
theorem Tq.ta491_92 (v : Value) (xT : TypeId) (w : World) : (Instr.typeAssert (.iface 32 v) xT 188 true).run Tryz.prog w = .ok (.tuple #[.nilIface, .bool false]) w := run_typeAssert_lacksB Tryz.underlying188 (by kernel_rfl) (by kernel_rfl) v xT w
theorem Tq.ta492_92 (v : Value) (xT : TypeId) (w : World) : (Instr.typeAssert (.iface 32 v) xT 189 true).run Tryz.prog w = .ok (.tuple #[.nilIface, .bool false]) w := run_typeAssert_lacksB Tryz.underlying189 (by kernel_rfl) (by kernel_rfl) v xT w
theorem Tq.methodUnwrap (p : Option Addr) (w : World) : (Go.method 620 92 (.pointer p) "Unwrap").run Tryz.prog w = .ok (407, .pointer p) w := by kernel_rfl
theorem Tq.nilAheadUnwrap (a : Addr) (w : World) : (nilAhead 620 92 (.pointer (some a)) "Unwrap").run Tryz.prog w = .ok (some false) w := by kernel_rfl
end Go.Proofs
