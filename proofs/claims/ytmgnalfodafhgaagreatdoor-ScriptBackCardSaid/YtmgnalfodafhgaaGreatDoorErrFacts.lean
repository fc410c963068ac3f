import Derived.Test.YtmgnalfodafhgaaGreatDoorProg
import Derived.Test.YtmgnalfodafhgaaGreatDoorK0
import Derived.WalkKit
import Derived.LaidEql
import Derived.Stop.Asserts
import Derived.RowKitTokens
set_option linter.unusedVariables false
set_option linter.unusedSimpArgs false
namespace Go.Proofs
open Go.RowKit Go.Extern.Stop Go.Stop Go.Extern Go.Kin

theorem as_nil (t : Value) (w : World) :
    Calls Tryz.prog 43 #[.nilIface, t] w fun e w' => e = .returned (.bool false) ∧ w = w' := by
  go_enter Tryz.func43, Tryz.ntmps43
  go_wp2
  go_ret
  exact ⟨rfl, rfl⟩
/-! 92: api.Code · 394: *api.Code · 223: *fault.Fault · 225: **fault.Fault · 32: error · 484: rtype · 9: how many variables -/
theorem Tq.valueOf394 (t : Addr) (w : World) : (ReflectliteValue.unpack (.iface 91 (.pointer (some t)))).run Tryz.prog w
    = .ok (.agg #[.pointer (some ⟨9, 91, none⟩), .pointer (some ⟨w.heap.size, 0, none⟩), .int .u64 150]) (w.alloc (.cells #[.pointer (some t)] 91)) := by kernel_rfl
theorem Tq.valueOf225 (t : Addr) (w : World) : (ReflectliteValue.unpack (.iface 93 (.pointer (some t)))).run Tryz.prog w
    = .ok (.agg #[.pointer (some ⟨9, 93, none⟩), .pointer (some ⟨w.heap.size, 0, none⟩), .int .u64 150]) (w.alloc (.cells #[.pointer (some t)] 93)) := by kernel_rfl
theorem Tq.type394 (a : Addr) (w : World) : (ReflectliteValue.methodAny (ReflectliteValue.valueError "reflectlite.Value.Type" 0) (fun t _ _ _ => ReflectliteType.toType t) #[.agg #[.pointer (some ⟨9, 91, none⟩), .pointer (some a), .int .u64 150]]).run Tryz.prog w
    = .ok (.iface 180 (.agg #[.pointer (some ⟨9, 91, none⟩)])) w := by kernel_rfl
theorem Tq.kind394 (w : World) : ((ReflectliteType.abiMethod fun t => (fun a : Nat => Value.int IntKind.u8 (a : Int)) <$> Rtype.kind t) #[.pointer (some ⟨9, 91, none⟩)]).run Tryz.prog w = .ok (.int .u8 22) w := by kernel_rfl
theorem Tq.kind92 (w : World) : ((ReflectliteType.abiMethod fun t => (fun a : Nat => Value.int IntKind.u8 (a : Int)) <$> Rtype.kind t) #[.pointer (some ⟨9, 32, none⟩)]).run Tryz.prog w = .ok (.int .u8 2) w := by kernel_rfl
theorem Tq.methodKind (h : Value) (w : World) : (Go.method 620 180 (.agg #[h]) "Kind").run Tryz.prog w = .ok (403, h) w := by kernel_rfl
theorem Tq.valueOf92 (n : Int) (w : World) : (ReflectliteValue.unpack (.iface 32 (.int .i64 n))).run Tryz.prog w
    = .ok (.agg #[.pointer (some ⟨9, 32, none⟩), .pointer (some ⟨w.heap.size, 0, none⟩), .int .u64 130]) (w.alloc (.cells #[.int .i64 n] 32)) := by kernel_rfl
theorem Tq.type225 (a : Addr) (w : World) : (ReflectliteValue.methodAny (ReflectliteValue.valueError "reflectlite.Value.Type" 0) (fun t _ _ _ => ReflectliteType.toType t) #[.agg #[.pointer (some ⟨9, 93, none⟩), .pointer (some a), .int .u64 150]]).run Tryz.prog w
    = .ok (.iface 180 (.agg #[.pointer (some ⟨9, 93, none⟩)])) w := by kernel_rfl
theorem Tq.kind225 (w : World) : ((ReflectliteType.abiMethod fun t => (fun a : Nat => Value.int IntKind.u8 (a : Int)) <$> Rtype.kind t) #[.pointer (some ⟨9, 93, none⟩)]).run Tryz.prog w = .ok (.int .u8 22) w := by kernel_rfl
theorem Tq.kind223 (w : World) : ((ReflectliteType.abiMethod fun t => (fun a : Nat => Value.int IntKind.u8 (a : Int)) <$> Rtype.kind t) #[.pointer (some ⟨9, 92, none⟩)]).run Tryz.prog w = .ok (.int .u8 22) w := by kernel_rfl
theorem Tq.valueOf223 (e : Addr) (w : World) : (ReflectliteValue.unpack (.iface 92 (.pointer (some e)))).run Tryz.prog w
    = .ok (.agg #[.pointer (some ⟨9, 92, none⟩), .pointer (some ⟨w.heap.size, 0, none⟩), .int .u64 150]) (w.alloc (.cells #[.pointer (some e)] 92)) := by kernel_rfl
theorem Tq.rlm (z : Sem Value) (f : TypeId → Addr → Nat → Nat → Sem Value) (v : Value) :
    ReflectliteValue.method z f #[v] = (do match ← ReflectliteValue.parts v with | none => z | some (t, a, fl) => f t a fl (fl % 32)) := rfl
theorem Tq.parts394 (a : Addr) (w : World) : (ReflectliteValue.parts (.agg #[.pointer (some ⟨9, 91, none⟩), .pointer (some a), .int .u64 150])).run Tryz.prog w = .ok (some (91, a, 150)) w := by kernel_rfl
theorem Tq.parts225 (a : Addr) (w : World) : (ReflectliteValue.parts (.agg #[.pointer (some ⟨9, 93, none⟩), .pointer (some a), .int .u64 150])).run Tryz.prog w = .ok (some (93, a, 150)) w := by kernel_rfl
theorem Tq.isNil394 (a p : Addr) (W : World) (ha : W.cell? a = some (.pointer (some p))) :
    (ReflectliteValue.method (ReflectliteValue.valueError "reflectlite.Value.IsNil" 0) ReflectliteValue.isNil #[.agg #[.pointer (some ⟨9, 91, none⟩), .pointer (some a), .int .u64 150]]).run Tryz.prog W = .ok (.bool false) W := by
  rw [Tq.rlm]
  simp only [Sem.run_bind, Tq.parts394, Result.andThen]
  simp [ReflectliteValue.isNil, loadVar, isAgg, underlying, Tryz.underlying91, ha, Result.andThen]
theorem Tq.isNil225 (a p : Addr) (W : World) (ha : W.cell? a = some (.pointer (some p))) :
    (ReflectliteValue.method (ReflectliteValue.valueError "reflectlite.Value.IsNil" 0) ReflectliteValue.isNil #[.agg #[.pointer (some ⟨9, 93, none⟩), .pointer (some a), .int .u64 150]]).run Tryz.prog W = .ok (.bool false) W := by
  rw [Tq.rlm]
  simp only [Sem.run_bind, Tq.parts225, Result.andThen]
  simp [ReflectliteValue.isNil, loadVar, isAgg, underlying, Tryz.underlying93, ha, Result.andThen]
theorem Tq.methodElem (h : Value) (w : World) : (Go.method 620 180 (.agg #[h]) "Elem").run Tryz.prog w = .ok (420, .agg #[h]) w := by kernel_rfl
theorem Tq.methodImplements (h : Value) (w : World) : (Go.method 620 180 (.agg #[h]) "Implements").run Tryz.prog w = .ok (421, .agg #[h]) w := by kernel_rfl
theorem Tq.methodAssignableTo (h : Value) (w : World) : (Go.method 620 180 (.agg #[h]) "AssignableTo").run Tryz.prog w = .ok (418, .agg #[h]) w := by kernel_rfl
theorem Tq.elem394 (w : World) : (ReflectliteType.method ReflectliteType.elem #[.agg #[.pointer (some ⟨9, 91, none⟩)]]).run Tryz.prog w = .ok (.iface 180 (.agg #[.pointer (some ⟨9, 32, none⟩)])) w := by kernel_rfl
theorem Tq.elem225 (w : World) : (ReflectliteType.method ReflectliteType.elem #[.agg #[.pointer (some ⟨9, 93, none⟩)]]).run Tryz.prog w = .ok (.iface 180 (.agg #[.pointer (some ⟨9, 92, none⟩)])) w := by kernel_rfl
theorem Tq.implements92 (w : World) : (ReflectliteType.relation "Implements" ReflectliteType.implements_ #[.agg #[.pointer (some ⟨9, 32, none⟩)], .iface 180 (.agg #[.pointer (some ⟨9, 27, none⟩)])]).run Tryz.prog w = .ok (.bool true) w := by kernel_rfl
theorem Tq.implements223 (w : World) : (ReflectliteType.relation "Implements" ReflectliteType.implements_ #[.agg #[.pointer (some ⟨9, 92, none⟩)], .iface 180 (.agg #[.pointer (some ⟨9, 27, none⟩)])]).run Tryz.prog w = .ok (.bool true) w := by kernel_rfl
theorem Tq.typeOf92 (v : Value) (w : World) : (ReflectliteType.typeOf #[.iface 32 v]).run Tryz.prog w = .ok (.iface 180 (.agg #[.pointer (some ⟨9, 32, none⟩)])) w := by kernel_rfl
theorem Tq.typeOf223 (v : Value) (w : World) : (ReflectliteType.typeOf #[.iface 92 v]).run Tryz.prog w = .ok (.iface 180 (.agg #[.pointer (some ⟨9, 92, none⟩)])) w := by kernel_rfl
theorem Tq.assign92_92 (w : World) : (ReflectliteType.relation "AssignableTo" ReflectliteType.assignableTo #[.agg #[.pointer (some ⟨9, 32, none⟩)], .iface 180 (.agg #[.pointer (some ⟨9, 32, none⟩)])]).run Tryz.prog w = .ok (.bool true) w := by kernel_rfl
theorem Tq.assign223_223 (w : World) : (ReflectliteType.relation "AssignableTo" ReflectliteType.assignableTo #[.agg #[.pointer (some ⟨9, 92, none⟩)], .iface 180 (.agg #[.pointer (some ⟨9, 92, none⟩)])]).run Tryz.prog w = .ok (.bool true) w := by kernel_rfl
theorem Tq.assign223_92 (w : World) : (ReflectliteType.relation "AssignableTo" ReflectliteType.assignableTo #[.agg #[.pointer (some ⟨9, 92, none⟩)], .iface 180 (.agg #[.pointer (some ⟨9, 32, none⟩)])]).run Tryz.prog w = .ok (.bool false) w := by kernel_rfl
theorem Tq.assign92_223 (w : World) : (ReflectliteType.relation "AssignableTo" ReflectliteType.assignableTo #[.agg #[.pointer (some ⟨9, 32, none⟩)], .iface 180 (.agg #[.pointer (some ⟨9, 92, none⟩)])]).run Tryz.prog w = .ok (.bool false) w := by kernel_rfl
theorem Tq.elemOf394 (w : World) : (Rtype.elem? 91).run Tryz.prog w = .ok (some 32) w := by kernel_rfl
theorem Tq.elemOf225 (w : World) : (Rtype.elem? 93).run Tryz.prog w = .ok (some 92) w := by kernel_rfl
theorem Tq.mk92 (p : Addr) (w : World) : (ReflectliteValue.mk 32 p ReflectliteValue.flagAddr).run Tryz.prog w = .ok (.agg #[.pointer (some ⟨9, 32, none⟩), .pointer (some p), .int .u64 386]) w := by kernel_rfl
theorem Tq.mk223 (p : Addr) (w : World) : (ReflectliteValue.mk 92 p ReflectliteValue.flagAddr).run Tryz.prog w = .ok (.agg #[.pointer (some ⟨9, 92, none⟩), .pointer (some p), .int .u64 406]) w := by kernel_rfl
theorem Tq.elemV394 (a p : Addr) (W : World) (ha : W.cell? a = some (.pointer (some p))) :
    (ReflectliteValue.method (ReflectliteValue.valueError "reflectlite.Value.Elem" 0) ReflectliteValue.elem #[.agg #[.pointer (some ⟨9, 91, none⟩), .pointer (some a), .int .u64 150]]).run Tryz.prog W
      = .ok (.agg #[.pointer (some ⟨9, 32, none⟩), .pointer (some p), .int .u64 386]) W := by
  rw [Tq.rlm]
  simp only [Sem.run_bind, Tq.parts394, Result.andThen]
  simp [ReflectliteValue.elem, loadVar, isAgg, underlying, Tryz.underlying91, ha, Result.andThen, Tq.elemOf394, Tq.mk92]
theorem Tq.elemV225 (a p : Addr) (W : World) (ha : W.cell? a = some (.pointer (some p))) :
    (ReflectliteValue.method (ReflectliteValue.valueError "reflectlite.Value.Elem" 0) ReflectliteValue.elem #[.agg #[.pointer (some ⟨9, 93, none⟩), .pointer (some a), .int .u64 150]]).run Tryz.prog W
      = .ok (.agg #[.pointer (some ⟨9, 92, none⟩), .pointer (some p), .int .u64 406]) W := by
  rw [Tq.rlm]
  simp only [Sem.run_bind, Tq.parts225, Result.andThen]
  simp [ReflectliteValue.elem, loadVar, isAgg, underlying, Tryz.underlying93, ha, Result.andThen, Tq.elemOf225, Tq.mk223]
theorem Tq.parts92a (a : Addr) (w : World) : (ReflectliteValue.parts (.agg #[.pointer (some ⟨9, 32, none⟩), .pointer (some a), .int .u64 386])).run Tryz.prog w = .ok (some (32, a, 386)) w := by kernel_rfl
theorem Tq.parts92 (a : Addr) (w : World) : (ReflectliteValue.parts (.agg #[.pointer (some ⟨9, 32, none⟩), .pointer (some a), .int .u64 130])).run Tryz.prog w = .ok (some (32, a, 130)) w := by kernel_rfl
theorem Tq.parts223a (a : Addr) (w : World) : (ReflectliteValue.parts (.agg #[.pointer (some ⟨9, 92, none⟩), .pointer (some a), .int .u64 406])).run Tryz.prog w = .ok (some (92, a, 406)) w := by kernel_rfl
theorem Tq.parts223 (a : Addr) (w : World) : (ReflectliteValue.parts (.agg #[.pointer (some ⟨9, 92, none⟩), .pointer (some a), .int .u64 150])).run Tryz.prog w = .ok (some (92, a, 150)) w := by kernel_rfl
theorem Tq.direct92 (w : World) : (Rtype.directlyAssignable 32 32).run Tryz.prog w = .ok true w := by kernel_rfl
theorem Tq.direct223 (w : World) : (Rtype.directlyAssignable 92 92).run Tryz.prog w = .ok true w := by kernel_rfl
theorem Tq.rls (v x : Value) : ReflectliteValue.set #[v, x] = (do
    let (some (dst, a, fl), some (src, b, _)) := (← ReflectliteValue.parts v, ← ReflectliteValue.parts x)
      | unsupported (.noEntry "extern/(internal/reflectlite.Value).Set.zeroValue")
    if fl / ReflectliteValue.flagAddr % 2 == 0 then unsupported (.noEntry "extern/(internal/reflectlite.Value).Set.unaddressable")
    let val ← loadVar src b
    if ← Rtype.directlyAssignable dst src then storeVar dst a val
    else if ← Rtype.implements dst src then
      if (← Rtype.kind src) == 20 then
        match val with
        | .nilIface => unsupported (.noEntry "extern/reflectlite: a nil value of one interface type handed on as a value of another")
        | _ => storeVar dst a val
      else storeVar dst a (.iface src val)
    else panicString ("reflectlite.Set: value of type " ++ (← Rtype.spelt src) ++ " is not assignable to type " ++ (← Rtype.spelt dst))
    pure (.tuple #[])) := rfl
theorem Tq.set92 (ta b : Addr) (n : Int) (old : Value) (W : World) (hb : W.cell? b = some (.int .i64 n)) (ht : W.cell? ta = some old) (hf : W.frozen? ta = false) :
    (ReflectliteValue.set #[.agg #[.pointer (some ⟨9, 32, none⟩), .pointer (some ta), .int .u64 386], .agg #[.pointer (some ⟨9, 32, none⟩), .pointer (some b), .int .u64 130]]).run Tryz.prog W
      = .ok (.tuple #[]) (W.setCell ta (.int .i64 n)) := by
  rw [Tq.rls]
  simp only [Sem.run_bind, Tq.parts92a, Tq.parts92, Result.andThen]
  simp [ReflectliteValue.flagAddr, loadVar, isAgg, underlying, Tryz.underlying32, hb, Result.andThen, Tq.direct92, storeVar, Value.cells, storeCells, Addr.add]
  rw [run_store Tryz.prog W ta _ _ (by rfl)]
  simp [ht, hf]
theorem Tq.set223 (ta b e : Addr) (old : Value) (W : World) (hb : W.cell? b = some (.pointer (some e))) (ht : W.cell? ta = some old) (hf : W.frozen? ta = false) :
    (ReflectliteValue.set #[.agg #[.pointer (some ⟨9, 92, none⟩), .pointer (some ta), .int .u64 406], .agg #[.pointer (some ⟨9, 92, none⟩), .pointer (some b), .int .u64 150]]).run Tryz.prog W
      = .ok (.tuple #[]) (W.setCell ta (.pointer (some e))) := by
  rw [Tq.rls]
  simp only [Sem.run_bind, Tq.parts223a, Tq.parts223, Result.andThen]
  simp [ReflectliteValue.flagAddr, loadVar, isAgg, underlying, Tryz.underlying92, hb, Result.andThen, Tq.direct223, storeVar, Value.cells, storeCells, Addr.add]
  rw [run_store Tryz.prog W ta _ _ (by rfl)]
  simp [ht, hf]

end Go.Proofs
