import Derived.Test.YtmgnalfodafhgaaGreatDoorErrAs
set_option linter.unusedVariables false
set_option linter.unusedSimpArgs false
namespace Go.Proofs
open Go.RowKit Go.Extern.Stop Go.Stop Go.Extern Go.Kin

/-- The variable that errors.As reads. -/
def ErrTyp (w : World) : Prop := w.cell? ⟨0, 0, none⟩ = some (.iface 180 (.agg #[.pointer (some ⟨9, 27, none⟩)]))
theorem ErrTyp.below {w w1 : World} (h : ErrTyp w) (hb : Below w.heap.size w w1) : ErrTyp w1 := cell_below hb h

set_option maxRecDepth 100000 in
set_option maxHeartbeats 4000000 in
theorem As_code (e : Er) (v : Value) (t : Addr) (old : Value) (w : World) (hE : ErrV 32 92 w e v) (hg : ErrTyp w)
    (ht : w.cell? t = some old) (hf : w.frozen? t = false) :
    Calls Tryz.prog 43 #[v, .iface 91 (.pointer (some t))] w
      fun ev w' => ev = .returned (.bool true) ∧ Frm (· = t.block) w w' ∧ w'.cell? t = some (.int .i64 e.leaf) := by
  have h261 := @run_callFunc_extern Tryz.prog 70 _ (fun args => ReflectliteValue.unpack (args.getD 0 (.tuple #[]))) Tryz.func70 (by kernel_rfl) (by kernel_rfl) (by kernel_rfl) (by kernel_rfl)
  have h262 := @run_callFunc_extern Tryz.prog 71 _ (ReflectliteValue.methodAny (ReflectliteValue.valueError "reflectlite.Value.Type" 0) (fun t _ _ _ => ReflectliteType.toType t)) Tryz.func71 (by kernel_rfl) (by kernel_rfl) (by kernel_rfl) (by kernel_rfl)
  have h263 := @run_callFunc_extern Tryz.prog 72 _ (ReflectliteValue.method (ReflectliteValue.valueError "reflectlite.Value.IsNil" 0) ReflectliteValue.isNil) Tryz.func72 (by kernel_rfl) (by kernel_rfl) (by kernel_rfl) (by kernel_rfl)
  have h759 := @run_callFunc_extern Tryz.prog 403 _ (ReflectliteType.abiMethod fun t => do pure (.int .u8 (← Rtype.kind t))) Tryz.func403 (by kernel_rfl) (by kernel_rfl) (by kernel_rfl) (by kernel_rfl)
  have h782 := @run_callFunc_extern Tryz.prog 420 _ (ReflectliteType.method ReflectliteType.elem) Tryz.func420 (by kernel_rfl) (by kernel_rfl) (by kernel_rfl) (by kernel_rfl)
  have h783 := @run_callFunc_extern Tryz.prog 421 _ (ReflectliteType.relation "Implements" ReflectliteType.implements_) Tryz.func421 (by kernel_rfl) (by kernel_rfl) (by kernel_rfl) (by kernel_rfl)
  have f6 := Tq.valueOf394
  have f7 := Tq.type394
  have mK := Tq.methodKind
  have mE := Tq.methodElem
  have mI := Tq.methodImplements
  have k1 := Tq.kind394
  have k2 := Tq.kind92
  have e1 := Tq.elem394
  have i1 := Tq.implements92
  obtain ⟨T, x, hv⟩ := hE.shape
  subst hv
  have htl := World.block_lt_of_cell? w t ht
  have hgl := World.block_lt_of_cell? w _ hg
  generalize hW : (w.alloc (.cells #[.pointer (some t)] 91)).alloc (.cells #[.pointer (some ⟨9, 91, none⟩), .pointer (some ⟨w.heap.size, 0, none⟩), .int .u64 150] 128) = W
  have hWb : Below w.heap.size w W := by rw [← hW]; exact below_alloc (below_alloc (below_refl w) _) _
  have hEW := hE.below hWb
  have haW : W.cell? ⟨w.heap.size, 0, none⟩ = some (.pointer (some t)) := by rw [← hW, World.cell?_alloc_lt _ _ _ (by simp), World.cell?_alloc_at _ _ _ _ rfl]; rfl
  have c0 : W.cell? ⟨w.heap.size + 1, 0, none⟩ = some (.pointer (some ⟨9, 91, none⟩)) := by rw [← hW, World.cell?_alloc_at _ _ _ _ (by simp)]; rfl
  have c1 : W.cell? ⟨w.heap.size + 1, 1, none⟩ = some (.pointer (some ⟨w.heap.size, 0, none⟩)) := by rw [← hW, World.cell?_alloc_at _ _ _ _ (by simp)]; rfl
  have c2 : W.cell? ⟨w.heap.size + 1, 2, none⟩ = some (.int .u64 150) := by rw [← hW, World.cell?_alloc_at _ _ _ _ (by simp)]; rfl
  have htW : W.cell? t = some old := by rw [← hW, World.cell?_alloc_lt _ _ _ (by simp; omega), World.cell?_alloc_lt _ _ _ htl]; exact ht
  have hfW : W.frozen? t = false := by rw [← hW, World.frozen?_alloc_old _ _ t (by simp; omega), World.frozen?_alloc_old _ _ t (Nat.ne_of_lt htl)]; exact hf
  have n8 := Tq.isNil394 ⟨w.heap.size, 0, none⟩ t W haW
  have hgW : W.cell? ⟨0, 0, none⟩ = some (.iface 180 (.agg #[.pointer (some ⟨9, 27, none⟩)])) := by rw [← hW, World.cell?_alloc_lt _ _ _ (by simp), World.cell?_alloc_lt _ _ _ hgl]; exact hg
  go_enter Tryz.func43, Tryz.ntmps43
  go_wp2_with (go_at_call 73; refine (as_code e _ _ t old _ hEW haW htW hfW).mono ?_; rintro ev w' ⟨rfl, hbw, hcw⟩)
  go_ret
  exact ⟨rfl, (Frm.of_below hWb).then hbw (fun _ _ h => h), hcw⟩
set_option maxRecDepth 100000 in
set_option maxHeartbeats 4000000 in
theorem As_fault (e : Er) (v : Value) (t : Addr) (old : Value) (w : World) (hE : ErrV 32 92 w e v) (hg : ErrTyp w)
    (ht : w.cell? t = some old) (hf : w.frozen? t = false) :
    Calls Tryz.prog 43 #[v, .iface 93 (.pointer (some t))] w
      (AsFault e v t w) := by
  have h261 := @run_callFunc_extern Tryz.prog 70 _ (fun args => ReflectliteValue.unpack (args.getD 0 (.tuple #[]))) Tryz.func70 (by kernel_rfl) (by kernel_rfl) (by kernel_rfl) (by kernel_rfl)
  have h262 := @run_callFunc_extern Tryz.prog 71 _ (ReflectliteValue.methodAny (ReflectliteValue.valueError "reflectlite.Value.Type" 0) (fun t _ _ _ => ReflectliteType.toType t)) Tryz.func71 (by kernel_rfl) (by kernel_rfl) (by kernel_rfl) (by kernel_rfl)
  have h263 := @run_callFunc_extern Tryz.prog 72 _ (ReflectliteValue.method (ReflectliteValue.valueError "reflectlite.Value.IsNil" 0) ReflectliteValue.isNil) Tryz.func72 (by kernel_rfl) (by kernel_rfl) (by kernel_rfl) (by kernel_rfl)
  have h759 := @run_callFunc_extern Tryz.prog 403 _ (ReflectliteType.abiMethod fun t => do pure (.int .u8 (← Rtype.kind t))) Tryz.func403 (by kernel_rfl) (by kernel_rfl) (by kernel_rfl) (by kernel_rfl)
  have h782 := @run_callFunc_extern Tryz.prog 420 _ (ReflectliteType.method ReflectliteType.elem) Tryz.func420 (by kernel_rfl) (by kernel_rfl) (by kernel_rfl) (by kernel_rfl)
  have h783 := @run_callFunc_extern Tryz.prog 421 _ (ReflectliteType.relation "Implements" ReflectliteType.implements_) Tryz.func421 (by kernel_rfl) (by kernel_rfl) (by kernel_rfl) (by kernel_rfl)
  have f6 := Tq.valueOf225
  have f7 := Tq.type225
  have mK := Tq.methodKind
  have mE := Tq.methodElem
  have mI := Tq.methodImplements
  have k1 := Tq.kind225
  have k2 := Tq.kind223
  have e1 := Tq.elem225
  have i1 := Tq.implements223
  obtain ⟨T, x, hv⟩ := hE.shape
  subst hv
  have htl := World.block_lt_of_cell? w t ht
  have hgl := World.block_lt_of_cell? w _ hg
  generalize hW : (w.alloc (.cells #[.pointer (some t)] 93)).alloc (.cells #[.pointer (some ⟨9, 93, none⟩), .pointer (some ⟨w.heap.size, 0, none⟩), .int .u64 150] 128) = W
  have hWb : Below w.heap.size w W := by rw [← hW]; exact below_alloc (below_alloc (below_refl w) _) _
  have hEW := hE.below hWb
  have haW : W.cell? ⟨w.heap.size, 0, none⟩ = some (.pointer (some t)) := by rw [← hW, World.cell?_alloc_lt _ _ _ (by simp), World.cell?_alloc_at _ _ _ _ rfl]; rfl
  have c0 : W.cell? ⟨w.heap.size + 1, 0, none⟩ = some (.pointer (some ⟨9, 93, none⟩)) := by rw [← hW, World.cell?_alloc_at _ _ _ _ (by simp)]; rfl
  have c1 : W.cell? ⟨w.heap.size + 1, 1, none⟩ = some (.pointer (some ⟨w.heap.size, 0, none⟩)) := by rw [← hW, World.cell?_alloc_at _ _ _ _ (by simp)]; rfl
  have c2 : W.cell? ⟨w.heap.size + 1, 2, none⟩ = some (.int .u64 150) := by rw [← hW, World.cell?_alloc_at _ _ _ _ (by simp)]; rfl
  have htW : W.cell? t = some old := by rw [← hW, World.cell?_alloc_lt _ _ _ (by simp; omega), World.cell?_alloc_lt _ _ _ htl]; exact ht
  have hfW : W.frozen? t = false := by rw [← hW, World.frozen?_alloc_old _ _ t (by simp; omega), World.frozen?_alloc_old _ _ t (Nat.ne_of_lt htl)]; exact hf
  have n8 := Tq.isNil225 ⟨w.heap.size, 0, none⟩ t W haW
  have hgW : W.cell? ⟨0, 0, none⟩ = some (.iface 180 (.agg #[.pointer (some ⟨9, 27, none⟩)])) := by rw [← hW, World.cell?_alloc_lt _ _ _ (by simp), World.cell?_alloc_lt _ _ _ hgl]; exact hg
  go_enter Tryz.func43, Tryz.ntmps43
  cases e with
  | code n =>
    go_wp2_with (go_at_call 73; refine (as_fault (.code n) _ _ t old _ hEW haW htW hfW).mono ?_; rintro ev w' ⟨hbw, rfl⟩)
    go_ret
    exact ⟨(Frm.of_below hWb).then hbw (fun _ _ h => h), rfl⟩
  | fault s p e' =>
    go_wp2_with (go_at_call 73; refine (as_fault (.fault s p e') _ _ t old _ hEW haW htW hfW).mono ?_; rintro ev w' ⟨hbw, rfl, hx⟩)
    have HX := hid hx
    clear hx
    go_wp2
    go_ret
    exact ⟨(Frm.of_below hWb).then hbw (fun _ _ h => h), rfl, HX.out⟩

theorem Of_nil (w : World) : Calls Tryz.prog 26 #[.nilIface] w fun e w' => e = .returned (.int .i64 0) ∧ w = w' := by
  go_enter Tryz.func26, Tryz.ntmps26
  go_wp2
  go_ret
  exact ⟨rfl, rfl⟩
theorem Of_some (e : Er) (v : Value) (w : World) (hg : ErrTyp w) (hE : ErrV 32 92 w e v) : Calls Tryz.prog 26 #[v] w fun ev w' => ev = .returned (.int .i64 e.leaf) ∧ Below w.heap.size w w' := by
  obtain ⟨T, x, hv⟩ := hE.shape
  subst hv
  have hb : ∀ o, Below w.heap.size w (w.alloc o) := fun o => below_alloc (below_refl w) o
  have HG : Hid (ErrTyp w) := hg
  clear hg
  go_enter Tryz.func26, Tryz.ntmps26
  go_wp2_with (go_at_call 43; refine (As_code e _ ⟨w.heap.size, 0, none⟩ (.int .i64 0) _ (hE.below (hb _)) (HG.out.below (hb _)) (by rw [World.cell?_alloc_at _ _ _ _ rfl]; rfl) (by rw [World.frozen?_alloc_at _ _ _ _ rfl])).mono ?_; rintro ev w' ⟨rfl, hbw, hcw⟩)
  go_ret
  exact ⟨rfl, Frm.below_of (hb _) hbw (fun k h => by rw [h]; exact Nat.le_refl _)⟩
theorem In_nil (s : ByteArray) (p : Int) (w : World) : Calls Tryz.prog 31 #[.string s, .int .i64 p, .nilIface] w fun e w' => e = .returned .nilIface ∧ w = w' := by
  go_enter Tryz.func31, Tryz.ntmps31
  go_wp2
  go_ret
  exact ⟨rfl, rfl⟩
def RetErr (e : Er) (w : World) (ev : Ending) (w' : World) : Prop := ∃ v, ev = .returned v ∧ ErrV 32 92 w' e v ∧ Below w.heap.size w w'
theorem In_some (s : ByteArray) (p : Int) (e : Er) (v : Value) (w : World) (hE : ErrV 32 92 w e v) : Calls Tryz.prog 31 #[.string s, .int .i64 p, v] w (RetErr (.fault s p e) w) := by
  obtain ⟨T, x, hv⟩ := hE.shape
  subst hv
  go_enter Tryz.func31, Tryz.ntmps31
  go_wp2
  go_ret
  exact ⟨_, rfl, ⟨w.heap.size, _, rfl, by rw [World.cell?_alloc_at _ _ _ _ rfl]; rfl, by rw [World.cell?_alloc_at _ _ _ _ rfl]; rfl, by rw [World.cell?_alloc_at _ _ _ _ rfl]; rfl, hE.below (below_alloc (below_refl w) _)⟩, below_alloc (below_refl w) _⟩
end Go.Proofs
