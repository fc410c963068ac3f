import Derived.Test.YtmgnalfodafhgaaGreatDoorErrFacts2
set_option linter.unusedVariables false
set_option linter.unusedSimpArgs false
namespace Go.Proofs
open Go.RowKit Go.Extern.Stop Go.Stop Go.Extern Go.Kin
theorem unwrap_any (b : Nat) (u : Value) (w : World) (hc : w.cell? ⟨b, 2, none⟩ = some u) :
    Calls Tryz.prog 407 #[.pointer (some ⟨b, 0, none⟩)] w fun e w' => e = .returned u ∧ w = w' := by
  go_enter Tryz.func407, Tryz.ntmps407
  go_wp2
  go_ret
  exact ⟨rfl, rfl⟩

set_option maxRecDepth 100000 in
set_option maxHeartbeats 4000000 in
theorem as_code (e : Er) (v : Value) (a t : Addr) (old : Value) (w : World) (hE : ErrV 32 92 w e v)
    (ha : w.cell? a = some (.pointer (some t))) (ht : w.cell? t = some old) (hf : w.frozen? t = false) :
    Calls Tryz.prog 73 #[v, .iface 91 (.pointer (some t)), .agg #[.pointer (some ⟨9, 91, none⟩), .pointer (some a), .int .u64 150], .iface 180 (.agg #[.pointer (some ⟨9, 32, none⟩)])] w
      fun ev w' => ev = .returned (.bool true) ∧ Frm (· = t.block) w w' ∧ w'.cell? t = some (.int .i64 e.leaf) := by
  have h291 := @run_callFunc_extern Tryz.prog 109 _ ReflectliteType.typeOf Tryz.func109 (by kernel_rfl) (by kernel_rfl) (by kernel_rfl) (by kernel_rfl)
  have h780 := @run_callFunc_extern Tryz.prog 418 _ (ReflectliteType.relation "AssignableTo" ReflectliteType.assignableTo) Tryz.func418 (by kernel_rfl) (by kernel_rfl) (by kernel_rfl) (by kernel_rfl)
  have h371 := @run_callFunc_extern Tryz.prog 110 _ (ReflectliteValue.method (ReflectliteValue.valueError "reflectlite.Value.Elem" 0) ReflectliteValue.elem) Tryz.func110 (by kernel_rfl) (by kernel_rfl) (by kernel_rfl) (by kernel_rfl)
  have h372 := @run_callFunc_extern Tryz.prog 111 _ ReflectliteValue.set Tryz.func111 (by kernel_rfl) (by kernel_rfl) (by kernel_rfl) (by kernel_rfl)
  have h261 := @run_callFunc_extern Tryz.prog 70 _ (fun args => ReflectliteValue.unpack (args.getD 0 (.tuple #[]))) Tryz.func70 (by kernel_rfl) (by kernel_rfl) (by kernel_rfl) (by kernel_rfl)
  have f1 := Tq.typeOf92
  have f2 := Tq.typeOf223
  have f3 := Tq.methodAssignableTo
  have f4 := Tq.assign92_92
  have f5 := Tq.assign223_92
  have f6 := Tq.valueOf92
  have f7 := Tq.ta488_223
  have f8 := Tq.ta491_223
  have f9 := Tq.methodUnwrap
  go_enter Tryz.func73, Tryz.ntmps73
  go_wp2
  go_loopg [0] e.depth (fun k s0 wr => ∃ e', ErrV 32 92 w e' s0 ∧ e'.depth = k ∧ e'.leaf = e.leaf ∧ Below w.heap.size w wr ∧ wr.cell? ⟨w.heap.size, 0, none⟩ = some (.pointer (some ⟨9, 91, none⟩))
     ∧ wr.cell? ⟨w.heap.size, 1, none⟩ = some (.pointer (some a)) ∧ wr.cell? ⟨w.heap.size, 2, none⟩ = some (.int .u64 150) ∧ wr.cell? a = some (.pointer (some t)) ∧ wr.cell? t = some old ∧ wr.frozen? t = false)
  case atStart =>
    have hal := World.block_lt_of_cell? w a ha
    have htl := World.block_lt_of_cell? w t ht
    exact ⟨e, hE, rfl, rfl, below_alloc (below_refl w) _, by rw [World.cell?_alloc_at _ _ _ _ rfl]; rfl, by rw [World.cell?_alloc_at _ _ _ _ rfl]; rfl, by rw [World.cell?_alloc_at _ _ _ _ rfl]; rfl, by rw [World.cell?_alloc_lt _ _ _ hal]; exact ha,
      by rw [World.cell?_alloc_lt _ _ _ htl]; exact ht, by rw [World.frozen?_alloc_old _ _ t (Nat.ne_of_lt htl)]; exact hf⟩
  case round =>
    obtain ⟨e', hE', hd, hl, hbr, c0, c1, c2, har, htr, hfr⟩ := hrel
    cases e' with
    | code n =>
      obtain rfl := hE'
      have el := Tq.elemV394 a t wr har
      have hts : t.block < wr.heap.size := World.block_lt_of_cell? wr t htr
      have st := Tq.set92 t ⟨wr.heap.size, 0, none⟩ n old (wr.alloc (.cells #[.int .i64 n] 32)) (by rw [World.cell?_alloc_at _ _ _ _ rfl]; rfl) (by rw [World.cell?_alloc_lt _ _ t hts]; exact htr) (by rw [World.frozen?_alloc_old _ _ t (Nat.ne_of_lt hts)]; exact hfr)
      have HL : Hid ((Er.code n).leaf = e.leaf) := hl
      have HD : Hid ((Er.code n).depth = gk) := hd
      clear hl hd
      go_wp2
      go_ret
      refine ⟨rfl, ?_, ?_⟩
      · exact (Frm.of_below (S := (· = t.block)) (below_alloc hbr _)).set1 _
      · rw [← HL.out]
        exact World.cell?_setCell_same' _ _ _ (by rw [World.cell?_alloc_lt _ _ t hts, htr]; rfl)
    | fault s p e' =>
      obtain ⟨b, u, rfl, k0, k1, k2, hu⟩ := hE'
      obtain ⟨T, x, hux⟩ := hu.shape
      rw [hux] at k2 hu
      clear hux
      have HL : Hid ((Er.fault s p e').leaf = e.leaf) := hl
      have HD : Hid ((Er.fault s p e').depth = gk) := hd
      clear hl hd
      have k2' := (hbr.cell (p := ⟨b, 2, none⟩) (World.block_lt_of_cell? w _ k2)).trans k2
      go_wp2_with (go_at_call 407; refine (unwrap_any b _ _ k2').mono ?_; rintro e w' ⟨rfl, rfl⟩)
      go_roundg (gk - 1)
      case measure => have := HD.out; simp only [Er.depth] at this; omega
      case rel => exact ⟨e', hu, by have := HD.out; simp only [Er.depth] at this; omega, HL.out, hbr, c0, c1, c2, har, htr, hfr⟩

def AsFault (e : Er) (v : Value) (t : Addr) (w : World) (ev : Ending) (w' : World) : Prop :=
  Frm (· = t.block) w w' ∧ match e with
    | .code _ => ev = .returned (.bool false)
    | .fault _ _ _ => ev = .returned (.bool true) ∧ ∃ b, v = .iface 92 (.pointer (some ⟨b, 0, none⟩)) ∧ w'.cell? t = some (.pointer (some ⟨b, 0, none⟩)) ∧ w'.frozen? t = false

set_option maxRecDepth 100000 in
set_option maxHeartbeats 4000000 in
theorem as_fault (e : Er) (v : Value) (a t : Addr) (old : Value) (w : World) (hE : ErrV 32 92 w e v)
    (ha : w.cell? a = some (.pointer (some t))) (ht : w.cell? t = some old) (hf : w.frozen? t = false) :
    Calls Tryz.prog 73 #[v, .iface 93 (.pointer (some t)), .agg #[.pointer (some ⟨9, 93, none⟩), .pointer (some a), .int .u64 150], .iface 180 (.agg #[.pointer (some ⟨9, 92, none⟩)])] w
      (AsFault e v t w) := by
  have h291 := @run_callFunc_extern Tryz.prog 109 _ ReflectliteType.typeOf Tryz.func109 (by kernel_rfl) (by kernel_rfl) (by kernel_rfl) (by kernel_rfl)
  have h780 := @run_callFunc_extern Tryz.prog 418 _ (ReflectliteType.relation "AssignableTo" ReflectliteType.assignableTo) Tryz.func418 (by kernel_rfl) (by kernel_rfl) (by kernel_rfl) (by kernel_rfl)
  have h371 := @run_callFunc_extern Tryz.prog 110 _ (ReflectliteValue.method (ReflectliteValue.valueError "reflectlite.Value.Elem" 0) ReflectliteValue.elem) Tryz.func110 (by kernel_rfl) (by kernel_rfl) (by kernel_rfl) (by kernel_rfl)
  have h372 := @run_callFunc_extern Tryz.prog 111 _ ReflectliteValue.set Tryz.func111 (by kernel_rfl) (by kernel_rfl) (by kernel_rfl) (by kernel_rfl)
  have h261 := @run_callFunc_extern Tryz.prog 70 _ (fun args => ReflectliteValue.unpack (args.getD 0 (.tuple #[]))) Tryz.func70 (by kernel_rfl) (by kernel_rfl) (by kernel_rfl) (by kernel_rfl)
  have f1 := Tq.typeOf92
  have f2 := Tq.typeOf223
  have f3 := Tq.methodAssignableTo
  have f4 := Tq.assign92_223
  have f5 := Tq.assign223_223
  have f6 := Tq.valueOf223
  have f7 := Tq.ta488_92
  have f8 := Tq.ta491_92
  have f9 := Tq.ta492_92
  have hal := World.block_lt_of_cell? w a ha
  have htl := World.block_lt_of_cell? w t ht
  go_enter Tryz.func73, Tryz.ntmps73
  go_wp2
  refine wp_loop_rounds 1 ?_
  rw [rounds_succ]
  cases e with
  | code n =>
    obtain rfl := hE
    go_wp2
    go_ret
    exact ⟨Frm.of_below (below_alloc (below_refl w) _), rfl⟩
  | fault s p e' =>
    obtain ⟨b, u, rfl, k0, k1, k2, hu⟩ := hE
    generalize hW : (w.alloc (.cells #[.pointer (some ⟨9, 93, none⟩), .pointer (some a), .int .u64 150] 128)) = W
    have hWb : Below w.heap.size w W := by rw [← hW]; exact below_alloc (below_refl w) _
    have c0 : W.cell? ⟨w.heap.size, 0, none⟩ = some (.pointer (some ⟨9, 93, none⟩)) := by rw [← hW, World.cell?_alloc_at _ _ _ _ rfl]; rfl
    have c1 : W.cell? ⟨w.heap.size, 1, none⟩ = some (.pointer (some a)) := by rw [← hW, World.cell?_alloc_at _ _ _ _ rfl]; rfl
    have c2 : W.cell? ⟨w.heap.size, 2, none⟩ = some (.int .u64 150) := by rw [← hW, World.cell?_alloc_at _ _ _ _ rfl]; rfl
    have haW : W.cell? a = some (.pointer (some t)) := by rw [← hW, World.cell?_alloc_lt _ _ _ hal]; exact ha
    have htW : W.cell? t = some old := by rw [← hW, World.cell?_alloc_lt _ _ _ htl]; exact ht
    have hfW : W.frozen? t = false := by rw [← hW, World.frozen?_alloc_old _ _ t (Nat.ne_of_lt htl)]; exact hf
    clear hW ha ht hf hal htl
    have hts : t.block < W.heap.size := World.block_lt_of_cell? W t htW
    have el := Tq.elemV225 a t W haW
    have st := Tq.set223 t ⟨W.heap.size, 0, none⟩ ⟨b, 0, none⟩ old (W.alloc (.cells #[.pointer (some ⟨b, 0, none⟩)] 92)) (by rw [World.cell?_alloc_at _ _ _ _ rfl]; rfl) (by rw [World.cell?_alloc_lt _ _ t hts]; exact htW) (by rw [World.frozen?_alloc_old _ _ t (Nat.ne_of_lt hts)]; exact hfW)
    go_wp2
    go_ret
    exact ⟨(Frm.of_below (S := (· = t.block)) (below_alloc hWb _)).set1 _, rfl, b, rfl, World.cell?_setCell_same' _ _ _ (by rw [World.cell?_alloc_lt _ _ t hts, htW]; rfl), by rw [World.frozen?_setCell, World.frozen?_alloc_old _ _ t (Nat.ne_of_lt hts)]; exact hfW⟩
end Go.Proofs
