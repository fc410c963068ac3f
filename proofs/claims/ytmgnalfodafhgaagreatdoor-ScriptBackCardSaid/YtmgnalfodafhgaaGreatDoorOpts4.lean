import Derived.Test.YtmgnalfodafhgaaGreatDoorVbv0
import Derived.Test.YtmgnalfodafhgaaGreatDoorK6
import Derived.Deep.DeepCutAuto
set_option linter.unusedVariables false
set_option linter.unusedSimpArgs false
namespace Go.Kin
open Go.RowKit
def optsC (bs : List Int) : Cfg :=
  let x := fun i => bs.getD i 0
  let q := x 0 % 16
  let r := 8 + 4 * (x 5 % 64)
  let m := r + 16 * (x 6 % 64)
  ⟨q, max q (x 1 % 16), x 2 % 4, 64 * (x 3 % 64), 1 + x 4 % 4, r, m, min (8 + x 6 % 8) m⟩
theorem row_set {w V : World} {p i : Nat} {t : TypeId} {cs : Array Value} {u : Value} (m : w.heap[p]? = some (.cells cs t (0, 0))) (hq : Below w.heap.size w V) :
    (V.setCell ⟨p, i, none⟩ u).heap[p]? = some (.cells (cs.setIfInBounds i u) t (0, 0)) :=
  heap_setCell_same V p i cs t u ((hq.block p (Array.getElem?_eq_some_iff.1 m).1).trans m)
theorem set8 {w : World} {b : Nat} {x0 x1 x2 x3 x4 x5 x6 x7 u0 u1 u2 u3 u4 u5 u6 u7 : Value} {t : TypeId} (h : w.heap[b]? = some (.cells #[x0, x1, x2, x3, x4, x5, x6, x7] t (0, 0))) :
    ((((((((w.setCell ⟨b, 0, none⟩ u0).setCell ⟨b, 1, none⟩ u1).setCell ⟨b, 2, none⟩ u2).setCell ⟨b, 3, none⟩ u3).setCell ⟨b, 4, none⟩ u4).setCell ⟨b, 5, none⟩ u5).setCell ⟨b, 6, none⟩ u6).setCell ⟨b, 7, none⟩ u7).heap[b]? = some (.cells #[u0, u1, u2, u3, u4, u5, u6, u7] t (0, 0)) := by
  have h0 : (w.setCell ⟨b, 0, none⟩ u0).heap[b]? = some (.cells #[u0, x1, x2, x3, x4, x5, x6, x7] t (0, 0)) := heap_setCell_same _ b 0 _ t u0 h
  have h1 : ((w.setCell ⟨b, 0, none⟩ u0).setCell ⟨b, 1, none⟩ u1).heap[b]? = some (.cells #[u0, u1, x2, x3, x4, x5, x6, x7] t (0, 0)) := heap_setCell_same _ b 1 _ t u1 h0
  have h2 : (((w.setCell ⟨b, 0, none⟩ u0).setCell ⟨b, 1, none⟩ u1).setCell ⟨b, 2, none⟩ u2).heap[b]? = some (.cells #[u0, u1, u2, x3, x4, x5, x6, x7] t (0, 0)) := heap_setCell_same _ b 2 _ t u2 h1
  have h3 : ((((w.setCell ⟨b, 0, none⟩ u0).setCell ⟨b, 1, none⟩ u1).setCell ⟨b, 2, none⟩ u2).setCell ⟨b, 3, none⟩ u3).heap[b]? = some (.cells #[u0, u1, u2, u3, x4, x5, x6, x7] t (0, 0)) := heap_setCell_same _ b 3 _ t u3 h2
  have h4 : (((((w.setCell ⟨b, 0, none⟩ u0).setCell ⟨b, 1, none⟩ u1).setCell ⟨b, 2, none⟩ u2).setCell ⟨b, 3, none⟩ u3).setCell ⟨b, 4, none⟩ u4).heap[b]? = some (.cells #[u0, u1, u2, u3, u4, x5, x6, x7] t (0, 0)) := heap_setCell_same _ b 4 _ t u4 h3
  have h5 : ((((((w.setCell ⟨b, 0, none⟩ u0).setCell ⟨b, 1, none⟩ u1).setCell ⟨b, 2, none⟩ u2).setCell ⟨b, 3, none⟩ u3).setCell ⟨b, 4, none⟩ u4).setCell ⟨b, 5, none⟩ u5).heap[b]? = some (.cells #[u0, u1, u2, u3, u4, u5, x6, x7] t (0, 0)) := heap_setCell_same _ b 5 _ t u5 h4
  have h6 : (((((((w.setCell ⟨b, 0, none⟩ u0).setCell ⟨b, 1, none⟩ u1).setCell ⟨b, 2, none⟩ u2).setCell ⟨b, 3, none⟩ u3).setCell ⟨b, 4, none⟩ u4).setCell ⟨b, 5, none⟩ u5).setCell ⟨b, 6, none⟩ u6).heap[b]? = some (.cells #[u0, u1, u2, u3, u4, u5, u6, x7] t (0, 0)) := heap_setCell_same _ b 6 _ t u6 h5
  have h7 : ((((((((w.setCell ⟨b, 0, none⟩ u0).setCell ⟨b, 1, none⟩ u1).setCell ⟨b, 2, none⟩ u2).setCell ⟨b, 3, none⟩ u3).setCell ⟨b, 4, none⟩ u4).setCell ⟨b, 5, none⟩ u5).setCell ⟨b, 6, none⟩ u6).setCell ⟨b, 7, none⟩ u7).heap[b]? = some (.cells #[u0, u1, u2, u3, u4, u5, u6, u7] t (0, 0)) := heap_setCell_same _ b 7 _ t u7 h6
  exact h7
theorem results_cell4 {fn : Func} {p q r s : Tmp} {ty : TypeId} (h : fn.results = #[.cell p ty, .tmp q, .tmp r, .tmp s]) (tmps : Array Value) (P : Program) (w : World) :
    (results fn tmps).run P w = ((asAddr (tmps.getD p undef)).run P w).andThen fun a w₁ => ((loadVar ty a).run P w₁).andThen fun v w₂ => .ok (.tuple #[v, tmps.getD q undef, tmps.getD r undef, tmps.getD s undef]) w₂ := by
  simp only [results, h]
  simp only [Sem.run_bind, Result.andThen]
  simp [Result.andThen]
  cases Sem.run P (asAddr (tmps[p]?.getD undef)) w with
  | ok a w1 =>
    simp only []
    cases Sem.run P (loadVar ty a) w1 <;> rfl
  | halt h w1 => rfl
end Go.Kin
namespace Go.Proofs
open Go.RowKit Go.Kin Go.Shelf
def OptsRet (bs : List Int) (w : World) (e : Ending) (w' : World) : Prop :=
  ∃ r, e = .returned (.tuple #[(optsC bs).val, .int .i64 (4096 * (bs.getD 7 0 % 16)), .int .i64 (1 + bs.getD 7 0 / 16), r]) ∧ w'.ownsRow w.heap.size 5 1 r (bs.length - 8) ((bs.drop 8).map (Value.int .u8)) ∧ Below w.heap.size w w'
set_option maxRecDepth 100000 in
set_option maxHeartbeats 8000000 in
theorem opts_any (bs : List Int) (bv : Value) (w : World) (hs : SlB .u8 w bv bs) (hbig : bs.length ≤ 2000) (hv : ∀ x ∈ bs, 0 ≤ x ∧ x ≤ 255) :
    Calls Tryz.prog 13 #[bv] w (OptsRet bs w) := by
  have hx := getD_smp hv
  have HC : Hid (optsC bs = ⟨bs.getD 0 0 % 16, max (bs.getD 0 0 % 16) (bs.getD 1 0 % 16), bs.getD 2 0 % 4, 64 * (bs.getD 3 0 % 64), 1 + bs.getD 4 0 % 4, 8 + 4 * (bs.getD 5 0 % 64), 8 + 4 * (bs.getD 5 0 % 64) + 16 * (bs.getD 6 0 % 64), min (8 + bs.getD 6 0 % 8) (8 + 4 * (bs.getD 5 0 % 64) + 16 * (bs.getD 6 0 % 64))⟩) := hid rfl
  have HRET : Hid (∀ e w', OptsRet bs w e w' = ∃ r, e = .returned (.tuple #[(optsC bs).val, .int .i64 (4096 * (bs.getD 7 0 % 16)), .int .i64 (1 + bs.getD 7 0 / 16), r]) ∧ w'.ownsRow w.heap.size 5 1 r (bs.length - 8) ((bs.drop 8).map (Value.int .u8)) ∧ Below w.heap.size w w') := hid (fun _ _ => rfl)
  have z0 := hx 0
  have z1 := hx 1
  have z2 := hx 2
  have z3 := hx 3
  have z4 := hx 4
  have z5 := hx 5
  have z6 := hx 6
  have z7 := hx 7
  clear hx
  generalize hX0 : bs.getD 0 0 = X0 at *
  have HX0 := hid hX0
  generalize hX1 : bs.getD 1 0 = X1 at *
  have HX1 := hid hX1
  generalize hX2 : bs.getD 2 0 = X2 at *
  have HX2 := hid hX2
  generalize hX3 : bs.getD 3 0 = X3 at *
  have HX3 := hid hX3
  generalize hX4 : bs.getD 4 0 = X4 at *
  have HX4 := hid hX4
  generalize hX5 : bs.getD 5 0 = X5 at *
  have HX5 := hid hX5
  generalize hX6 : bs.getD 6 0 = X6 at *
  have HX6 := hid hX6
  generalize hX7 : bs.getD 7 0 = X7 at *
  have HX7 := hid hX7
  clear hX0 hX1 hX2 hX3 hX4 hX5 hX6 hX7
  have HZ0 := hid z0
  have HZ1 := hid z1
  have HZ2 := hid z2
  have HZ3 := hid z3
  have HZ4 := hid z4
  have HZ5 := hid z5
  have HZ6 := hid z6
  have HZ7 := hid z7
  go_enter Tryz.func13, Tryz.ntmps13
  go_upto_region 2 with (go_at_call 28; refine (cut_any bs 8 _ _ (hs.below (below_alloc (below_refl w) _)) (by omega) (by omega) hbig hv).mono ?_; rintro _ w1 ⟨x, r, rfl, hox, hor, hb1⟩; obtain ⟨g, cap, rfl⟩ := own_slice hox; have y0 := own_cell hox 0 (by omega); rw [cutX_get _ _ _ (by omega), HX0.out] at y0; have y1 := own_cell hox 1 (by omega); rw [cutX_get _ _ _ (by omega), HX1.out] at y1; have y2 := own_cell hox 2 (by omega); rw [cutX_get _ _ _ (by omega), HX2.out] at y2; have y3 := own_cell hox 3 (by omega); rw [cutX_get _ _ _ (by omega), HX3.out] at y3; have y4 := own_cell hox 4 (by omega); rw [cutX_get _ _ _ (by omega), HX4.out] at y4; have y5 := own_cell hox 5 (by omega); rw [cutX_get _ _ _ (by omega), HX5.out] at y5; have y6 := own_cell hox 6 (by omega); rw [cutX_get _ _ _ (by omega), HX6.out] at y6; have y7 := own_cell hox 7 (by omega); rw [cutX_get _ _ _ (by omega), HX7.out] at y7; have hlt := (hox.lt g rfl); have HB1 := hid hb1; have HOR := hid hor; clear hb1 hox hor hs)
  have hd := (HB1.out.block w.heap.size (by simp)).trans (heap_alloc_new w _)
  simp only [World.size_alloc] at hlt
  have hgw : w.heap.size < g := by omega
  have HD := hid hd
  have HB2 := hid (below_then (below_alloc (below_refl w) _) HB1.out)
  clear hd hv
  have Y0 := hid y0
  have Y1 := hid y1
  have Y2 := hid y2
  have Y3 := hid y3
  have Y4 := hid y4
  have Y5 := hid y5
  have Y6 := hid y6
  have Y7 := hid y7
  clear y0 y1 y2 y3 y4 y5 y6 y7 z0 z1 z2 z3 z4 z5 z6 z7
  go_cut [8] (fun s8 wx => s8 = .pointer (some ⟨w1.heap.size, 0, none⟩) ∧ wx.heap[w1.heap.size]? = some (.cells #[.int .i64 (X0 % 16), .int .i64 0, .int .i64 (X2 % 4), .int .i64 (64 * (X3 % 64)), .int .i64 (1 + X4 % 4), .int .i64 (8 + 4 * (X5 % 64)), .int .i64 0, .int .i64 0] 42) ∧ Below w1.heap.size w1 wx)
  case first =>
    have a0 : X0.tmod 16 = X0 % 16 := Int.tmod_eq_emod_of_nonneg HZ0.out.1
    have a2 : X2.tmod 4 = X2 % 4 := Int.tmod_eq_emod_of_nonneg HZ2.out.1
    have a3 : X3.tmod 64 = X3 % 64 := Int.tmod_eq_emod_of_nonneg HZ3.out.1
    have a4 : X4.tmod 4 = X4 % 4 := Int.tmod_eq_emod_of_nonneg HZ4.out.1
    have a5 : X5.tmod 64 = X5 % 64 := Int.tmod_eq_emod_of_nonneg HZ5.out.1
    have b3 : IntKind.i64.wrap (64 * (X3 % 64)) = 64 * (X3 % 64) := by rw [IntKind.wrap_i64]; omega
    have b4 : IntKind.i64.wrap (1 + X4 % 4) = 1 + X4 % 4 := by rw [IntKind.wrap_i64]; omega
    have b5 : IntKind.i64.wrap (4 * (X5 % 64)) = 4 * (X5 % 64) := by rw [IntKind.wrap_i64]; omega
    have b6 : IntKind.i64.wrap (8 + 4 * (X5 % 64)) = 8 + 4 * (X5 % 64) := by rw [IntKind.wrap_i64]; omega
    refine wp_region_keep (fun q => q = g) 27 (by kernel_rfl) (by kernel_rfl) (fun hHeld => ?_)
    refine wpAnyH_take (i := 0) (v := ?va_0) rfl (by kernel_rfl) (by kernel_rfl) (by kernel_rfl) (fun _ _ _ h => h) (Or.inl ⟨by rfl, ?ya_0⟩) (by assumption) ?_
    case ya_0 => intro w hSw; have d0 := hSw _ _ rfl Y0.out; have d2 := hSw _ _ rfl Y2.out; have d3 := hSw _ _ rfl Y3.out; have d4 := hSw _ _ rfl Y4.out; have d5 := hSw _ _ rfl Y5.out; clear hSw; go_simp; try with_reducible rfl
    try simp only [Act.put, List.setIfInBounds_toArray, List.set_cons_zero, List.set_cons_succ]
    refine wpAnyH_take (i := 1) (v := ?va_1) rfl (by kernel_rfl) (by kernel_rfl) (by kernel_rfl) (fun _ _ _ h => h) (Or.inl ⟨by rfl, ?ya_1⟩) (by assumption) ?_
    case ya_1 => intro w hSw; have d0 := hSw _ _ rfl Y0.out; have d2 := hSw _ _ rfl Y2.out; have d3 := hSw _ _ rfl Y3.out; have d4 := hSw _ _ rfl Y4.out; have d5 := hSw _ _ rfl Y5.out; clear hSw; go_simp; try with_reducible rfl
    try simp only [Act.put, List.setIfInBounds_toArray, List.set_cons_zero, List.set_cons_succ]
    refine wpAnyH_take (i := 2) (v := ?va_2) rfl (by kernel_rfl) (by kernel_rfl) (by kernel_rfl) (fun _ _ _ h => h) (Or.inl ⟨by rfl, ?ya_2⟩) (by assumption) ?_
    case ya_2 => intro w hSw; have d0 := hSw _ _ rfl Y0.out; have d2 := hSw _ _ rfl Y2.out; have d3 := hSw _ _ rfl Y3.out; have d4 := hSw _ _ rfl Y4.out; have d5 := hSw _ _ rfl Y5.out; clear hSw; go_simp; try with_reducible rfl
    try simp only [Act.put, List.setIfInBounds_toArray, List.set_cons_zero, List.set_cons_succ]
    refine wpAnyH_take (i := 3) (v := ?va_3) rfl (by kernel_rfl) (by kernel_rfl) (by kernel_rfl) (fun _ _ _ h => h) (Or.inl ⟨by rfl, ?ya_3⟩) (by assumption) ?_
    case ya_3 => intro w hSw; have d0 := hSw _ _ rfl Y0.out; have d2 := hSw _ _ rfl Y2.out; have d3 := hSw _ _ rfl Y3.out; have d4 := hSw _ _ rfl Y4.out; have d5 := hSw _ _ rfl Y5.out; clear hSw; go_simp; try with_reducible rfl
    try simp only [Act.put, List.setIfInBounds_toArray, List.set_cons_zero, List.set_cons_succ]
    refine wpAnyH_take (i := 4) (v := ?va_4) rfl (by kernel_rfl) (by kernel_rfl) (by kernel_rfl) (fun _ _ _ h => h) (Or.inl ⟨by rfl, ?ya_4⟩) (by assumption) ?_
    case ya_4 => intro w hSw; have d0 := hSw _ _ rfl Y0.out; have d2 := hSw _ _ rfl Y2.out; have d3 := hSw _ _ rfl Y3.out; have d4 := hSw _ _ rfl Y4.out; have d5 := hSw _ _ rfl Y5.out; clear hSw; go_simp; try with_reducible rfl
    try simp only [Act.put, List.setIfInBounds_toArray, List.set_cons_zero, List.set_cons_succ]
    refine wpAnyH_take (i := 5) (v := ?va_5) rfl (by kernel_rfl) (by kernel_rfl) (by kernel_rfl) (fun _ _ _ h => h) (Or.inl ⟨by rfl, ?ya_5⟩) (by assumption) ?_
    case ya_5 => intro w hSw; have d0 := hSw _ _ rfl Y0.out; have d2 := hSw _ _ rfl Y2.out; have d3 := hSw _ _ rfl Y3.out; have d4 := hSw _ _ rfl Y4.out; have d5 := hSw _ _ rfl Y5.out; clear hSw; go_simp; try with_reducible rfl
    try simp only [Act.put, List.setIfInBounds_toArray, List.set_cons_zero, List.set_cons_succ]
    refine wpAnyH_take (i := 6) (v := ?va_6) rfl (by kernel_rfl) (by kernel_rfl) (by kernel_rfl) (fun _ _ _ h => h) (Or.inl ⟨by rfl, ?ya_6⟩) (by assumption) ?_
    case ya_6 => intro w hSw; have d0 := hSw _ _ rfl Y0.out; have d2 := hSw _ _ rfl Y2.out; have d3 := hSw _ _ rfl Y3.out; have d4 := hSw _ _ rfl Y4.out; have d5 := hSw _ _ rfl Y5.out; clear hSw; go_simp; try with_reducible rfl
    try simp only [Act.put, List.setIfInBounds_toArray, List.set_cons_zero, List.set_cons_succ]
    refine wpAnyH_take (i := 7) (v := ?va_7) rfl (by kernel_rfl) (by kernel_rfl) (by kernel_rfl) (fun _ _ _ h => h) (Or.inl ⟨by rfl, ?ya_7⟩) (by assumption) ?_
    case ya_7 => intro w hSw; have d0 := hSw _ _ rfl Y0.out; have d2 := hSw _ _ rfl Y2.out; have d3 := hSw _ _ rfl Y3.out; have d4 := hSw _ _ rfl Y4.out; have d5 := hSw _ _ rfl Y5.out; clear hSw; go_simp; try with_reducible rfl
    try simp only [Act.put, List.setIfInBounds_toArray, List.set_cons_zero, List.set_cons_succ]
    refine wpAnyH_take (i := 8) (v := ?va_8) rfl (by kernel_rfl) (by kernel_rfl) (by kernel_rfl) (fun _ _ _ h => h) (Or.inl ⟨by rfl, ?ya_8⟩) (by assumption) ?_
    case ya_8 => intro w hSw; have d0 := hSw _ _ rfl Y0.out; have d2 := hSw _ _ rfl Y2.out; have d3 := hSw _ _ rfl Y3.out; have d4 := hSw _ _ rfl Y4.out; have d5 := hSw _ _ rfl Y5.out; clear hSw; go_simp; try with_reducible rfl
    try simp only [Act.put, List.setIfInBounds_toArray, List.set_cons_zero, List.set_cons_succ]
    refine wpAnyH_take (i := 9) (v := ?va_9) rfl (by kernel_rfl) (by kernel_rfl) (by kernel_rfl) (fun _ _ _ h => h) (Or.inl ⟨by rfl, ?ya_9⟩) (by assumption) ?_
    case ya_9 => intro w hSw; have d0 := hSw _ _ rfl Y0.out; have d2 := hSw _ _ rfl Y2.out; have d3 := hSw _ _ rfl Y3.out; have d4 := hSw _ _ rfl Y4.out; have d5 := hSw _ _ rfl Y5.out; clear hSw; go_simp; try with_reducible rfl
    try simp only [Act.put, List.setIfInBounds_toArray, List.set_cons_zero, List.set_cons_succ]
    refine wpAnyH_take (i := 10) (v := ?va_10) rfl (by kernel_rfl) (by kernel_rfl) (by kernel_rfl) (fun _ _ _ h => h) (Or.inl ⟨by rfl, ?ya_10⟩) (by assumption) ?_
    case ya_10 => intro w hSw; have d0 := hSw _ _ rfl Y0.out; have d2 := hSw _ _ rfl Y2.out; have d3 := hSw _ _ rfl Y3.out; have d4 := hSw _ _ rfl Y4.out; have d5 := hSw _ _ rfl Y5.out; clear hSw; go_simp; try with_reducible rfl
    try simp only [Act.put, List.setIfInBounds_toArray, List.set_cons_zero, List.set_cons_succ]
    refine wpAnyH_take (i := 11) (v := ?va_11) rfl (by kernel_rfl) (by kernel_rfl) (by kernel_rfl) (fun _ _ _ h => h) (Or.inl ⟨by rfl, ?ya_11⟩) (by assumption) ?_
    case ya_11 => intro w hSw; have d0 := hSw _ _ rfl Y0.out; have d2 := hSw _ _ rfl Y2.out; have d3 := hSw _ _ rfl Y3.out; have d4 := hSw _ _ rfl Y4.out; have d5 := hSw _ _ rfl Y5.out; clear hSw; go_simp; try with_reducible rfl
    try simp only [Act.put, List.setIfInBounds_toArray, List.set_cons_zero, List.set_cons_succ]
    refine wpAnyH_take (i := 12) (v := ?va_12) rfl (by kernel_rfl) (by kernel_rfl) (by kernel_rfl) (fun _ _ _ h => h) (Or.inl ⟨by rfl, ?ya_12⟩) (by assumption) ?_
    case ya_12 => intro w hSw; have d0 := hSw _ _ rfl Y0.out; have d2 := hSw _ _ rfl Y2.out; have d3 := hSw _ _ rfl Y3.out; have d4 := hSw _ _ rfl Y4.out; have d5 := hSw _ _ rfl Y5.out; clear hSw; go_simp; try with_reducible rfl
    try simp only [Act.put, List.setIfInBounds_toArray, List.set_cons_zero, List.set_cons_succ]
    refine wpAnyH_take (i := 13) (v := ?va_13) rfl (by kernel_rfl) (by kernel_rfl) (by kernel_rfl) (fun _ _ _ h => h) (Or.inl ⟨by rfl, ?ya_13⟩) (by assumption) ?_
    case ya_13 => intro w hSw; have d0 := hSw _ _ rfl Y0.out; have d2 := hSw _ _ rfl Y2.out; have d3 := hSw _ _ rfl Y3.out; have d4 := hSw _ _ rfl Y4.out; have d5 := hSw _ _ rfl Y5.out; clear hSw; go_simp; try with_reducible rfl
    try simp only [Act.put, List.setIfInBounds_toArray, List.set_cons_zero, List.set_cons_succ]
    refine wpAnyH_take (i := 14) (v := ?va_14) rfl (by kernel_rfl) (by kernel_rfl) (by kernel_rfl) (fun _ _ _ h => h) (Or.inl ⟨by rfl, ?ya_14⟩) (by assumption) ?_
    case ya_14 => intro w hSw; have d0 := hSw _ _ rfl Y0.out; have d2 := hSw _ _ rfl Y2.out; have d3 := hSw _ _ rfl Y3.out; have d4 := hSw _ _ rfl Y4.out; have d5 := hSw _ _ rfl Y5.out; clear hSw; go_simp; try with_reducible rfl
    try simp only [Act.put, List.setIfInBounds_toArray, List.set_cons_zero, List.set_cons_succ]
    refine wpAnyH_take (i := 15) (v := ?va_15) rfl (by kernel_rfl) (by kernel_rfl) (by kernel_rfl) (fun _ _ _ h => h) (Or.inl ⟨by rfl, ?ya_15⟩) (by assumption) ?_
    case ya_15 => intro w hSw; have d0 := hSw _ _ rfl Y0.out; have d2 := hSw _ _ rfl Y2.out; have d3 := hSw _ _ rfl Y3.out; have d4 := hSw _ _ rfl Y4.out; have d5 := hSw _ _ rfl Y5.out; clear hSw; go_simp; try with_reducible rfl
    try simp only [Act.put, List.setIfInBounds_toArray, List.set_cons_zero, List.set_cons_succ]
    refine wpAnyH_take (i := 16) (v := ?va_16) rfl (by kernel_rfl) (by kernel_rfl) (by kernel_rfl) (fun _ _ _ h => h) (Or.inl ⟨by rfl, ?ya_16⟩) (by assumption) ?_
    case ya_16 => intro w hSw; have d0 := hSw _ _ rfl Y0.out; have d2 := hSw _ _ rfl Y2.out; have d3 := hSw _ _ rfl Y3.out; have d4 := hSw _ _ rfl Y4.out; have d5 := hSw _ _ rfl Y5.out; clear hSw; go_simp; try with_reducible rfl
    try simp only [Act.put, List.setIfInBounds_toArray, List.set_cons_zero, List.set_cons_succ]
    refine wpAnyH_take (i := 17) (v := ?va_17) rfl (by kernel_rfl) (by kernel_rfl) (by kernel_rfl) (fun _ _ _ h => h) (Or.inl ⟨by rfl, ?ya_17⟩) (by assumption) ?_
    case ya_17 => intro w hSw; have d0 := hSw _ _ rfl Y0.out; have d2 := hSw _ _ rfl Y2.out; have d3 := hSw _ _ rfl Y3.out; have d4 := hSw _ _ rfl Y4.out; have d5 := hSw _ _ rfl Y5.out; clear hSw; go_simp; try with_reducible rfl
    try simp only [Act.put, List.setIfInBounds_toArray, List.set_cons_zero, List.set_cons_succ]
    refine wpAnyH_take (i := 18) (v := ?va_18) rfl (by kernel_rfl) (by kernel_rfl) (by kernel_rfl) (fun _ _ _ h => h) (Or.inl ⟨by rfl, ?ya_18⟩) (by assumption) ?_
    case ya_18 => intro w hSw; have d0 := hSw _ _ rfl Y0.out; have d2 := hSw _ _ rfl Y2.out; have d3 := hSw _ _ rfl Y3.out; have d4 := hSw _ _ rfl Y4.out; have d5 := hSw _ _ rfl Y5.out; clear hSw; go_simp; try with_reducible rfl
    try simp only [Act.put, List.setIfInBounds_toArray, List.set_cons_zero, List.set_cons_succ]
    refine wpAnyH_take (i := 19) (v := ?va_19) rfl (by kernel_rfl) (by kernel_rfl) (by kernel_rfl) (fun _ _ _ h => h) (Or.inl ⟨by rfl, ?ya_19⟩) (by assumption) ?_
    case ya_19 => intro w hSw; have d0 := hSw _ _ rfl Y0.out; have d2 := hSw _ _ rfl Y2.out; have d3 := hSw _ _ rfl Y3.out; have d4 := hSw _ _ rfl Y4.out; have d5 := hSw _ _ rfl Y5.out; clear hSw; go_simp; try with_reducible rfl
    try simp only [Act.put, List.setIfInBounds_toArray, List.set_cons_zero, List.set_cons_succ]
    refine wpAnyH_take (i := 20) (v := ?va_20) rfl (by kernel_rfl) (by kernel_rfl) (by kernel_rfl) (fun _ _ _ h => h) (Or.inl ⟨by rfl, ?ya_20⟩) (by assumption) ?_
    case ya_20 => intro w hSw; have d0 := hSw _ _ rfl Y0.out; have d2 := hSw _ _ rfl Y2.out; have d3 := hSw _ _ rfl Y3.out; have d4 := hSw _ _ rfl Y4.out; have d5 := hSw _ _ rfl Y5.out; clear hSw; go_simp; try with_reducible rfl
    try simp only [Act.put, List.setIfInBounds_toArray, List.set_cons_zero, List.set_cons_succ]
    refine wpAnyH_take (i := 21) (v := ?va_21) rfl (by kernel_rfl) (by kernel_rfl) (by kernel_rfl) (fun _ _ _ h => h) (Or.inl ⟨by rfl, ?ya_21⟩) (by assumption) ?_
    case ya_21 => intro w hSw; have d0 := hSw _ _ rfl Y0.out; have d2 := hSw _ _ rfl Y2.out; have d3 := hSw _ _ rfl Y3.out; have d4 := hSw _ _ rfl Y4.out; have d5 := hSw _ _ rfl Y5.out; clear hSw; go_simp; try with_reducible rfl
    try simp only [Act.put, List.setIfInBounds_toArray, List.set_cons_zero, List.set_cons_succ]
    refine wpAnyH_take (i := 22) (v := ?va_22) rfl (by kernel_rfl) (by kernel_rfl) (by kernel_rfl) (fun _ _ _ h => h) (Or.inl ⟨by rfl, ?ya_22⟩) (by assumption) ?_
    case ya_22 => intro w hSw; have d0 := hSw _ _ rfl Y0.out; have d2 := hSw _ _ rfl Y2.out; have d3 := hSw _ _ rfl Y3.out; have d4 := hSw _ _ rfl Y4.out; have d5 := hSw _ _ rfl Y5.out; clear hSw; go_simp; try with_reducible rfl
    try simp only [Act.put, List.setIfInBounds_toArray, List.set_cons_zero, List.set_cons_succ]
    refine wpAnyH_take (i := 23) (v := ?va_23) rfl (by kernel_rfl) (by kernel_rfl) (by kernel_rfl) (fun _ _ _ h => h) (Or.inl ⟨by rfl, ?ya_23⟩) (by assumption) ?_
    case ya_23 => intro w hSw; have d0 := hSw _ _ rfl Y0.out; have d2 := hSw _ _ rfl Y2.out; have d3 := hSw _ _ rfl Y3.out; have d4 := hSw _ _ rfl Y4.out; have d5 := hSw _ _ rfl Y5.out; clear hSw; go_simp; try with_reducible rfl
    try simp only [Act.put, List.setIfInBounds_toArray, List.set_cons_zero, List.set_cons_succ]
    refine wpAnyH_take (i := 24) (v := ?va_24) rfl (by kernel_rfl) (by kernel_rfl) (by kernel_rfl) (fun _ _ _ h => h) (Or.inl ⟨by rfl, ?ya_24⟩) (by assumption) ?_
    case ya_24 => intro w hSw; have d0 := hSw _ _ rfl Y0.out; have d2 := hSw _ _ rfl Y2.out; have d3 := hSw _ _ rfl Y3.out; have d4 := hSw _ _ rfl Y4.out; have d5 := hSw _ _ rfl Y5.out; clear hSw; go_simp; try with_reducible rfl
    try simp only [Act.put, List.setIfInBounds_toArray, List.set_cons_zero, List.set_cons_succ]
    refine wpAnyH_ready (rs := [25]) (by kernel_rfl) (by simp) ?_
    refine AllReadyH.cons (by simp only [List.getElem?_toArray, List.getElem?_cons_succ, List.getElem?_cons_zero]; rfl) (fun K hK => ?_) AllReadyH.nil
    go_simp
    refine hK.out _ _ (hHeld.below (below_alloc (below_refl _) _)) (fun hHeld => ?_)
    clear hK K
    try simp only [Act.put, List.setIfInBounds_toArray, List.set_cons_zero, List.set_cons_succ]
    refine wpAnyH_ready (rs := [26]) (by kernel_rfl) (by simp) ?_
    refine AllReadyH.cons (by simp only [List.getElem?_toArray, List.getElem?_cons_succ, List.getElem?_cons_zero]; rfl) (fun K hK => ?_) AllReadyH.nil
    go_simp
    refine hK.out _ _ ((KeepS.refl _ w1).below (below_alloc (below_refl _) _)).drew (fun hHeld => ?_)
    clear hK K
    refine wpAnyH_done (by kernel_rfl) ?_ _
    go_wp2_with fail
    go_meet
    exact ⟨rfl, heap_alloc_new w1 _, (below_alloc (below_refl w1) _).drew⟩
  case rest =>
    obtain ⟨rfl, m0, hb0⟩ := hcut
    have hpw : w.heap.size < w1.heap.size := by have := HB1.out.size; simp at this; omega
    have hgp : g ≠ w1.heap.size := by omega
    have hgl := hlt.2
    have HR0 := hid (show 8 ≤ 8 + 4 * (X5 % 64) ∧ 8 + 4 * (X5 % 64) ≤ 260 by have := HZ5.out; omega)
    generalize hA0 : X0 % 16 = A0 at *
    have HA0 := hid hA0
    clear hA0
    generalize hA2 : X2 % 4 = A2 at *
    have HA2 := hid hA2
    clear hA2
    generalize hA3 : 64 * (X3 % 64) = A3 at *
    have HA3 := hid hA3
    clear hA3
    generalize hA4 : 1 + X4 % 4 = A4 at *
    have HA4 := hid hA4
    clear hA4
    generalize hR : 8 + 4 * (X5 % 64) = R at *
    have HR := hid hR
    clear hR
    generalize hp : w1.heap.size = p at *
    have HPE := hid hp
    clear hp
    go_upto_region 3 with fail
    have q1 := cell_of_row wc p 1 _ _ (0, 0) m0
    have qf1 := frozen_of_row wc p 1 _ _ m0
    have q0 := cell_of_row wc p 0 _ _ (0, 0) m0
    have yy1 : wc.cell? ⟨g, 1, none⟩ = some (.int .i64 X1) := (World.cell?_of_block (hb0.block g (by omega))).trans Y1.out
    have M0 := hid m0
    have HB0 := hid hb0
    have z1 := HZ1.out
    have a0 : ∀ i : Aft wc, i.W.cell? ⟨p, 0, none⟩ = some (.int .i64 A0) := fun i => cell_below i.below q0
    have a1 : ∀ i : Aft wc, i.W.cell? ⟨g, 1, none⟩ = some (.int .i64 X1) := fun i => cell_below i.below yy1
    clear m0 hb0
    go_cut [] (fun wx => wx.heap[p]? = some (.cells #[.int .i64 A0, .int .i64 (if A0 < X1 % 16 then X1 % 16 else A0), .int .i64 A2, .int .i64 A3, .int .i64 A4, .int .i64 R, .int .i64 0, .int .i64 0] 42) ∧ Below p w1 wx)
    case first =>
      refine wp_region_aft_tail (n := 8) (by simp only [List.take_succ_cons, List.take_zero]; rfl) (by simp only [List.drop_succ_cons, List.drop_zero]; rfl) (by kernel_rfl) (by kernel_rfl) (by kernel_rfl) (by kernel_rfl) (by kernel_rfl) ?_
      repeat (go_big_quiet_step (fail))
      refine wpQuiet_nil ?_
      intro _ hw'
      obtain ⟨iq, hw''⟩ := hw'
      subst hw''
      have t1 := cell_below iq.below q1
      have t2 := frozen_below iq.below q1 qf1
      have HST := hid (row_set (i := 1) (u := .int .i64 ((if A0 < X1 % 16 then X1 % 16 else A0))) M0.out iq.below)
      have HBT := hid ((HB0.out.trans (iq.below.mono (by have := (Array.getElem?_eq_some_iff.1 M0.out).1; omega))).setCell (p := ⟨p, 1, none⟩) (Nat.le_refl p) (.int .i64 ((if A0 < X1 % 16 then X1 % 16 else A0))))
      clear a0 a1
      generalize (if A0 < X1 % 16 then X1 % 16 else A0) = Q1 at *
      go_wp2_with fail
      go_meet
      exact ⟨HST.out, HBT.out⟩
    case rest =>
    obtain ⟨m0, hb0⟩ := hcut
    clear a0 a1 q1 qf1 q0 yy1 M0 HB0 z1
    generalize hQ1 : (if A0 < X1 % 16 then X1 % 16 else A0) = Q1 at *
    have HQ1 := hid hQ1
    clear hQ1
    go_upto_region 4 with fail
    have q6 := cell_of_row wc p 6 _ _ (0, 0) m0
    have qf6 := frozen_of_row wc p 6 _ _ m0
    have q5 := cell_of_row wc p 5 _ _ (0, 0) m0
    have yy6 : wc.cell? ⟨g, 6, none⟩ = some (.int .i64 X6) := (World.cell?_of_block (hb0.block g (by omega))).trans Y6.out
    have M0 := hid m0
    have HB0 := hid hb0
    have z6 := HZ6.out
    have r0 := HR0.out
    have a0 : ∀ i : Aft wc, i.W.cell? ⟨p, 5, none⟩ = some (.int .i64 R) := fun i => cell_below i.below q5
    have a1 : ∀ i : Aft wc, i.W.cell? ⟨g, 6, none⟩ = some (.int .i64 X6) := fun i => cell_below i.below yy6
    clear m0 hb0
    go_cut [] (fun wx => wx.heap[p]? = some (.cells #[.int .i64 A0, .int .i64 Q1, .int .i64 A2, .int .i64 A3, .int .i64 A4, .int .i64 R, .int .i64 (R + 16 * (X6 % 64)), .int .i64 0] 42) ∧ Below p w1 wx)
    case first =>
      refine wp_region_aft_tail (n := 9) (by simp only [List.take_succ_cons, List.take_zero]; rfl) (by simp only [List.drop_succ_cons, List.drop_zero]; rfl) (by kernel_rfl) (by kernel_rfl) (by kernel_rfl) (by kernel_rfl) (by kernel_rfl) ?_
      repeat (go_big_quiet_step (fail))
      refine wpQuiet_nil ?_
      intro _ hw'
      obtain ⟨iq, hw''⟩ := hw'
      subst hw''
      have t1 := cell_below iq.below q6
      have t2 := frozen_below iq.below q6 qf6
      have HST := hid (row_set (i := 6) (u := .int .i64 ((R + 16 * (X6 % 64)))) M0.out iq.below)
      have HBT := hid ((HB0.out.trans (iq.below.mono (by have := (Array.getElem?_eq_some_iff.1 M0.out).1; omega))).setCell (p := ⟨p, 6, none⟩) (Nat.le_refl p) (.int .i64 ((R + 16 * (X6 % 64)))))
      clear a0 a1

      go_wp2_with fail
      go_meet
      exact ⟨HST.out, HBT.out⟩
    case rest =>
    obtain ⟨m0, hb0⟩ := hcut
    clear a0 a1 q6 qf6 q5 yy6 M0 HB0 z6
    have HM0 := hid (show 8 ≤ R + 16 * (X6 % 64) ∧ R + 16 * (X6 % 64) ≤ 1268 by have h1 := HZ6.out; have h2 := HR0.out; omega)
    clear r0
    generalize hM : R + 16 * (X6 % 64) = M at *
    have HM := hid hM
    clear hM
    go_upto_region 5 with fail
    have q7 := cell_of_row wc p 7 _ _ (0, 0) m0
    have qf7 := frozen_of_row wc p 7 _ _ m0
    have q6 := cell_of_row wc p 6 _ _ (0, 0) m0
    have yy6 : wc.cell? ⟨g, 6, none⟩ = some (.int .i64 X6) := (World.cell?_of_block (hb0.block g (by omega))).trans Y6.out
    have M0 := hid m0
    have HB0 := hid hb0
    have z6 := HZ6.out
    have a0 : ∀ i : Aft wc, i.W.cell? ⟨p, 6, none⟩ = some (.int .i64 M) := fun i => cell_below i.below q6
    have a1 : ∀ i : Aft wc, i.W.cell? ⟨g, 6, none⟩ = some (.int .i64 X6) := fun i => cell_below i.below yy6
    clear m0 hb0
    go_cut [] (fun wx => wx.heap[p]? = some (.cells #[.int .i64 A0, .int .i64 Q1, .int .i64 A2, .int .i64 A3, .int .i64 A4, .int .i64 R, .int .i64 M, .int .i64 (if M < 8 + X6 % 8 then M else 8 + X6 % 8)] 42) ∧ Below p w1 wx)
    case first =>
      refine wp_region_aft_tail (n := 9) (by simp only [List.take_succ_cons, List.take_zero]; rfl) (by simp only [List.drop_succ_cons, List.drop_zero]; rfl) (by kernel_rfl) (by kernel_rfl) (by kernel_rfl) (by kernel_rfl) (by kernel_rfl) ?_
      repeat (go_big_quiet_step (fail))
      refine wpQuiet_nil ?_
      intro _ hw'
      obtain ⟨iq, hw''⟩ := hw'
      subst hw''
      have t1 := cell_below iq.below q7
      have t2 := frozen_below iq.below q7 qf7
      have HST := hid (row_set (i := 7) (u := .int .i64 ((if M < 8 + X6 % 8 then M else 8 + X6 % 8))) M0.out iq.below)
      have HBT := hid ((HB0.out.trans (iq.below.mono (by have := (Array.getElem?_eq_some_iff.1 M0.out).1; omega))).setCell (p := ⟨p, 7, none⟩) (Nat.le_refl p) (.int .i64 ((if M < 8 + X6 % 8 then M else 8 + X6 % 8))))
      clear a0 a1
      generalize (if M < 8 + X6 % 8 then M else 8 + X6 % 8) = Q2 at *
      go_wp2_with fail
      go_meet
      exact ⟨HST.out, HBT.out⟩
    case rest =>
    obtain ⟨m0, hb0⟩ := hcut
    clear a0 a1 q7 qf7 q6 yy6 M0 HB0 z6
    generalize hQ2 : (if M < 8 + X6 % 8 then M else 8 + X6 % 8) = Q2 at *
    have HQ2 := hid hQ2
    clear hQ2
    go_upto_region 6 with fail
    generalize wc = W5 at *
    have q0 : W5.cell? ⟨p, 0, none⟩ = some (.int .i64 A0) := cell_of_row W5 p 0 _ _ (0, 0) m0
    have q1 : W5.cell? ⟨p, 1, none⟩ = some (.int .i64 Q1) := cell_of_row W5 p 1 _ _ (0, 0) m0
    have q2 : W5.cell? ⟨p, 2, none⟩ = some (.int .i64 A2) := cell_of_row W5 p 2 _ _ (0, 0) m0
    have q3 : W5.cell? ⟨p, 3, none⟩ = some (.int .i64 A3) := cell_of_row W5 p 3 _ _ (0, 0) m0
    have q4 : W5.cell? ⟨p, 4, none⟩ = some (.int .i64 A4) := cell_of_row W5 p 4 _ _ (0, 0) m0
    have q5 : W5.cell? ⟨p, 5, none⟩ = some (.int .i64 R) := cell_of_row W5 p 5 _ _ (0, 0) m0
    have q6 : W5.cell? ⟨p, 6, none⟩ = some (.int .i64 M) := cell_of_row W5 p 6 _ _ (0, 0) m0
    have q7 : W5.cell? ⟨p, 7, none⟩ = some (.int .i64 Q2) := cell_of_row W5 p 7 _ _ (0, 0) m0
    have HDR := hid (show W5.heap[w.heap.size]? = some (.cells #[.int .i64 0, .int .i64 0, .int .i64 0, .int .i64 0, .int .i64 0, .int .i64 0, .int .i64 0, .int .i64 0] 42) from (hb0.block w.heap.size (by omega)).trans HD.out)
    have yy7 : W5.cell? ⟨g, 7, none⟩ = some (.int .i64 X7) := (World.cell?_of_block (hb0.block g (by omega))).trans Y7.out
    have HB0 := hid hb0
    have z7 := HZ7.out
    clear m0 hb0
    have v1 : IntKind.i64.wrap (4096 * (X7 % 16)) = 4096 * (X7 % 16) := by rw [IntKind.wrap_i64]; omega
    have v2 : X7.tmod 16 = X7 % 16 := Int.tmod_eq_emod_of_nonneg z7.1
    have v3 : X7.tdiv 16 = X7 / 16 := Int.tdiv_eq_ediv_of_nonneg z7.1
    have v4 : IntKind.i64.wrap (1 + X7 / 16) = 1 + X7 / 16 := by rw [IntKind.wrap_i64]; omega
    have v5 : IntKind.i64.wrap (X7 / 16) = X7 / 16 := by rw [IntKind.wrap_i64]; omega
    refine wp_region_keep (fun q => q = p ∨ q = g) 16 (by kernel_rfl) (by kernel_rfl) (fun hHeld => ?_)
    have hn : ¬ (w.heap.size = p ∨ w.heap.size = g) := by omega
    refine wpAnyH_take (i := 0) (v := ?vc_0) rfl (by kernel_rfl) (by kernel_rfl) (by kernel_rfl) (fun _ _ _ h => h) (Or.inl ⟨by rfl, ?yc_0⟩) (by assumption) ?_
    case yc_0 => intro w hSw; have c0 := hSw _ _ (.inl rfl) q0; have c1 := hSw _ _ (.inl rfl) q1; have c2 := hSw _ _ (.inl rfl) q2; have c3 := hSw _ _ (.inl rfl) q3; have c4 := hSw _ _ (.inl rfl) q4; have c5 := hSw _ _ (.inl rfl) q5; have c6 := hSw _ _ (.inl rfl) q6; have c7 := hSw _ _ (.inl rfl) q7; have d7 := hSw _ _ (.inr rfl) yy7; clear hSw; go_simp; try with_reducible rfl
    try simp only [Act.put, List.setIfInBounds_toArray, List.set_cons_zero, List.set_cons_succ]
    refine wpAnyH_take (i := 1) (v := ?vc_1) rfl (by kernel_rfl) (by kernel_rfl) (by kernel_rfl) (fun _ _ _ h => h) (Or.inl ⟨by rfl, ?yc_1⟩) (by assumption) ?_
    case yc_1 => intro w hSw; have c0 := hSw _ _ (.inl rfl) q0; have c1 := hSw _ _ (.inl rfl) q1; have c2 := hSw _ _ (.inl rfl) q2; have c3 := hSw _ _ (.inl rfl) q3; have c4 := hSw _ _ (.inl rfl) q4; have c5 := hSw _ _ (.inl rfl) q5; have c6 := hSw _ _ (.inl rfl) q6; have c7 := hSw _ _ (.inl rfl) q7; have d7 := hSw _ _ (.inr rfl) yy7; clear hSw; go_simp; try with_reducible rfl
    try simp only [Act.put, List.setIfInBounds_toArray, List.set_cons_zero, List.set_cons_succ]
    refine wpAnyH_take (i := 2) (v := ?vc_2) rfl (by kernel_rfl) (by kernel_rfl) (by kernel_rfl) (fun _ _ _ h => h) (Or.inl ⟨by rfl, ?yc_2⟩) (by assumption) ?_
    case yc_2 => intro w hSw; have c0 := hSw _ _ (.inl rfl) q0; have c1 := hSw _ _ (.inl rfl) q1; have c2 := hSw _ _ (.inl rfl) q2; have c3 := hSw _ _ (.inl rfl) q3; have c4 := hSw _ _ (.inl rfl) q4; have c5 := hSw _ _ (.inl rfl) q5; have c6 := hSw _ _ (.inl rfl) q6; have c7 := hSw _ _ (.inl rfl) q7; have d7 := hSw _ _ (.inr rfl) yy7; clear hSw; go_simp; try with_reducible rfl
    try simp only [Act.put, List.setIfInBounds_toArray, List.set_cons_zero, List.set_cons_succ]
    refine wpAnyH_take (i := 3) (v := ?vc_3) rfl (by kernel_rfl) (by kernel_rfl) (by kernel_rfl) (fun _ _ _ h => h) (Or.inl ⟨by rfl, ?yc_3⟩) (by assumption) ?_
    case yc_3 => intro w hSw; have c0 := hSw _ _ (.inl rfl) q0; have c1 := hSw _ _ (.inl rfl) q1; have c2 := hSw _ _ (.inl rfl) q2; have c3 := hSw _ _ (.inl rfl) q3; have c4 := hSw _ _ (.inl rfl) q4; have c5 := hSw _ _ (.inl rfl) q5; have c6 := hSw _ _ (.inl rfl) q6; have c7 := hSw _ _ (.inl rfl) q7; have d7 := hSw _ _ (.inr rfl) yy7; clear hSw; go_simp; try with_reducible rfl
    try simp only [Act.put, List.setIfInBounds_toArray, List.set_cons_zero, List.set_cons_succ]
    refine wpAnyH_take (i := 4) (v := ?vc_4) rfl (by kernel_rfl) (by kernel_rfl) (by kernel_rfl) (fun _ _ _ h => h) (Or.inl ⟨by rfl, ?yc_4⟩) (by assumption) ?_
    case yc_4 => intro w hSw; have c0 := hSw _ _ (.inl rfl) q0; have c1 := hSw _ _ (.inl rfl) q1; have c2 := hSw _ _ (.inl rfl) q2; have c3 := hSw _ _ (.inl rfl) q3; have c4 := hSw _ _ (.inl rfl) q4; have c5 := hSw _ _ (.inl rfl) q5; have c6 := hSw _ _ (.inl rfl) q6; have c7 := hSw _ _ (.inl rfl) q7; have d7 := hSw _ _ (.inr rfl) yy7; clear hSw; go_simp; try with_reducible rfl
    try simp only [Act.put, List.setIfInBounds_toArray, List.set_cons_zero, List.set_cons_succ]
    refine wpAnyH_take (i := 5) (v := ?vc_5) rfl (by kernel_rfl) (by kernel_rfl) (by kernel_rfl) (fun _ _ _ h => h) (Or.inl ⟨by rfl, ?yc_5⟩) (by assumption) ?_
    case yc_5 => intro w hSw; have c0 := hSw _ _ (.inl rfl) q0; have c1 := hSw _ _ (.inl rfl) q1; have c2 := hSw _ _ (.inl rfl) q2; have c3 := hSw _ _ (.inl rfl) q3; have c4 := hSw _ _ (.inl rfl) q4; have c5 := hSw _ _ (.inl rfl) q5; have c6 := hSw _ _ (.inl rfl) q6; have c7 := hSw _ _ (.inl rfl) q7; have d7 := hSw _ _ (.inr rfl) yy7; clear hSw; go_simp; try with_reducible rfl
    try simp only [Act.put, List.setIfInBounds_toArray, List.set_cons_zero, List.set_cons_succ]
    refine wpAnyH_take (i := 6) (v := ?vc_6) rfl (by kernel_rfl) (by kernel_rfl) (by kernel_rfl) (fun _ _ _ h => h) (Or.inl ⟨by rfl, ?yc_6⟩) (by assumption) ?_
    case yc_6 => intro w hSw; have c0 := hSw _ _ (.inl rfl) q0; have c1 := hSw _ _ (.inl rfl) q1; have c2 := hSw _ _ (.inl rfl) q2; have c3 := hSw _ _ (.inl rfl) q3; have c4 := hSw _ _ (.inl rfl) q4; have c5 := hSw _ _ (.inl rfl) q5; have c6 := hSw _ _ (.inl rfl) q6; have c7 := hSw _ _ (.inl rfl) q7; have d7 := hSw _ _ (.inr rfl) yy7; clear hSw; go_simp; try with_reducible rfl
    try simp only [Act.put, List.setIfInBounds_toArray, List.set_cons_zero, List.set_cons_succ]
    refine wpAnyH_take (i := 7) (v := ?vc_7) rfl (by kernel_rfl) (by kernel_rfl) (by kernel_rfl) (fun _ _ _ h => h) (Or.inl ⟨by rfl, ?yc_7⟩) (by assumption) ?_
    case yc_7 => intro w hSw; have c0 := hSw _ _ (.inl rfl) q0; have c1 := hSw _ _ (.inl rfl) q1; have c2 := hSw _ _ (.inl rfl) q2; have c3 := hSw _ _ (.inl rfl) q3; have c4 := hSw _ _ (.inl rfl) q4; have c5 := hSw _ _ (.inl rfl) q5; have c6 := hSw _ _ (.inl rfl) q6; have c7 := hSw _ _ (.inl rfl) q7; have d7 := hSw _ _ (.inr rfl) yy7; clear hSw; go_simp; try with_reducible rfl
    try simp only [Act.put, List.setIfInBounds_toArray, List.set_cons_zero, List.set_cons_succ]
    refine wpAnyH_take (i := 8) (v := ?vc_8) rfl (by kernel_rfl) (by kernel_rfl) (by kernel_rfl) (fun _ _ _ h => h) (Or.inl ⟨by rfl, ?yc_8⟩) (by assumption) ?_
    case yc_8 => intro w hSw; have c0 := hSw _ _ (.inl rfl) q0; have c1 := hSw _ _ (.inl rfl) q1; have c2 := hSw _ _ (.inl rfl) q2; have c3 := hSw _ _ (.inl rfl) q3; have c4 := hSw _ _ (.inl rfl) q4; have c5 := hSw _ _ (.inl rfl) q5; have c6 := hSw _ _ (.inl rfl) q6; have c7 := hSw _ _ (.inl rfl) q7; have d7 := hSw _ _ (.inr rfl) yy7; clear hSw; go_simp; try with_reducible rfl
    try simp only [Act.put, List.setIfInBounds_toArray, List.set_cons_zero, List.set_cons_succ]
    refine wpAnyH_take (i := 9) (v := ?vc_9) rfl (by kernel_rfl) (by kernel_rfl) (by kernel_rfl) (fun _ _ _ h => h) (Or.inl ⟨by rfl, ?yc_9⟩) (by assumption) ?_
    case yc_9 => intro w hSw; have c0 := hSw _ _ (.inl rfl) q0; have c1 := hSw _ _ (.inl rfl) q1; have c2 := hSw _ _ (.inl rfl) q2; have c3 := hSw _ _ (.inl rfl) q3; have c4 := hSw _ _ (.inl rfl) q4; have c5 := hSw _ _ (.inl rfl) q5; have c6 := hSw _ _ (.inl rfl) q6; have c7 := hSw _ _ (.inl rfl) q7; have d7 := hSw _ _ (.inr rfl) yy7; clear hSw; go_simp; try with_reducible rfl
    try simp only [Act.put, List.setIfInBounds_toArray, List.set_cons_zero, List.set_cons_succ]
    refine wpAnyH_take (i := 10) (v := ?vc_10) rfl (by kernel_rfl) (by kernel_rfl) (by kernel_rfl) (fun _ _ _ h => h) (Or.inl ⟨by rfl, ?yc_10⟩) (by assumption) ?_
    case yc_10 => intro w hSw; have c0 := hSw _ _ (.inl rfl) q0; have c1 := hSw _ _ (.inl rfl) q1; have c2 := hSw _ _ (.inl rfl) q2; have c3 := hSw _ _ (.inl rfl) q3; have c4 := hSw _ _ (.inl rfl) q4; have c5 := hSw _ _ (.inl rfl) q5; have c6 := hSw _ _ (.inl rfl) q6; have c7 := hSw _ _ (.inl rfl) q7; have d7 := hSw _ _ (.inr rfl) yy7; clear hSw; go_simp; try with_reducible rfl
    try simp only [Act.put, List.setIfInBounds_toArray, List.set_cons_zero, List.set_cons_succ]
    refine wpAnyH_take (i := 11) (v := ?vc_11) rfl (by kernel_rfl) (by kernel_rfl) (by kernel_rfl) (fun _ _ _ h => h) (Or.inl ⟨by rfl, ?yc_11⟩) (by assumption) ?_
    case yc_11 => intro w hSw; have c0 := hSw _ _ (.inl rfl) q0; have c1 := hSw _ _ (.inl rfl) q1; have c2 := hSw _ _ (.inl rfl) q2; have c3 := hSw _ _ (.inl rfl) q3; have c4 := hSw _ _ (.inl rfl) q4; have c5 := hSw _ _ (.inl rfl) q5; have c6 := hSw _ _ (.inl rfl) q6; have c7 := hSw _ _ (.inl rfl) q7; have d7 := hSw _ _ (.inr rfl) yy7; clear hSw; go_simp; try with_reducible rfl
    try simp only [Act.put, List.setIfInBounds_toArray, List.set_cons_zero, List.set_cons_succ]
    have e0 : W5.cell? ⟨w.heap.size, 0, none⟩ = some (.int .i64 0) := cell_of_row W5 w.heap.size 0 _ _ (0, 0) HDR.out
    have ef0 := frozen_of_row W5 w.heap.size 0 _ _ HDR.out
    have e1 : W5.cell? ⟨w.heap.size, 1, none⟩ = some (.int .i64 0) := cell_of_row W5 w.heap.size 1 _ _ (0, 0) HDR.out
    have ef1 := frozen_of_row W5 w.heap.size 1 _ _ HDR.out
    have e2 : W5.cell? ⟨w.heap.size, 2, none⟩ = some (.int .i64 0) := cell_of_row W5 w.heap.size 2 _ _ (0, 0) HDR.out
    have ef2 := frozen_of_row W5 w.heap.size 2 _ _ HDR.out
    have e3 : W5.cell? ⟨w.heap.size, 3, none⟩ = some (.int .i64 0) := cell_of_row W5 w.heap.size 3 _ _ (0, 0) HDR.out
    have ef3 := frozen_of_row W5 w.heap.size 3 _ _ HDR.out
    have e4 : W5.cell? ⟨w.heap.size, 4, none⟩ = some (.int .i64 0) := cell_of_row W5 w.heap.size 4 _ _ (0, 0) HDR.out
    have ef4 := frozen_of_row W5 w.heap.size 4 _ _ HDR.out
    have e5 : W5.cell? ⟨w.heap.size, 5, none⟩ = some (.int .i64 0) := cell_of_row W5 w.heap.size 5 _ _ (0, 0) HDR.out
    have ef5 := frozen_of_row W5 w.heap.size 5 _ _ HDR.out
    have e6 : W5.cell? ⟨w.heap.size, 6, none⟩ = some (.int .i64 0) := cell_of_row W5 w.heap.size 6 _ _ (0, 0) HDR.out
    have ef6 := frozen_of_row W5 w.heap.size 6 _ _ HDR.out
    have e7 : W5.cell? ⟨w.heap.size, 7, none⟩ = some (.int .i64 0) := cell_of_row W5 w.heap.size 7 _ _ (0, 0) HDR.out
    have ef7 := frozen_of_row W5 w.heap.size 7 _ _ HDR.out
    clear q0 q1 q2 q3 q4 q5 q6 q7 yy7
    refine wpAnyH_ready (rs := [12]) (by kernel_rfl) (by simp) ?_
    refine AllReadyH.cons (by simp only [List.getElem?_toArray, List.getElem?_cons_succ, List.getElem?_cons_zero]; rfl) (fun K hK => ?_) AllReadyH.nil
    have HHL := hid hHeld
    clear hHeld
    go_simp
    refine hK.out _ _ ?_ (fun hHeld => ?_)
    · exact (((((((((KeepS.refl _ W5).setCell (p := ⟨w.heap.size, 0, none⟩) hn (.int .i64 A0)).setCell (p := ⟨w.heap.size, 1, none⟩) hn (.int .i64 Q1)).setCell (p := ⟨w.heap.size, 2, none⟩) hn (.int .i64 A2)).setCell (p := ⟨w.heap.size, 3, none⟩) hn (.int .i64 A3)).setCell (p := ⟨w.heap.size, 4, none⟩) hn (.int .i64 A4)).setCell (p := ⟨w.heap.size, 5, none⟩) hn (.int .i64 R)).setCell (p := ⟨w.heap.size, 6, none⟩) hn (.int .i64 M)).setCell (p := ⟨w.heap.size, 7, none⟩) hn (.int .i64 Q2)).drew
    clear hK K
    have hS := set8 (u0 := .int .i64 A0) (u1 := .int .i64 Q1) (u2 := .int .i64 A2) (u3 := .int .i64 A3) (u4 := .int .i64 A4) (u5 := .int .i64 R) (u6 := .int .i64 M) (u7 := .int .i64 Q2) HDR.out
    have hB := (((((((((HB0.out.mono (Nat.le_of_lt hpw)).setCell (p := ⟨w.heap.size, 0, none⟩) (Nat.le_refl _) (.int .i64 A0)).setCell (p := ⟨w.heap.size, 1, none⟩) (Nat.le_refl _) (.int .i64 Q1)).setCell (p := ⟨w.heap.size, 2, none⟩) (Nat.le_refl _) (.int .i64 A2)).setCell (p := ⟨w.heap.size, 3, none⟩) (Nat.le_refl _) (.int .i64 A3)).setCell (p := ⟨w.heap.size, 4, none⟩) (Nat.le_refl _) (.int .i64 A4)).setCell (p := ⟨w.heap.size, 5, none⟩) (Nat.le_refl _) (.int .i64 R)).setCell (p := ⟨w.heap.size, 6, none⟩) (Nat.le_refl _) (.int .i64 M)).setCell (p := ⟨w.heap.size, 7, none⟩) (Nat.le_refl _) (.int .i64 Q2)).drew
    have HR6 := hid ((((((((((Frm.refl (· = w.heap.size) W5).setCell (p := ⟨w.heap.size, 0, none⟩) (fun _ => rfl) (.int .i64 A0)).setCell (p := ⟨w.heap.size, 1, none⟩) (fun _ => rfl) (.int .i64 Q1)).setCell (p := ⟨w.heap.size, 2, none⟩) (fun _ => rfl) (.int .i64 A2)).setCell (p := ⟨w.heap.size, 3, none⟩) (fun _ => rfl) (.int .i64 A3)).setCell (p := ⟨w.heap.size, 4, none⟩) (fun _ => rfl) (.int .i64 A4)).setCell (p := ⟨w.heap.size, 5, none⟩) (fun _ => rfl) (.int .i64 R)).setCell (p := ⟨w.heap.size, 6, none⟩) (fun _ => rfl) (.int .i64 M)).setCell (p := ⟨w.heap.size, 7, none⟩) (fun _ => rfl) (.int .i64 Q2)).drew)
    generalize ((((((((W5.setCell ⟨w.heap.size, 0, none⟩ (.int .i64 A0)).setCell ⟨w.heap.size, 1, none⟩ (.int .i64 Q1)).setCell ⟨w.heap.size, 2, none⟩ (.int .i64 A2)).setCell ⟨w.heap.size, 3, none⟩ (.int .i64 A3)).setCell ⟨w.heap.size, 4, none⟩ (.int .i64 A4)).setCell ⟨w.heap.size, 5, none⟩ (.int .i64 R)).setCell ⟨w.heap.size, 6, none⟩ (.int .i64 M)).setCell ⟨w.heap.size, 7, none⟩ (.int .i64 Q2)) = W6 at hS hB HR6 hHeld ⊢
    have HS := hid hS
    have HB6 := hid hB
    clear hS hB
    try simp only [Act.put, List.setIfInBounds_toArray, List.set_cons_zero, List.set_cons_succ]
    refine wpAnyH_ready (rs := [13]) (by kernel_rfl) (by simp) ?_
    refine AllReadyH.cons (by simp only [List.getElem?_toArray, List.getElem?_cons_succ, List.getElem?_cons_zero]; rfl) (fun K hK => ?_) AllReadyH.nil
    have HHL := hid hHeld
    clear hHeld
    go_simp
    refine hK.out _ _ HHL.out (fun hHeld => ?_)
    clear hK K
    try simp only [Act.put, List.setIfInBounds_toArray, List.set_cons_zero, List.set_cons_succ]
    refine wpAnyH_ready (rs := [14]) (by kernel_rfl) (by simp) ?_
    refine AllReadyH.cons (by simp only [List.getElem?_toArray, List.getElem?_cons_succ, List.getElem?_cons_zero]; rfl) (fun K hK => ?_) AllReadyH.nil
    have HHL := hid hHeld
    clear hHeld
    go_simp
    refine hK.out _ _ HHL.out (fun hHeld => ?_)
    clear hK K
    try simp only [Act.put, List.setIfInBounds_toArray, List.set_cons_zero, List.set_cons_succ]
    refine wpAnyH_ready (rs := [15]) (by kernel_rfl) (by simp) ?_
    refine AllReadyH.cons (by simp only [List.getElem?_toArray, List.getElem?_cons_succ, List.getElem?_cons_zero]; rfl) (fun K hK => ?_) AllReadyH.nil
    have HHL := hid hHeld
    clear hHeld
    go_simp
    refine hK.out _ _ HHL.out (fun hHeld => ?_)
    clear hK K
    try simp only [Act.put, List.setIfInBounds_toArray, List.set_cons_zero, List.set_cons_succ]
    refine wpAnyH_done (by kernel_rfl) ?_ _
    go_wp2_with fail
    have hS := HS.out
    have e0 : W6.cell? ⟨w.heap.size, 0, none⟩ = some (.int .i64 A0) := cell_of_row W6 w.heap.size 0 _ _ (0, 0) hS
    have e1 : W6.cell? ⟨w.heap.size, 1, none⟩ = some (.int .i64 Q1) := cell_of_row W6 w.heap.size 1 _ _ (0, 0) hS
    have e2 : W6.cell? ⟨w.heap.size, 2, none⟩ = some (.int .i64 A2) := cell_of_row W6 w.heap.size 2 _ _ (0, 0) hS
    have e3 : W6.cell? ⟨w.heap.size, 3, none⟩ = some (.int .i64 A3) := cell_of_row W6 w.heap.size 3 _ _ (0, 0) hS
    have e4 : W6.cell? ⟨w.heap.size, 4, none⟩ = some (.int .i64 A4) := cell_of_row W6 w.heap.size 4 _ _ (0, 0) hS
    have e5 : W6.cell? ⟨w.heap.size, 5, none⟩ = some (.int .i64 R) := cell_of_row W6 w.heap.size 5 _ _ (0, 0) hS
    have e6 : W6.cell? ⟨w.heap.size, 6, none⟩ = some (.int .i64 M) := cell_of_row W6 w.heap.size 6 _ _ (0, 0) hS
    have e7 : W6.cell? ⟨w.heap.size, 7, none⟩ = some (.int .i64 Q2) := cell_of_row W6 w.heap.size 7 _ _ (0, 0) hS
    refine bodyPost_ret ((results_cell4 rfl _ _ _).trans (by go_simp; rfl)) rfl ?_
    rw [HRET.out]
    have hq1 : max A0 (X1 % 16) = Q1 := by rw [← HQ1.out]; split <;> omega
    have hq2 : min (8 + X6 % 8) M = Q2 := by rw [← HQ2.out]; split <;> omega
    refine ⟨r, ?_, ?_, HB2.out.trans HB6.out⟩
    · rw [HC.out, hq1, hq2]; rfl
    · have h1 := (HOR.out)
      have hf : Frm (fun q => q = w.heap.size) w1 W6.drew := (Frm.of_below (by rw [HPE.out]; exact HB0.out)).trans HR6.out
      refine own_base (hf.own h1 (fun q hq e => ?_)) (by simp)
      have := (h1.lt q hq).1
      simp at this
      omega
end Go.Proofs
