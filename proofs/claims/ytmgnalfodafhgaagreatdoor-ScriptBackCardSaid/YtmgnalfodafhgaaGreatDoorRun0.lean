import Derived.Test.YtmgnalfodafhgaaGreatDoorTell0
set_option linter.unusedVariables false
set_option linter.unusedSimpArgs false
namespace Go.Proofs
open Go.RowKit Go.Kin Go.Shelf
theorem acts_nil (v : Value) (w : World) (hs : SlI .u8 w v []) : Calls Tryz.prog 16 #[v] w fun e w' => e = .returned (.slice none 0 0) ∧ w = w' := by
  obtain ⟨A, c, rfl, hm, hc⟩ := hs.open
  go_enter Tryz.func16, Tryz.ntmps16
  go_wp2_with fail
  go_loopg [3, 4] 0 (fun _ s3 s4 wr => s3 = .slice none 0 0 ∧ s4 = .int .i64 0 ∧ wr = w)
  case atStart => exact ⟨rfl, rfl, rfl⟩
  case round =>
    obtain ⟨rfl, rfl, rfl⟩ := hrel
    go_wp2_with fail
    go_ret
    exact ⟨rfl, rfl⟩
theorem enc0_len : (encB (picsOf [])).length ≤ 1000000 := by
  have hok := picsOf_ok []
  have h := frames_len (picsOf []) (fun f hf => (hok.ok f hf).1)
  have hl : (picsOf []).length = 1 := rfl
  unfold encB
  rw [List.length_append, List.length_map, pack_length]
  rw [hl] at h
  simp only [List.length_cons, List.length_nil]
  omega
set_option maxRecDepth 100000 in
set_option maxHeartbeats 4000000 in
theorem run_nil (w : World) : Calls Tryz.prog 19 #[.slice none 0 0] w (StrRet ⟨#[115, 116, 97, 116, 101, 32, 48, 10, 111, 117, 116, 32, 110, 111, 110, 101, 10]⟩ w) := by
  have h0 : ∀ W : World, SlB .u8 W (.slice none 0 0) [] := fun W => ⟨SlI.nil _ _, fun A n c hv => by injection hv; omega⟩
  have HO := hid (fun W => opts_any [] (.slice none 0 0) W (h0 W) (by simp) (by simp))
  have hcm : (optsC []).may = true := by decide
  have hcv : optsC [] = ⟨0, 0, 0, 0, 1, 8, 8, 8⟩ := by decide
  have HCV := hid (show (optsC []).val = .agg #[.int .i64 0, .int .i64 0, .int .i64 0, .int .i64 0, .int .i64 1, .int .i64 8, .int .i64 8, .int .i64 8] by rw [hcv]; rfl)
  have HTL := hid (fun sv W (h : SlI .u8 W sv (picB [])) => tell_nil (optsC []) sv (picB []) 0 1 W hcm h enc0_len (by omega) (by omega))
  rw [HCV.out] at HTL
  have HPC := hid (fun r W (h : SlB .u8 W r []) => pics_any [] r W h (by simp) (by simp))
  clear hcm hcv
  go_enter Tryz.func19, Tryz.ntmps19
  go_upto_region 2 with (go_at_call 13; refine (HO.out _).mono ?_; rintro _ w1 ⟨r, rfl, hor, hb1⟩; rw [HCV.out]; have HOR := hid (SlB.of_own (xs := []) (n := 0) hor); have HB1 := hid hb1; clear hor hb1)
  have hcc := heap_alloc_new w1 (.cells #[.int .i64 0, .int .i64 0, .int .i64 0, .int .i64 0, .int .i64 1, .int .i64 8, .int .i64 8, .int .i64 8] 42)
  have HB2 := hid (below_alloc HB1.out (.cells #[.int .i64 0, .int .i64 0, .int .i64 0, .int .i64 0, .int .i64 1, .int .i64 8, .int .i64 8, .int .i64 8] 42))
  have HOR2 := hid (HOR.out.below (below_alloc (below_refl w1) (.cells #[.int .i64 0, .int .i64 0, .int .i64 0, .int .i64 0, .int .i64 1, .int .i64 8, .int .i64 8, .int .i64 8] 42)))
  have HCC := hid hcc
  clear hcc
  generalize w1.alloc (.cells #[.int .i64 0, .int .i64 0, .int .i64 0, .int .i64 0, .int .i64 1, .int .i64 8, .int .i64 8, .int .i64 8] 42) = W at *
  generalize w1.heap.size = p at *
  go_upto_region 3 with (go_at_call 14; refine (HPC.out _ _ HOR2.out).mono ?_; rintro _ w2 ⟨v2, r2, rfl, hv2, hr2, hb2⟩; have HV2 := hid hv2.1; have HR2 := hid (show SlI .u8 w2 r2 [] from hr2.1); have HC2 := hid ((hb2.block p (Array.getElem?_eq_some_iff.1 HCC.out).1).trans HCC.out); have HB3 := hid (below_then HB2.out hb2); clear hv2 hr2 hb2)
  have C0 := hid (cell_of_row w2 p 0 _ _ (0, 0) HC2.out)
  have C1 := hid (cell_of_row w2 p 1 _ _ (0, 0) HC2.out)
  have C2 := hid (cell_of_row w2 p 2 _ _ (0, 0) HC2.out)
  have C3 := hid (cell_of_row w2 p 3 _ _ (0, 0) HC2.out)
  have C4 := hid (cell_of_row w2 p 4 _ _ (0, 0) HC2.out)
  have C5 := hid (cell_of_row w2 p 5 _ _ (0, 0) HC2.out)
  have C6 := hid (cell_of_row w2 p 6 _ _ (0, 0) HC2.out)
  have C7 := hid (cell_of_row w2 p 7 _ _ (0, 0) HC2.out)
  refine wp_region_keep (fun q => q = p) 12 (by kernel_rfl) (by kernel_rfl) (fun hHeld => ?_)
  refine wpAnyH_take (i := 0) (v := ?va_0) rfl (by kernel_rfl) (by kernel_rfl) (by kernel_rfl) (fun _ _ _ h => h) (Or.inl ⟨by rfl, ?ya_0⟩) (by assumption) ?_
  case ya_0 => intro w hSw; have c0 := hSw _ _ rfl C0.out; have c1 := hSw _ _ rfl C1.out; have c2 := hSw _ _ rfl C2.out; have c3 := hSw _ _ rfl C3.out; have c4 := hSw _ _ rfl C4.out; have c5 := hSw _ _ rfl C5.out; have c6 := hSw _ _ rfl C6.out; have c7 := hSw _ _ rfl C7.out; clear hSw; go_simp; try with_reducible rfl
  try simp only [Act.put, List.setIfInBounds_toArray, List.set_cons_zero, List.set_cons_succ]
  refine wpAnyH_take (i := 1) (v := ?va_1) rfl (by kernel_rfl) (by kernel_rfl) (by kernel_rfl) (fun _ _ _ h => h) (Or.inl ⟨by rfl, ?ya_1⟩) (by assumption) ?_
  case ya_1 => intro w hSw; skip; clear hSw; go_simp; try with_reducible rfl
  try simp only [Act.put, List.setIfInBounds_toArray, List.set_cons_zero, List.set_cons_succ]
  refine wpAnyH_take (i := 2) (v := ?va_2) rfl (by kernel_rfl) (by kernel_rfl) (by kernel_rfl) (fun _ _ _ h => h) (Or.inl ⟨by rfl, ?ya_2⟩) (by assumption) ?_
  case ya_2 => intro w hSw; skip; clear hSw; go_simp; try with_reducible rfl
  try simp only [Act.put, List.setIfInBounds_toArray, List.set_cons_zero, List.set_cons_succ]
  refine wpAnyH_take (i := 3) (v := ?va_3) rfl (by kernel_rfl) (by kernel_rfl) (by kernel_rfl) (fun _ _ _ h => h) (Or.inl ⟨by rfl, ?ya_3⟩) (by assumption) ?_
  case ya_3 => intro w hSw; skip; clear hSw; go_simp; try with_reducible rfl
  try simp only [Act.put, List.setIfInBounds_toArray, List.set_cons_zero, List.set_cons_succ]
  refine wpAnyH_take (i := 4) (v := ?va_4) rfl (by kernel_rfl) (by kernel_rfl) (by kernel_rfl) (fun _ _ _ h => h) (Or.inl ⟨by rfl, ?ya_4⟩) (by assumption) ?_
  case ya_4 => intro w hSw; skip; clear hSw; go_simp; try with_reducible rfl
  try simp only [Act.put, List.setIfInBounds_toArray, List.set_cons_zero, List.set_cons_succ]
  refine wpAnyH_ready (rs := [5]) (by kernel_rfl) (by simp) ?_
  refine AllReadyH.cons (by simp only [List.getElem?_toArray, List.getElem?_cons_succ, List.getElem?_cons_zero]; rfl) (fun K hK => ?_) AllReadyH.nil
  go_simp
  refine (acts_nil _ _ (HR2.out.below ((below_refl w2).drew))).mono ?_
  rintro _ _ ⟨rfl, rfl⟩
  refine hK.out _ _ hHeld (fun hHeld => ?_)
  clear hK K
  try simp only [Act.put, List.setIfInBounds_toArray, List.set_cons_zero, List.set_cons_succ]
  refine wpAnyH_ready (rs := [6]) (by kernel_rfl) (by simp) ?_
  refine AllReadyH.cons (by simp only [List.getElem?_toArray, List.getElem?_cons_succ, List.getElem?_cons_zero]; rfl) (fun K hK => ?_) AllReadyH.nil
  go_simp
  refine (HTL.out _ _ (HV2.out.below ((below_refl w2).drew))).mono ?_
  rintro _ w5 ⟨rfl, hb5⟩
  refine hK.out _ _ (hHeld.below hb5) (fun hHeld => ?_)
  clear hK K
  try simp only [Act.put, List.setIfInBounds_toArray, List.set_cons_zero, List.set_cons_succ]
  refine wpAnyH_take (i := 7) (oi := ?ob_7) (v := ?vb_7) ?hb_7 (by kernel_rfl) (by kernel_rfl) (by kernel_rfl) ?qb_7 (Or.inl ⟨?wb_7, ?yb_7⟩) (by assumption) ?_
  case hb_7 => simp only [List.getElem?_toArray, List.getElem?_cons_succ, List.getElem?_cons_zero]; rfl
  case qb_7 => exact fun _ _ _ h => h
  case wb_7 => rfl
  case yb_7 => intro w hSw; skip; clear hSw; go_simp; try with_reducible rfl
  try simp only [Act.put, List.setIfInBounds_toArray, List.set_cons_zero, List.set_cons_succ]
  refine wpAnyH_take (i := 8) (oi := ?ob_8) (v := ?vb_8) ?hb_8 (by kernel_rfl) (by kernel_rfl) (by kernel_rfl) ?qb_8 (Or.inl ⟨?wb_8, ?yb_8⟩) (by assumption) ?_
  case hb_8 => simp only [List.getElem?_toArray, List.getElem?_cons_succ, List.getElem?_cons_zero]; rfl
  case qb_8 => exact fun _ _ _ h => h
  case wb_8 => rfl
  case yb_8 => intro w hSw; skip; clear hSw; go_simp; try with_reducible rfl
  try simp only [Act.put, List.setIfInBounds_toArray, List.set_cons_zero, List.set_cons_succ]
  refine wpAnyH_take (i := 9) (oi := ?ob_9) (v := ?vb_9) ?hb_9 (by kernel_rfl) (by kernel_rfl) (by kernel_rfl) ?qb_9 (Or.inl ⟨?wb_9, ?yb_9⟩) (by assumption) ?_
  case hb_9 => simp only [List.getElem?_toArray, List.getElem?_cons_succ, List.getElem?_cons_zero]; rfl
  case qb_9 => exact fun _ _ _ h => h
  case wb_9 => rfl
  case yb_9 => intro w hSw; skip; clear hSw; go_simp; try with_reducible rfl
  try simp only [Act.put, List.setIfInBounds_toArray, List.set_cons_zero, List.set_cons_succ]
  refine wpAnyH_take (i := 10) (oi := ?ob_10) (v := ?vb_10) ?hb_10 (by kernel_rfl) (by kernel_rfl) (by kernel_rfl) ?qb_10 (Or.inl ⟨?wb_10, ?yb_10⟩) (by assumption) ?_
  case hb_10 => simp only [List.getElem?_toArray, List.getElem?_cons_succ, List.getElem?_cons_zero]; rfl
  case qb_10 => exact fun _ _ _ h => h
  case wb_10 => rfl
  case yb_10 => intro w hSw; skip; clear hSw; go_simp; try with_reducible rfl
  try simp only [Act.put, List.setIfInBounds_toArray, List.set_cons_zero, List.set_cons_succ]
  refine wpAnyH_take (i := 11) (oi := ?ob_11) (v := ?vb_11) ?hb_11 (by kernel_rfl) (by kernel_rfl) (by kernel_rfl) ?qb_11 (Or.inl ⟨?wb_11, ?yb_11⟩) (by assumption) ?_
  case hb_11 => simp only [List.getElem?_toArray, List.getElem?_cons_succ, List.getElem?_cons_zero]; rfl
  case qb_11 => exact fun _ _ _ h => h
  case wb_11 => rfl
  case yb_11 => intro w hSw; skip; clear hSw; go_simp; try with_reducible rfl
  try simp only [Act.put, List.setIfInBounds_toArray, List.set_cons_zero, List.set_cons_succ]
  refine wpAnyH_done (by kernel_rfl) ?_ _
  go_wp2_with fail
  go_ret
  exact ⟨rfl, HB3.out.trans ((below_refl w2).drew.mono HB3.out.size |>.trans (hb5.mono HB3.out.size))⟩
end Go.Proofs
