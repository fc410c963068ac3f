import Derived.Test.YtmgnalfodafhgaaGreatDoorDsk0
import Derived.Test.YtmgnalfodafhgaaGreatDoorK6
import Derived.Deep.DeepCutAuto
set_option linter.unusedVariables false
set_option linter.unusedSimpArgs false
namespace Go.Proofs
open Go.RowKit Go.Kin Go.Shelf
set_option maxRecDepth 100000 in
set_option maxHeartbeats 4000000 in
theorem snew_ok (c : Cfg) (sv : Value) (xs : List Int) (rm wk : Int) (w : World) (hc : c.may = true) (hs : SlI .u8 w sv xs) (hx : xs.length ≤ 1000000) (hr : 0 ≤ rm ∧ rm ≤ 16777216) (hw : 1 ≤ wk ∧ wk ≤ 64) :
    Calls Tryz.prog 56 #[c.val, sv, .int .i64 rm, .int .i64 wk] w (SNewRet w) := by
  have HCK := hid (fun w => vcheck_ok c w hc)
  obtain ⟨qmin, qmax, reach, cut, gop, rate, room, fill⟩ := c
  unfold Cfg.val at *
  clear hc
  obtain ⟨i0, hi, hi0, hi1, hi2⟩ := info_parts Tq.info_u8
  obtain ⟨A, cp, rfl, hm, _⟩ := hs.open
  have HS := hid hs
  have HN := hid (fun w => dnew_ok rm w hr)
  clear hs
  go_enter Tryz.func56, Tryz.ntmps56
  go_upto_region 9 with (first
    | (go_at_call 82; refine (HCK.out _).mono ?_; rintro _ w1 ⟨rfl, hb1⟩)
    | (go_at_call 83; refine (HN.out _).mono ?_; rintro _ w2 ⟨d, rfl, hd, hb2⟩))
  have hbb := below_then (below_then (below_alloc (below_refl w) (.cells #[.int .i64 qmin, .int .i64 qmax, .int .i64 reach, .int .i64 cut, .int .i64 gop, .int .i64 rate, .int .i64 room, .int .i64 fill] 42)) hb1) hb2
  have hcc := (hb2.block w.heap.size (by have := hb1.size; simp at this; omega)).trans ((hb1.block w.heap.size (by simp)).trans (heap_alloc_new w (.cells #[.int .i64 qmin, .int .i64 qmax, .int .i64 reach, .int .i64 cut, .int .i64 gop, .int .i64 rate, .int .i64 room, .int .i64 fill] 42)))
  have C0 := hid (cell_of_row w2 w.heap.size 0 _ _ (0, 0) hcc)
  have C1 := hid (cell_of_row w2 w.heap.size 1 _ _ (0, 0) hcc)
  have C2 := hid (cell_of_row w2 w.heap.size 2 _ _ (0, 0) hcc)
  have C3 := hid (cell_of_row w2 w.heap.size 3 _ _ (0, 0) hcc)
  have C4 := hid (cell_of_row w2 w.heap.size 4 _ _ (0, 0) hcc)
  have C5 := hid (cell_of_row w2 w.heap.size 5 _ _ (0, 0) hcc)
  have C6 := hid (cell_of_row w2 w.heap.size 6 _ _ (0, 0) hcc)
  have C7 := hid (cell_of_row w2 w.heap.size 7 _ _ (0, 0) hcc)
  have HBB := hid hbb
  have HD := hid hd
  have hlt : w.heap.size < w2.heap.size := (Array.getElem?_eq_some_iff.1 hcc).1
  clear hbb hcc hb1 hb2 hd
  refine wp_region_keep (fun q => q = w.heap.size) 10 (by kernel_rfl) (by kernel_rfl) (fun hHeld => ?_)
  refine wpAnyH_take (i := 0) (v := ?va_0) rfl (by kernel_rfl) (by kernel_rfl) (by kernel_rfl) (fun _ _ _ h => h) (Or.inl ⟨by rfl, ?ya_0⟩) (by assumption) ?_
  case ya_0 => intro w hSw; have c0 := hSw _ _ rfl C0.out; have c1 := hSw _ _ rfl C1.out; have c2 := hSw _ _ rfl C2.out; have c3 := hSw _ _ rfl C3.out; have c4 := hSw _ _ rfl C4.out; have c5 := hSw _ _ rfl C5.out; have c6 := hSw _ _ rfl C6.out; have c7 := hSw _ _ rfl C7.out; clear hSw; go_simp; try with_reducible rfl
  try simp only [Act.put, List.setIfInBounds_toArray, List.set_cons_zero, List.set_cons_succ]
  refine wpAnyH_take (i := 2) (v := ?va_2) rfl (by kernel_rfl) (by kernel_rfl) (by kernel_rfl) (fun _ _ _ h => h) (Or.inl ⟨by rfl, ?ya_2⟩) (by assumption) ?_
  case ya_2 => intro w hSw; skip; clear hSw; go_simp; try with_reducible rfl
  try simp only [Act.put, List.setIfInBounds_toArray, List.set_cons_zero, List.set_cons_succ]
  refine wpAnyH_take (i := 4) (v := ?va_4) rfl (by kernel_rfl) (by kernel_rfl) (by kernel_rfl) (fun _ _ _ h => h) (Or.inl ⟨by rfl, ?ya_4⟩) (by assumption) ?_
  case ya_4 => intro w hSw; skip; clear hSw; go_simp; try with_reducible rfl
  try simp only [Act.put, List.setIfInBounds_toArray, List.set_cons_zero, List.set_cons_succ]
  refine wpAnyH_take (i := 5) (v := ?va_5) rfl (by kernel_rfl) (by kernel_rfl) (by kernel_rfl) (fun _ _ _ h => h) (Or.inl ⟨by rfl, ?ya_5⟩) (by assumption) ?_
  case ya_5 => intro w hSw; skip; clear hSw; go_simp; try with_reducible rfl
  try simp only [Act.put, List.setIfInBounds_toArray, List.set_cons_zero, List.set_cons_succ]
  refine wpAnyH_ready (rs := [1]) (by kernel_rfl) (by simp) ?_
  refine AllReadyH.cons (by simp only [List.getElem?_toArray, List.getElem?_cons_succ, List.getElem?_cons_zero]; rfl) (fun K hK => ?_) AllReadyH.nil
  go_simp
  refine hK.out _ _ ((KeepS.refl _ w2).below (below_alloc (below_refl _) _)).drew (fun hHeld => ?_)
  clear hK K
  try simp only [Act.put, List.setIfInBounds_toArray, List.set_cons_zero, List.set_cons_succ]
  have HMK := hid ((Frm.of_below (S := fun _ => False) ((below_refl (w2.alloc (Obj.cells #[] 5))).drew)).own (World.ownsRow_made w2 #[] 0 (base := w.heap.size) (e := 5) (size := 1) (by omega) (by unfold maxLen; omega) rfl) (fun _ _ h => h))
  by_cases h0 : 0 < xs.length
  · obtain ⟨b, off, hA, _⟩ : ∃ b off, A = some ⟨b, off, none⟩ ∧ True := by
      obtain ⟨A', c', hv, _, hr⟩ := HS.out
      obtain ⟨b, off, hb, _⟩ := hr h0
      injection hv with e1
      exact ⟨b, off, by rw [e1, hb], trivial⟩
    subst hA
    have HSW := hid ((HS.out.below HBB.out).below (below_alloc (below_refl w2) (.cells #[] 5)).drew)
    have HM1 := hid (show (xs.map (Value.int .u8)).length = xs.length * 1 by simp)
    refine wpAnyH_ready (rs := [3]) (by kernel_rfl) (by simp) ?_
    refine AllReadyH.cons (by simp only [List.getElem?_toArray, List.getElem?_cons_succ, List.getElem?_cons_zero]; rfl) (fun K hK => ?_) AllReadyH.nil
    refine step_append_lies _ (by rfl) (.tmp 36) (.tmp 37) 40 (by rfl) w.heap.size 5 i0 (.int .u8 0) 1 1 Tryz.underlying40 hi hi0 hi1 hi2 rfl (by omega) (.slice (some ⟨w2.heap.size, 0, none⟩) 0 0) 0 [] (by rfl) HMK.out ⟨b, off, none⟩ xs.length cp (xs.map (Value.int .u8)) (by rfl) HM1.out (by have := HSW.out.news 0; simpa using this) (fun u hu => by simp only [List.mem_map] at hu; obtain ⟨_, _, rfl⟩ := hu; rfl) (by omega) (by unfold maxLen; omega) (by omega) (by simp; omega) (w2.heap.size + 1) (by simp) ?_
    intro g5 cap5 w3 hown5 hgrow hat hlt5
    have hB3 : Below w2.heap.size w2 w3 := (below_alloc (below_refl w2) _).drew.grown hgrow (by simp) (fun q hq => by have e2 : w2.heap.size = q := (by simpa [Value.ownBlock] using hq); omega)
    refine hK.out _ _ ((KeepS.refl _ w2).below hB3) (fun hHeld => ?_)
    clear hK K
    try simp only [Act.put, List.setIfInBounds_toArray, List.set_cons_zero, List.set_cons_succ]
    have HB3 := hid hB3
    clear hown5 hgrow hat hB3
    refine wpAnyH_take (i := 6) (v := ?vb_6) rfl (by kernel_rfl) (by kernel_rfl) (by kernel_rfl) (fun _ _ _ h => h) (Or.inl ⟨by rfl, ?yb_6⟩) (by assumption) ?_
    case yb_6 => intro w hSw; skip; clear hSw; go_simp; try with_reducible rfl
    try simp only [Act.put, List.setIfInBounds_toArray, List.set_cons_zero, List.set_cons_succ]
    refine wpAnyH_ready (rs := [7]) (by kernel_rfl) (by simp) ?_
    refine AllReadyH.cons (by simp only [List.getElem?_toArray, List.getElem?_cons_succ, List.getElem?_cons_zero]; rfl) (fun K hK => ?_) AllReadyH.nil
    go_simp
    refine hK.out _ _ (hHeld.below (below_alloc (below_refl _) _)) (fun hHeld => ?_)
    clear hK K
    try simp only [Act.put, List.setIfInBounds_toArray, List.set_cons_zero, List.set_cons_succ]
    refine wpAnyH_ready (rs := [8]) (by kernel_rfl) (by simp) ?_
    refine AllReadyH.cons (by simp only [List.getElem?_toArray, List.getElem?_cons_succ, List.getElem?_cons_zero]; rfl) (fun K hK => ?_) AllReadyH.nil
    go_simp
    refine hK.out _ _ hHeld (fun hHeld => ?_)
    clear hK K
    try simp only [Act.put, List.setIfInBounds_toArray, List.set_cons_zero, List.set_cons_succ]
    refine wpAnyH_ready (rs := [9]) (by kernel_rfl) (by simp) ?_
    refine AllReadyH.cons (by simp only [List.getElem?_toArray, List.getElem?_cons_succ, List.getElem?_cons_zero]; rfl) (fun K hK => ?_) AllReadyH.nil
    go_simp
    refine hK.out _ _ hHeld (fun hHeld => ?_)
    clear hK K
    try simp only [Act.put, List.setIfInBounds_toArray, List.set_cons_zero, List.set_cons_succ]
    refine wpAnyH_done (by kernel_rfl) ?_ _
    go_wp2_with fail
    go_ret2
    have hn := heap_alloc_new w3 (.cells #[.int .i64 qmin, .int .i64 qmax, .int .i64 reach, .int .i64 cut, .int .i64 gop, .int .i64 rate, .int .i64 room, .int .i64 fill, .slice (some ⟨g5, 0, none⟩) xs.length cap5, .int .i64 wk, .pointer (some ⟨d, 0, none⟩), .pointer none] 152)
    exact ⟨_, rfl, ⟨⟨d, rm, cell_of_row _ _ 10 _ _ (0, 0) hn, (HD.out.below HB3.out).below (below_alloc (below_refl w3) _)⟩, cell_of_row _ _ 11 _ _ (0, 0) hn⟩, below_alloc (below_then HBB.out HB3.out) _⟩
  · have hxs : xs.length = 0 := by omega
    rw [hxs]
    clear h0 hxs
    rcases A with _ | ⟨b, off, sp⟩
    · refine wpAnyH_ready (rs := [3]) (by kernel_rfl) (by simp) ?_
      refine AllReadyH.cons (by simp only [List.getElem?_toArray, List.getElem?_cons_succ, List.getElem?_cons_zero]; rfl) (fun K hK => ?_) AllReadyH.nil
      go_simp
      refine hK.out _ _ hHeld (fun hHeld => ?_)
      clear hK K
      try simp only [Act.put, List.setIfInBounds_toArray, List.set_cons_zero, List.set_cons_succ]
      refine wpAnyH_take (i := 6) (v := ?vc0_6) rfl (by kernel_rfl) (by kernel_rfl) (by kernel_rfl) (fun _ _ _ h => h) (Or.inl ⟨by rfl, ?yc0_6⟩) (by assumption) ?_
      case yc0_6 => intro w hSw; skip; clear hSw; go_simp; try with_reducible rfl
      try simp only [Act.put, List.setIfInBounds_toArray, List.set_cons_zero, List.set_cons_succ]
      refine wpAnyH_ready (rs := [7]) (by kernel_rfl) (by simp) ?_
      refine AllReadyH.cons (by simp only [List.getElem?_toArray, List.getElem?_cons_succ, List.getElem?_cons_zero]; rfl) (fun K hK => ?_) AllReadyH.nil
      go_simp
      refine hK.out _ _ (hHeld.below (below_alloc (below_refl _) _)) (fun hHeld => ?_)
      clear hK K
      try simp only [Act.put, List.setIfInBounds_toArray, List.set_cons_zero, List.set_cons_succ]
      refine wpAnyH_ready (rs := [8]) (by kernel_rfl) (by simp) ?_
      refine AllReadyH.cons (by simp only [List.getElem?_toArray, List.getElem?_cons_succ, List.getElem?_cons_zero]; rfl) (fun K hK => ?_) AllReadyH.nil
      go_simp
      refine hK.out _ _ hHeld (fun hHeld => ?_)
      clear hK K
      try simp only [Act.put, List.setIfInBounds_toArray, List.set_cons_zero, List.set_cons_succ]
      refine wpAnyH_ready (rs := [9]) (by kernel_rfl) (by simp) ?_
      refine AllReadyH.cons (by simp only [List.getElem?_toArray, List.getElem?_cons_succ, List.getElem?_cons_zero]; rfl) (fun K hK => ?_) AllReadyH.nil
      go_simp
      refine hK.out _ _ hHeld (fun hHeld => ?_)
      clear hK K
      try simp only [Act.put, List.setIfInBounds_toArray, List.set_cons_zero, List.set_cons_succ]
      refine wpAnyH_done (by kernel_rfl) ?_ _
      go_wp2_with fail
      go_ret2
      have hn := heap_alloc_new (w2.alloc (.cells #[] 5)) (.cells #[.int .i64 qmin, .int .i64 qmax, .int .i64 reach, .int .i64 cut, .int .i64 gop, .int .i64 rate, .int .i64 room, .int .i64 fill, .slice (some ⟨w2.heap.size, 0, none⟩) 0 0, .int .i64 wk, .pointer (some ⟨d, 0, none⟩), .pointer none] 152)
      simp only [World.size_alloc] at hn
      exact ⟨_, rfl, ⟨⟨d, rm, cell_of_row _ _ 10 _ _ (0, 0) hn, (HD.out.below (below_alloc (below_refl w2) _)).below (below_alloc (below_refl _) _).drew⟩, cell_of_row _ _ 11 _ _ (0, 0) hn⟩, (below_alloc (below_alloc HBB.out _) _).drew⟩
    · refine wpAnyH_ready (rs := [3]) (by kernel_rfl) (by simp) ?_
      refine AllReadyH.cons (by simp only [List.getElem?_toArray, List.getElem?_cons_succ, List.getElem?_cons_zero]; rfl) (fun K hK => ?_) AllReadyH.nil
      go_simp
      refine hK.out _ _ hHeld (fun hHeld => ?_)
      clear hK K
      try simp only [Act.put, List.setIfInBounds_toArray, List.set_cons_zero, List.set_cons_succ]
      refine wpAnyH_take (i := 6) (v := ?vc1_6) rfl (by kernel_rfl) (by kernel_rfl) (by kernel_rfl) (fun _ _ _ h => h) (Or.inl ⟨by rfl, ?yc1_6⟩) (by assumption) ?_
      case yc1_6 => intro w hSw; skip; clear hSw; go_simp; try with_reducible rfl
      try simp only [Act.put, List.setIfInBounds_toArray, List.set_cons_zero, List.set_cons_succ]
      refine wpAnyH_ready (rs := [7]) (by kernel_rfl) (by simp) ?_
      refine AllReadyH.cons (by simp only [List.getElem?_toArray, List.getElem?_cons_succ, List.getElem?_cons_zero]; rfl) (fun K hK => ?_) AllReadyH.nil
      go_simp
      refine hK.out _ _ (hHeld.below (below_alloc (below_refl _) _)) (fun hHeld => ?_)
      clear hK K
      try simp only [Act.put, List.setIfInBounds_toArray, List.set_cons_zero, List.set_cons_succ]
      refine wpAnyH_ready (rs := [8]) (by kernel_rfl) (by simp) ?_
      refine AllReadyH.cons (by simp only [List.getElem?_toArray, List.getElem?_cons_succ, List.getElem?_cons_zero]; rfl) (fun K hK => ?_) AllReadyH.nil
      go_simp
      refine hK.out _ _ hHeld (fun hHeld => ?_)
      clear hK K
      try simp only [Act.put, List.setIfInBounds_toArray, List.set_cons_zero, List.set_cons_succ]
      refine wpAnyH_ready (rs := [9]) (by kernel_rfl) (by simp) ?_
      refine AllReadyH.cons (by simp only [List.getElem?_toArray, List.getElem?_cons_succ, List.getElem?_cons_zero]; rfl) (fun K hK => ?_) AllReadyH.nil
      go_simp
      refine hK.out _ _ hHeld (fun hHeld => ?_)
      clear hK K
      try simp only [Act.put, List.setIfInBounds_toArray, List.set_cons_zero, List.set_cons_succ]
      refine wpAnyH_done (by kernel_rfl) ?_ _
      go_wp2_with fail
      go_ret2
      have hn := heap_alloc_new (w2.alloc (.cells #[] 5)) (.cells #[.int .i64 qmin, .int .i64 qmax, .int .i64 reach, .int .i64 cut, .int .i64 gop, .int .i64 rate, .int .i64 room, .int .i64 fill, .slice (some ⟨w2.heap.size, 0, none⟩) 0 0, .int .i64 wk, .pointer (some ⟨d, 0, none⟩), .pointer none] 152)
      simp only [World.size_alloc] at hn
      exact ⟨_, rfl, ⟨⟨d, rm, cell_of_row _ _ 10 _ _ (0, 0) hn, (HD.out.below (below_alloc (below_refl w2) _)).below (below_alloc (below_refl _) _).drew⟩, cell_of_row _ _ 11 _ _ (0, 0) hn⟩, (below_alloc (below_alloc HBB.out _) _).drew⟩
end Go.Proofs
