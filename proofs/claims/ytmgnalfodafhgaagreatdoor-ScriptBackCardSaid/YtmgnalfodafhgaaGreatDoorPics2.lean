import Derived.Test.YtmgnalfodafhgaaGreatDoorPics
set_option linter.unusedVariables false
set_option linter.unusedSimpArgs false
namespace Go.Proofs
open Go.RowKit Go.Kin Go.Shelf
theorem Tq.info_frame : (Tryz.prog.info? 73).map (fun i => (i.zero, i.size, i.bytes)) = some (some (.agg #[.int .i64 0, .int .i64 0, .slice none 0 0]), 3, 40) := by kernel_rfl
set_option maxRecDepth 100000 in
set_option maxHeartbeats 8000000 in
/-- Not byte by byte. -/
theorem pics_made (bs : List Int) (bv : Value) (w : World) (hs : SlB .u8 w bv bs) (hbig : bs.length ≤ 2000) (hv : ∀ x ∈ bs, 0 ≤ x ∧ x ≤ 255) (hraw : rawB bs = false) :
    Calls Tryz.prog 14 #[bv] w (PicRet bs w) := by
  have hx := getD_smp hv
  have z0 := hx 0; have z1 := hx 1; have z2 := hx 2; have z3 := hx 3
  have hP : picB bs = encB (picsOf bs) := by unfold picB; rw [hraw]; rfl
  have hR : picRest bs = bs.drop 4 := by unfold picRest; rw [hraw]; rfl
  have hr7 : bs.getD 3 0 % 8 ≠ 7 := by simpa [rawB] using hraw
  have HP := hid hP; have HR := hid hR
  have HOK := hid (picsOf_ok bs)
  have hW := picW_range (bs.getD 0 0); have hH := picW_range (bs.getD 1 0)
  have eW := picW_eq z0.1; have eH := picW_eq z1.1
  have hN : ((picsN bs : Nat) : Int) = 1 + bs.getD 2 0 % 4 := by unfold picsN; omega
  have hF : ∀ i, picF bs i = ⟨picW (bs.getD 0 0), picW (bs.getD 1 0), picTo (bs.getD 3 0) i (picW (bs.getD 0 0)) (picW (bs.getD 1 0) * picW (bs.getD 0 0))⟩ := fun i => rfl
  have HF := hid hF
  generalize picW (bs.getD 0 0) = W at *
  generalize picW (bs.getD 1 0) = H at *
  have EW := hid eW; have EH := hid eH; have HN := hid hN
  clear hP hR hF eW eH hN hx
  generalize hX0 : bs.getD 0 0 = X0 at *
  have HX0 := hid hX0
  generalize hX1 : bs.getD 1 0 = X1 at *
  have HX1 := hid hX1
  generalize hX2 : bs.getD 2 0 = X2 at *
  have HX2 := hid hX2
  generalize hX3 : bs.getD 3 0 = X3 at *
  have HX3 := hid hX3
  have hr8 : (X3 % 8 == 7) = false := by simpa using hr7
  clear hX0 hX1 hX2 hX3 hr7 hraw
  go_enter Tryz.func14, Tryz.ntmps14
  go_wp2_with (go_at_call 28; go_loud (refine (cut_any bs 4 _ _ hs (by omega) (by omega) hbig hv).mono ?_; rintro _ w1 ⟨x, r, rfl, hox, hor, hb1⟩; obtain ⟨g, cap, rfl⟩ := own_slice hox; have y0 := own_cell hox 0 (by omega); have y1 := own_cell hox 1 (by omega); have y2 := own_cell hox 2 (by omega); have y3 := own_cell hox 3 (by omega); rw [cutX_get _ _ _ (by omega), HX0.out] at y0; rw [cutX_get _ _ _ (by omega), HX1.out] at y1; rw [cutX_get _ _ _ (by omega), HX2.out] at y2; rw [cutX_get _ _ _ (by omega), HX3.out] at y3; have hb1' := hid hb1; have hor' := hid hor; have hg := (hox.lt g rfl); clear hb1 hor hox hs))
  have hwx : (W : Int) = 8 + 8 * (X0 % 2) := EW.out
  have hhx : (H : Int) = 8 + 8 * (X1 % 2) := EH.out
  clear hwx hhx
  go_quiet (fail)
  rw [← EW.out, ← EH.out]
  go_wp2_with fail
  rw [← HN.out]
  have HPO := hid (show picsOf bs = picsTo bs (picsN bs) from rfl)
  generalize picsN bs = N at *
  have hb1 := below_drewN hb1'.out nq
  have hor := hid ((Frm.of_below (S := fun _ => False) (below_drewN (below_refl w1) nq)).own hor'.out (fun _ _ h => h))
  have y3' : (w1.drewN nq).cell? ⟨g, 3, none⟩ = some (.int .i64 X3) := by simpa using y3
  have hg' : g < (w1.drewN nq).heap.size := hg.2
  clear y0 y1 y2 y3 hg hb1' hor'
  generalize w1.drewN nq = W1 at *
  obtain ⟨i0, hi, hz0, hz1, hz2⟩ := info_parts Tq.info_frame
  obtain ⟨j0, hj, hj0, hj1, hj2⟩ := info_parts Tq.info_int
  have hN4 : N ≤ 4 := by have := HN.out; omega
  go_loopg [9, 58] N (fun gk s9 s58 wr => ∃ k : Nat, k ≤ N ∧ N - k ≤ gk ∧ s58 = .int .i64 (k : Int) ∧ OwnR 3 FrF wr W1.heap.size 73 s9 (picsTo bs k) ∧ Below W1.heap.size W1 wr)
  case atStart => exact ⟨0, Nat.zero_le _, by omega, rfl, OwnR.nil _ _ _ _ _, below_refl W1⟩
  case round =>
    obtain ⟨k, hk, hgk, rfl, hown, hbr⟩ := hrel
    by_cases hlt : k < N
    · have HOWN := hid hown
      clear hown
      go_wp2_with fail
      obtain ⟨wo, rfl⟩ : ∃ wo : World, wo = wr := ⟨_, rfl⟩
      go_loopg [65] H (fun g2 s65 wi => ∃ v : Nat, v ≤ H ∧ H - v ≤ g2 ∧ s65 = .int .i64 (v : Int) ∧ PixS 73 3 W H (picTo X3 k W (v * W)) wo wi)
      case atStart => exact ⟨0, Nat.zero_le _, by omega, rfl, by rw [Nat.zero_mul]; exact ⟨_, heap_alloc_new _ _, World.ownsRow_nil _ _ _ _, below_alloc (below_refl _) _⟩⟩
      case round =>
        obtain ⟨v, hv1, hg2, rfl, hpix⟩ := hrel
        by_cases hvl : v < H
        · have HPIX := hid hpix
          clear hpix
          go_wp2_with fail
          obtain ⟨wv, rfl⟩ : ∃ wv : World, wv = wr := ⟨_, rfl⟩
          go_loopg [69] W (fun g3 s69 wi => ∃ u : Nat, u ≤ W ∧ W - u ≤ g3 ∧ s69 = .int .i64 (u : Int) ∧ PixS 73 3 W H (picTo X3 k W (v * W + u)) wo wi)
          case atStart => exact ⟨0, Nat.zero_le _, by omega, rfl, HPIX.out⟩
          case round =>
            obtain ⟨u, hu, hg3, rfl, pv, hh, ho, hbi⟩ := hrel
            by_cases hul : u < W
            · have hlen := picTo_len X3 k W (v * W + u)
              have hsucc := hid (picTo_succ X3 k W v u hul)
              have f2 : wr.cell? ⟨wo.heap.size, 2, none⟩ = some pv := cell_of_row wr wo.heap.size 2 _ _ (0, 0) hh
              have ff : wr.frozen? ⟨wo.heap.size, 2, none⟩ = false := frozen_of_row wr wo.heap.size 2 _ _ hh
              have y3 : wr.cell? ⟨g, 3, none⟩ = some (.int .i64 X3) := cell_below (below_then hbr hbi) y3'
              have hgw : g < wo.heap.size := Nat.lt_of_lt_of_le hg' hbr.size
              have hvw : v * W + u ≤ 256 := by
                have : v * W ≤ 15 * W := Nat.mul_le_mul_right _ (by omega)
                omega
              rw [hlen] at ho
              obtain ⟨A, c, rfl⟩ := own_form ho
              have HF1 := hid (show some wo.heap.size ≠ (Value.slice A (v * W + u) c).ownBlock from fun e => by have := (ho.lt _ e.symm).1; omega)
              have HF2 := hid (show some g ≠ (Value.slice A (v * W + u) c).ownBlock from fun e => by have := (ho.lt _ e.symm).1; omega)
              have HSTEP := hid (fun w5 w1 gg cap2 (h1 : Below wr.heap.size wr w5) h2 h3 => PixS.step (x := picX X3 k v u) (gg := gg) (cap := cap2) (w5 := w5) (w1 := w1) hh (by rw [hlen]; exact ho) hbi h1 h2 h3)
              have n1 : 0 ≤ X3 * ((u : Int) + 3 * (v : Int)) ∧ X3 * ((u : Int) + 3 * (v : Int)) ≤ 255 * 60 := ⟨Int.mul_nonneg z3.1 (by omega), Int.mul_le_mul z3.2 (by omega) (by omega) (by omega)⟩
              have n2 : 0 ≤ 37 * (k : Int) * (X3 % 5) ∧ 37 * (k : Int) * (X3 % 5) ≤ 111 * 4 := ⟨Int.mul_nonneg (by omega) (by omega), Int.mul_le_mul (by omega) (by omega) (by omega) (by omega)⟩
              have n3 : 0 ≤ (u : Int) * (v : Int) ∧ (u : Int) * (v : Int) ≤ 15 * 15 := ⟨Int.mul_nonneg (by omega) (by omega), Int.mul_le_mul (by omega) (by omega) (by omega) (by omega)⟩
              have n4 : 0 ≤ (u : Int) * (v : Int) * ((k : Int) % 3) ∧ (u : Int) * (v : Int) * ((k : Int) % 3) ≤ 225 * 2 := ⟨Int.mul_nonneg n3.1 (by omega), Int.mul_le_mul (by omega) (by omega) (by omega) (by omega)⟩
              have wr0 : ∀ n : Int, -1000000 ≤ n → n ≤ 1000000 → IntKind.i64.wrap n = n := fun n h1 h2 => by rw [IntKind.wrap_i64]; omega
              have e1 := wr0 (3 * (v : Int)) (by omega) (by omega)
              have e2 := wr0 ((u : Int) + 3 * (v : Int)) (by omega) (by omega)
              have e3 := wr0 (X3 * ((u : Int) + 3 * (v : Int))) (by omega) (by omega)
              have e4 := wr0 (37 * (k : Int)) (by omega) (by omega)
              have e5 : X3.tmod 5 = X3 % 5 := Int.tmod_eq_emod_of_nonneg z3.1
              have e6 := wr0 (37 * (k : Int) * (X3 % 5)) (by omega) (by omega)
              have e7 := wr0 (X3 * ((u : Int) + 3 * (v : Int)) + 37 * (k : Int) * (X3 % 5)) (by omega) (by omega)
              have e8 := wr0 ((u : Int) * (v : Int)) (by omega) (by omega)
              have e9 : (k : Int).tmod 3 = (k : Int) % 3 := Int.tmod_eq_emod_of_nonneg (by omega)
              have e10 := wr0 ((u : Int) * (v : Int) * ((k : Int) % 3)) (by omega) (by omega)
              have e11 := wr0 (X3 * ((u : Int) + 3 * (v : Int)) + 37 * (k : Int) * (X3 % 5) + (u : Int) * (v : Int) * ((k : Int) % 3)) (by omega) (by omega)
              have e12 : (X3 * ((u : Int) + 3 * (v : Int)) + 37 * (k : Int) * (X3 % 5) + (u : Int) * (v : Int) * ((k : Int) % 3)).tmod 256 = picX X3 k v u := Int.tmod_eq_emod_of_nonneg (by omega)
              have h256 : v * W + u ≤ 256 := hvw
              have hbz : wo.heap.size + 1 ≤ wr.heap.size := (Array.getElem?_eq_some_iff.1 hh).1
              clear wr0 n1 n2 n3 n4
              go_wp2_with fail
              refine wp_region_pre (n := 29) (fun wx => wx.cell? ⟨wo.heap.size, 2, none⟩ = some (.slice A (v * W + u) c) ∧ wx.cell? ⟨g, 3, none⟩ = some (.int .i64 X3)) (by simp only [List.take_succ_cons, List.take_zero]; rfl) (by simp only [List.drop_succ_cons, List.drop_zero]; rfl) (by kernel_rfl) (by kernel_rfl) (by kernel_rfl) ⟨by simpa using f2, by simpa using y3⟩ (fun hHeld => ?_)
              refine wpAnyH_take (i := 0) (v := ?v0) rfl (by kernel_rfl) (by kernel_rfl) (by kernel_rfl) (fun _ _ _ h => h) (Or.inl ⟨by rfl, ?y0⟩) (by assumption) ?_
              case y0 => intro w hSw; (try dsimp only at hSw); go_simp; try with_reducible rfl
              simp only [Act.put, List.setIfInBounds_toArray, List.set_cons_zero, List.set_cons_succ]
              refine wpAnyH_take (i := 1) (v := ?v1) rfl (by kernel_rfl) (by kernel_rfl) (by kernel_rfl) (fun _ _ _ h => h) (Or.inl ⟨by rfl, ?y1⟩) (by assumption) ?_
              case y1 => intro w hSw; (try dsimp only at hSw); go_simp; try with_reducible rfl
              simp only [Act.put, List.setIfInBounds_toArray, List.set_cons_zero, List.set_cons_succ]
              refine wpAnyH_take (i := 2) (v := ?v2) rfl (by kernel_rfl) (by kernel_rfl) (by kernel_rfl) (fun _ _ _ h => h) (Or.inl ⟨by rfl, ?y2⟩) (by assumption) ?_
              case y2 => intro w hSw; (try dsimp only at hSw); go_simp; try with_reducible rfl
              simp only [Act.put, List.setIfInBounds_toArray, List.set_cons_zero, List.set_cons_succ]
              refine wpAnyH_take (i := 3) (v := ?v3) rfl (by kernel_rfl) (by kernel_rfl) (by kernel_rfl) (fun _ _ _ h => h) (Or.inl ⟨by rfl, ?y3⟩) (by assumption) ?_
              case y3 => intro w hSw; (try dsimp only at hSw); go_simp; try with_reducible rfl
              simp only [Act.put, List.setIfInBounds_toArray, List.set_cons_zero, List.set_cons_succ]
              refine wpAnyH_take (i := 4) (v := ?v4) rfl (by kernel_rfl) (by kernel_rfl) (by kernel_rfl) (fun _ _ _ h => h) (Or.inl ⟨by rfl, ?y4⟩) (by assumption) ?_
              case y4 => intro w hSw; (try dsimp only at hSw); go_simp; try with_reducible rfl
              simp only [Act.put, List.setIfInBounds_toArray, List.set_cons_zero, List.set_cons_succ]
              refine wpAnyH_take (i := 5) (v := ?v5) rfl (by kernel_rfl) (by kernel_rfl) (by kernel_rfl) (fun _ _ _ h => h) (Or.inl ⟨by rfl, ?y5⟩) (by assumption) ?_
              case y5 => intro w hSw; (try dsimp only at hSw); go_simp; try with_reducible rfl
              simp only [Act.put, List.setIfInBounds_toArray, List.set_cons_zero, List.set_cons_succ]
              refine wpAnyH_take (i := 6) (v := ?v6) rfl (by kernel_rfl) (by kernel_rfl) (by kernel_rfl) (fun _ _ _ h => h) (Or.inl ⟨by rfl, ?y6⟩) (by assumption) ?_
              case y6 => intro w hSw; (try dsimp only at hSw); go_simp; try with_reducible rfl
              simp only [Act.put, List.setIfInBounds_toArray, List.set_cons_zero, List.set_cons_succ]
              refine wpAnyH_take (i := 7) (v := ?v7) rfl (by kernel_rfl) (by kernel_rfl) (by kernel_rfl) (fun _ _ _ h => h) (Or.inl ⟨by rfl, ?y7⟩) (by assumption) ?_
              case y7 => intro w hSw; (try dsimp only at hSw); go_simp; try with_reducible rfl
              simp only [Act.put, List.setIfInBounds_toArray, List.set_cons_zero, List.set_cons_succ]
              refine wpAnyH_take (i := 8) (v := ?v8) rfl (by kernel_rfl) (by kernel_rfl) (by kernel_rfl) (fun _ _ _ h => h) (Or.inl ⟨by rfl, ?y8⟩) (by assumption) ?_
              case y8 => intro w hSw; (try dsimp only at hSw); go_simp; try with_reducible rfl
              simp only [Act.put, List.setIfInBounds_toArray, List.set_cons_zero, List.set_cons_succ]
              refine wpAnyH_take (i := 9) (v := ?v9) rfl (by kernel_rfl) (by kernel_rfl) (by kernel_rfl) (fun _ _ _ h => h) (Or.inl ⟨by rfl, ?y9⟩) (by assumption) ?_
              case y9 => intro w hSw; (try dsimp only at hSw); go_simp; try with_reducible rfl
              simp only [Act.put, List.setIfInBounds_toArray, List.set_cons_zero, List.set_cons_succ]
              refine wpAnyH_take (i := 10) (v := ?v10) rfl (by kernel_rfl) (by kernel_rfl) (by kernel_rfl) (fun _ _ _ h => h) (Or.inl ⟨by rfl, ?y10⟩) (by assumption) ?_
              case y10 => intro w hSw; (try dsimp only at hSw); go_simp; try with_reducible rfl
              simp only [Act.put, List.setIfInBounds_toArray, List.set_cons_zero, List.set_cons_succ]
              refine wpAnyH_take (i := 11) (v := ?v11) rfl (by kernel_rfl) (by kernel_rfl) (by kernel_rfl) (fun _ _ _ h => h) (Or.inl ⟨by rfl, ?y11⟩) (by assumption) ?_
              case y11 => intro w hSw; (try dsimp only at hSw); go_simp; try with_reducible rfl
              simp only [Act.put, List.setIfInBounds_toArray, List.set_cons_zero, List.set_cons_succ]
              refine wpAnyH_take (i := 12) (v := ?v12) rfl (by kernel_rfl) (by kernel_rfl) (by kernel_rfl) (fun _ _ _ h => h) (Or.inl ⟨by rfl, ?y12⟩) (by assumption) ?_
              case y12 => intro w hSw; (try dsimp only at hSw); go_simp; try with_reducible rfl
              simp only [Act.put, List.setIfInBounds_toArray, List.set_cons_zero, List.set_cons_succ]
              refine wpAnyH_take (i := 13) (v := ?v13) rfl (by kernel_rfl) (by kernel_rfl) (by kernel_rfl) (fun _ _ _ h => h) (Or.inl ⟨by rfl, ?y13⟩) (by assumption) ?_
              case y13 => intro w hSw; (try dsimp only at hSw); go_simp; try with_reducible rfl
              simp only [Act.put, List.setIfInBounds_toArray, List.set_cons_zero, List.set_cons_succ]
              refine wpAnyH_take (i := 14) (v := ?v14) rfl (by kernel_rfl) (by kernel_rfl) (by kernel_rfl) (fun _ _ _ h => h) (Or.inl ⟨by rfl, ?y14⟩) (by assumption) ?_
              case y14 => intro w hSw; (try dsimp only at hSw); go_simp; try with_reducible rfl
              simp only [Act.put, List.setIfInBounds_toArray, List.set_cons_zero, List.set_cons_succ]
              refine wpAnyH_take (i := 15) (v := ?v15) rfl (by kernel_rfl) (by kernel_rfl) (by kernel_rfl) (fun _ _ _ h => h) (Or.inl ⟨by rfl, ?y15⟩) (by assumption) ?_
              case y15 => intro w hSw; (try dsimp only at hSw); go_simp; try with_reducible rfl
              simp only [Act.put, List.setIfInBounds_toArray, List.set_cons_zero, List.set_cons_succ]
              refine wpAnyH_take (i := 16) (v := ?v16) rfl (by kernel_rfl) (by kernel_rfl) (by kernel_rfl) (fun _ _ _ h => h) (Or.inl ⟨by rfl, ?y16⟩) (by assumption) ?_
              case y16 => intro w hSw; (try dsimp only at hSw); go_simp; try with_reducible rfl
              simp only [Act.put, List.setIfInBounds_toArray, List.set_cons_zero, List.set_cons_succ]
              refine wpAnyH_take (i := 17) (v := ?v17) rfl (by kernel_rfl) (by kernel_rfl) (by kernel_rfl) (fun _ _ _ h => h) (Or.inl ⟨by rfl, ?y17⟩) (by assumption) ?_
              case y17 => intro w hSw; (try dsimp only at hSw); go_simp; try with_reducible rfl
              simp only [Act.put, List.setIfInBounds_toArray, List.set_cons_zero, List.set_cons_succ]
              refine wpAnyH_take (i := 18) (v := ?v18) rfl (by kernel_rfl) (by kernel_rfl) (by kernel_rfl) (fun _ _ _ h => h) (Or.inl ⟨by rfl, ?y18⟩) (by assumption) ?_
              case y18 => intro w hSw; (try dsimp only at hSw); go_simp; try with_reducible rfl
              simp only [Act.put, List.setIfInBounds_toArray, List.set_cons_zero, List.set_cons_succ]
              refine wpAnyH_take (i := 19) (v := ?v19) rfl (by kernel_rfl) (by kernel_rfl) (by kernel_rfl) (fun _ _ _ h => h) (Or.inl ⟨by rfl, ?y19⟩) (by assumption) ?_
              case y19 => intro w hSw; (try dsimp only at hSw); go_simp; try with_reducible rfl
              simp only [Act.put, List.setIfInBounds_toArray, List.set_cons_zero, List.set_cons_succ]
              refine wpAnyH_take (i := 20) (v := ?v20) rfl (by kernel_rfl) (by kernel_rfl) (by kernel_rfl) (fun _ _ _ h => h) (Or.inl ⟨by rfl, ?y20⟩) (by assumption) ?_
              case y20 => intro w hSw; (try dsimp only at hSw); go_simp; try with_reducible rfl
              simp only [Act.put, List.setIfInBounds_toArray, List.set_cons_zero, List.set_cons_succ]
              refine wpAnyH_take (i := 21) (v := ?v21) rfl (by kernel_rfl) (by kernel_rfl) (by kernel_rfl) (fun _ _ _ h => h) (Or.inl ⟨by rfl, ?y21⟩) (by assumption) ?_
              case y21 => intro w hSw; (try dsimp only at hSw); go_simp; try with_reducible rfl
              simp only [Act.put, List.setIfInBounds_toArray, List.set_cons_zero, List.set_cons_succ]
              refine wpAnyH_take (i := 22) (v := ?v22) rfl (by kernel_rfl) (by kernel_rfl) (by kernel_rfl) (fun _ _ _ h => h) (Or.inl ⟨by rfl, ?y22⟩) (by assumption) ?_
              case y22 => intro w hSw; (try dsimp only at hSw); go_simp; try with_reducible rfl
              simp only [Act.put, List.setIfInBounds_toArray, List.set_cons_zero, List.set_cons_succ]
              refine wpAnyH_take (i := 23) (v := ?v23) rfl (by kernel_rfl) (by kernel_rfl) (by kernel_rfl) (fun _ _ _ h => h) (Or.inl ⟨by rfl, ?y23⟩) (by assumption) ?_
              case y23 => intro w hSw; (try dsimp only at hSw); go_simp; try with_reducible rfl
              simp only [Act.put, List.setIfInBounds_toArray, List.set_cons_zero, List.set_cons_succ]
              refine wpAnyH_take (i := 24) (v := ?v24) rfl (by kernel_rfl) (by kernel_rfl) (by kernel_rfl) (fun _ _ _ h => h) (Or.inl ⟨by rfl, ?y24⟩) (by assumption) ?_
              case y24 => intro w hSw; (try dsimp only at hSw); go_simp; try with_reducible rfl
              simp only [Act.put, List.setIfInBounds_toArray, List.set_cons_zero, List.set_cons_succ]
              refine wpAnyH_take (i := 25) (v := ?v25) rfl (by kernel_rfl) (by kernel_rfl) (by kernel_rfl) (fun _ _ _ h => h) (Or.inl ⟨by rfl, ?y25⟩) (by assumption) ?_
              case y25 => intro w hSw; (try dsimp only at hSw); go_simp; try with_reducible rfl
              simp only [Act.put, List.setIfInBounds_toArray, List.set_cons_zero, List.set_cons_succ]
              refine wpAnyH_ready (rs := [26]) (by kernel_rfl) (by simp) ?_
              refine AllReadyH.cons (by simp only [List.getElem?_toArray, List.getElem?_cons_succ, List.getElem?_cons_zero]; rfl) (fun K hK => ?_) AllReadyH.nil
              go_simp
              refine hK.out _ _ ?_ (fun hHeld => ?_)
              · exact ⟨cell_below (below_alloc (below_refl _) _) hHeld.1, cell_below (below_alloc (below_refl _) _) hHeld.2⟩
              clear hK K
              try simp only [Act.put, List.setIfInBounds_toArray, List.set_cons_zero, List.set_cons_succ]
              refine wpAnyH_ready (rs := [27]) (by kernel_rfl) (by simp) ?_
              refine AllReadyH.cons (by simp only [List.getElem?_toArray, List.getElem?_cons_succ, List.getElem?_cons_zero]; rfl) (fun K hK => ?_) AllReadyH.nil
              refine step_append_lies _ (by rfl) (.tmp 73) (.tmp 98) 22 (by rfl) (wo.heap.size + 1) 3 j0 (.int .i64 0) 1 8 Tryz.underlying22 hj hj0 hj1 hj2 rfl (by omega) (.slice A (v * W + u) c) (v * W + u) ((picTo X3 k W (v * W + u)).map (Value.int .i64)) (by rfl) ((Frm.of_below (S := fun _ => False) (below_alloc (below_refl wr) _).drew).own ho (fun _ _ h => h)) ⟨wr.heap.size, 0, none⟩ 1 1 [.int .i64 (picX X3 k v u)] (by rfl) (by rfl) (World.news_of_block (cs := #[.int .i64 (picX X3 k v u)]) (t := 3) (fr := (0, 0)) (heap_alloc_new wr _)) (by simp [Value.oneCell']) (by omega) (by unfold maxLen; omega) (by omega) (by simp; omega) (wr.heap.size + 1) (by simp) ?_
              intro gg cap2 w5 hown5 hgrow hat hlt5
              refine hK.out _ _ ⟨hgrow.cell hHeld.1 HF1.out, hgrow.cell hHeld.2 HF2.out⟩ (fun hHeld => ?_)
              clear hK K
              try simp only [Act.put, List.setIfInBounds_toArray, List.set_cons_zero, List.set_cons_succ]
              refine wpAnyH_take (i := 28) (v := ?v28) rfl (by kernel_rfl) (by kernel_rfl) (by kernel_rfl) (fun _ _ _ h => h) (Or.inl ⟨by rfl, ?y28⟩) (by assumption) ?_
              case y28 => intro w hSw; (try dsimp only at hSw); go_simp; try with_reducible rfl
              simp only [Act.put, List.setIfInBounds_toArray, List.set_cons_zero, List.set_cons_succ]
              refine wpAnyH_done (by kernel_rfl) ?_ _
              unfold PreQ
              have hf5 := hHeld.1
              have ff5 : w5.frozen? ⟨wo.heap.size, 2, none⟩ = false := (((Frm.refl (fun k => (Value.slice A (v * W + u) c).ownBlock = some k) _).grown hgrow (fun k hk _ => hk)).frozen (a := ⟨wo.heap.size, 2, none⟩) (by simp; omega) (fun e => HF1.out e.symm)).trans (frozen_below (below_alloc (below_refl wr) _).drew f2 ff)
              have HNEW := hid (HSTEP.out _ _ _ _ ((below_alloc (below_refl wr) _).drew) (by rw [hlen]; exact hown5) hgrow)
              clear hown5 hgrow hat
              clear e1 e2 e3 e4 e5 e6 e7 e8 e9 e10 e11 e12
              go_wp2_with fail
              go_roundg (W - (u + 1))
              case measure => omega
              case rel => exact ⟨u + 1, by omega, by omega, by go_num, by have := HNEW.out; rw [hlen, ← hsucc.out] at this; exact this⟩
            · obtain rfl : u = W := by omega
              have HP3 : Hid (PixS 73 3 u H (picTo X3 k u ((v + 1) * u)) wo wr) := hid (by rw [Nat.add_mul, Nat.one_mul]; exact ⟨pv, hh, ho, hbi⟩)
              clear hh ho hbi
              go_wp2_with fail
              go_roundg (H - (v + 1))
              case measure => omega
              case rel => exact ⟨v + 1, by omega, by omega, by go_num, HP3.out⟩
        · obtain rfl : v = H := by omega
          obtain ⟨pv, hh, ho, hbi⟩ := hpix
          have hbz : wo.heap.size + 1 ≤ wr.heap.size := (Array.getElem?_eq_some_iff.1 hh).1
          have f0 : wr.cell? ⟨wo.heap.size, 0, none⟩ = some (.int .i64 W) := cell_of_row wr wo.heap.size 0 _ _ (0, 0) hh
          have f1 : wr.cell? ⟨wo.heap.size, 1, none⟩ = some (.int .i64 v) := cell_of_row wr wo.heap.size 1 _ _ (0, 0) hh
          have f2 : wr.cell? ⟨wo.heap.size, 2, none⟩ = some pv := cell_of_row wr wo.heap.size 2 _ _ (0, 0) hh
          obtain ⟨css0, hown0, _⟩ := HOWN.out
          have hu9 := fun q hq => (hown0.lt q hq).2
          obtain ⟨css, hown, hl, hsz, hR⟩ := HOWN.out.below FrF.reads hbi
          rw [picsTo_len] at hown
          have HPIX := hid (SlI.of_own ho)
          have hpv := fun q hq => (ho.lt q hq).1
          obtain ⟨A, c, rfl⟩ := own_form ho
          obtain ⟨A9, c9, rfl⟩ := own_form hown
          have HX := hid (show FrF (fun q => (Value.slice A9 k c9).ownBlock = some q) (wr.alloc (.cells #[.int .i64 (W : Int), .int .i64 (v : Int), .slice A (picTo X3 k W (v * W)).length c] 73)) [.int .i64 (W : Int), .int .i64 (v : Int), .slice A (picTo X3 k W (v * W)).length c] (picF bs k) from by
            rw [HF.out k]
            exact ⟨_, rfl, HPIX.out.below (below_alloc (below_refl wr) _), fun _ q hq he => by have h1 := hu9 q hq; have h2 := hpv q he; omega⟩)
          have HB := hid hbi
          have HHR := hid hR
          have HSZ := hid hsz
          have HL := hid hl
          have hbr1 := hbr.size
          clear hbi hh ho hown0 hu9 hpv hR hsz hl
          go_wp2_with (refine wpList_append_lies _ rfl (.tmp 103) (.tmp 105) 47 rfl W1.heap.size 73 i0 _ 3 40 Tryz.underlying47 hi hz0 hz1 hz2 rfl (by omega) (.slice A9 k c9) k css.flatten rfl ((Frm.of_below (S := fun _ => False) (below_alloc (below_refl wr) _)).own hown (fun _ _ h => h)) ⟨wr.heap.size, 0, none⟩ 1 1 [.int .i64 (W : Int), .int .i64 (v : Int), .slice A (picTo X3 k W (v * W)).length c] rfl rfl (World.news_of_block (cs := #[.int .i64 (W : Int), .int .i64 (v : Int), .slice A (picTo X3 k W (v * W)).length c]) (t := 73) (fr := (0, 0)) (heap_alloc_new wr _)) (by simp [Value.oneCell']) (by omega) (by unfold maxLen; omega) (by omega) (by simp; omega) (wr.heap.size + 1) (by simp) ?_; intro gg cap2 w5 hown5 hgrow hat hlt5)
          have HNEW := hid (OwnR.snoc (x := picF bs k) FrF.reads HHR.out HL.out HSZ.out (picsTo_len bs k) (below_alloc (below_refl wr) _) HX.out rfl hown5 hgrow (by simpa using hat))
          have HB5 : Below W1.heap.size W1 w5 := (below_alloc (below_then hbr HB.out) _).grown hgrow (below_alloc (below_then hbr HB.out) _).size (fun q hq => (hown.lt q hq).1)
          clear hown5 hgrow hat hown
          go_roundg (N - (k + 1))
          case measure => omega
          case rel => exact ⟨k + 1, by omega, by omega, by go_num, by rw [picsTo_succ]; exact HNEW.out, HB5⟩
    · obtain rfl : k = N := by omega
      have hfs := hid (FrF.slG hown)
      clear hown
      go_wp2_with (go_at_call 29; refine (encode_ok (picsOf bs) W H _ _ (by rw [HPO.out]; exact hfs.out) HOK.out).mono ?_; rintro _ w6 ⟨v6, rfl, hown6, hb6⟩)
      go_ret2
      refine ⟨_, _, rfl, ?_, ?_, below_then (below_then hb1 hbr) hb6⟩
      · rw [HP.out]; exact SlB.of_own hown6
      · rw [HR.out]; exact (SlB.of_own hor.out).below (below_then hbr hb6)
end Go.Proofs
