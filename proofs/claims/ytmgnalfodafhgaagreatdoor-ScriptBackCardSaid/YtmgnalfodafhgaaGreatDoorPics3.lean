import Derived.Test.YtmgnalfodafhgaaGreatDoorPics2
set_option linter.unusedVariables false
set_option linter.unusedSimpArgs false
namespace Go.Kin
open Go.RowKit
theorem SlB.take {k : IntKind} {w : World} {base : Nat} {e : TypeId} {g n c : Nat} {xs : List Int} (h : w.ownsRow base e 1 (.slice (some ⟨g, 0, none⟩) n c) n (xs.map (Value.int k))) (m : Nat) (hm : m ≤ n) : SlB k w (.slice (some ⟨g, 0, none⟩) m m) (xs.take m) := by
  have hl := own_len h
  have h1 := SlI.of_own h
  obtain ⟨A, c', hv, hmx, hr⟩ := h1
  refine ⟨⟨some ⟨g, 0, none⟩, m, by rw [List.length_take, Nat.min_eq_left (by omega)], by rw [List.length_take]; omega, fun hp => ⟨g, 0, rfl, fun j hj => ?_⟩⟩, fun A n c hv => by injection hv; omega⟩
  rw [List.length_take] at hj
  have h2 := own_cell h j (by omega)
  rw [Nat.zero_add, h2, List.getD_eq_getElem?_getD, List.getD_eq_getElem?_getD, List.getElem?_take_of_lt (by omega)]
theorem SlB.cap {k : IntKind} {w : World} {A : Option Addr} {n c : Nat} {xs : List Int} (h : SlB k w (.slice A n c) xs) : SlB k w (.slice A n n) xs := by
  obtain ⟨⟨A', c', hv, hm, hr⟩, h2⟩ := h
  injection hv with e1 e2 e3
  exact ⟨⟨A', n, by rw [e1, ← e2], hm, hr⟩, fun A m c hv => by injection hv; omega⟩
end Go.Kin
namespace Go.Proofs
open Go.RowKit Go.Kin Go.Shelf
set_option maxRecDepth 100000 in
set_option maxHeartbeats 8000000 in
/-- Byte by byte. -/
theorem pics_raw (bs : List Int) (bv : Value) (w : World) (hs : SlB .u8 w bv bs) (hbig : bs.length ≤ 2000) (hv : ∀ x ∈ bs, 0 ≤ x ∧ x ≤ 255) (hraw : rawB bs = true) :
    Calls Tryz.prog 14 #[bv] w (PicRet bs w) := by
  have hx := getD_smp hv
  have z2 := hx 2; have z3 := hx 3
  have HP := hid (show picB bs = (bs.drop 4).take (rawN bs) by unfold picB; rw [hraw]; rfl)
  have HR := hid (show picRest bs = (bs.drop 4).drop (rawN bs) by unfold picRest; rw [hraw]; rfl)
  have hr7 : bs.getD 3 0 % 8 = 7 := by simpa [rawB] using hraw
  have hN : rawN bs = min (bs.getD 2 0).toNat (bs.length - 4) := rfl
  have HV := hid hv
  clear hx hraw hv
  have hdl : (bs.drop 4).length = bs.length - 4 := List.length_drop
  generalize hX2 : bs.getD 2 0 = X2 at *
  have HX2 := hid hX2
  generalize hX3 : bs.getD 3 0 = X3 at *
  have HX3 := hid hX3
  have hr8 : (X3 % 8 == 7) = true := by simpa using hr7
  generalize rawN bs = n at *
  obtain ⟨i0, hi, hi0, hi1, hi2⟩ := info_parts Tq.info_u8
  clear hX2 hX3 hr7
  generalize hL : bs.length - 4 = L at *
  have HL := hid hL
  have hL4 : L ≤ 2000 := by omega
  have hnL : n ≤ L := by omega
  have hnX : (n : Int) = if (L : Int) < X2 then (L : Int) else X2 := by split <;> omega
  have HNX := hid hnX
  have HDL := hid hdl
  clear hnX hN hL hdl
  go_enter Tryz.func14, Tryz.ntmps14
  go_upto_region 3 with (go_at_call 28; refine (cut_any bs 4 _ _ hs (by omega) (by omega) hbig HV.out).mono ?_; rintro _ w1 ⟨x, r, rfl, hox, hor, hb1⟩; obtain ⟨g, cap, rfl⟩ := own_slice hox; have y2 := own_cell hox 2 (by omega); have y3 := own_cell hox 3 (by omega); rw [cutX_get _ _ _ (by omega), HX2.out] at y2; rw [cutX_get _ _ _ (by omega), HX3.out] at y3; have hb1' := hid hb1; rw [HL.out] at hor; have hor' := hid hor; obtain ⟨A, c, rfl⟩ := own_form hor; have hcap := (SlB.of_own hor).2 _ _ _ rfl; clear hb1 hox hs hor)
  go_cut [6] (fun s6 wx => s6 = .int .i64 (n : Int) ∧ wx = w1)
  case first =>
    go_wp2_with fail
    all_goals (go_meet; exact ⟨by rw [HNX.out]; first | rw [if_pos (by assumption)] | rw [if_neg (by omega)], rfl⟩)
  case rest =>
    obtain ⟨rfl, rfl⟩ := hcut
    clear y2 y3
    have hsz := hb1'.out.size
    have hmk := World.ownsRow_made wc #[] 0 (base := w.heap.size) (e := 5) (size := 1) hsz (by unfold maxLen; omega) rfl
    by_cases hlt : n < L
    · obtain ⟨g2, c2, hsl⟩ := own_slice (n := L - 1) (by rw [show L - 1 + 1 = L by omega]; exact hor'.out)
      obtain ⟨rfl, rfl⟩ : A = some ⟨g2, 0, none⟩ ∧ c = c2 := by injection hsl with h1 h2 h3; exact ⟨h1, h3⟩
      have hsw := hid ((SlI.of_own hor'.out).below (below_alloc (below_refl wc) (.cells #[] 5)).drew)
      have hdl : (bs.drop 4).length = L := HDL.out
      have hm1 : (((bs.drop 4).drop n).map (Value.int .u8)).length = (L - n) * 1 := by rw [List.length_map, List.length_drop, hdl, Nat.mul_one]
      have HM1 := hid hm1
      have HMK := hid ((Frm.of_below (S := fun _ => False) ((below_refl (wc.alloc (Obj.cells #[] 5))).drew)).own hmk (fun _ _ h => h))
      clear hdl hm1 hmk hsl
      have i1 : (0 : Int) ≤ (n : Int) := by omega
      have i2 : (n : Int) ≤ (c : Int) := by omega
      have i3 : (n : Int) ≤ (L : Int) := by omega
      have i4 : c ≠ n := by omega
      have i5 : n < c := by omega
      go_wp2_with fail
      go_region_held3 (fun _ => True) (trivial) ((refine step_append_lies _ (by rfl) (.tmp 36) (.tmp 39) 40 (by rfl) w.heap.size 5 i0 (.int .u8 0) 1 1 Tryz.underlying40 hi hi0 hi1 hi2 rfl (by omega) (.slice (some ⟨wc.heap.size, 0, none⟩) 0 0) 0 [] (by rfl) HMK.out ⟨g2, n, none⟩ (L - n) (c - n) _ (by rfl) HM1.out (by have := hsw.out.news n; rwa [Nat.zero_add] at this) (fun u hu => by simp only [List.mem_map] at hu; obtain ⟨_, _, rfl⟩ := hu; rfl) (by omega) (by unfold maxLen; omega) (by omega) (by simp; omega) (wc.heap.size + 1) (by simp) ?_; intro g5 cap5 w5 hown5 hgrow hat hlt5))
      clear i1 i2 i3 i4 i5
      go_wp2_with fail
      go_ret2
      refine ⟨_, _, rfl, ?_, ?_, ?_⟩
      · rw [HP.out]
        have hB : SlB .u8 wc (.slice (some ⟨g2, 0, none⟩) n n) ((bs.drop 4).take n) := SlB.take hor'.out n hnL
        have h1 := hB.below (below_alloc (below_refl wc) (.cells #[] 5)).drew
        refine ⟨SlI.frm h1.1 ((Frm.refl _ _).grown (S := fun k => (Value.slice (some ⟨wc.heap.size, 0, none⟩) 0 0).ownBlock = some k) hgrow (fun k hk _ => hk)) (fun q hq e => ?_), h1.2⟩
        have e1 : g2 = q := by simpa [Value.ownBlock] using hq
        have e2 : wc.heap.size = q := by simpa [Value.ownBlock] using e
        have := (hor'.out.lt g2 rfl).2
        omega
      · rw [HR.out]
        rw [Nat.zero_add, List.nil_append] at hown5
        exact SlB.of_own hown5
      · refine (below_alloc hb1'.out _).drew.grown hgrow (by simp; omega) (fun q hq => ?_)
        have e2 : wc.heap.size = q := by simpa [Value.ownBlock] using hq
        omega
    · obtain rfl : n = L := by omega
      have hd0 : (bs.drop 4).drop n = [] := List.drop_eq_nil_of_le (by rw [HDL.out]; omega)
      have hd1 : (bs.drop 4).take n = bs.drop 4 := List.take_of_length_le (by rw [HDL.out]; omega)
      have HD := hid (And.intro hd0 hd1)
      clear hd0 hd1
      have i1 : (0 : Int) ≤ (n : Int) := by omega
      have i2 : (n : Int) ≤ (c : Int) := by omega
      have hsl := SlB.of_own hor'.out
      have HSL := hid hsl
      clear hsl
      rcases A with _ | ⟨b, off, sp⟩
      · go_wp2_with fail
        go_region_held3 (fun _ => True) (trivial) (fail)
        go_wp2_with fail
        go_ret2
        refine ⟨_, _, rfl, ?_, ?_, (below_alloc hb1'.out _).drew⟩
        · rw [HP.out, HD.out.2]; exact HSL.out.cap.below (below_alloc (below_refl wc) (.cells #[] 5)).drew
        · rw [HR.out, HD.out.1]; exact (SlB.of_own (xs := []) hmk).below ((below_refl (wc.alloc (.cells #[] 5))).drew)
      · by_cases hcn : n = c
        · subst hcn
          go_wp2_with fail
          go_region_held3 (fun _ => True) (trivial) (fail)
          go_wp2_with fail
          go_ret2
          refine ⟨_, _, rfl, ?_, ?_, (below_alloc hb1'.out _).drew⟩
          · rw [HP.out, HD.out.2]; exact HSL.out.cap.below (below_alloc (below_refl wc) (.cells #[] 5)).drew
          · rw [HR.out, HD.out.1]; exact (SlB.of_own (xs := []) hmk).below ((below_refl (wc.alloc (.cells #[] 5))).drew)
        · have i4 : c ≠ n := by omega
          have i5 : n < c := by omega
          clear hcn
          go_wp2_with fail
          go_region_held3 (fun _ => True) (trivial) (fail)
          go_wp2_with fail
          go_ret2
          refine ⟨_, _, rfl, ?_, ?_, (below_alloc hb1'.out _).drew⟩
          · rw [HP.out, HD.out.2]; exact HSL.out.cap.below (below_alloc (below_refl wc) (.cells #[] 5)).drew
          · rw [HR.out, HD.out.1]; exact (SlB.of_own (xs := []) hmk).below ((below_refl (wc.alloc (.cells #[] 5))).drew)
theorem pics_any (bs : List Int) (bv : Value) (w : World) (hs : SlB .u8 w bv bs) (hbig : bs.length ≤ 2000) (hv : ∀ x ∈ bs, 0 ≤ x ∧ x ≤ 255) :
    Calls Tryz.prog 14 #[bv] w (PicRet bs w) := by
  cases h : rawB bs with
  | true => exact pics_raw bs bv w hs hbig hv h
  | false => exact pics_made bs bv w hs hbig hv h
end Go.Proofs
