import Derived.Test.YtmgnalfodafhgaaGreatDoorK3
import Derived.Test.YtmgnalfodafhgaaGreatDoorSrc2
import Derived.Deep.AppendLies
set_option linter.unusedVariables false
set_option linter.unusedSimpArgs false
namespace Go.Proofs
open Go.RowKit Go.Kin Go.Shelf
theorem Tq.info_u8 : (Tryz.prog.info? 5).map (fun i => (i.zero, i.size, i.bytes)) = some (some (.int .u8 0), 1, 1) := by kernel_rfl
theorem or_top : ∀ (m : Fin 8) (q : Fin 256), q.val % 2 ^ (8 - m.val) = 0 → bits BinOp.or IntKind.u8 (q.val : Int) (128 / 2 ^ m.val) = (q.val : Int) + 2 ^ (7 - m.val) := by decide +kernel
theorem or_last (l : List Bool) : bits BinOp.or IntKind.u8 (byteAt l (l.length / 8) : Nat) (128 / 2 ^ (l.length % 8)) = (byteAt (l ++ [true]) (l.length / 8) : Nat) := by
  obtain ⟨h1, h2⟩ := byteAt_last l
  have h3 := or_top ⟨l.length % 8, Nat.mod_lt _ (by omega)⟩ ⟨byteAt l (l.length / 8), byteAt_lt _ _⟩ h1
  rw [h3, h2]
  simp
theorem or_last0 (l : List Bool) (h : l.length % 8 = 0) : bits BinOp.or IntKind.u8 (byteAt l (l.length / 8) : Nat) 128 = (byteAt (l ++ [true]) (l.length / 8) : Nat) := by
  have := or_last l
  rw [h] at this
  exact this
theorem new_one (w : World) (u : Value) (t : TypeId) : ∀ (j : Nat) (x : Value), [u][j]? = some x → (w.alloc (.cells #[u] t)).cell? ((⟨w.heap.size, 0, none⟩ : Addr).add j) = some x := by
  intro j x hx
  obtain rfl : j = 0 := by
    rcases j with _ | j
    · rfl
    · simp at hx
  simp at hx
  subst hx
  rw [show (⟨w.heap.size, 0, none⟩ : Addr).add 0 = ⟨w.heap.size, 0, none⟩ from rfl, World.cell?_alloc_at _ _ _ _ rfl]
  rfl
set_option maxRecDepth 100000 in
set_option maxHeartbeats 4000000 in
theorem bit_any (F : Nat → Prop) (b : Nat) (l : List Bool) (x : Bool) (w : World) (h : WrS 5 F b l w) (hbig : l.length ≤ 1099511627776) :
    Calls Tryz.prog 77 #[.pointer (some ⟨b, 0, none⟩), .bool x] w fun e w' => e = .returned (.tuple #[]) ∧ WrS 5 F b (l ++ [x]) w' ∧ Frm (fun k => ¬ F k) w w' := by
  obtain ⟨v, h0, hrow, hv1, hv2⟩ := h.row
  have hn := h.n
  have t0 := h.thaw0
  have t1 := h.thaw1
  have hbF : ¬ F b := fun hf => (h.out b hf).2 rfl
  by_cases h8 : l.length % 8 = 0
  · have hb0 := below_alloc (below_refl w) (.cells #[.int .u8 0] 5)
    have hblt := h.lt
    have hpl : (pack l).length = l.length / 8 := by rw [pack_length]; omega
    rw [hpl] at hrow
    have hout := h.out
    obtain ⟨i0, hi, hz0, hz1, hz2⟩ := info_parts Tq.info_u8
    go_enter Tryz.func77, Tryz.ntmps77
    clear h
    cases x
    · go_wp2_with (refine wpList_append_lies _ rfl (.tmp 14) (.tmp 15) 40 rfl 0 5 i0 (.int .u8 0) 1 1 Tryz.underlying40 hi hz0 hz1 hz2 rfl (by decide) v (l.length / 8) _ rfl (hrow.alloc _) ⟨w.heap.size, 0, none⟩ 1 1 [.int .u8 0] rfl rfl (new_one _ _ _) (by intro u hu; simp at hu; subst hu; rfl) (by omega) (by unfold maxLen; omega) (by omega) (Nat.zero_le _) (w.heap.size + 1) (by simp) ?_; intro g cap w1 hown hgrow hat hlt; have d0 := hgrow.cell (cell_below hb0 h0) (fun e => hv1 e.symm); have d1 := hgrow.cell (cell_below hb0 hn) (fun e => hv1 e.symm); have e0 : w1.frozen? ⟨b, 0, none⟩ = false := (World.frozen?_of_block (hgrow.block b (by have := hb0.size; omega) (fun e => hv1 e.symm))).trans (frozen_below hb0 h0 t0); have e1 : w1.frozen? ⟨b, 1, none⟩ = false := (World.frozen?_of_block (hgrow.block b (by have := hb0.size; omega) (fun e => hv1 e.symm))).trans (frozen_below hb0 hn t1))
      have hgb : g ≠ b := by
        rcases hat with h1 | h1
        · exact fun e => hv1 (by rw [h1, e])
        · omega
      have hfg : ∀ k, F k → g ≠ k := by
        rcases hat with h1 | h1
        · exact fun k hk e => hv2 k hk (by rw [h1, e])
        · intro k hk; have := hout k hk; omega
      have hsz : w.heap.size + 1 ≤ w1.heap.size := by have := hgrow.size; simpa using this
      have hfr : Frm (fun k => ¬ F k) w (w1.setCell ⟨b, 0, none⟩ (.slice (some ⟨g, 0, none⟩) (l.length / 8 + 1) cap)) :=
        ((Frm.of_below (S := fun k => ¬ F k) hb0).grown hgrow (fun k hk _ hf => hv2 k hf hk)).setCell (p := ⟨b, 0, none⟩) (fun _ => hbF) _
      have hM' : Hid (WrM 5 F b l (.slice (some ⟨g, 0, none⟩) (l.length / 8 + 1) cap) (w1.setCell ⟨b, 0, none⟩ (.slice (some ⟨g, 0, none⟩) (l.length / 8 + 1) cap))) := by
        refine ⟨fun k hk => ?_, ?_, by simpa using e0, by simpa using e1, World.cell?_setCell_same _ _ _ d0, ?_, fun e => hgb (by simpa [Value.ownBlock] using e), fun k hk e => hfg k hk (by simpa [Value.ownBlock] using e)⟩
        · have := hout k hk; exact ⟨by simp [World.setCell]; omega, this.2⟩
        · rw [World.cell?_setCell_other _ _ _ _ (by simp)]; exact d1
        · have := (Frm.setCell (S := (· = b)) (Frm.refl _ _) (p := ⟨b, 0, none⟩) (fun _ => rfl) (.slice (some ⟨g, 0, none⟩) (l.length / 8 + 1) cap)).own hown (fun k hk e => hgb ((show g = k by simpa [Value.ownBlock] using hk).trans e))
          rw [pad_length, pad_of0 h8, List.map_append]
          exact this
      clear d0 d1 e0 e1 hown hgrow hrow h0 hn t0 t1
      go_end0
      exact ⟨rfl, hM'.out.end0, hfr.setCell (p := ⟨b, 1, none⟩) (fun _ => hbF) _⟩
    · go_wp2_with (refine wpList_append_lies _ rfl (.tmp 14) (.tmp 15) 40 rfl 0 5 i0 (.int .u8 0) 1 1 Tryz.underlying40 hi hz0 hz1 hz2 rfl (by decide) v (l.length / 8) _ rfl (hrow.alloc _) ⟨w.heap.size, 0, none⟩ 1 1 [.int .u8 0] rfl rfl (new_one _ _ _) (by intro u hu; simp at hu; subst hu; rfl) (by omega) (by unfold maxLen; omega) (by omega) (Nat.zero_le _) (w.heap.size + 1) (by simp) ?_; intro g cap w1 hown hgrow hat hlt; have d0 := hgrow.cell (cell_below hb0 h0) (fun e => hv1 e.symm); have d1 := hgrow.cell (cell_below hb0 hn) (fun e => hv1 e.symm); have e0 : w1.frozen? ⟨b, 0, none⟩ = false := (World.frozen?_of_block (hgrow.block b (by have := hb0.size; omega) (fun e => hv1 e.symm))).trans (frozen_below hb0 h0 t0); have e1 : w1.frozen? ⟨b, 1, none⟩ = false := (World.frozen?_of_block (hgrow.block b (by have := hb0.size; omega) (fun e => hv1 e.symm))).trans (frozen_below hb0 hn t1))
      have hgb : g ≠ b := by
        rcases hat with h1 | h1
        · exact fun e => hv1 (by rw [h1, e])
        · omega
      have hfg : ∀ k, F k → g ≠ k := by
        rcases hat with h1 | h1
        · exact fun k hk e => hv2 k hk (by rw [h1, e])
        · intro k hk; have := hout k hk; omega
      have hsz : w.heap.size + 1 ≤ w1.heap.size := by have := hgrow.size; simpa using this
      have hfr : Frm (fun k => ¬ F k) w (w1.setCell ⟨b, 0, none⟩ (.slice (some ⟨g, 0, none⟩) (l.length / 8 + 1) cap)) :=
        ((Frm.of_below (S := fun k => ¬ F k) hb0).grown hgrow (fun k hk _ hf => hv2 k hf hk)).setCell (p := ⟨b, 0, none⟩) (fun _ => hbF) _
      have hM' : Hid (WrM 5 F b l (.slice (some ⟨g, 0, none⟩) (l.length / 8 + 1) cap) (w1.setCell ⟨b, 0, none⟩ (.slice (some ⟨g, 0, none⟩) (l.length / 8 + 1) cap))) := by
        refine ⟨fun k hk => ?_, ?_, by simpa using e0, by simpa using e1, World.cell?_setCell_same _ _ _ d0, ?_, fun e => hgb (by simpa [Value.ownBlock] using e), fun k hk e => hfg k hk (by simpa [Value.ownBlock] using e)⟩
        · have := hout k hk; exact ⟨by simp [World.setCell]; omega, this.2⟩
        · rw [World.cell?_setCell_other _ _ _ _ (by simp)]; exact d1
        · have := (Frm.setCell (S := (· = b)) (Frm.refl _ _) (p := ⟨b, 0, none⟩) (fun _ => rfl) (.slice (some ⟨g, 0, none⟩) (l.length / 8 + 1) cap)).own hown (fun k hk e => hgb ((show g = k by simpa [Value.ownBlock] using hk).trans e))
          rw [pad_length, pad_of0 h8, List.map_append]
          exact this
      clear d0 d1 e0 e1 hown hgrow hrow h0 hn t0 t1
      generalize (w1.setCell ⟨b, 0, none⟩ (.slice (some ⟨g, 0, none⟩) (l.length / 8 + 1) cap)) = W at *
      have hgF : ¬ F g := fun hf => hM'.out.row2 g hf rfl
      have hrw := hM'.out.row
      rw [pad_length] at hrw
      have c0 := hrw.cellAt (l.length / 8) (by omega)
      have f0 : W.frozen? ⟨g, l.length / 8, none⟩ = false := hrw.frozenAt _
      rw [List.getElem?_map, List.getElem?_eq_getElem (by rw [pad_length]; omega), pad_get, Option.map_some] at c0
      have m0 := hM'.out.at0
      have m1 := hM'.out.n
      have u1 := hM'.out.thaw1
      have em : ((l.length % 8 : Nat) : Int) = (l.length : Int) % 8 := by omega
      have ed : ((l.length / 8 : Nat) : Int) = (l.length : Int) / 8 := by omega
      have a0 : ∀ i : Aft W, i.W.cell? ⟨b, 0, none⟩ = some (.slice (some ⟨g, 0, none⟩) (l.length / 8 + 1) cap) := fun i => cell_below i.below m0
      have a1 : ∀ i : Aft W, i.W.cell? ⟨b, 1, none⟩ = some (.int .i64 l.length) := fun i => cell_below i.below m1
      have a2 : ∀ i : Aft W, i.W.cell? ⟨g, l.length / 8, none⟩ = some (.int .u8 (byteAt l (l.length / 8) : Nat)) := fun i => cell_below i.below c0
      refine wp_region_aft_tail (n := 19) (by simp only [List.take_succ_cons, List.take_zero]; rfl) (by simp only [List.drop_succ_cons, List.drop_zero]; rfl) (by kernel_rfl) (by kernel_rfl) (by kernel_rfl) (by kernel_rfl) (by kernel_rfl) ?_
      repeat (go_big_quiet_step (fail))
      refine wpQuiet_nil ?_
      intro _ hw'
      obtain ⟨iq, hw''⟩ := hw'
      subst hw''
      have hM2 : Hid (WrM 5 F b l (.slice (some ⟨g, 0, none⟩) (l.length / 8 + 1) cap) iq.W) := hM'.out.more iq.below
      have s1 := cell_below iq.below c0
      have s2 := frozen_below iq.below c0 f0
      have s3 := cell_below iq.below m1
      have s4 := frozen_below iq.below m1 u1
      have hfq := hfr.trans (Frm.of_below iq.below)
      clear a0 a1 a2 c0 f0 m0 m1 u1 hrw hM'
      first | rw [or_last] | rw [or_last0 l h8]
      go_wp2
      go_end0
      refine ⟨rfl, hM2.out.end1 _ rfl, ?_⟩
      exact (hfq.setCell (p := ⟨g, l.length / 8, none⟩) (fun _ => hgF) _).setCell (p := ⟨b, 1, none⟩) (fun _ => hbF) _
  · have hM : WrM 5 F b l v w := ⟨h.out, hn, t0, t1, h0, by rw [pad_of h8]; exact hrow, hv1, hv2⟩
    obtain ⟨g, cap, rfl⟩ := hM.slice
    have hM' := hid hM
    have hfr : Frm (fun k => ¬ F k) w w := Frm.refl _ _
    go_enter Tryz.func77, Tryz.ntmps77
    cases x
    · go_wp2_with fail
      go_end0
      exact ⟨rfl, hM'.out.end0, (Frm.refl _ _).setCell (fun _ => hbF) _⟩
    · go_wp2_with fail
      clear hrow hM h0 hn t0 t1
      have hgF : ¬ F g := fun hf => hM'.out.row2 g hf rfl
      have hgb : g ≠ b := fun e => hM'.out.row1 (by rw [e]; rfl)
      have hrw := hM'.out.row
      rw [pad_length] at hrw
      have c0 := hrw.cellAt (l.length / 8) (by omega)
      have f0 : w.frozen? ⟨g, l.length / 8, none⟩ = false := hrw.frozenAt _
      rw [List.getElem?_map, List.getElem?_eq_getElem (by rw [pad_length]; omega), pad_get, Option.map_some] at c0
      have m0 := hM'.out.at0
      have m1 := hM'.out.n
      have u1 := hM'.out.thaw1
      have em : ((l.length % 8 : Nat) : Int) = (l.length : Int) % 8 := by omega
      have ed : ((l.length / 8 : Nat) : Int) = (l.length : Int) / 8 := by omega
      have a0 : ∀ i : Aft w, i.W.cell? ⟨b, 0, none⟩ = some (.slice (some ⟨g, 0, none⟩) (l.length / 8 + 1) cap) := fun i => cell_below i.below m0
      have a1 : ∀ i : Aft w, i.W.cell? ⟨b, 1, none⟩ = some (.int .i64 l.length) := fun i => cell_below i.below m1
      have a2 : ∀ i : Aft w, i.W.cell? ⟨g, l.length / 8, none⟩ = some (.int .u8 (byteAt l (l.length / 8) : Nat)) := fun i => cell_below i.below c0
      refine wp_region_aft_tail (n := 19) (by simp only [List.take_succ_cons, List.take_zero]; rfl) (by simp only [List.drop_succ_cons, List.drop_zero]; rfl) (by kernel_rfl) (by kernel_rfl) (by kernel_rfl) (by kernel_rfl) (by kernel_rfl) ?_
      repeat (go_big_quiet_step (fail))
      refine wpQuiet_nil ?_
      intro _ hw'
      obtain ⟨iq, hw''⟩ := hw'
      subst hw''
      have hM2 : Hid (WrM 5 F b l (.slice (some ⟨g, 0, none⟩) (l.length / 8 + 1) cap) iq.W) := hM'.out.more iq.below
      have s1 := cell_below iq.below c0
      have s2 := frozen_below iq.below c0 f0
      have s3 := cell_below iq.below m1
      have s4 := frozen_below iq.below m1 u1
      have hfq := hfr.trans (Frm.of_below iq.below)
      clear a0 a1 a2 c0 f0 m0 m1 u1 hrw hM'
      first | rw [or_last] | rw [or_last0 l h8]
      go_wp2
      go_end0
      refine ⟨rfl, hM2.out.end1 _ rfl, ?_⟩
      exact (hfq.setCell (p := ⟨g, l.length / 8, none⟩) (fun _ => hgF) _).setCell (p := ⟨b, 1, none⟩) (fun _ => hbF) _
end Go.Proofs
