import Derived.Test.YtmgnalfodafhgaaGreatDoorErrSame
set_option linter.unusedVariables false
set_option linter.unusedSimpArgs false
namespace Go.Proofs
open Go.RowKit Go.Kin

theorem bytes_inj {a b : ByteArray} (h : a.toList = b.toList) : a = b := by
  rw [ByteArray.toList_eq, ByteArray.toList_eq] at h
  obtain ⟨a⟩ := a
  obtain ⟨b⟩ := b
  congr 1
  exact Array.toList_inj.1 h
theorem sameErr_no1 {e : Er} {k : KEr} (h : k.code = 0) : sameErr (some e) k = false := by simp [sameErr, h]
theorem sameErr_no2 {e : Er} {k : KEr} (h : e.leaf ≠ k.code) : sameErr (some e) k = false := by simp [sameErr, h]
theorem sameErr_no3 {e : Er} {k : KEr} (h : e.path.length ≠ k.path.length) : sameErr (some e) k = false := by
  simp only [sameErr, decide_eq_false_iff_not]; intro h'; exact h (by rw [h'.2.2])
theorem sameErr_no4 {e : Er} {k : KEr} (j : Nat) (h : e.path.getD j default ≠ k.path.getD j default) : sameErr (some e) k = false := by
  simp only [sameErr, decide_eq_false_iff_not]; intro h'; exact h (by rw [h'.2.2])
theorem sameErr_yes {e : Er} {k : KEr} (h0 : k.code ≠ 0) (h1 : e.leaf = k.code) (h2 : e.path.length = k.path.length) (h3 : ∀ j, j < k.path.length → e.path.getD j default = k.path.getD j default) : sameErr (some e) k = true := by
  simp only [sameErr, decide_eq_true_eq]
  refine ⟨h0, h1, List.ext_getElem h2 fun i hi hi' => ?_⟩
  have := h3 i hi'
  simpa [List.getD_eq_getElem?_getD, List.getElem?_eq_getElem hi, List.getElem?_eq_getElem hi'] using this

set_option maxRecDepth 100000 in
set_option maxHeartbeats 8000000 in
theorem kErr_some (e : Er) (v : Value) (k : KEr) (kv : Value) (w : World) (hg : ErrTyp w) (hE : ErrV 32 92 w e v) (hd : e.depth < 1000) (hk : KErV w kv k) :
    Calls Tryz.prog 9 #[v, kv] w fun ev w' => ev = .returned (.bool (sameErr (some e) k)) ∧ Below w.heap.size w w' := by
  obtain ⟨pv, rfl, hp⟩ := hk
  obtain ⟨c, path⟩ := k
  simp only at hp ⊢
  obtain ⟨T, x, hv⟩ := hE.shape
  subst hv
  generalize hW : w.alloc (.cells #[.int .i64 c, pv] 35) = W
  have hb0 : Below w.heap.size w W := by rw [← hW]; exact below_alloc (below_refl w) _
  have c0 : ∀ i : Aft W, i.W.cell? ⟨w.heap.size, 0, none⟩ = some (.int .i64 c) := fun i => cell_below i.below (by rw [← hW, World.cell?_alloc_at _ _ _ _ rfl]; rfl)
  have c1 : ∀ i : Aft W, i.W.cell? ⟨w.heap.size, 1, none⟩ = some pv := fun i => cell_below i.below (by rw [← hW, World.cell?_alloc_at _ _ _ _ rfl]; rfl)
  have HgW := hid (hg.below hb0)
  have HEW := hid (hE.below hb0)
  have HpW := hid (hp.below StepR.stable hb0)
  clear hg hE hp
  generalize hl : e.leaf = lf
  have HL := hid hl
  clear hl
  by_cases hc : c = 0
  · subst hc
    go_enter Tryz.func9, Tryz.ntmps9
    go_wp2_with fail
    refine wp_region_aft (by kernel_rfl) (by kernel_rfl) ?_
    repeat (go_big_quiet_step (first | (go_at_call 25; exact aft_calls (kOK_yes pv _))))
    refine wpQuiet_nil ?_
    intro _ hw'
    obtain ⟨iq, hw''⟩ := hw'
    subst hw''
    go_wp2
    go_ret
    exact ⟨ret_bool (sameErr_no1 rfl).symm, below_then hb0 iq.below⟩
  · have hc0 : (c == 0) = false := by simpa using hc
    by_cases hlc : lf = c
    · subst hlc
      go_enter Tryz.func9, Tryz.ntmps9
      go_wp2_with fail
      refine wp_region_aft (by kernel_rfl) (by kernel_rfl) ?_
      repeat (go_big_quiet_step (first | (go_at_call 25; exact aft_calls (kOK_no lf pv _ hc0)) | (go_at_call 26; exact aft_calls (Of_someB e _ _ lf HL.out (HgW.out.below (Aft.below _)) (HEW.out.below (Aft.below _))))))
      refine wpQuiet_nil ?_
      intro _ hw'
      obtain ⟨iq, hw''⟩ := hw'
      subst hw''
      have hbq : Below w.heap.size w iq.W := below_then hb0 iq.below
      have d1 : ∀ W', Below iq.W.heap.size iq.W W' → W'.cell? ⟨w.heap.size, 1, none⟩ = some pv := fun W' hb => cell_below hb (c1 iq)
      have HD1 := hid d1
      clear c0 c1 d1
      obtain ⟨A, cap, hpv, hm, hr⟩ := steps_len (HpW.out.below StepR.stable iq.below)
      subst hpv
      have HR := hid hr
      clear hr
      go_wp2_with (go_at_call 27; refine (Path_some e _ _ (HgW.out.below iq.below) (HEW.out.below iq.below) hd).mono ?_; rintro ev w' ⟨v1, rfl, hv1, hb1⟩; obtain ⟨A1, cap1, rfl, hm1, hr1⟩ := steps_len (steps_of_own hv1); have HR1 := hid hr1; clear hr1 hv1; have d2 := HD1.out _ hb1)
      · go_ret
        have hne : ((e.path.length : Int) != (path.length : Int)) = true := by assumption
        exact ⟨ret_bool (sameErr_no3 (fun h => by simp only at h; rw [h] at hne; simp at hne)).symm, below_then hbq hb1⟩
      · have hne : ((e.path.length : Int) != (path.length : Int)) = false := by assumption
        have hlen : e.path.length = path.length := by simp only [bne_eq_false_iff_eq] at hne; omega
        have HLEN := hid hlen
        clear hlen
        rename_i w' _ _ _
        go_loopg [6] path.length (fun g s6 wr => ∃ k : Nat, k ≤ path.length ∧ path.length - k ≤ g ∧ s6 = .int .i64 k ∧ Below w'.heap.size w' wr ∧ Hid (∀ j, j < k → e.path.getD j default = path.getD j default))
        case atStart => exact ⟨0, Nat.zero_le _, by omega, rfl, below_refl _, hid (fun j hj => absurd hj (Nat.not_lt_zero _))⟩
        case round =>
          obtain ⟨k, hk, hg, rfl, hbr, hall⟩ := hrel
          have l1 : e.path.length ≤ path.length := by have := HLEN.out; omega
          have l2 : path.length ≤ e.path.length := by have := HLEN.out; omega
          by_cases hlt : k < path.length
          · obtain ⟨b, off, rfl, x0, x1⟩ := HR.out k hlt
            obtain ⟨b1, off1, rfl, y0, y1⟩ := HR1.out k (by omega)
            have bb : Below iq.W.heap.size iq.W wr := below_then hb1 hbr
            have x0' : ∀ i : Aft wr, i.W.cell? ⟨b, off + k * 2, none⟩ = some (.string (path.getD k default).1) := fun i => cell_below (below_then bb i.below) x0
            have x1' : ∀ i : Aft wr, i.W.cell? ⟨b, off + k * 2 + 1, none⟩ = some (.int .i64 (path.getD k default).2) := fun i => cell_below (below_then bb i.below) x1
            have y0' : ∀ i : Aft wr, i.W.cell? ⟨b1, off1 + k * 2, none⟩ = some (.string (e.path.getD k default).1) := fun i => cell_below (below_then hbr i.below) y0
            have y1' : ∀ i : Aft wr, i.W.cell? ⟨b1, off1 + k * 2 + 1, none⟩ = some (.int .i64 (e.path.getD k default).2) := fun i => cell_below (below_then hbr i.below) y1
            have d2' : ∀ i : Aft wr, i.W.cell? ⟨w.heap.size, 1, none⟩ = some (.slice (some ⟨b, off, none⟩) path.length cap) := fun i => cell_below (below_then hbr i.below) d2
            generalize hp1 : path.getD k default = p1 at x0' x1'
            generalize hp2 : e.path.getD k default = p2 at y0' y1'
            obtain ⟨s1, n1⟩ := p1
            obtain ⟨s2, n2⟩ := p2
            simp only at x0' x1' y0' y1'
            have HP1 := hid hp1
            have HP2 := hid hp2
            clear hp1 hp2 x0 x1 y0 y1 d2
            have hk1 : (k : Int) < (path.length : Int) := by omega
            have hk2 : (k : Int) < (e.path.length : Int) := by omega
            by_cases hs : (s2.toList == s1.toList) = true
            · by_cases hn : (n2 != n1) = true
              · go_wp2_with fail
                refine wp_region_aft (by kernel_rfl) (by kernel_rfl) ?_
                repeat (go_big_quiet_step (fail))
                refine wpQuiet_nil ?_
                intro _ hw'
                obtain ⟨iq2, hw''⟩ := hw'
                subst hw''
                go_wp2
                go_ret
                exact ⟨ret_bool (sameErr_no4 k (by rw [HP1.out, HP2.out]; intro h; simp only [Prod.mk.injEq] at h; rw [h.2] at hn; simp at hn)).symm, below_then hbq (below_then hb1 (below_then hbr iq2.below))⟩
              · have hn' : (n2 != n1) = false := by simpa using hn
                clear hn
                go_wp2_with fail
                refine wp_region_aft (by kernel_rfl) (by kernel_rfl) ?_
                repeat (go_big_quiet_step (fail))
                refine wpQuiet_nil ?_
                intro _ hw'
                obtain ⟨iq2, hw''⟩ := hw'
                subst hw''
                go_wp2
                go_roundg (path.length - (k + 1))
                case measure => omega
                case rel =>
                  refine ⟨k + 1, by omega, by omega, by go_num, below_then hbr iq2.below, hid (fun j hj => ?_)⟩
                  by_cases e1 : j = k
                  · subst e1
                    rw [HP1.out, HP2.out]
                    simp only [bne_eq_false_iff_eq] at hn'
                    simp only [beq_iff_eq] at hs
                    rw [hn', bytes_inj hs]
                  · exact hall.out j (by omega)
            · have hs' : (s2.toList == s1.toList) = false := by simpa using hs
              clear hs
              go_wp2_with fail
              refine wp_region_aft (by kernel_rfl) (by kernel_rfl) ?_
              repeat (go_big_quiet_step (fail))
              refine wpQuiet_nil ?_
              intro _ hw'
              obtain ⟨iq2, hw''⟩ := hw'
              subst hw''
              go_wp2
              go_ret
              exact ⟨ret_bool (sameErr_no4 k (by rw [HP1.out, HP2.out]; intro h; simp only [Prod.mk.injEq] at h; rw [h.1] at hs'; simp at hs')).symm, below_then hbq (below_then hb1 (below_then hbr iq2.below))⟩
          · have hge : e.path.length ≤ k := by omega
            obtain rfl : k = path.length := by omega
            go_wp2
            go_ret
            exact ⟨ret_bool (sameErr_yes hc HL.out HLEN.out hall.out).symm, below_then hbq (below_then hb1 hbr)⟩
    · go_enter Tryz.func9, Tryz.ntmps9
      have hlc' : (lf != c) = true := by simpa using hlc
      go_wp2_with fail
      refine wp_region_aft (by kernel_rfl) (by kernel_rfl) ?_
      repeat (go_big_quiet_step (first | (go_at_call 25; exact aft_calls (kOK_no c pv _ hc0)) | (go_at_call 26; exact aft_calls (Of_someB e _ _ lf HL.out (HgW.out.below (Aft.below _)) (HEW.out.below (Aft.below _))))))
      refine wpQuiet_nil ?_
      intro _ hw'
      obtain ⟨iq, hw''⟩ := hw'
      subst hw''
      go_wp2
      go_ret
      exact ⟨ret_bool (sameErr_no2 (by rw [HL.out]; exact hlc)).symm, below_then hb0 iq.below⟩
end Go.Proofs
