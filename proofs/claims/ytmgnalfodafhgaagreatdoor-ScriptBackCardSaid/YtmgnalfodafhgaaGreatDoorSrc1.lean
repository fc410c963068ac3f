import Derived.Test.YtmgnalfodafhgaaGreatDoorSrc0
import Derived.Test.YtmgnalfodafhgaaGreatDoorK2
set_option linter.unusedVariables false
set_option linter.unusedSimpArgs false
namespace Go.Proofs
open Go.RowKit Go.Kin Go.Shelf
theorem Tq.info_int : (Tryz.prog.info? 3).map (fun i => (i.zero, i.size, i.bytes)) = some (some (.int .i64 0), 1, 8) := by kernel_rfl
theorem fold_any (v : Int) (w : World) : Calls Tryz.prog 75 #[.int .i64 v] w fun e w' => e = .returned (.int .i64 (foldI v)) ∧ w = w' := by
  go_enter Tryz.func75, Tryz.ntmps75
  go_wp2
  all_goals (go_ret; exact ⟨ret_int (by unfold foldI; split <;> (try split) <;> omega), rfl⟩)

theorem guess_any (xs : List Int) (v : Value) (W i : Nat) (x y : Int) (w : World) (hx : x = ((i % W : Nat) : Int)) (hy : y = ((i / W : Nat) : Int)) (hs : SlI .i64 w v xs) (h0 : 1 ≤ W) (hW : W ≤ 32) (hi : i < xs.length) (hbig : xs.length ≤ 1024) (hv : ∀ x ∈ xs, 0 ≤ x ∧ x ≤ 255) (r : Int) (hr : guessF xs W (i % W) (i / W) = r) :
    Calls Tryz.prog 53 #[v, .int .i64 W, .int .i64 x, .int .i64 y] w fun e w' => e = .returned (.int .i64 r) ∧ Below w.heap.size w w' := by
  subst hx; subst hy; subst hr
  have h1 := Nat.mod_lt i (show 0 < W by omega)
  have h2 := Nat.div_add_mod i W
  rw [Nat.mul_comm] at h2
  exact guess_nat xs v W (i % W) (i / W) w hs h1 hW (by omega) hbig hv

/-- A slice of numbers is handed back. -/
def RetI (k : IntKind) (xs : List Int) (w : World) (e : Ending) (w' : World) : Prop := ∃ v, e = .returned v ∧ SlI k w' v xs ∧ Below w.heap.size w w'
def foldsTo (xs : List Int) (W n : Nat) : List Int := (List.range n).map fun (i : Nat) => foldI (xs.getD i 0 - guessF xs W (i % W) (i / W))
/-- What stands after k rounds. -/
def foldsAt (xs : List Int) (W k : Nat) : List Int := foldsTo xs W k ++ List.replicate (xs.length - k) 0
theorem foldsAt_zero (xs : List Int) (W : Nat) : foldsAt xs W 0 = List.replicate xs.length 0 := by simp [foldsAt, foldsTo]
theorem foldsAt_end (xs : List Int) (W : Nat) : foldsAt xs W xs.length = foldsTo xs W xs.length := by simp [foldsAt]
theorem foldsAt_succ (xs : List Int) (W k : Nat) (hk : k < xs.length) : (foldsAt xs W k).set k (foldI (xs.getD k 0 - guessF xs W (k % W) (k / W))) = foldsAt xs W (k + 1) := by
  unfold foldsAt
  rw [List.set_append_right _ _ (by simp [foldsTo])]
  simp only [foldsTo, List.length_map, List.length_range, Nat.sub_self, List.range_succ, List.map_append, List.map_cons, List.map_nil, List.append_assoc]
  congr 1
  obtain ⟨m, hm⟩ : ∃ m, xs.length - k = m + 1 := ⟨xs.length - k - 1, by omega⟩
  rw [hm, List.replicate_succ, List.set_cons_zero, show xs.length - (k + 1) = m by omega]
  rfl

set_option maxRecDepth 100000 in
set_option maxHeartbeats 4000000 in
theorem folds_any (W H : Nat) (xs : List Int) (pv : Value) (w : World) (hs : SlI .i64 w pv xs) (h0 : 1 ≤ W) (hW : W ≤ 32) (hbig : xs.length ≤ 1024) (hpos : 0 < xs.length) (hv : ∀ x ∈ xs, 0 ≤ x ∧ x ≤ 255) :
    Calls Tryz.prog 46 #[.agg #[.int .i64 W, .int .i64 H, pv]] w (RetR .i64 3 (foldsTo xs W xs.length) w) := by
  obtain ⟨i0, hi, hz0, hz1, hz2⟩ := info_parts Tq.info_int
  have hb0 := below_alloc (below_refl w) (.cells #[.int .i64 W, .int .i64 H, pv] 73)
  have hsW := hid hs
  obtain ⟨A, c, rfl, hm, hc⟩ := hs.open
  go_enter Tryz.func46, Tryz.ntmps46
  go_wp2_with (refine wpList_make_full _ rfl (.tmp 8) (.tmp 8) 22 rfl (w.heap.size + 1) 3 i0 (.int .i64 0) 1 Tryz.underlying22 hi hz0 hz1 .i64 .i64 xs.length xs.length xs.length rfl rfl rfl rfl (by rw [hz2]; omega) (by unfold maxLen; omega) (by simp) ?_; intro w1 hown hgrow; have d0 := hgrow.cell (a := ⟨w.heap.size, 0, none⟩) (v := .int .i64 W) (by rw [World.cell?_alloc_at _ _ _ _ rfl]; rfl) (by simp); have d2 := hgrow.cell (a := ⟨w.heap.size, 2, none⟩) (v := .slice A xs.length c) (by rw [World.cell?_alloc_at _ _ _ _ rfl]; rfl) (by simp))
  have hg1 : Below w.heap.size w w1 := hb0.grown hgrow (by simp) (fun k h => by cases h)
  have hown1 : w1.ownsRow (w.heap.size + 1) 3 1 (.slice (some ⟨w.heap.size + 1, 0, none⟩) xs.length xs.length) xs.length ((foldsAt xs W 0).map (Value.int .i64)) := by
    rw [foldsAt_zero]; exact own_made (by simpa using hown)
  have hsz1 := (hown1.lt (w.heap.size + 1) rfl).2
  clear hown hgrow
  go_loopg [4, 5, 13] xs.length (fun g _ _ s13 wr => ∃ k : Nat, k ≤ xs.length ∧ xs.length - k ≤ g ∧ s13 = .int .i64 k ∧ Below w.heap.size w wr ∧ wr.cell? ⟨w.heap.size, 0, none⟩ = some (.int .i64 W) ∧ wr.cell? ⟨w.heap.size, 2, none⟩ = some (.slice A xs.length c) ∧
      wr.ownsRow (w.heap.size + 1) 3 1 (.slice (some ⟨w.heap.size + 1, 0, none⟩) xs.length xs.length) xs.length ((foldsAt xs W k).map (Value.int .i64)))
  case atStart => exact ⟨0, Nat.zero_le _, by omega, rfl, hg1, d0, d2, hown1⟩
  case round =>
    obtain ⟨k, hk, hg, rfl, hbr, e0, e2, hown⟩ := hrel
    by_cases hlt : k < xs.length
    · obtain ⟨b, off, rfl, x0⟩ := hc k hlt
      have x1 := cell_below hbr x0
      have t0 := own_cell hown k hlt
      have tf : wr.frozen? ⟨w.heap.size + 1, k, none⟩ = false := hown.frozenAt k
      have hsr := hid (hsW.out.below hbr)
      have r1 := getD_smp hv k
      have r2 := guessF_range hv W (k % W) (k / W)
      generalize hX : xs.getD k 0 = X at *
      generalize hG : guessF xs W (k % W) (k / W) = G at *
      have HX := hid hX
      have HG := hid hG
      clear hX hG hc x0 d0 d2
      go_wp2_with fail
      have a0 : ∀ i : Aft wr, i.W.cell? ⟨w.heap.size, 0, none⟩ = some (.int .i64 W) := fun i => cell_below i.below e0
      have a2 : ∀ i : Aft wr, i.W.cell? ⟨w.heap.size, 2, none⟩ = some (.slice (some ⟨b, off, none⟩) xs.length c) := fun i => cell_below i.below e2
      have em : ((k % W : Nat) : Int) = (k : Int) % (W : Int) := Int.natCast_emod k W
      have ed : ((k / W : Nat) : Int) = (k : Int) / (W : Int) := Int.natCast_ediv k W
      have q1 : 0 ≤ (k : Int) / (W : Int) := Int.ediv_nonneg (by omega) (by omega)
      have q2 : (k : Int) / (W : Int) ≤ (k : Int) := Int.ediv_le_self _ (by omega)
      have EM := hid em
      have ED := hid ed
      clear em ed
      go_wp2_with fail
      refine wp_region_aft_tail (n := 19) (by simp only [List.take_succ_cons, List.take_zero]; rfl) (by simp only [List.drop_succ_cons, List.drop_zero]; rfl) (by kernel_rfl) (by kernel_rfl) (by kernel_rfl) (by kernel_rfl) (by kernel_rfl) ?_
      repeat (go_big_quiet_step (first | (go_at_call 53; exact aft_calls (guess_any xs _ W k _ _ _ EM.out.symm ED.out.symm (hsr.out.below (Aft.below _)) h0 hW hlt hbig hv _ HG.out)) | (go_at_call 75; exact aft_same (fold_any _ _))))
      refine wpQuiet_nil ?_
      intro _ hw'
      obtain ⟨iq, hw''⟩ := hw'
      subst hw''
      have s1 := cell_below iq.below t0
      have s2 := frozen_below iq.below t0 tf
      have hownq : iq.W.ownsRow (w.heap.size + 1) 3 1 (.slice (some ⟨w.heap.size + 1, 0, none⟩) xs.length xs.length) xs.length ((foldsAt xs W k).map (Value.int .i64)) :=
        (Frm.of_below (S := fun _ => False) iq.below).own hown (fun _ _ h => h)
      have e0q := a0 iq
      have e2q := a2 iq
      have hbq := below_then hbr iq.below
      clear a0 a2 t0 tf e0 e2 x1
      go_wp2
      go_roundg (xs.length - (k + 1))
      case measure => omega
      case rel =>
        refine ⟨k + 1, by omega, by omega, by go_num, hbq.setCell (by simp) _, ?_, ?_, ?_⟩
        · exact cell_set _ e0q (by simp)
        · exact cell_set _ e2q (by simp)
        · have := own_set hownq k (foldI (X - G))
          rw [← HX.out, ← HG.out, foldsAt_succ xs W k hlt] at this
          rw [← HX.out, ← HG.out]
          exact this
    · obtain rfl : k = xs.length := by omega
      go_wp2
      go_ret
      exact ⟨_, rfl, by rw [← foldsAt_end, own_len hown]; exact own_base hown (by omega), hbr⟩
end Go.Proofs
