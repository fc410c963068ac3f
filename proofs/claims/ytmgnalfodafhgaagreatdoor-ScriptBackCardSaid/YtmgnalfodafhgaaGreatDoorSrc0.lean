import Derived.Test.YtmgnalfodafhgaaGreatDoorPlane0
import Derived.Test.YtmgnalfodafhgaaGreatDoorPSrc
set_option linter.unusedVariables false
set_option linter.unusedSimpArgs false
namespace Go.Proofs
open Go.RowKit Go.Kin Go.Shelf

theorem guess_nat (xs : List Int) (v : Value) (W X Y : Nat) (w : World) (hs : SlI .i64 w v xs) (hX' : X < W) (hW : W ≤ 32) (hi : Y * W + X < xs.length) (hbig : xs.length ≤ 1024) (hv : ∀ x ∈ xs, 0 ≤ x ∧ x ≤ 255) :
    Calls Tryz.prog 53 #[v, .int .i64 W, .int .i64 X, .int .i64 Y] w fun e w' => e = .returned (.int .i64 (guessF xs W X Y)) ∧ Below w.heap.size w w' := by
  obtain ⟨A, c, rfl, hm, hc⟩ := hs.open
  have hYW : Y ≤ Y * W := Nat.le_mul_of_pos_right Y (by omega)
  have hr := getD_smp hv
  by_cases c1 : Y * W + X = 0
  · have hg : guessF xs W X Y = 128 := by unfold guessF; rw [if_pos c1]
    rw [hg]
    obtain rfl : Y = 0 := by omega
    obtain rfl : X = 0 := by omega
    clear hc hr hg c1
    go_enter Tryz.func53, Tryz.ntmps53
    go_wp2
    go_ret
    exact ⟨rfl, below_refl w⟩
  · have c1' : (((Y : Int) * W + X) == 0) = false := by rw [beq_eq_false_iff_ne]; intro h; apply c1; exact_mod_cast h
    by_cases c2 : Y = 0
    · subst c2
      have hX1 : 1 ≤ X := by omega
      obtain ⟨b, off, rfl, k1⟩ := hc (X - 1) (by omega)
      have hg : guessF xs W X 0 = xs.getD (X - 1) 0 := by
        unfold guessF; rw [if_neg c1, if_pos rfl, Nat.zero_mul, Nat.zero_add]
      rw [hg]
      generalize xs.getD (X - 1) 0 = v1 at *
      have hl : X < xs.length := by omega
      have c3 : ((X : Int) == 0) = false := by rw [beq_eq_false_iff_ne]; omega
      clear hc hr hg c1 c1' hv hi
      go_enter Tryz.func53, Tryz.ntmps53
      go_wp2
      go_ret
      exact ⟨rfl, below_refl w⟩
    · have hWY : W ≤ Y * W := Nat.le_mul_of_pos_left W (by omega)
      have c2' : ((Y : Int) == 0) = false := by rw [beq_eq_false_iff_ne]; omega
      have p1 : (0 : Int) ≤ (Y : Int) * W := by exact_mod_cast Nat.zero_le _
      have p2 : (Y : Int) * W + X < (xs.length : Int) := by exact_mod_cast hi
      have p3 : (W : Int) ≤ (Y : Int) * W := by exact_mod_cast hWY
      by_cases c3 : X = 0
      · subst c3
        obtain ⟨b, off, rfl, k1⟩ := hc (Y * W - W) (by omega)
        have hg : guessF xs W 0 Y = xs.getD (Y * W - W) 0 := by
          unfold guessF; rw [if_neg c1, if_neg c2, if_pos rfl, Nat.add_zero]
        rw [hg]
        generalize xs.getD (Y * W - W) 0 = v1 at *
        simp only [Int.natCast_zero, Int.add_zero] at c1' p2
        clear hc hr hg c1 c2 hv hi
        go_enter Tryz.func53, Tryz.ntmps53
        go_wp2
        go_ret
        exact ⟨rfl, below_refl w⟩
      · obtain ⟨b, off, rfl, k1⟩ := hc (Y * W + X - 1) (by omega)
        obtain ⟨b', off', hbo, k2⟩ := hc (Y * W + X - W) (by omega)
        simp only [Option.some.injEq, Addr.mk.injEq, and_true] at hbo
        obtain ⟨rfl, rfl⟩ := hbo
        obtain ⟨b', off', hbo, k3⟩ := hc (Y * W + X - W - 1) (by omega)
        simp only [Option.some.injEq, Addr.mk.injEq, and_true] at hbo
        obtain ⟨rfl, rfl⟩ := hbo
        have r1 := hr (Y * W + X - 1)
        have r2 := hr (Y * W + X - W)
        have r3 := hr (Y * W + X - W - 1)
        have hg : guessF xs W X Y = clipI (xs.getD (Y * W + X - 1) 0 + xs.getD (Y * W + X - W) 0 - xs.getD (Y * W + X - W - 1) 0) := by
          unfold guessF; rw [if_neg c1, if_neg c2, if_neg c3]
        rw [hg]
        generalize xs.getD (Y * W + X - 1) 0 = v1 at *
        generalize xs.getD (Y * W + X - W) 0 = v2 at *
        generalize xs.getD (Y * W + X - W - 1) 0 = v3 at *
        have c3' : ((X : Int) == 0) = false := by rw [beq_eq_false_iff_ne]; omega
        have m1 : ∀ i : Aft w, i.W.cell? ⟨b, off + (Y * W + X - 1), none⟩ = some (.int .i64 v1) := fun i => cell_below i.below k1
        have m2 : ∀ i : Aft w, i.W.cell? ⟨b, off + (Y * W + X - W), none⟩ = some (.int .i64 v2) := fun i => cell_below i.below k2
        have m3 : ∀ i : Aft w, i.W.cell? ⟨b, off + (Y * W + X - W - 1), none⟩ = some (.int .i64 v3) := fun i => cell_below i.below k3
        have q1 : 1 ≤ X := by omega
        have q2 : (1 : Int) ≤ X := by omega
        clear hc hr hg c1 c2 c3 k1 k2 k3 hv
        go_enter Tryz.func53, Tryz.ntmps53
        go_wp2_with fail
        refine wp_region_aft (by kernel_rfl) (by kernel_rfl) ?_
        repeat (go_big_quiet_step (first | (go_at_call 55; exact aft_same (clip_any _ _))))
        refine wpQuiet_nil ?_
        intro _ hw'
        obtain ⟨iq, hw''⟩ := hw'
        subst hw''
        go_wp2
        go_ret
        exact ⟨rfl, iq.below⟩
end Go.Proofs
