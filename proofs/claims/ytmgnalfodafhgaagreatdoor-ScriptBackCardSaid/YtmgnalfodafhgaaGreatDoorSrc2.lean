import Derived.Test.YtmgnalfodafhgaaGreatDoorSrc1
import Derived.Test.YtmgnalfodafhgaaGreatDoorPBits
set_option linter.unusedVariables false
set_option linter.unusedSimpArgs false
namespace Go.Proofs
open Go.RowKit Go.Kin Go.Shelf
def riceB (v k : Int) : Bool := decide (0 ≤ v ∧ v ≤ 1073741824 ∧ 0 ≤ k ∧ k ≤ 15)
theorem rice_any (v k : Int) (w : World) : Calls Tryz.prog 78 #[.int .i64 v, .int .i64 k] w fun e w' => e = .returned (.bool (riceB v k)) ∧ w = w' := by
  unfold riceB
  by_cases h1 : 0 ≤ v
  · by_cases h2 : v ≤ 1073741824
    · by_cases h3 : 0 ≤ k
      · go_enter Tryz.func78, Tryz.ntmps78
        go_wp2
        all_goals (go_ret; exact ⟨ret_bool (by simp [h1, h2, h3]), rfl⟩)
      · go_enter Tryz.func78, Tryz.ntmps78
        go_wp2
        all_goals (go_ret; exact ⟨ret_bool (by simp; try omega), rfl⟩)
    · go_enter Tryz.func78, Tryz.ntmps78
      go_wp2
      all_goals (go_ret; exact ⟨ret_bool (by simp; try omega), rfl⟩)
  · go_enter Tryz.func78, Tryz.ntmps78
    go_wp2
    all_goals (go_ret; exact ⟨ret_bool (by simp; try omega), rfl⟩)
theorem sizeRice_any (v : Int) (k : Nat) (w : World) (h0 : 0 ≤ v) (h1 : v ≤ 1073741824) (hk : k ≤ 15) : Calls Tryz.prog 76 #[.int .i64 v, .int .i64 k] w fun e w' => e = .returned (.int .i64 (riceS v k)) ∧ w = w' := by
  have hr : riceB v k = true := by unfold riceB; simp; omega
  have HR := hid hr
  clear hr
  have q0 : 0 ≤ v / 2 ^ k := Int.ediv_nonneg h0 (by exact_mod_cast Nat.zero_le _)
  go_enter Tryz.func76, Tryz.ntmps76
  go_wp2_with (go_at_call 78; refine (rice_any _ _ _).mono ?_; rintro _ _ ⟨rfl, rfl⟩; rw [HR.out])
  · go_ret; exact ⟨ret_int (by unfold riceS; rw [if_pos (by assumption)]), rfl⟩
  · go_ret; exact ⟨ret_int (by unfold riceS; rw [if_neg (by omega)]), rfl⟩

theorem riceS_range {v : Int} (k : Nat) (h0 : 0 ≤ v) (hk : k ≤ 15) : 0 ≤ riceS v k ∧ riceS v k ≤ 55 := by
  have q0 : 0 ≤ v / 2 ^ k := Int.ediv_nonneg h0 (by exact_mod_cast Nat.zero_le _)
  unfold riceS; split <;> omega
/-- The bits of the first j numbers. -/
def riceTo (l : List Int) (k : Nat) (j : Nat) : Int := riceSum (l.take j) k
theorem riceTo_succ (l : List Int) (k j : Nat) (hj : j < l.length) : riceTo l k (j + 1) = riceTo l k j + riceS (l.getD j 0) k := by
  unfold riceTo riceSum
  rw [List.take_succ_eq_append_getElem hj, List.foldl_append]
  simp [List.getD_eq_getElem?_getD, List.getElem?_eq_getElem hj]
theorem riceTo_range (l : List Int) (k : Nat) (hk : k ≤ 15) (hl : ∀ x ∈ l, 0 ≤ x ∧ x ≤ 1073741824) : ∀ j, j ≤ l.length → 0 ≤ riceTo l k j ∧ riceTo l k j ≤ 55 * j
  | 0, _ => by simp [riceTo, riceSum]
  | j + 1, h => by
    have ih := riceTo_range l k hk hl j (by omega)
    have hx := hl (l.getD j 0) (by rw [List.getD_eq_getElem?_getD, List.getElem?_eq_getElem (show j < l.length by omega)]; exact List.getElem_mem _)
    have hr := riceS_range k hx.1 hk
    rw [riceTo_succ l k j (by omega)]
    omega
theorem riceTo_end (l : List Int) (k : Nat) : riceTo l k l.length = riceSum l k := by simp [riceTo]

theorem bestTo_range (l : List Int) : ∀ i, (bestTo l i).1 ≤ i ∧ ((bestTo l i).1 = 0 ∨ (bestTo l i).1 < i)
  | 0 => by simp [bestTo]
  | i + 1 => by
    have := bestTo_range l i
    rw [show bestTo l (i + 1) = if (bestTo l i).2 < 0 ∨ riceSum l i < (bestTo l i).2 then (i, riceSum l i) else bestTo l i from rfl]
    split
    · simp; try omega
    · omega
theorem bestTo_bound (l : List Int) (hl : ∀ x ∈ l, 0 ≤ x ∧ x ≤ 1073741824) (hn : l.length ≤ 1024) : ∀ i, i ≤ 8 → -1 ≤ (bestTo l i).2 ∧ (bestTo l i).2 ≤ 56320
  | 0, _ => by simp [bestTo]
  | i + 1, h => by
    have := bestTo_bound l hl hn i (by omega)
    have hr := riceTo_range l i (by omega) hl l.length (Nat.le_refl _)
    rw [riceTo_end] at hr
    rw [show bestTo l (i + 1) = if (bestTo l i).2 < 0 ∨ riceSum l i < (bestTo l i).2 then (i, riceSum l i) else bestTo l i from rfl]
    split
    · simp; try omega
    · omega

set_option maxHeartbeats 4000000 in
theorem best_any (xs : List Int) (pv : Value) (w : World) (hs : SlI .i64 w pv xs) (hbig : xs.length ≤ 1024) (hv : ∀ x ∈ xs, 0 ≤ x ∧ x ≤ 1073741824) (K : Nat) (hK : bestK xs = K) :
    Calls Tryz.prog 47 #[pv] w fun e w' => e = .returned (.int .i64 K) ∧ w = w' := by
  obtain ⟨A, c, rfl, hm, hc⟩ := hs.open
  have HK := hid hK
  clear hK
  go_enter Tryz.func47, Tryz.ntmps47
  go_wp2_with fail
  go_loopg [3, 4, 5, 6, 8, 9] 8 (fun g s3 s4 _ _ _ s9 wr => ∃ i : Nat, i ≤ 8 ∧ 8 - i ≤ g ∧ s9 = .int .i64 i ∧ s3 = .int .i64 (bestTo xs i).1 ∧ s4 = .int .i64 (bestTo xs i).2 ∧ wr = w)
  case atStart => exact ⟨0, by omega, by omega, rfl, rfl, rfl, rfl⟩
  case round =>
    obtain ⟨i, hi, hg, rfl, rfl, rfl, rfl⟩ := hrel
    have b1 := bestTo_range xs i
    have b2 := bestTo_bound xs hv hbig i hi
    have hstep : bestTo xs (i + 1) = if (bestTo xs i).2 < 0 ∨ riceSum xs i < (bestTo xs i).2 then (i, riceSum xs i) else bestTo xs i := rfl
    by_cases hlt : i < 8
    · have hre := riceTo_end xs i
      have hrr := riceTo_range xs i (by omega) hv
      generalize hP : bestTo xs i = P at *
      obtain ⟨p, q⟩ := P
      simp only [] at b1 b2 hstep
      have HP := hid hP
      have HS := hid hstep
      have HE := hid hre
      clear hP hstep hre
      go_wp2_with fail
      rw [decide_eq_true (show (i : Int) < 8 by omega)]
      go_loopg [6, 8, 14] xs.length (fun g s6 _ s14 wr' => ∃ j : Nat, j ≤ xs.length ∧ xs.length - j ≤ g ∧ s14 = .int .i64 j ∧ s6 = .int .i64 (riceTo xs i j) ∧ wr' = wr)
      case atStart => exact ⟨0, Nat.zero_le _, by omega, rfl, rfl, rfl⟩
      case round =>
        obtain ⟨j, hj, hgj, rfl, rfl, rfl⟩ := hrel
        have r0 := hrr j hj
        by_cases hjl : j < xs.length
        · obtain ⟨b, off, rfl, x0⟩ := hc j hjl
          have r1 := hrr (j + 1) hjl
          have hx := hv (xs.getD j 0) (by rw [List.getD_eq_getElem?_getD, List.getElem?_eq_getElem hjl]; exact List.getElem_mem _)
          have hsr := riceS_range i hx.1 (show i ≤ 15 by omega)
          have hsucc := riceTo_succ xs i j hjl
          generalize xs.getD j 0 = X at *
          generalize riceTo xs i j = R at *
          have HX := hid hsucc
          clear hsucc
          go_wp2_with (go_at_call 76; refine (sizeRice_any _ i _ hx.1 hx.2 (by omega)).mono ?_; rintro _ _ ⟨rfl, rfl⟩)
          go_roundg (xs.length - (j + 1))
          case measure => omega
          case rel => exact ⟨j + 1, by omega, by omega, by go_num, by rw [HX.out], rfl⟩
        · obtain rfl : j = xs.length := by omega
          have HE' := HE.out
          generalize riceTo xs i xs.length = R at *
          by_cases hq : q < 0
          · go_wp2
            go_roundg (8 - (i + 1))
            case measure => omega
            case rel => exact ⟨i + 1, by omega, by omega, by go_num, by rw [HS.out, if_pos (.inl hq)], by rw [HS.out, if_pos (.inl hq), HE'], rfl⟩
          · by_cases hq2 : R < q
            · go_wp2
              go_roundg (8 - (i + 1))
              case measure => omega
              case rel => exact ⟨i + 1, by omega, by omega, by go_num, by rw [HS.out, if_pos (.inr (by omega))], by rw [HS.out, if_pos (.inr (by omega))], rfl⟩
            · go_wp2
              go_roundg (8 - (i + 1))
              case measure => omega
              case rel => exact ⟨i + 1, by omega, by omega, by go_num, by rw [HS.out, if_neg (by omega)], by rw [HS.out, if_neg (by omega)], rfl⟩
    · obtain rfl : i = 8 := by omega
      go_wp2
      go_ret
      exact ⟨ret_int (by rw [← HK.out]; rfl), rfl⟩
end Go.Proofs
