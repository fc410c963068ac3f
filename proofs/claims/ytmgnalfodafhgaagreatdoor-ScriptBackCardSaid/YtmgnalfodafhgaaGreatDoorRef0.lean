import Derived.Test.YtmgnalfodafhgaaGreatDoorActs2
import Derived.Laws.BytesArg
import Derived.Deep.QuietTactic
import Derived.BigQuiet
set_option linter.unusedVariables false
set_option linter.unusedSimpArgs false
namespace Go.Proofs
open Go.RowKit Go.Kin Go.Shelf
theorem conv_bytes {w : World} {v : Value} {xs : List Int} (h : SlI .u8 w v xs) : (convert 40 9 v).run Tryz.prog w = .ok (.string (strOfNums xs)) w := by
  obtain ⟨A, c, rfl, hm, hr⟩ := h
  rcases Nat.eq_zero_or_pos xs.length with h0 | h0
  · have hx : xs = [] := List.eq_nil_of_length_eq_zero h0
    subst hx
    cases A with
    | none => exact run_convert_bytes_nil w 40 5 Tryz.underlying40 Tryz.underlying5 _ _ 9 Tryz.underlying9
    | some a =>
      rw [run_convert_bytes_string w 40 9 5 _ _ _ Tryz.underlying40 Tryz.underlying5 Tryz.underlying9]
      have hl : (loadCells a 0).run Tryz.prog w = .ok (([] : List Int).map (Value.int .u8)).toArray w := by
        have := run_loadCells_list (P := Tryz.prog) w a [] (fun j v hj => by cases hj)
        simpa using this
      exact run_bytesToString w a 0 c [] hl
  · obtain ⟨b, off, rfl, hc⟩ := hr h0
    exact run_convert_bytes_arg w 40 5 Tryz.underlying40 Tryz.underlying5 b off xs.length c xs rfl hc 9 Tryz.underlying9
theorem bytes_same (xs : List Int) (v1 v2 : Value) (w : World) (h1 : SlI .u8 w v1 xs) (h2 : SlI .u8 w v2 xs) : Calls Tryz.prog 18 #[v1, v2] w fun e w' => e = .returned (.bool true) ∧ w = w' := by
  have k1 := conv_bytes h1
  have k2 := conv_bytes h2
  go_enter Tryz.func18, Tryz.ntmps18
  go_wp2_with fail
  go_ret
  exact ⟨by simp, rfl⟩
set_option maxHeartbeats 1000000 in
theorem ints_same (xs : List Int) (v1 v2 : Value) (w : World) (h1 : SlI .i64 w v1 xs) (h2 : SlI .i64 w v2 xs) : Calls Tryz.prog 12 #[v1, v2] w fun e w' => e = .returned (.bool true) ∧ Below w.heap.size w w' := by
  obtain ⟨A1, c1, rfl, hm, hc1⟩ := h1.open
  obtain ⟨A2, c2, rfl, _, hc2⟩ := h2.open
  go_enter Tryz.func12, Tryz.ntmps12
  go_wp2_with fail
  go_loopg [5] xs.length (fun g s5 wr => ∃ k : Nat, k ≤ xs.length ∧ xs.length - k ≤ g ∧ s5 = .int .i64 (k : Int) ∧ Below w.heap.size w wr)
  case atStart => exact ⟨0, Nat.zero_le _, by omega, rfl, below_refl w⟩
  case round =>
    obtain ⟨k, hk, hg, rfl, hb⟩ := hrel
    by_cases hlt : k < xs.length
    · obtain ⟨b1, o1, rfl, x1⟩ := hc1 k hlt
      obtain ⟨b2, o2, rfl, x2⟩ := hc2 k hlt
      have y1 := cell_below hb x1
      have y2 := cell_below hb x2
      generalize xs.getD k 0 = X at *
      clear x1 x2 hc1 hc2 h1 h2
      have i1 : (0 : Int) ≤ (k : Int) := by omega
      have i2 : (k : Int) < (xs.length : Int) := by omega
      go_wp2_with fail
      go_quiet (fail)
      go_wp2_with fail
      go_roundg (xs.length - (k + 1))
      case measure => omega
      case rel => exact ⟨k + 1, by omega, by omega, by go_num, below_drewN hb _⟩
    · obtain rfl : k = xs.length := by omega
      go_wp2_with fail
      go_ret
      exact ⟨rfl, hb⟩
end Go.Proofs
