import Derived.Test.YtmgnalfodafhgaaGreatDoorBits0
import Derived.Laws.BitsLemmas
set_option linter.unusedVariables false
set_option linter.unusedSimpArgs false
namespace Go.Proofs
open Go.RowKit Go.Kin Go.Shelf
theorem wraps_i64 (n : Int) (h₀ : 0 ≤ n) (h₁ : n < 2 ^ 63) : IntKind.i64.wrap n = n := by rw [IntKind.wrap_i64]; omega
theorem and_mask (x : Int) (i : Nat) (hi : i ≤ 63) (h0 : 0 ≤ x) (h1 : x < 2 ^ 63) : bits BinOp.and IntKind.i64 x (2 ^ i - 1) = x % 2 ^ i := bits_mask .i64 63 (by decide) wraps_i64 i hi x h0 h1
theorem kin_and_one (v j : Nat) (hv : v < 9223372036854775808) : (bits BinOp.and IntKind.i64 ((v : Int) / 2 ^ j) 1 == 1) = (v / 2 ^ j % 2 == 1) := by
  have h1 : ((v / 2 ^ j : Nat) : Int) = (v : Int) / 2 ^ j := by simp
  have h2 : v / 2 ^ j ≤ v := Nat.div_le_self _ _
  have := and_mask ((v : Int) / 2 ^ j) 1 (by omega) (by rw [← h1]; exact Int.natCast_nonneg _) (by rw [← h1]; exact Int.lt_of_le_of_lt (Int.ofNat_le.2 h2) (by omega))
  rw [show (2 : Int) ^ 1 - 1 = 1 from rfl] at this
  rw [this, ← h1]
  rw [Bool.eq_iff_iff]
  simp only [beq_iff_eq]
  omega
theorem flag_any (F : Nat → Prop) (b : Nat) (l : List Bool) (x : Bool) (w : World) (h : WrS 5 F b l w) (hbig : l.length ≤ 1099511627776) :
    Calls Tryz.prog 79 #[.pointer (some ⟨b, 0, none⟩), .bool x] w fun e w' => e = .returned (.tuple #[]) ∧ WrS 5 F b (l ++ [x]) w' ∧ Frm (fun k => ¬ F k) w w' := by
  go_enter Tryz.func79, Tryz.ntmps79
  go_wp2_with (go_at_call 77; refine (bit_any F b l x _ h hbig).mono ?_; rintro _ w' ⟨rfl, hw, hf⟩)
  go_end0
  exact ⟨rfl, hw, hf⟩
set_option maxRecDepth 100000 in
set_option maxHeartbeats 4000000 in
theorem put_any (F : Nat → Prop) (b : Nat) (l : List Bool) (v n : Nat) (w : World) (h : WrS 5 F b l w) (hbig : l.length ≤ 549755813888) (hn : n ≤ 32) (hv : v < 2 ^ n) :
    Calls Tryz.prog 48 #[.pointer (some ⟨b, 0, none⟩), .int .i64 v, .int .i64 n] w fun e w' => e = .returned .nilIface ∧ WrS 5 F b (l ++ bitsOf v n) w' ∧ Frm (fun k => ¬ F k) w w' := by
  have hq : (v : Int) / 2 ^ n = 0 := by
    have : v / 2 ^ n = 0 := Nat.div_eq_of_lt hv
    have h2 : ((v / 2 ^ n : Nat) : Int) = (v : Int) / 2 ^ n := by simp
    rw [← h2, this]; rfl
  have hv63 : v < 4294967296 := Nat.lt_of_lt_of_le hv (Nat.pow_le_pow_right (by omega) hn)
  go_enter Tryz.func48, Tryz.ntmps48
  go_wp2_with fail
  go_loopg [7] n (fun g s7 wr => ∃ k : Nat, k ≤ n ∧ k ≤ g ∧ s7 = .int .i64 ((k : Int) - 1) ∧ (∃ m : List Bool, m.length + k = n ∧ m ++ bitsOf v k = bitsOf v n ∧ WrS 5 F b (l ++ m) wr) ∧ Frm (fun k => ¬ F k) w wr)
  case atStart => exact ⟨n, Nat.le_refl _, Nat.le_refl _, by go_num, ⟨[], by simp, rfl, by simpa using h⟩, Frm.refl _ _⟩
  case round =>
    obtain ⟨k, hk, hg, rfl, ⟨m, hml, hm, hw⟩, hf⟩ := hrel
    cases k with
    | zero =>
      go_wp2
      go_ret
      exact ⟨rfl, by rw [← hm]; simpa [bitsOf] using hw, hf⟩
    | succ j =>
      have HM := hid hm
      clear hm
      rw [show (((j + 1 : Nat) : Int) - 1) = (j : Int) by omega] at *
      have HB := hid (kin_and_one v j (by omega))
      go_wp2_with (go_at_call 77; rw [HB.out]; refine (bit_any F b (l ++ m) _ _ hw (by simp; omega)).mono ?_; rintro _ w' ⟨rfl, hw', hf'⟩)
      go_roundg j
      case measure => omega
      case rel => exact ⟨j, by omega, Nat.le_refl _, by go_num, ⟨m ++ [v / 2 ^ j % 2 == 1], by simp; omega, by rw [← HM.out]; simp [bitsOf], by simpa using hw'⟩, hf.trans hf'⟩
end Go.Proofs
