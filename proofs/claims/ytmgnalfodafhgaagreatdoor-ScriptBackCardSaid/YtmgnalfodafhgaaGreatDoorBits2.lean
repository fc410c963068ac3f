import Derived.Test.YtmgnalfodafhgaaGreatDoorBits1
set_option linter.unusedVariables false
set_option linter.unusedSimpArgs false
namespace Go.Proofs
open Go.RowKit Go.Kin Go.Shelf
theorem mask_wrap (v k : Nat) (hk : k ≤ 15) (hv : v < 9223372036854775808) : bits BinOp.and IntKind.i64 (v : Int) (wrap64 (wrap64 (2 ^ k) - 1)) = ((v % 2 ^ k : Nat) : Int) := by
  have h1 : (2 : Nat) ^ k ≤ 2 ^ 15 := Nat.pow_le_pow_right (by omega) hk
  have h2 := Nat.two_pow_pos k
  have h3 : ((2 ^ k : Nat) : Int) = (2 : Int) ^ k := by simp
  have e1 : wrap64 (2 ^ k) = (2 : Int) ^ k := by rw [← h3]; unfold wrap64; omega
  have e2 : wrap64 ((2 : Int) ^ k - 1) = (2 : Int) ^ k - 1 := by rw [← h3]; unfold wrap64; omega
  rw [e1, e2, and_mask _ _ (by omega) (by omega) (by omega)]
  simp
set_option maxRecDepth 100000 in
set_option maxHeartbeats 4000000 in
theorem putRice_any (F : Nat → Prop) (b : Nat) (l : List Bool) (v k : Nat) (w : World) (hwr : WrS 5 F b l w) (hbig : l.length ≤ 274877906944) (hk : k ≤ 15) (hv : v ≤ 1073741824) :
    Calls Tryz.prog 49 #[.pointer (some ⟨b, 0, none⟩), .int .i64 v, .int .i64 k] w fun e w' => e = .returned .nilIface ∧ WrS 5 F b (l ++ riceBits v k) w' ∧ Frm (fun k => ¬ F k) w w' := by
  have hr : riceB v k = true := by unfold riceB; simp; omega
  have HR := hid hr
  clear hr
  obtain ⟨q, hq⟩ : ∃ q, v / 2 ^ k = q := ⟨_, rfl⟩
  have e1 : (v : Int) / 2 ^ k = (q : Int) := by rw [← hq]; simp
  have e2 : q ≤ v := by rw [← hq]; exact Nat.div_le_self _ _
  have HQ := hid hq
  clear hq
  rcases Nat.lt_trichotomy q 24 with h24 | rfl | h24
  · go_enter Tryz.func49, Tryz.ntmps49
    go_wp2_with (go_at_call 78; refine (rice_any _ _ _).mono ?_; rintro _ _ ⟨rfl, rfl⟩; rw [HR.out])
    go_loopg [18] q (fun g s18 wr => ∃ j : Nat, j ≤ q ∧ q - j ≤ g ∧ s18 = .int .i64 j ∧ WrS 5 F b (l ++ List.replicate j true) wr ∧ Frm (fun k => ¬ F k) w wr)
    case atStart => exact ⟨0, Nat.zero_le _, by omega, rfl, by simpa using hwr, Frm.refl _ _⟩
    case round =>
      obtain ⟨j, hj, hg, rfl, hw, hf⟩ := hrel
      by_cases hlt : j < q
      · go_wp2_with (go_at_call 79; refine (flag_any F b _ _ _ hw (by simp; omega)).mono ?_; rintro _ w' ⟨rfl, hw', hf'⟩)
        go_roundg (q - (j + 1))
        case measure => omega
        case rel => exact ⟨j + 1, by omega, by omega, by go_num, by rw [List.replicate_succ', ← List.append_assoc]; exact hw', hf.trans hf'⟩
      · obtain rfl : j = q := by omega
        have hrb : riceBits v k = List.replicate j true ++ [false] ++ bitsOf (v % 2 ^ k) k := by unfold riceBits; rw [if_neg (by have := HQ.out; omega), HQ.out]
        go_wp2_with (first | (go_at_call 79; refine (flag_any F b _ _ _ hw (by simp; omega)).mono ?_; rintro _ w2 ⟨rfl, hw2, hf2⟩) | (go_at_call 48; rw [mask_wrap v k hk (by omega)]; refine (put_any F b _ (v % 2 ^ k) k _ hw2 (by simp; omega) (by omega) (Nat.mod_lt _ (Nat.two_pow_pos k))).mono ?_; rintro _ w' ⟨rfl, hw', hf'⟩))
        go_ret
        exact ⟨rfl, by rw [hrb, ← List.append_assoc, ← List.append_assoc]; exact hw', (hf.trans hf2).trans hf'⟩
  · go_enter Tryz.func49, Tryz.ntmps49
    go_wp2_with (go_at_call 78; refine (rice_any _ _ _).mono ?_; rintro _ _ ⟨rfl, rfl⟩; rw [HR.out])
    go_loopg [18] 24 (fun g s18 wr => ∃ j : Nat, j ≤ 24 ∧ 24 - j ≤ g ∧ s18 = .int .i64 j ∧ WrS 5 F b (l ++ List.replicate j true) wr ∧ Frm (fun k => ¬ F k) w wr)
    case atStart => exact ⟨0, Nat.zero_le _, by omega, rfl, by simpa using hwr, Frm.refl _ _⟩
    case round =>
      obtain ⟨j, hj, hg, rfl, hw, hf⟩ := hrel
      by_cases hlt : j < 24
      · go_wp2_with (go_at_call 79; refine (flag_any F b _ _ _ hw (by simp; omega)).mono ?_; rintro _ w' ⟨rfl, hw', hf'⟩)
        go_roundg (24 - (j + 1))
        case measure => omega
        case rel => exact ⟨j + 1, by omega, by omega, by go_num, by rw [List.replicate_succ', ← List.append_assoc]; exact hw', hf.trans hf'⟩
      · obtain rfl : j = 24 := by omega
        have hrb : riceBits v k = List.replicate 24 true ++ bitsOf v 31 := by unfold riceBits; rw [if_pos (by have := HQ.out; omega)]
        go_wp2_with (go_at_call 48; refine (put_any F b _ v 31 _ hw (by simp; omega) (by omega) (by omega)).mono ?_; rintro _ w' ⟨rfl, hw', hf'⟩)
        go_ret
        exact ⟨rfl, by rw [hrb, ← List.append_assoc]; exact hw', hf.trans hf'⟩
  · go_enter Tryz.func49, Tryz.ntmps49
    go_wp2_with (go_at_call 78; refine (rice_any _ _ _).mono ?_; rintro _ _ ⟨rfl, rfl⟩; rw [HR.out])
    go_loopg [18] 24 (fun g s18 wr => ∃ j : Nat, j ≤ 24 ∧ 24 - j ≤ g ∧ s18 = .int .i64 j ∧ WrS 5 F b (l ++ List.replicate j true) wr ∧ Frm (fun k => ¬ F k) w wr)
    case atStart => exact ⟨0, Nat.zero_le _, by omega, rfl, by simpa using hwr, Frm.refl _ _⟩
    case round =>
      obtain ⟨j, hj, hg, rfl, hw, hf⟩ := hrel
      by_cases hlt : j < 24
      · go_wp2_with (go_at_call 79; refine (flag_any F b _ _ _ hw (by simp; omega)).mono ?_; rintro _ w' ⟨rfl, hw', hf'⟩)
        go_roundg (24 - (j + 1))
        case measure => omega
        case rel => exact ⟨j + 1, by omega, by omega, by go_num, by rw [List.replicate_succ', ← List.append_assoc]; exact hw', hf.trans hf'⟩
      · obtain rfl : j = 24 := by omega
        have hrb : riceBits v k = List.replicate 24 true ++ bitsOf v 31 := by unfold riceBits; rw [if_pos (by have := HQ.out; omega)]
        go_wp2_with (go_at_call 48; refine (put_any F b _ v 31 _ hw (by simp; omega) (by omega) (by omega)).mono ?_; rintro _ w' ⟨rfl, hw', hf'⟩)
        go_ret
        exact ⟨rfl, by rw [hrb, ← List.append_assoc]; exact hw', hf.trans hf'⟩
end Go.Proofs
