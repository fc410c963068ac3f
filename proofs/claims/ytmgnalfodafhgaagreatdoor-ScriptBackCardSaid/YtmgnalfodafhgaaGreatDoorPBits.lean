/- Bits in bytes, plain: one bit more. No program. -/
import Derived.Test.YtmgnalfodafhgaaGreatDoorPSrc
set_option linter.unusedVariables false
set_option linter.unusedSimpArgs false
namespace Go.Kin

theorem byteAt_eq (l : List Bool) (i : Nat) : byteAt l i = 128 * (l.getD (8 * i) false).toNat + 64 * (l.getD (8 * i + 1) false).toNat + 32 * (l.getD (8 * i + 2) false).toNat + 16 * (l.getD (8 * i + 3) false).toNat +
    8 * (l.getD (8 * i + 4) false).toNat + 4 * (l.getD (8 * i + 5) false).toNat + 2 * (l.getD (8 * i + 6) false).toNat + (l.getD (8 * i + 7) false).toNat := by
  simp only [byteAt, List.range, List.range.loop, List.foldl_cons, List.foldl_nil, Nat.add_zero]
  omega
theorem getD_snoc (l : List Bool) (x : Bool) (k : Nat) : (l ++ [x]).getD k false = if k = l.length then x else l.getD k false := by
  rw [List.getD_eq_getElem?_getD, List.getD_eq_getElem?_getD]
  rcases Nat.lt_trichotomy k l.length with h | h | h
  · rw [List.getElem?_append_left h, if_neg (by omega)]
  · subst h; simp
  · rw [if_neg (by omega), List.getElem?_eq_none (by simp; omega), List.getElem?_eq_none (by omega)]
theorem getD_past (l : List Bool) (k : Nat) (h : l.length ≤ k) : l.getD k false = false := by
  rw [List.getD_eq_getElem?_getD, List.getElem?_eq_none h]; rfl
theorem bool_le (b : Bool) : b.toNat ≤ 1 := by cases b <;> simp

/-- The row of bytes with room for one bit more. -/
def pad (l : List Bool) : List Nat := if l.length % 8 = 0 then pack l ++ [0] else pack l
theorem pack_length (l : List Bool) : (pack l).length = (l.length + 7) / 8 := by simp [pack]
theorem pad_length (l : List Bool) : (pad l).length = l.length / 8 + 1 := by
  unfold pad; split
  · simp [pack_length]; omega
  · simp [pack_length]; omega
theorem pack_get (l : List Bool) (i : Nat) (h : i < (pack l).length) : (pack l)[i] = byteAt l i := by simp [pack]
theorem pad_get (l : List Bool) (i : Nat) (h : i < (pad l).length) : (pad l)[i] = byteAt l i := by
  have hl := pad_length l
  by_cases h8 : l.length % 8 = 0
  · have hp : pad l = pack l ++ [0] := by unfold pad; rw [if_pos h8]
    have hpl := pack_length l
    rcases Nat.lt_or_ge i (pack l).length with h1 | h1
    · simp only [hp]; rw [List.getElem_append_left h1, pack_get]
    · have : i = (pack l).length := by omega
      subst this
      simp only [hp]
      rw [List.getElem_append_right (Nat.le_refl _)]
      simp only [Nat.sub_self, List.getElem_cons_zero]
      rw [byteAt_eq]
      have hz : ∀ k, l.length ≤ k → (l.getD k false).toNat = 0 := fun k hk => by rw [getD_past l k hk]; rfl
      rw [hz, hz, hz, hz, hz, hz, hz, hz] <;> omega
  · have hp : pad l = pack l := by unfold pad; rw [if_neg h8]
    simp only [hp]; rw [pack_get]
theorem byteAt_lt (l : List Bool) (i : Nat) : byteAt l i < 256 := by
  rw [byteAt_eq]
  have := bool_le (l.getD (8 * i) false); have := bool_le (l.getD (8 * i + 1) false); have := bool_le (l.getD (8 * i + 2) false); have := bool_le (l.getD (8 * i + 3) false)
  have := bool_le (l.getD (8 * i + 4) false); have := bool_le (l.getD (8 * i + 5) false); have := bool_le (l.getD (8 * i + 6) false); have := bool_le (l.getD (8 * i + 7) false)
  omega
theorem pack_lt (l : List Bool) : ∀ n ∈ pack l, n < 256 := by
  intro n hn
  simp only [pack, List.mem_map] at hn
  obtain ⟨i, _, rfl⟩ := hn
  exact byteAt_lt l i
theorem byteAt_snoc_ne (l : List Bool) (x : Bool) (i : Nat) (h : i ≠ l.length / 8) : byteAt (l ++ [x]) i = byteAt l i := by
  simp only [byteAt_eq, getD_snoc]
  rw [if_neg (by omega), if_neg (by omega), if_neg (by omega), if_neg (by omega), if_neg (by omega), if_neg (by omega), if_neg (by omega), if_neg (by omega)]
theorem pack_snoc_false (l : List Bool) : pack (l ++ [false]) = pad l := by
  apply List.ext_getElem
  · rw [pack_length, pad_length]; simp; omega
  · intro i h1 h2
    rw [pack_get, pad_get]
    simp only [byteAt_eq, getD_snoc]
    have : ∀ k, (if k = l.length then false else l.getD k false) = l.getD k false := fun k => by
      split
      · rename_i h; rw [getD_past l k (by omega)]
      · rfl
    simp only [this]
/-- What the last byte is, and what it becomes. -/
theorem byteAt_last (l : List Bool) : byteAt l (l.length / 8) % 2 ^ (8 - l.length % 8) = 0 ∧ byteAt (l ++ [true]) (l.length / 8) = byteAt l (l.length / 8) + 2 ^ (7 - l.length % 8) := by
  have hz : ∀ k, l.length ≤ k → (l.getD k false).toNat = 0 := fun k hk => by rw [getD_past l k hk]; rfl
  simp only [byteAt_eq, getD_snoc]
  generalize hn : l.length = n at *
  obtain ⟨q, m, hm, rfl⟩ : ∃ q m, m < 8 ∧ n = 8 * q + m := ⟨n / 8, n % 8, Nat.mod_lt _ (by omega), (Nat.div_add_mod n 8).symm⟩
  have e1 : (8 * q + m) / 8 = q := by omega
  have e2 : (8 * q + m) % 8 = m := by omega
  rw [e1, e2]
  have : m = 0 ∨ m = 1 ∨ m = 2 ∨ m = 3 ∨ m = 4 ∨ m = 5 ∨ m = 6 ∨ m = 7 := by omega
  have hx : ∀ a b : Nat, (if a = b then true else l.getD a false).toNat = if a = b then 1 else (l.getD a false).toNat := fun a b => by split <;> rfl
  have hz' : ∀ k, 8 * q + m ≤ k → l.getD k false = false := fun k hk => getD_past l k (by omega)
  simp only [hx]
  clear hz e1 e2 hx
  rcases this with rfl | rfl | rfl | rfl | rfl | rfl | rfl | rfl
  all_goals
    simp only [Nat.add_zero, Nat.reduceSub, Nat.reducePow] at *
    first | rw [hz' (8 * q) (by omega)] | skip
    first | rw [hz' (8 * q + 1) (by omega)] | skip
    first | rw [hz' (8 * q + 2) (by omega)] | skip
    first | rw [hz' (8 * q + 3) (by omega)] | skip
    first | rw [hz' (8 * q + 4) (by omega)] | skip
    first | rw [hz' (8 * q + 5) (by omega)] | skip
    first | rw [hz' (8 * q + 6) (by omega)] | skip
    rw [hz' (8 * q + 7) (by omega)]
    simp only [Bool.toNat_false]
    constructor
    · first | trivial | omega
    · simp
      try omega
theorem pack_snoc_true (l : List Bool) : pack (l ++ [true]) = (pad l).set (l.length / 8) (byteAt (l ++ [true]) (l.length / 8)) := by
  apply List.ext_getElem
  · rw [pack_length, List.length_set, pad_length]; simp; omega
  · intro i h1 h2
    rw [pack_get, List.getElem_set]
    split
    · rename_i h; rw [h]
    · rename_i h; rw [pad_get, byteAt_snoc_ne _ _ _ (Ne.symm h)]
end Go.Kin
