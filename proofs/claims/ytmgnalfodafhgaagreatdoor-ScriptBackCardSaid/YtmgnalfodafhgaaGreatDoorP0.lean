/- Plain data of the program, no program: frames, what may be one. -/
import Derived.Test.YtmgnalfodafhgaaGreatDoorK1
set_option linter.unusedVariables false
set_option linter.unusedSimpArgs false
namespace Go.Kin
open Go.RowKit

/-- A frame: its sides, its samples. -/
structure Fr where
  w : Int
  h : Int
  pix : List Int
  deriving DecidableEq
def sideB (n : Int) : Bool := decide (8 ≤ n ∧ n ≤ 32 ∧ n % 8 = 0)
def smpB (n : Int) : Bool := decide (0 ≤ n ∧ n ≤ 255)
def smpsB (l : List Int) : Bool := l.all smpB
def mayB (f : Fr) : Bool := sideB f.w && (sideB f.h && (decide ((f.pix.length : Int) = f.w * f.h) && smpsB f.pix))
theorem sideB_iff {n : Int} : sideB n = true ↔ 8 ≤ n ∧ n ≤ 32 ∧ n % 8 = 0 := by simp [sideB]
theorem smpB_iff {n : Int} : smpB n = true ↔ 0 ≤ n ∧ n ≤ 255 := by simp [smpB]
theorem mul_sides {a b : Int} (ha : sideB a = true) (hb : sideB b = true) : 64 ≤ a * b ∧ a * b ≤ 1024 := by
  rw [sideB_iff] at ha hb
  have h1 : 8 * 8 ≤ a * b := Int.mul_le_mul ha.1 hb.1 (by omega) (by omega)
  have h2 : a * b ≤ 32 * 32 := Int.mul_le_mul ha.2.1 hb.2.1 (by omega) (by omega)
  omega
theorem mayB_iff {f : Fr} : mayB f = true ↔ sideB f.w = true ∧ sideB f.h = true ∧ (f.pix.length : Int) = f.w * f.h ∧ ∀ x ∈ f.pix, 0 ≤ x ∧ x ≤ 255 := by
  simp [mayB, smpsB, smpB, List.all_eq_true]
theorem idx_in {W H X Y : Int} (hX : 0 ≤ X) (hX' : X < W) (hY : 0 ≤ Y) (hY' : Y < H) : 0 ≤ Y * W ∧ Y * W + X < W * H := by
  have h1 : 0 ≤ Y * W := Int.mul_nonneg hY (by omega)
  have h2 : (Y + 1) * W ≤ H * W := Int.mul_le_mul_of_nonneg_right (by omega) (by omega)
  rw [Int.add_mul, Int.one_mul] at h2
  rw [Int.mul_comm W H]
  omega
/-- The value v reads as the frame f. -/
def FrV (w : World) (v : Value) (f : Fr) : Prop := ∃ pv, v = .agg #[.int .i64 f.w, .int .i64 f.h, pv] ∧ SlI .i64 w pv f.pix
theorem FrV.below {w w1 : World} {v : Value} {f : Fr} (h : FrV w v f) (hb : Below w.heap.size w w1) : FrV w1 v f := by
  obtain ⟨pv, hv, hp⟩ := h
  exact ⟨pv, hv, hp.below hb⟩
/-- A frame's cells. -/
def FrR (w : World) (cs : List Value) (f : Fr) : Prop := ∃ pv, cs = [.int .i64 f.w, .int .i64 f.h, pv] ∧ SlI .i64 w pv f.pix
theorem FrR.stable : Stable FrR := fun _ _ _ _ hb ⟨pv, hv, hp⟩ => ⟨pv, hv, hp.below hb⟩

theorem any_hit {xs : List Int} {p : Int → Bool} {k : Nat} (hk : k < xs.length) (h : p (xs.getD k 0) = true) : xs.any p = true := by
  rw [List.any_eq_true]; exact ⟨xs[k], List.getElem_mem hk, by rw [List.getD_eq_getElem?_getD, List.getElem?_eq_getElem hk] at h; exact h⟩
theorem any_miss {xs : List Int} {p : Int → Bool} (h : ∀ j, j < xs.length → p (xs.getD j 0) = false) : xs.any p = false := by
  rw [List.any_eq_false]; intro x hx
  obtain ⟨j, hj, rfl⟩ := List.getElem_of_mem hx
  have := h j hj
  rw [List.getD_eq_getElem?_getD, List.getElem?_eq_getElem hj] at this
  simpa using this
/-- The facts on a slice that a walk wants. -/
theorem SlI.open {k : IntKind} {w : World} {v : Value} {xs : List Int} (h : SlI k w v xs) : ∃ A c, v = .slice A xs.length c ∧ xs.length ≤ 9223372036854775807 ∧
    ∀ j, j < xs.length → ∃ b off, A = some ⟨b, off, none⟩ ∧ w.cell? ⟨b, off + j, none⟩ = some (.int k (xs.getD j 0)) := by
  obtain ⟨A, c, hv, hm, hr⟩ := h
  refine ⟨A, c, hv, hm, fun j hj => ?_⟩
  obtain ⟨b, off, hA, hc⟩ := hr (by omega)
  exact ⟨b, off, hA, hc j hj⟩
end Go.Kin
