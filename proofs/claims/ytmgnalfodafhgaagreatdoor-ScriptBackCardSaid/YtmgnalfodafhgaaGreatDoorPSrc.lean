/- The source's coding, plain: foretelling, folding, Rice codes, bits in bytes. No program. -/
import Derived.Test.YtmgnalfodafhgaaGreatDoorP0
set_option linter.unusedVariables false
set_option linter.unusedSimpArgs false
namespace Go.Kin

def clipI (v : Int) : Int := min (max v 0) 255
/-- Foretells the sample at (x, y) of a frame of width w whose samples ahead stand in l. -/
def guessF (l : List Int) (w x y : Nat) : Int :=
  if y * w + x = 0 then 128
  else if y = 0 then l.getD (y * w + x - 1) 0
  else if x = 0 then l.getD (y * w + x - w) 0
  else clipI (l.getD (y * w + x - 1) 0 + l.getD (y * w + x - w) 0 - l.getD (y * w + x - w - 1) 0)
theorem getD_smp {l : List Int} (h : ∀ x ∈ l, 0 ≤ x ∧ x ≤ 255) (i : Nat) : 0 ≤ l.getD i 0 ∧ l.getD i 0 ≤ 255 := by
  rw [List.getD_eq_getElem?_getD]
  by_cases hi : i < l.length
  · rw [List.getElem?_eq_getElem hi]; exact h _ (List.getElem_mem hi)
  · rw [List.getElem?_eq_none (by omega)]; simp
theorem guessF_range {l : List Int} (h : ∀ x ∈ l, 0 ≤ x ∧ x ≤ 255) (w x y : Nat) : 0 ≤ guessF l w x y ∧ guessF l w x y ≤ 255 := by
  unfold guessF
  split
  · omega
  split
  · exact getD_smp h _
  split
  · exact getD_smp h _
  · unfold clipI; omega
def foldI (v : Int) : Int := if 2305843009213693952 < v ∨ v < -2305843009213693952 then 0 else if 0 < v then 2 * v - 1 else -2 * v
def unfoldI (u : Int) : Int := if u < 0 ∨ 4611686018427387904 < u then 0 else if u % 2 = 1 then u / 2 + 1 else -(u / 2)
theorem unfold_fold {v : Int} (h : -2305843009213693952 ≤ v) (h' : v ≤ 2305843009213693952) : unfoldI (foldI v) = v := by
  unfold foldI
  rw [if_neg (by omega)]
  by_cases hv : 0 < v
  · rw [if_pos hv]; unfold unfoldI; rw [if_neg (by omega), if_pos (by omega)]; omega
  · rw [if_neg hv]; unfold unfoldI; rw [if_neg (by omega), if_neg (by omega)]; omega
theorem foldI_range {v : Int} (h : -255 ≤ v) (h' : v ≤ 255) : 0 ≤ foldI v ∧ foldI v ≤ 510 := by
  unfold foldI; rw [if_neg (by omega)]; split <;> omega

/-- A frame's numbers. -/
def foldsF (f : Fr) : List Int := (List.range f.pix.length).map fun (i : Nat) => foldI (f.pix.getD i 0 - guessF f.pix f.w.toNat (i % f.w.toNat) (i / f.w.toNat))
/-- How many bits a Rice code has, of a number from 0 on. -/
def riceS (v : Int) (k : Nat) : Int := if 24 ≤ v / 2 ^ k then 55 else v / 2 ^ k + 1 + k
/-- All of them. -/
def riceSum (l : List Int) (k : Nat) : Int := l.foldl (fun n v => n + riceS v k) 0
/-- The first k of the eight with which they take the fewest bits. -/
def bestTo (l : List Int) : Nat → Nat × Int
  | 0 => (0, -1)
  | i + 1 => if (bestTo l i).2 < 0 ∨ riceSum l i < (bestTo l i).2 then (i, riceSum l i) else bestTo l i
def bestK (l : List Int) : Nat := (bestTo l 8).1

/-- The n bits of v, the highest first. -/
def bitsOf (v : Nat) : Nat → List Bool
  | 0 => []
  | n + 1 => (v / 2 ^ n % 2 == 1) :: bitsOf v n
/-- A Rice code. -/
def riceBits (v k : Nat) : List Bool :=
  if 24 ≤ v / 2 ^ k then List.replicate 24 true ++ bitsOf v 31 else List.replicate (v / 2 ^ k) true ++ [false] ++ bitsOf (v % 2 ^ k) k
/-- Byte number i of bits. -/
def byteAt (l : List Bool) (i : Nat) : Nat := (List.range 8).foldl (fun n j => 2 * n + (l.getD (8 * i + j) false).toNat) 0
def pack (l : List Bool) : List Nat := (List.range ((l.length + 7) / 8)).map (byteAt l)
def frameBits (f : Fr) : List Bool := bitsOf (bestK (foldsF f)) 3 ++ (foldsF f).flatMap fun v => riceBits v.toNat (bestK (foldsF f))
/-- What Encode writes. -/
def encB (l : List Fr) : List Int :=
  [75, 83, (l.getD 0 ⟨0, 0, []⟩).w / 8, (l.getD 0 ⟨0, 0, []⟩).h / 8, (l.length : Int)] ++ (pack (l.flatMap frameBits)).map fun (n : Nat) => (n : Int)
end Go.Kin
