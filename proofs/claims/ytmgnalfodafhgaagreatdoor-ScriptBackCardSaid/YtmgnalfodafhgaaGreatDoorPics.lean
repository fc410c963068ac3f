import Derived.Test.YtmgnalfodafhgaaGreatDoorActs2
import Derived.Test.YtmgnalfodafhgaaGreatDoorK6
import Derived.Deep.DeepCutAuto
set_option linter.unusedVariables false
set_option linter.unusedSimpArgs false
namespace Go.Kin
open Go.RowKit
/-- The sample of frame i at column u, row v. -/
def picX (z i v u : Int) : Int := (z * (u + 3 * v) + 37 * i * (z % 5) + u * v * (i % 3)) % 256
def picW (x : Int) : Nat := if x % 2 = 0 then 8 else 16
theorem picW_eq {x : Int} (h : 0 ≤ x) : ((picW x : Nat) : Int) = 8 + 8 * (x % 2) := by unfold picW; split <;> omega
theorem picW_range (x : Int) : 8 ≤ picW x ∧ picW x ≤ 16 := by unfold picW; split <;> omega
/-- The first n samples of frame i, its width W. -/
def picTo (z : Int) (i W n : Nat) : List Int := (List.range n).map fun j => picX z i (j / W : Nat) (j % W : Nat)
theorem picTo_len (z : Int) (i W n : Nat) : (picTo z i W n).length = n := by simp [picTo]
theorem picTo_succ (z : Int) (i W v u : Nat) (hu : u < W) : picTo z i W (v * W + u + 1) = picTo z i W (v * W + u) ++ [picX z i v u] := by
  unfold picTo
  rw [List.range_succ, List.map_append, List.map_cons, List.map_nil, show (v * W + u) / W = v by rw [Nat.mul_comm, Nat.mul_add_div (by omega), Nat.div_eq_of_lt hu]; rfl,
    show (v * W + u) % W = u by rw [Nat.mul_comm, Nat.mul_add_mod, Nat.mod_eq_of_lt hu]]
theorem picX_range (z i v u : Int) : 0 ≤ picX z i v u ∧ picX z i v u ≤ 255 := by unfold picX; omega
def picF (bs : List Int) (i : Nat) : Fr := ⟨picW (bs.getD 0 0), picW (bs.getD 1 0), picTo (bs.getD 3 0) i (picW (bs.getD 0 0)) (picW (bs.getD 1 0) * picW (bs.getD 0 0))⟩
def picsTo (bs : List Int) (n : Nat) : List Fr := (List.range n).map (picF bs)
theorem picsTo_succ (bs : List Int) (n : Nat) : picsTo bs (n + 1) = picsTo bs n ++ [picF bs n] := by simp [picsTo, List.range_succ]
theorem picsTo_len (bs : List Int) (n : Nat) : (picsTo bs n).length = n := by simp [picsTo]
def picsN (bs : List Int) : Nat := 1 + (bs.getD 2 0 % 4).toNat
def picsOf (bs : List Int) : List Fr := picsTo bs (picsN bs)
theorem picF_may (bs : List Int) (i : Nat) : mayB (picF bs i) = true := by
  have h0 := picW_range (bs.getD 0 0)
  have h1 := picW_range (bs.getD 1 0)
  rw [mayB_iff]
  refine ⟨?_, ?_, ?_, ?_⟩
  · rw [sideB_iff]; simp only [picF]; unfold picW at *; split <;> omega
  · rw [sideB_iff]; simp only [picF]; unfold picW at *; split <;> omega
  · simp only [picF, picTo_len]; rw [Int.mul_comm]; exact Int.natCast_mul _ _
  · intro x hx
    simp only [picF, picTo, List.mem_map] at hx
    obtain ⟨j, _, rfl⟩ := hx
    exact picX_range _ _ _ _
theorem picsOf_ok (bs : List Int) : EncOk (picsOf bs) (picW (bs.getD 0 0)) (picW (bs.getD 1 0)) := by
  refine ⟨by simp [picsOf, picsTo_len, picsN]; omega, by simp [picsOf, picsTo_len, picsN]; omega, fun f hf => ?_⟩
  simp only [picsOf, picsTo, List.mem_map] at hf
  obtain ⟨i, _, rfl⟩ := hf
  exact ⟨picF_may bs i, rfl, rfl⟩
/-- Are the source's bytes said one by one? -/
def rawB (bs : List Int) : Bool := decide (bs.getD 3 0 % 8 = 7)
def rawN (bs : List Int) : Nat := min (bs.getD 2 0).toNat (bs.length - 4)
def picB (bs : List Int) : List Int := if rawB bs then (bs.drop 4).take (rawN bs) else encB (picsOf bs)
def picRest (bs : List Int) : List Int := if rawB bs then (bs.drop 4).drop (rawN bs) else bs.drop 4
def FrF (F : Nat → Prop) (w : World) (cs : List Value) (f : Fr) : Prop := ∃ pv, cs = [.int .i64 f.w, .int .i64 f.h, pv] ∧ SlF .i64 F w pv f.pix
theorem FrF.reads : Reads FrF := ⟨fun ⟨pv, h, hp⟩ hf hS => ⟨pv, h, hp.frm hf hS⟩, fun ⟨pv, h, hp⟩ hG => ⟨pv, h, hp.foreign hG⟩⟩
theorem SlG.mono {α : Type} {sz : Nat} {R R' : World → List Value → α → Prop} {w : World} {v : Value} {xs : List α} (h : SlG sz R w v xs) (hr : ∀ cs x, R w cs x → R' w cs x) : SlG sz R' w v xs := by
  obtain ⟨A, c, hv, hm, h⟩ := h
  refine ⟨A, c, hv, hm, fun hn => ?_⟩
  obtain ⟨b, off, hA, hc⟩ := h hn
  refine ⟨b, off, hA, fun j hj => ?_⟩
  obtain ⟨cs, hl, hx, hcs⟩ := hc j hj
  exact ⟨cs, hl, hr _ _ hx, hcs⟩
theorem FrF.slG {w : World} {base : Nat} {e : TypeId} {v : Value} {xs : List Fr} (h : OwnR 3 FrF w base e v xs) : SlG 3 FrR w v xs :=
  (h.slG FrF.reads (by omega)).mono fun _ _ ⟨pv, h, hp⟩ => ⟨pv, h, hp.1⟩
/-- The frame that is being made: its block, its samples so far. -/
def PixS (tf ti : TypeId) (W H : Nat) (xs : List Int) (w0 w : World) : Prop :=
  ∃ pv, w.heap[w0.heap.size]? = some (.cells #[.int .i64 W, .int .i64 H, pv] tf (0, 0)) ∧ w.ownsRow (w0.heap.size + 1) ti 1 pv xs.length (xs.map (Value.int .i64)) ∧ Below w0.heap.size w0 w
theorem PixS.step {tf ti : TypeId} {W H : Nat} {xs : List Int} {w0 w w5 w1 : World} {pv : Value} {x : Int} {gg cap : Nat} (hh : w.heap[w0.heap.size]? = some (.cells #[.int .i64 W, .int .i64 H, pv] tf (0, 0)))
    (ho : w.ownsRow (w0.heap.size + 1) ti 1 pv xs.length (xs.map (Value.int .i64))) (hb : Below w0.heap.size w0 w) (hb5 : Below w.heap.size w w5)
    (hown1 : w1.ownsRow (w0.heap.size + 1) ti 1 (.slice (some ⟨gg, 0, none⟩) (xs.length + 1) cap) (xs.length + 1) (xs.map (Value.int .i64) ++ [.int .i64 x])) (hgrow : w5.grownBy w1 pv.ownBlock) :
    PixS tf ti W H (xs ++ [x]) w0 (w1.setCell ⟨w0.heap.size, 2, none⟩ (.slice (some ⟨gg, 0, none⟩) (xs.length + 1) cap)) := by
  have hlt := (Array.getElem?_eq_some_iff.1 hh).1
  have hb1 : Below w0.heap.size w0 w1 := (below_then hb hb5).grown hgrow (below_then hb hb5).size (fun q hq => by have := (ho.lt q hq).1; omega)
  have h5 : w1.heap[w0.heap.size]? = some (.cells #[.int .i64 W, .int .i64 H, pv] tf (0, 0)) := by
    rw [hgrow.block _ (Nat.lt_of_lt_of_le hlt hb5.size) (fun e => by have := (ho.lt _ e.symm).1; omega)]
    exact (hb5.block _ hlt).trans hh
  refine ⟨_, heap_setCell_same w1 w0.heap.size 2 _ tf _ h5, ?_, hb1.setCell (by simp) _⟩
  rw [List.length_append, List.map_append]
  refine (Frm.setCell (S := (· = w0.heap.size)) (Frm.refl _ _) (p := ⟨w0.heap.size, 2, none⟩) (fun _ => rfl) _).own hown1 (fun k hk e => ?_)
  have h6 : gg = k := by simpa [Value.ownBlock] using hk
  have h7 := (hown1.lt gg rfl).1
  have h8 : k = w0.heap.size := e
  omega
end Go.Kin
namespace Go.Proofs
open Go.RowKit Go.Kin Go.Shelf
def PicRet (bs : List Int) (w : World) (e : Ending) (w' : World) : Prop :=
  ∃ v r, e = .returned (.tuple #[v, r]) ∧ SlB .u8 w' v (picB bs) ∧ SlB .u8 w' r (picRest bs) ∧ Below w.heap.size w w'
end Go.Proofs
