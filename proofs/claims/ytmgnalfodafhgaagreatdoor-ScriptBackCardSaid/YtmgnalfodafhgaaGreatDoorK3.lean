/- A writer of bits in memory; no program. -/
import Derived.Test.YtmgnalfodafhgaaGreatDoorK2
import Derived.Test.YtmgnalfodafhgaaGreatDoorPBits
set_option linter.unusedVariables false
set_option linter.unusedSimpArgs false
namespace Go.Kin
open Go.RowKit

/-- The writer at block b has the bits l; what it holds lies outside F. -/
structure WrS (tb : TypeId) (F : Nat → Prop) (b : Nat) (l : List Bool) (w : World) : Prop where
  out : ∀ k, F k → k < w.heap.size ∧ k ≠ b
  n : w.cell? ⟨b, 1, none⟩ = some (.int .i64 l.length)
  thaw0 : w.frozen? ⟨b, 0, none⟩ = false
  thaw1 : w.frozen? ⟨b, 1, none⟩ = false
  row : ∃ v, w.cell? ⟨b, 0, none⟩ = some v ∧ w.ownsRow 0 tb 1 v (pack l).length ((pack l).map fun (n : Nat) => Value.int .u8 n) ∧ v.ownBlock ≠ some b ∧ ∀ k, F k → v.ownBlock ≠ some k

theorem WrS.lt {tb : TypeId} {F : Nat → Prop} {b : Nat} {l : List Bool} {w : World} (h : WrS tb F b l w) : b < w.heap.size := World.block_lt_of_cell? w _ h.n
/-- New memory may be laid besides, and may be foreign from now on. -/
theorem WrS.more {tb : TypeId} {F G : Nat → Prop} {b : Nat} {l : List Bool} {w w' : World} (h : WrS tb F b l w) (hb : Below w.heap.size w w') (hG : ∀ k, G k → F k ∨ w.heap.size ≤ k ∧ k < w'.heap.size) : WrS tb G b l w' := by
  have hlt := h.lt
  obtain ⟨v, h0, hr, h1, h2⟩ := h.row
  refine ⟨fun k hk => ?_, cell_below hb h.n, frozen_below hb h0 h.thaw0, frozen_below hb h.n h.thaw1, v, cell_below hb h0, (Frm.of_below (S := fun _ => False) hb).own hr (fun _ _ h => h), h1, fun k hk => ?_⟩
  · rcases hG k hk with h3 | h3
    · have h4 := h.out k h3; have h5 := hb.size; exact ⟨by omega, h4.2⟩
    · exact ⟨h3.2, by omega⟩
  · rcases hG k hk with h3 | h3
    · exact h2 k h3
    · intro h4
      have := (hr.lt k h4).2
      omega
/-- The same between the two halves of one bit: there is room for it. -/
structure WrM (tb : TypeId) (F : Nat → Prop) (b : Nat) (l : List Bool) (v : Value) (w : World) : Prop where
  out : ∀ k, F k → k < w.heap.size ∧ k ≠ b
  n : w.cell? ⟨b, 1, none⟩ = some (.int .i64 l.length)
  thaw0 : w.frozen? ⟨b, 0, none⟩ = false
  thaw1 : w.frozen? ⟨b, 1, none⟩ = false
  at0 : w.cell? ⟨b, 0, none⟩ = some v
  row : w.ownsRow 0 tb 1 v (pad l).length ((pad l).map fun (n : Nat) => Value.int .u8 n)
  row1 : v.ownBlock ≠ some b
  row2 : ∀ k, F k → v.ownBlock ≠ some k
theorem pad_of {l : List Bool} (h : l.length % 8 ≠ 0) : pad l = pack l := by unfold pad; rw [if_neg h]
theorem pad_of0 {l : List Bool} (h : l.length % 8 = 0) : pad l = pack l ++ [0] := by unfold pad; rw [if_pos h]
theorem WrM.slice {tb : TypeId} {F : Nat → Prop} {b : Nat} {l : List Bool} {v : Value} {w : World} (h : WrM tb F b l v w) : ∃ g cap, v = .slice (some ⟨g, 0, none⟩) (l.length / 8 + 1) cap := by
  rcases h.row.2 with ⟨_, h0⟩ | ⟨g, cap, cur, hv, _⟩
  · rw [pad_length] at h0; omega
  · rw [pad_length] at hv; exact ⟨g, cap, hv⟩
theorem WrM.end0 {tb : TypeId} {F : Nat → Prop} {b : Nat} {l : List Bool} {v : Value} {w : World} (h : WrM tb F b l v w) : WrS tb F b (l ++ [false]) (w.setCell ⟨b, 1, none⟩ (.int .i64 ((l.length : Int) + 1))) := by
  refine ⟨fun k hk => ?_, ?_, ?_, ?_, v, ?_, ?_, h.row1, h.row2⟩
  · have := h.out k hk; simpa [World.setCell] using this
  · rw [World.cell?_setCell_same _ _ _ h.n]; simp
  · simpa using h.thaw0
  · simpa using h.thaw1
  · rw [World.cell?_setCell_other _ _ _ _ (by simp)]; exact h.at0
  · rw [pack_snoc_false]
    exact (Frm.setCell (S := (· = b)) (Frm.refl _ _) (fun _ => rfl) _).own h.row (fun k hk e => h.row1 (by rw [hk, e]))
theorem WrM.end1 {tb : TypeId} {F : Nat → Prop} {b : Nat} {l : List Bool} {g cap : Nat} {w : World} (h : WrM tb F b l (.slice (some ⟨g, 0, none⟩) (l.length / 8 + 1) cap) w) (y : Int) (hy : y = (byteAt (l ++ [true]) (l.length / 8) : Nat)) :
    WrS tb F b (l ++ [true]) ((w.setCell ⟨g, l.length / 8, none⟩ (.int .u8 y)).setCell ⟨b, 1, none⟩ (.int .i64 ((l.length : Int) + 1))) := by
  subst hy
  have hgb : g ≠ b := fun e => h.row1 (by rw [e]; rfl)
  have hl := pad_length l
  have hrow := h.row
  rw [hl] at hrow
  have hst := (hrow.stored (l.length / 8) (.int .u8 (byteAt (l ++ [true]) (l.length / 8) : Nat))).1
  refine ⟨fun k hk => ?_, ?_, ?_, ?_, _, ?_, ?_, h.row1, h.row2⟩
  · have := h.out k hk; simpa [World.setCell] using this
  · rw [World.cell?_setCell_same _ _ _ (cell_set _ h.n (Ne.symm hgb))]; simp
  · simpa using h.thaw0
  · simpa using h.thaw1
  · rw [World.cell?_setCell_other _ _ _ _ (by simp)]; exact cell_set _ h.at0 (Ne.symm hgb)
  · have := (Frm.setCell (S := (· = b)) (Frm.refl _ _) (p := ⟨b, 1, none⟩) (fun _ => rfl) (.int .i64 ((l.length : Int) + 1))).own hst (fun k hk e => hgb ((show g = k by simpa [Value.ownBlock] using hk).trans e))
    rw [pack_snoc_true, List.length_set, List.map_set, hl]
    exact this
theorem WrM.more {tb : TypeId} {F : Nat → Prop} {b : Nat} {l : List Bool} {v : Value} {w w' : World} (h : WrM tb F b l v w) (hb : Below w.heap.size w w') : WrM tb F b l v w' :=
  ⟨fun k hk => ⟨Nat.lt_of_lt_of_le (h.out k hk).1 hb.size, (h.out k hk).2⟩, cell_below hb h.n, frozen_below hb h.at0 h.thaw0, frozen_below hb h.n h.thaw1, cell_below hb h.at0,
    (Frm.of_below (S := fun _ => False) hb).own h.row (fun _ _ h => h), h.row1, h.row2⟩
theorem own_slice {w : World} {base : Nat} {e : TypeId} {size n : Nat} {v : Value} {xs : List Value} (h : w.ownsRow base e size v (n + 1) xs) : ∃ g cap, v = .slice (some ⟨g, 0, none⟩) (n + 1) cap := by
  rcases h.2 with ⟨_, h0⟩ | ⟨g, cap, cur, hv, _⟩
  · omega
  · exact ⟨g, cap, hv⟩
theorem SlI.frm {k : IntKind} {S : Nat → Prop} {w w1 : World} {v : Value} {xs : List Int} (h : SlI k w v xs) (hb : Frm S w w1) (hv : ∀ g, v.ownBlock = some g → ¬ S g) : SlI k w1 v xs := by
  obtain ⟨A, c, rfl, hm, hr⟩ := h
  refine ⟨A, c, rfl, hm, fun hn => ?_⟩
  obtain ⟨b, off, rfl, hc⟩ := hr hn
  exact ⟨b, off, rfl, fun j hj => hb.cell (hc j hj) (hv b rfl)⟩
end Go.Kin
