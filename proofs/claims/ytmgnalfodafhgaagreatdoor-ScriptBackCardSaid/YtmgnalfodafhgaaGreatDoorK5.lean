/- A row of structs of the call's own whose elements read other blocks; no program. -/
import Derived.Test.YtmgnalfodafhgaaGreatDoorK4
set_option linter.unusedVariables false
set_option linter.unusedSimpArgs false
namespace Go.Kin
open Go.RowKit
/-- A reading that reads no block of F. -/
structure Reads {α : Type} (R : (Nat → Prop) → World → List Value → α → Prop) : Prop where
  frm : ∀ {F S : Nat → Prop} {w w' : World} {cs : List Value} {x : α}, R F w cs x → Frm S w w' → (∀ k, S k → F k) → R F w' cs x
  foreign : ∀ {F G : Nat → Prop} {w : World} {cs : List Value} {x : α}, R F w cs x → (∀ k, G k → F k ∨ w.heap.size ≤ k) → R G w cs x
/-- The slice value v reads as the numbers xs, out of no block of F. -/
def SlF (k : IntKind) (F : Nat → Prop) (w : World) (v : Value) (xs : List Int) : Prop := SlI k w v xs ∧ (0 < xs.length → ∀ g, F g → v.ownBlock ≠ some g)
theorem SlI.lt {k : IntKind} {w : World} {v : Value} {xs : List Int} (h : SlI k w v xs) (h0 : 0 < xs.length) {g : Nat} (hg : v.ownBlock = some g) : g < w.heap.size := by
  obtain ⟨A, c, rfl, hm, hr⟩ := h
  obtain ⟨b, off, rfl, hc⟩ := hr h0
  obtain rfl : b = g := by simpa [Value.ownBlock] using hg
  exact World.block_lt_of_cell? w _ (hc 0 h0)
theorem SlF.frm {k : IntKind} {F S : Nat → Prop} {w w' : World} {v : Value} {xs : List Int} (h : SlF k F w v xs) (hf : Frm S w w') (hS : ∀ k, S k → F k) : SlF k F w' v xs := by
  refine ⟨?_, h.2⟩
  obtain ⟨⟨A, c, rfl, hm, hr⟩, h2⟩ := h
  refine ⟨A, c, rfl, hm, fun hn => ?_⟩
  obtain ⟨b, off, rfl, hc⟩ := hr hn
  exact ⟨b, off, rfl, fun j hj => hf.cell (hc j hj) (fun hb => h2 hn b (hS b hb) rfl)⟩
theorem SlF.foreign {k : IntKind} {F G : Nat → Prop} {w : World} {v : Value} {xs : List Int} (h : SlF k F w v xs) (hG : ∀ k, G k → F k ∨ w.heap.size ≤ k) : SlF k G w v xs := by
  refine ⟨h.1, fun hn g hg hv => ?_⟩
  rcases hG g hg with h1 | h1
  · exact h.2 hn g h1 hv
  · have := h.1.lt hn hv; omega
theorem SlF.of {k : IntKind} {F : Nat → Prop} {w0 w : World} {v : Value} {xs : List Int} (h : SlI k w v xs) (hF : ∀ g, F g → 0 < xs.length → v.ownBlock ≠ some g) : SlF k F w v xs := ⟨h, fun hn g hg => hF g hg hn⟩
/-- The value v owns a row that reads as xs; no element reads the row's block. -/
def OwnR {α : Type} (sz : Nat) (R : (Nat → Prop) → World → List Value → α → Prop) (w : World) (base : Nat) (e : TypeId) (v : Value) (xs : List α) : Prop :=
  ∃ css : List (List Value), w.ownsRow base e sz v xs.length css.flatten ∧ css.length = xs.length ∧ (∀ cs ∈ css, cs.length = sz) ∧ ∀ j (hj : j < xs.length) (hj' : j < css.length), R (fun k => v.ownBlock = some k) w css[j] xs[j]
theorem OwnR.nil {α : Type} (sz : Nat) (R : (Nat → Prop) → World → List Value → α → Prop) (w : World) (base : Nat) (e : TypeId) : OwnR sz R w base e (.slice none 0 0) ([] : List α) :=
  ⟨[], World.ownsRow_nil _ _ _ _, rfl, by simp, fun j hj => absurd hj (by simp)⟩
theorem OwnR.ownG {α : Type} {sz : Nat} {R : (Nat → Prop) → World → List Value → α → Prop} (hR : Reads R) {w : World} {base : Nat} {e : TypeId} {v : Value} {xs : List α} (h : OwnR sz R w base e v xs) : OwnG sz (R (fun _ => False)) w base e v xs := by
  obtain ⟨css, ho, hl, hsz, hr⟩ := h
  exact ⟨css, ho, hl, hsz, fun j hj hj' => hR.foreign (hr j hj hj') (fun k hk => hk.elim)⟩
theorem OwnR.slG {α : Type} {sz : Nat} {R : (Nat → Prop) → World → List Value → α → Prop} (hR : Reads R) {w : World} {base : Nat} {e : TypeId} {v : Value} {xs : List α} (h : OwnR sz R w base e v xs) (hs : 0 < sz) : SlG sz (R (fun _ => False)) w v xs := (h.ownG hR).slG hs
theorem OwnR.frm {α : Type} {sz : Nat} {R : (Nat → Prop) → World → List Value → α → Prop} (hR : Reads R) {S : Nat → Prop} {w w' : World} {base : Nat} {e : TypeId} {v : Value} {xs : List α} (h : OwnR sz R w base e v xs)
    (hf : Frm S w w') (hS : ∀ k, ¬ S k ∨ w.heap.size ≤ k) : OwnR sz R w' base e v xs := by
  obtain ⟨css, ho, hl, hsz, hr⟩ := h
  have hf' : Frm (fun _ => False) w w' := ⟨hf.os, hf.tape, hf.output, hf.size, fun k hk _ => hf.block k hk (fun s => by rcases hS k with h1 | h1; exact h1 s; omega)⟩
  exact ⟨css, hf'.own ho (fun _ _ h => h), hl, hsz, fun j hj hj' => hR.frm (hr j hj hj') hf' (fun k hk => hk.elim)⟩
theorem OwnR.below {α : Type} {sz : Nat} {R : (Nat → Prop) → World → List Value → α → Prop} (hR : Reads R) {w w' : World} {base : Nat} {e : TypeId} {v : Value} {xs : List α} (h : OwnR sz R w base e v xs)
    (hf : Below w.heap.size w w') : OwnR sz R w' base e v xs := h.frm hR (Frm.of_below (S := fun _ => False) hf) (fun _ => .inl (fun h => h))
/-- What append leaves: wr the world of the row, w5 the one in which append is called. -/
theorem OwnR.snoc {α : Type} {sz : Nat} {R : (Nat → Prop) → World → List Value → α → Prop} (hR : Reads R) {wr w5 w1 : World} {base : Nat} {e : TypeId} {v : Value} {xs : List α} {css : List (List Value)} {cs : List Value} {x : α} {n gg cap : Nat}
    (hr : ∀ j (hj : j < xs.length) (hj' : j < css.length), R (fun k => v.ownBlock = some k) wr css[j] xs[j]) (hl : css.length = xs.length) (hsz : ∀ c ∈ css, c.length = sz) (hn : xs.length = n)
    (hb : Below wr.heap.size wr w5) (hx : R (fun k => v.ownBlock = some k) w5 cs x) (hc : cs.length = sz)
    (hown1 : w1.ownsRow base e sz (.slice (some ⟨gg, 0, none⟩) (n + 1) cap) (n + 1) (css.flatten ++ cs)) (hgrow : w5.grownBy w1 v.ownBlock) (hat : v.ownBlock = some gg ∨ gg = w5.heap.size) :
    OwnR sz R w1 base e (.slice (some ⟨gg, 0, none⟩) (n + 1) cap) (xs ++ [x]) := by
  have hg : Frm (fun k => v.ownBlock = some k) w5 w1 := (Frm.refl _ _).grown hgrow (fun k hk _ => hk)
  have key : ∀ cs' x', R (fun k => v.ownBlock = some k) w5 cs' x' → R (fun k => (Value.slice (some ⟨gg, 0, none⟩) (n + 1) cap).ownBlock = some k) w1 cs' x' := by
    intro cs' x' h
    have h1 : R (fun k => v.ownBlock = some k ∨ k = gg) w5 cs' x' := hR.foreign h (fun k hk => by
      rcases hk with h1 | h1
      · exact .inl h1
      · subst h1
        rcases hat with h2 | h2
        · exact .inl h2
        · exact .inr (by omega))
    have h2 := hR.frm h1 hg (fun k hk => .inl hk)
    exact hR.foreign h2 (fun k hk => .inl (.inr (by simpa [Value.ownBlock] using hk.symm)))
  refine ⟨css ++ [cs], ?_, by simp [hl], ?_, fun j hj hj' => ?_⟩
  · rw [List.flatten_append, List.length_append, hn]; simpa using hown1
  · intro c hc'
    rcases List.mem_append.1 hc' with h | h
    · exact hsz c h
    · simp at h; rw [h]; exact hc
  · rcases Nat.lt_or_ge j xs.length with h | h
    · rw [List.getElem_append_left h, List.getElem_append_left (by omega)]
      exact key _ _ (hR.frm (hr j h (by omega)) (Frm.of_below (S := fun _ => False) hb) (fun k hk => hk.elim))
    · have : j = xs.length := by simp at hj; omega
      subst this
      rw [List.getElem_append_right (Nat.le_refl _), List.getElem_append_right (by omega)]
      simpa [hl] using key _ _ hx
end Go.Kin
