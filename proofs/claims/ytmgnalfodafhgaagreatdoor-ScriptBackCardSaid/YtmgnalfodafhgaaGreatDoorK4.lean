/- A row of structs of the call's own, read as a list; no program. -/
import Derived.Test.YtmgnalfodafhgaaGreatDoorK3
set_option linter.unusedVariables false
set_option linter.unusedSimpArgs false
namespace Go.Kin
open Go.RowKit
theorem flat_get {sz : Nat} : ∀ (css : List (List Value)) (_ : ∀ cs ∈ css, cs.length = sz) (j i : Nat) (u : Value) (hj : j < css.length), css[j][i]? = some u → css.flatten[j * sz + i]? = some u
  | cs :: css, h, 0, i, u, _, hu => by
    simp only [List.getElem_cons_zero] at hu
    rw [List.flatten_cons, Nat.zero_mul, Nat.zero_add, List.getElem?_append_left (List.getElem?_eq_some_iff.1 hu).1]
    exact hu
  | cs :: css, h, j + 1, i, u, hj, hu => by
    have hl := h cs (by simp)
    simp only [List.getElem_cons_succ] at hu
    rw [List.flatten_cons, List.getElem?_append_right (by rw [hl, Nat.add_mul]; omega), hl, show (j + 1) * sz + i - sz = j * sz + i by rw [Nat.add_mul]; omega]
    exact flat_get css (fun c hc => h c (by simp [hc])) j i u (by simpa using hj) hu
/-- The value v owns a row that reads as xs. -/
def OwnG {α : Type} (sz : Nat) (R : World → List Value → α → Prop) (w : World) (base : Nat) (e : TypeId) (v : Value) (xs : List α) : Prop :=
  ∃ css : List (List Value), w.ownsRow base e sz v xs.length css.flatten ∧ css.length = xs.length ∧ (∀ cs ∈ css, cs.length = sz) ∧ ∀ j (hj : j < xs.length) (hj' : j < css.length), R w css[j] xs[j]
theorem OwnG.nil {α : Type} (sz : Nat) (R : World → List Value → α → Prop) (w : World) (base : Nat) (e : TypeId) : OwnG sz R w base e (.slice none 0 0) ([] : List α) :=
  ⟨[], World.ownsRow_nil _ _ _ _, rfl, by simp, fun j hj => absurd hj (by simp)⟩
theorem OwnG.slG {α : Type} {sz : Nat} {R : World → List Value → α → Prop} {w : World} {base : Nat} {e : TypeId} {v : Value} {xs : List α} (h : OwnG sz R w base e v xs) (hs : 0 < sz) : SlG sz R w v xs := by
  obtain ⟨css, ho, hl, hsz, hR⟩ := h
  exact SlG.of_own ho hs fun j hj => ⟨css[j]'(by omega), hsz _ (List.getElem_mem _), hR j hj (by omega), fun i u hu => flat_get css hsz j i u (by omega) hu⟩
/-- What append leaves. -/
theorem OwnG.snoc {α : Type} {sz : Nat} {R : World → List Value → α → Prop} {w w1 : World} {base : Nat} {e : TypeId} {v1 : Value} {xs : List α} {css : List (List Value)} {cs : List Value} {x : α}
    (ho : w1.ownsRow base e sz v1 (xs.length + 1) (css.flatten ++ cs)) (hl : css.length = xs.length) (hsz : ∀ c ∈ css, c.length = sz) (hR : ∀ j (hj : j < xs.length) (hj' : j < css.length), R w1 css[j] xs[j])
    (hc : cs.length = sz) (hx : R w1 cs x) : OwnG sz R w1 base e v1 (xs ++ [x]) := by
  refine ⟨css ++ [cs], ?_, by simp [hl], ?_, fun j hj hj' => ?_⟩
  · rw [List.flatten_append, List.length_append]; simpa using ho
  · intro c hc'
    rcases List.mem_append.1 hc' with h | h
    · exact hsz c h
    · simp at h; rw [h]; exact hc
  · rcases Nat.lt_or_ge j xs.length with h | h
    · rw [List.getElem_append_left h, List.getElem_append_left (by omega)]; exact hR j h (by omega)
    · have : j = xs.length := by simp at hj; omega
      subst this
      rw [List.getElem_append_right (Nat.le_refl _), List.getElem_append_right (by omega)]
      simpa [hl] using hx
end Go.Kin
