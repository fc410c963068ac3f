/- A region that draws its order, whose last operation waits for all others: the region without it, then the last one. No program. -/
import Derived.Test.YtmgnalfodafhgaaGreatDoorK2
import Derived.Deep.RegionHeld3
set_option linter.unusedVariables false
set_option linter.unusedSimpArgs false
namespace Go.Kin
open Go.RowKit

section
variable {P : Program} {l : List Oper} {n : Nat} {Q : Exit → Act → World → Prop}

/-- What holds ahead of the last operation. -/
def PreQ (P : Program) (l : List Oper) (o : Oper) (Q : Exit → Act → World → Prop) : Exit → Act → World → Prop
  | .normal, a, w => wpList P l.toArray Q [o] a w
  | e, a, w => Q e a w

theorem upon_pre {o o' : Oper} {a : Act} {K : Act → World → Prop} {r : Result Next} (h : o'.upon P a K (PreQ P l o Q) r) : o'.upon P a K Q r := by
  cases r with
  | ok n w' =>
    cases n <;> simp only [Oper.upon] at h ⊢ <;> first | exact h | (refine Calls.mono h fun e w'' he => ?_; cases e <;> exact he)
  | halt x w' => cases x <;> simp only [Oper.upon] at h ⊢ <;> first | exact h | exact h.elim

theorem wpOp_pre (hB : lastB l = true) {o : Oper} {i : Nat} (hi : i < n) (hn : n < l.length) {K : Act → World → Prop} {a : Act} {w : World} (h : wpOp P (l.take n).toArray (PreQ P l o Q) i K a w) :
    wpOp P l.toArray Q i K a w := by
  obtain ⟨oi, ho⟩ : ∃ oi, l[i]? = some oi := ⟨l[i], List.getElem?_eq_getElem (by omega)⟩
  have ho' : l.toArray[i]? = some oi := by simpa using ho
  unfold wpOp at *
  rw [take_at hi, ho'] at h
  rw [ho']
  simp only at h ⊢
  rw [wanted_take hB ho hi] at h
  split
  · rename_i hw
    rw [if_pos hw] at h
    rcases h with h | ⟨h1, h2⟩
    · exact .inl (upon_pre h)
    · exact .inr ⟨h1, h2⟩
  · rename_i hw
    rw [if_neg hw] at h
    exact h

theorem wpAny_pre (hB : lastB l = true) (hn : n + 1 = l.length) {o : Oper} (hd : l.drop n = [o]) :
    ∀ (f : Nat) (listed : Array Bool) (a : Act) (w : World), listed.size = n + 1 → listed.getD n true = false → wpAny P .any (l.take n).toArray (PreQ P l o Q) f listed a w →
      wpAny P .any l.toArray Q (f + 1) listed a w := by
  have hlo : l[n]? = some o := by
    have := congrArg (·[0]?) hd
    simpa using this
  have hlast : ∀ (listed : Array Bool) a w, listed.size = n + 1 → listed.getD n true = false → (∀ k, k < n → listed.getD k true = true) → PreQ P l o Q .normal a w → ∀ f, wpAny P .any l.toArray Q (f + 1) listed a w := by
    intro listed a w hs hun hall hq f
    have hr : n ∈ Region.ready .any l.toArray listed := mem_ready.2 ⟨hun, l[n], by simp [List.getElem?_eq_getElem (show n < l.length by omega)], fun e he _ => by
      have := (lastB_at hB (List.getElem?_eq_getElem (show n < l.length by omega))).1 e he
      have h2 := hall e.on this
      have h3 : e.on < listed.size := by omega
      simp [h3] at h2 ⊢
      exact h2⟩
    refine ⟨fun h0 => (by rw [h0] at hr; cases hr), fun i hi => ?_⟩
    obtain ⟨hui, o', ho', _⟩ := mem_ready.1 hi
    have hil : i < l.length := by simpa using (Array.getElem?_eq_some_iff.1 ho').1
    obtain rfl : i = n := by
      rcases Nat.lt_or_ge i n with h1 | h1
      · have := hall i h1; rw [this] at hui; cases hui
      · omega
    have hnone : Region.ready .any l.toArray (listed.setIfInBounds i true) = [] := by
      rw [List.eq_nil_iff_forall_not_mem]
      intro j hj
      obtain ⟨huj, oj, hoj, _⟩ := mem_ready.1 hj
      have hjl : j < l.length := by simpa using (Array.getElem?_eq_some_iff.1 hoj).1
      by_cases hji : i = j
      · subst hji; simp [hs] at huj
      · rw [getD_set_ne true hji] at huj
        have := hall j (by omega); rw [this] at huj; cases huj
    have hq' : wpList P l.toArray Q [o] a w := hq
    have hw : wpOp P l.toArray Q i (fun a' w' => Q .normal a' w') a w := by
      unfold wpOp
      rw [show l.toArray[i]? = some o by simpa using hlo]
      simpa [wpList] using hq'
    refine wpOp_mono (fun a' w' hq => ?_) hw
    cases f with
    | zero => exact ⟨hnone, hq⟩
    | succ f => exact ⟨fun _ => hq, fun j hj => by rw [hnone] at hj; cases hj⟩
  intro f
  induction f with
  | zero =>
    intro listed a w hs hun h
    refine hlast listed a w hs hun (fun k hk => ?_) h.2 0
    cases hku : listed.getD k true with
    | true => rfl
    | false =>
      obtain ⟨j, hj, hjr⟩ := ready_some hB hn hs k hk hku
      rw [ready_take hB hn hj, h.1] at hjr
      cases hjr
  | succ f ih =>
    intro listed a w hs hun h
    by_cases hx : ∃ k, k < n ∧ listed.getD k true = false
    · obtain ⟨k, hk, hku⟩ := hx
      obtain ⟨j, hj, hjr⟩ := ready_some hB hn hs k hk hku
      refine ⟨fun h0 => (by rw [h0] at hjr; cases hjr), fun i hi => ?_⟩
      obtain ⟨hui, oi, ho, _⟩ := mem_ready.1 hi
      have hil : i < l.length := by simpa using (Array.getElem?_eq_some_iff.1 ho).1
      have hin : i < n := by
        rcases Nat.lt_or_ge i n with h1 | h1
        · exact h1
        · obtain rfl : i = n := by omega
          exact absurd hi (ready_last hB hn hk hku)
      have h1 := h.2 i ((ready_take hB hn hin).1 hi)
      exact wpOp_mono (fun a' w' hk' => ih _ a' w' (by simpa using hs) (by rw [getD_set_ne true (by omega)]; exact hun) hk') (wpOp_pre hB hin (by omega) h1)
    · have hre : Region.ready .any (l.take n).toArray listed = [] := by
        rw [List.eq_nil_iff_forall_not_mem]
        intro j hj
        obtain ⟨huj, o', ho', _⟩ := mem_ready.1 hj
        have hjl : j < n := by have := (Array.getElem?_eq_some_iff.1 ho').1; simp at this; omega
        exact hx ⟨j, hjl, huj⟩
      refine hlast listed a w hs hun (fun k hk => ?_) (h.1 hre) _
      cases hku : listed.getD k true with
      | true => rfl
      | false => exact absurd ⟨k, hk, hku⟩ hx
end

theorem wp_region_pre {P : Program} {id n : Nat} {Q : Exit → Act → World → Prop} {a : Act} {w : World} {l pre : List Oper} {o : Oper} (S : World → Prop) (hp : l.take n = pre) (hd : l.drop n = [o]) (hm : P.follows .mixedOrders = true)
    (hn : n + 1 = l.length) (hB : lastB l = true) (hS : S w.drew) (h : S w.drew → wpAnyH P .any pre.toArray (PreQ P l o Q) S n (Array.replicate (n + 1) false) a w.drew) : (Code.region id l.toArray true).wp P Q a w := by
  subst hp
  refine wp_region_any hm ?_
  have hsz : l.toArray.size = n + 1 := by simp [hn]
  rw [hsz]
  exact wpAny_pre hB hn hd n _ a _ (by simp) (by simp) (wpAny_of_held _ _ _ _ (h hS))
/-- What the blocks of B hold in w they hold in wx. -/
def KeepS (B : Nat → Prop) (w wx : World) : Prop := ∀ a v, B a.block → w.cell? a = some v → wx.cell? a = some v
theorem KeepS.refl (B : Nat → Prop) (w : World) : KeepS B w w := fun _ _ _ h => h
theorem KeepS.drew {B : Nat → Prop} {w wx : World} (h : KeepS B w wx) : KeepS B w wx.drew := h
theorem KeepS.setCell {B : Nat → Prop} {w wx : World} (h : KeepS B w wx) {p : Addr} (hp : ¬ B p.block) (u : Value) : KeepS B w (wx.setCell p u) :=
  fun a v ha hc => cell_set u (h a v ha hc) (fun e => hp (e ▸ ha))
theorem KeepS.below {B : Nat → Prop} {w wx w' : World} (h : KeepS B w wx) (hb : Below wx.heap.size wx w') : KeepS B w w' := fun a v ha hc => cell_below hb (h a v ha hc)
theorem wp_region_keep {P : Program} {id : Nat} {Q : Exit → Act → World → Prop} {a : Act} {w : World} {ops : Array Oper} (B : Nat → Prop) (n : Nat) (hn : ops.size = n) (hm : P.follows .mixedOrders = true)
    (h : KeepS B w w.drew → wpAnyH P .any ops Q (KeepS B w) n (Array.replicate n false) a w.drew) : (Code.region id ops true).wp P Q a w := by
  subst hn
  exact wp_region_any hm (wpAny_of_held _ _ _ _ (h (KeepS.refl B w).drew))
end Go.Kin
