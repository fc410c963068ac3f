/- A region that draws its order, whose last operation waits for all others: these, by one walk of the lexical order; then the last one. No program. -/
import Derived.Test.YtmgnalfodafhgaaGreatDoorK1
import Derived.StillTail
set_option linter.unusedVariables false
set_option linter.unusedSimpArgs false
namespace Go.Kin
open Go.RowKit

/-- Each operation waits for earlier ones alone; the last one waits for all. -/
def lastB (l : List Oper) : Bool :=
  (List.range l.length).all fun i => match l[i]? with
    | some o => o.after.all (fun e => decide (e.on < i)) && (match o.guard with | some (j, _) => decide (j < i) | none => true) &&
        (decide (i + 1 < l.length) || (List.range i).all fun j => o.after.any fun e => Region.binds .any e && e.on == j)
    | none => false

section
variable {P : Program} {l : List Oper} {n : Nat} {C : World → Prop}

theorem lastB_at (hB : lastB l = true) {i : Nat} {o : Oper} (ho : l[i]? = some o) : (∀ e ∈ o.after, e.on < i) ∧ (∀ j b, o.guard = some (j, b) → j < i) ∧
    (i + 1 = l.length → ∀ j, j < i → ∃ e ∈ o.after, Region.binds .any e = true ∧ e.on = j) := by
  have hi : i < l.length := (List.getElem?_eq_some_iff.1 ho).1
  have h := List.all_eq_true.1 hB i (List.mem_range.2 hi)
  simp only [ho, Bool.and_eq_true] at h
  obtain ⟨⟨h1, h2⟩, h3⟩ := h
  refine ⟨fun e he => ?_, fun j b hg => ?_, fun hl j hj => ?_⟩
  · have := Array.all_eq_true'.1 h1 e he
    simpa using this
  · rw [hg] at h2; simpa using h2
  · rw [Bool.or_eq_true] at h3
    rcases h3 with h3 | h3
    · simp at h3; omega
    · have := List.all_eq_true.1 h3 j (List.mem_range.2 hj)
      obtain ⟨e, he, hb⟩ := Array.any_eq_true'.1 this
      simp only [Bool.and_eq_true, beq_iff_eq] at hb
      exact ⟨e, he, hb.1, hb.2⟩

theorem take_at {i : Nat} (hi : i < n) : (l.take n).toArray[i]? = l.toArray[i]? := by
  simp [hi]

theorem yielded_take {i : Nat} (hi : i < n) (tmps : Array Value) : yielded (l.take n).toArray tmps i = yielded l.toArray tmps i := by
  unfold yielded; rw [take_at hi]

theorem wanted_take (hB : lastB l = true) {i : Nat} {o : Oper} (ho : l[i]? = some o) (hi : i < n) (tmps : Array Value) :
    Region.wanted o (yielded (l.take n).toArray tmps) = Region.wanted o (yielded l.toArray tmps) := by
  unfold Region.wanted
  cases hg : o.guard with
  | none => rfl
  | some jb =>
    obtain ⟨j, b⟩ := jb
    have := (lastB_at hB ho).2.1 j b hg
    simp only
    rw [yielded_take (by omega)]

theorem qOp_take (hB : lastB l = true) {i : Nat} (hi : i < n) (hn : n < l.length) {K : Act → Prop} {a : Act} (h : qOp P (l.take n).toArray C i K a) : qOp P l.toArray C i K a := by
  obtain ⟨o, ho⟩ : ∃ o, l[i]? = some o := ⟨l[i], List.getElem?_eq_getElem (by omega)⟩
  have ho' : l.toArray[i]? = some o := by simpa using ho
  unfold qOp at *
  rw [take_at hi, ho'] at h
  rw [ho']
  simp only at h ⊢
  rwa [wanted_take hB ho hi] at h

theorem ready_take (hB : lastB l = true) (hn : n + 1 = l.length) {listed : Array Bool} {j : Nat} (hj : j < n) : j ∈ Region.ready .any l.toArray listed ↔ j ∈ Region.ready .any (l.take n).toArray listed := by
  rw [mem_ready, mem_ready, take_at hj]

/-- While an operation ahead of the last one is to come, it does not come up. -/
theorem ready_last (hB : lastB l = true) (hn : n + 1 = l.length) {listed : Array Bool} {i : Nat} (hi : i < n) (hun : listed.getD i true = false) : n ∉ Region.ready .any l.toArray listed := by
  intro h
  obtain ⟨_, o, ho, hall⟩ := mem_ready.1 h
  have ho' : l[n]? = some o := by simpa using ho
  obtain ⟨e, he, hb, hon⟩ := (lastB_at hB ho').2.2 hn i hi
  have := hall e he hb
  rw [hon, getD_both hun] at this
  cases this
/-- Some operation ahead of the last one can come up, if one is to come. -/
theorem ready_some (hB : lastB l = true) (hn : n + 1 = l.length) {listed : Array Bool} (hs : listed.size = n + 1) : ∀ i, i < n → listed.getD i true = false → ∃ j, j < n ∧ j ∈ Region.ready .any l.toArray listed := by
  intro i
  induction i using Nat.strongRecOn with
  | _ i ih =>
    intro hi hun
    by_cases hx : ∃ k, k < i ∧ listed.getD k true = false
    · obtain ⟨k, hk, hku⟩ := hx
      exact ih k hk (by omega) hku
    · refine ⟨i, hi, mem_ready.2 ⟨hun, l[i], by simp [List.getElem?_eq_getElem (show i < l.length by omega)], fun e he _ => ?_⟩⟩
      have := (lastB_at hB (List.getElem?_eq_getElem (show i < l.length by omega))).1 e he
      have h2 : ¬ listed.getD e.on true = false := fun h => hx ⟨e.on, this, h⟩
      have h3 : e.on < listed.size := by omega
      simp [h3] at h2 ⊢
      exact h2

theorem wpAny_of_last (hB : lastB l = true) (hn : n + 1 = l.length) {Q : Act → Prop} {Q' : Exit → Act → World → Prop}
    (hQ : ∀ a w, C w → Q a → wpOp P l.toArray Q' n (fun a' w' => Q' .normal a' w') a w) :
    ∀ (f : Nat) (listed : Array Bool) (a : Act) (w : World), C w → listed.size = n + 1 → listed.getD n true = false → wpAnyQ P .any (l.take n).toArray C Q f listed a →
      wpAny P .any l.toArray Q' (f + 1) listed a w := by
  intro f
  induction f with
  | zero =>
    intro listed a w hC hs hun h
    by_cases hx : ∃ k, k < n ∧ listed.getD k true = false
    · obtain ⟨k, hk, hku⟩ := hx
      obtain ⟨j, hj, hjr⟩ := ready_some hB hn hs k hk hku
      rw [ready_take hB hn hj, h.1] at hjr
      cases hjr
    · refine ⟨fun h0 => ?_, fun i hi => ?_⟩
      · exfalso
        have hr : n ∈ Region.ready .any l.toArray listed := mem_ready.2 ⟨hun, l[n], by simp [List.getElem?_eq_getElem (show n < l.length by omega)], fun e he _ => by
          have := (lastB_at hB (List.getElem?_eq_getElem (show n < l.length by omega))).1 e he
          have h2 : ¬ listed.getD e.on true = false := fun h => hx ⟨e.on, this, h⟩
          have h3 : e.on < listed.size := by omega
          simp [h3] at h2 ⊢
          exact h2⟩
        rw [h0] at hr; cases hr
      · obtain ⟨hui, o, ho, _⟩ := mem_ready.1 hi
        have hil : i < l.length := by simpa using (Array.getElem?_eq_some_iff.1 ho).1
        obtain rfl : i = n := by
          rcases Nat.lt_or_ge i n with h1 | h1
          · exact absurd ⟨i, h1, hui⟩ hx
          · omega
        refine wpOp_mono (fun a' w' hq => ⟨?_, hq⟩) (hQ a w hC h.2)
        rw [List.eq_nil_iff_forall_not_mem]
        intro j hj
        obtain ⟨huj, o', ho', _⟩ := mem_ready.1 hj
        have hjl : j < l.length := by simpa using (Array.getElem?_eq_some_iff.1 ho').1
        by_cases hji : i = j
        · subst hji; simp [hs] at huj
        · rw [getD_set_ne true hji] at huj
          exact hx ⟨j, by omega, huj⟩
  | succ f ih =>
    intro listed a w hC hs hun h
    by_cases hx : ∃ k, k < n ∧ listed.getD k true = false
    · obtain ⟨k, hk, hku⟩ := hx
      obtain ⟨j, hj, hjr⟩ := ready_some hB hn hs k hk hku
      refine ⟨fun h0 => (by rw [h0] at hjr; cases hjr), fun i hi => ?_⟩
      obtain ⟨hui, o, ho, _⟩ := mem_ready.1 hi
      have hil : i < l.length := by simpa using (Array.getElem?_eq_some_iff.1 ho).1
      have hin : i < n := by
        rcases Nat.lt_or_ge i n with h1 | h1
        · exact h1
        · obtain rfl : i = n := by omega
          exact absurd hi (ready_last hB hn hk hku)
      have h1 := h.2 i ((ready_take hB hn hin).1 hi)
      exact wpOp_of_qOp hC (fun a' w' hC' hk' => ih _ a' w' hC' (by simpa using hs) (by rw [getD_set_ne true (by omega)]; exact hun) hk') (qOp_take hB hin (by omega) h1)
    · have hre : Region.ready .any (l.take n).toArray listed = [] := by
        rw [List.eq_nil_iff_forall_not_mem]
        intro j hj
        obtain ⟨huj, o', ho', _⟩ := mem_ready.1 hj
        have hjl : j < n := by have := (Array.getElem?_eq_some_iff.1 ho').1; simp at this; omega
        exact hx ⟨j, hjl, huj⟩
      have hq0 := h.1 hre
      refine ⟨fun h0 => ?_, fun i hi => ?_⟩
      · exfalso
        have hr : n ∈ Region.ready .any l.toArray listed := mem_ready.2 ⟨hun, l[n], by simp [List.getElem?_eq_getElem (show n < l.length by omega)], fun e he _ => by
          have := (lastB_at hB (List.getElem?_eq_getElem (show n < l.length by omega))).1 e he
          have h2 : ¬ listed.getD e.on true = false := fun h => hx ⟨e.on, this, h⟩
          have h3 : e.on < listed.size := by omega
          simp [h3] at h2 ⊢
          exact h2⟩
        rw [h0] at hr; cases hr
      · obtain ⟨hui, o, ho, _⟩ := mem_ready.1 hi
        have hil : i < l.length := by simpa using (Array.getElem?_eq_some_iff.1 ho).1
        obtain rfl : i = n := by
          rcases Nat.lt_or_ge i n with h1 | h1
          · exact absurd ⟨i, h1, hui⟩ hx
          · omega
        have hnone : Region.ready .any l.toArray (listed.setIfInBounds i true) = [] := by
          rw [List.eq_nil_iff_forall_not_mem]
          intro j hj
          obtain ⟨huj, o', ho', _⟩ := mem_ready.1 hj
          have hjl : j < l.length := by simpa using (Array.getElem?_eq_some_iff.1 ho').1
          by_cases hji : i = j
          · subst hji; simp [hs] at huj
          · rw [getD_set_ne true hji] at huj
            exact hx ⟨j, by omega, huj⟩
        exact wpOp_mono (fun a' w' hq => ⟨fun _ => hq, fun j hj => by rw [hnone] at hj; cases hj⟩) (hQ a w hC hq0)
end

/-- THE REGION: all operations but the last one by one lexical walk, in the worlds behind w; then the last one. -/
theorem wp_region_aft_last {P : Program} {id n : Nat} {Q : Exit → Act → World → Prop} {a : Act} {w : World} {l : List Oper} (hm : P.follows .mixedOrders = true) (hn : n + 1 = l.length)
    (hsel : Region.noSelect (l.take n).toArray = true) (hlex : Region.lexFrom .any (l.take n).toArray n 0 (Array.replicate (n + 1) false) = true) (hB : lastB l = true)
    (h : wpQuiet P (l.take n).toArray (fun w' => ∃ i : Aft w, w' = i.W) (fun a' => ∀ w', (∃ i : Aft w, w' = i.W) → wpList P l.toArray Q (l.drop n) a' w') (l.take n) a) :
    (Code.region id l.toArray true).wp P Q a w := by
  refine wp_region_any hm ?_
  have hsz : l.toArray.size = n + 1 := by simp [hn]
  rw [hsz]
  have hlen : (l.take n).length = n := by simp; omega
  refine wpAny_of_last hB hn (C := fun w' => ∃ i : Aft w, w' = i.W) (Q := fun a' => ∀ w', (∃ i : Aft w, w' = i.W) → wpList P l.toArray Q (l.drop n) a' w') (fun a' w' hC hq => ?_) n _ a _ ⟨⟨_, (below_refl w).drew⟩, rfl⟩ (by simp) (by simp) ?_
  · have := hq w' hC
    have hd : l.drop n = [l[n]] := by
      rw [List.drop_eq_getElem_cons (by omega), List.drop_eq_nil_of_le (by omega)]
    rw [hd] at this
    unfold wpOp
    rw [show l.toArray[n]? = some l[n] by simp [List.getElem?_eq_getElem (show n < l.length by omega)]]
    simpa [wpList] using this
  · have h2 := wpAnyQ_lex (P := P) (C := fun w' => ∃ i : Aft w, w' = i.W) (md := .any) (ops := (l.take n).toArray) (Q := fun a' => ∀ w', (∃ i : Aft w, w' = i.W) → wpList P l.toArray Q (l.drop n) a' w') hsel (l.take n) 0 (Array.replicate (n + 1) false) a (by simp) ?_ h
    · rwa [hlen] at h2
    · rw [hlen]; exact hlex
theorem wp_region_aft_tail {P : Program} {id n : Nat} {Q : Exit → Act → World → Prop} {a : Act} {w : World} {l pre tl : List Oper} (hp : l.take n = pre) (hd : l.drop n = tl) (hm : P.follows .mixedOrders = true) (hn : n + 1 = l.length)
    (hsel : Region.noSelect pre.toArray = true) (hlex : Region.lexFrom .any pre.toArray n 0 (Array.replicate (n + 1) false) = true) (hB : lastB l = true)
    (h : wpQuiet P pre.toArray (fun w' => ∃ i : Aft w, w' = i.W) (fun a' => ∀ w', (∃ i : Aft w, w' = i.W) → wpList P l.toArray Q tl a' w') pre a) :
    (Code.region id l.toArray true).wp P Q a w := by
  subst hp; subst hd
  exact wp_region_aft_last hm hn hsel hlex hB h
theorem cell_set {w : World} {p q : Addr} {v : Value} (u : Value) (hc : w.cell? q = some v) (h : q.block ≠ p.block) : (w.setCell p u).cell? q = some v :=
  (World.cell?_of_block (Below.heap_setCell w p u q.block h)).trans hc
end Go.Kin
