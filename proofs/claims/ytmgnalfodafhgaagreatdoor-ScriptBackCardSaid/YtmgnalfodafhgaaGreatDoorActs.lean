import Derived.Test.YtmgnalfodafhgaaGreatDoorCut
set_option linter.unusedVariables false
set_option linter.unusedSimpArgs false
namespace Go.Kin
open Go.RowKit
theorem cutX_get (bs : List Int) (n i : Nat) (h : i < n) : (cutX bs n).getD i 0 = bs.getD i 0 := by
  unfold cutX; rw [List.getD_eq_getElem?_getD, List.getElem?_map, List.getElem?_range h]; rfl
structure Act where
  kind : Int
  n : Int
  picks : List Int
  deriving DecidableEq
def ActV (w : World) (v : Value) (a : Kin.Act) : Prop := ∃ pv, v = .agg #[.int .i64 a.kind, .int .i64 a.n, pv] ∧ SlI .i64 w pv a.picks
def ActR (w : World) (cs : List Value) (a : Kin.Act) : Prop := ∃ pv, cs = [.int .i64 a.kind, .int .i64 a.n, pv] ∧ SlI .i64 w pv a.picks
theorem ActR.stable : Stable ActR := fun _ _ _ _ hb ⟨pv, hv, hp⟩ => ⟨pv, hv, hp.below hb⟩
/-- The act of two bytes. -/
def actOf (k z : Int) : Kin.Act :=
  if k % 16 < 8 then ⟨1, z % 16, []⟩
  else if k % 16 < 10 then ⟨6, 1 + z % 4, []⟩
  else if k % 16 < 12 then ⟨3, z % 9, []⟩
  else if k % 16 = 12 then ⟨2, 0, [z % 16, z / 16]⟩
  else if k % 16 = 13 then ⟨2, 0, []⟩
  else if k % 16 = 14 then ⟨4, z % 16, []⟩
  else ⟨5, 256 * z, []⟩
end Go.Kin
namespace Go.Proofs
open Go.RowKit Go.Kin Go.Shelf
theorem results_cell1 {fn : Func} {p : Tmp} {ty : TypeId} (h : fn.results = #[.cell p ty]) (tmps : Array Value) (P : Program) (w : World) :
    (results fn tmps).run P w = ((asAddr (tmps.getD p undef)).run P w).andThen fun a w₁ => ((loadVar ty a).run P w₁).andThen fun v w₂ => .ok v w₂ := by
  simp only [results, h]
  simp only [Sem.run_bind, Result.andThen]
  simp [Result.andThen]
  cases Sem.run P (asAddr (tmps[p]?.getD undef)) w with
  | ok a w1 =>
    simp only []
    cases Sem.run P (loadVar ty a) w1 <;> rfl
  | halt h w1 => rfl
def ActRet (a : Kin.Act) (w : World) (e : Ending) (w' : World) : Prop := ∃ pv, e = .returned (.agg #[.int .i64 a.kind, .int .i64 a.n, pv]) ∧ SlI .i64 w' pv a.picks ∧ (∀ g, 0 < a.picks.length → pv.ownBlock = some g → w.heap.size ≤ g) ∧ Below w.heap.size w w'
theorem act_any (k z : Int) (w : World) (hk : 0 ≤ k ∧ k ≤ 255) (hz : 0 ≤ z ∧ z ≤ 255) : Calls Tryz.prog 36 #[.int .i64 k, .int .i64 z] w (ActRet (actOf k z) w) := by
  by_cases h1 : k % 16 < 8
  · rw [show actOf k z = ⟨1, z % 16, []⟩ by unfold actOf; rw [if_pos h1]]
    go_enter Tryz.func36, Tryz.ntmps36
    go_wp2
    refine bodyPost_ret ((results_cell1 rfl _ _ _).trans (by go_simp; rfl)) rfl ?_
    exact ⟨_, rfl, SlI.nil _ _, fun g h => absurd h (by simp), below_alloc (below_refl w) _⟩
  by_cases h2 : k % 16 < 10
  · rw [show actOf k z = ⟨6, 1 + z % 4, []⟩ by unfold actOf; rw [if_neg h1, if_pos h2]]
    go_enter Tryz.func36, Tryz.ntmps36
    go_wp2
    refine bodyPost_ret ((results_cell1 rfl _ _ _).trans (by go_simp; rfl)) rfl ?_
    exact ⟨_, rfl, SlI.nil _ _, fun g h => absurd h (by simp), below_alloc (below_refl w) _⟩
  by_cases h3 : k % 16 < 12
  · rw [show actOf k z = ⟨3, z % 9, []⟩ by unfold actOf; rw [if_neg h1, if_neg h2, if_pos h3]]
    go_enter Tryz.func36, Tryz.ntmps36
    go_wp2
    refine bodyPost_ret ((results_cell1 rfl _ _ _).trans (by go_simp; rfl)) rfl ?_
    exact ⟨_, rfl, SlI.nil _ _, fun g h => absurd h (by simp), below_alloc (below_refl w) _⟩
  by_cases h4 : k % 16 = 12
  · rw [show actOf k z = ⟨2, 0, [z % 16, z / 16]⟩ by unfold actOf; rw [if_neg h1, if_neg h2, if_neg h3, if_pos h4]]
    go_enter Tryz.func36, Tryz.ntmps36
    go_wp2
    refine bodyPost_ret ((results_cell1 rfl _ _ _).trans (by go_simp; rfl)) rfl ?_
    refine ⟨_, rfl, ?_, fun g _ hg => ?_, below_alloc (below_alloc (below_refl w) _) _⟩
    rotate_left
    · have : w.heap.size + 1 = g := by simpa [Value.ownBlock] using hg
      omega
    have hn := heap_alloc_new (w.alloc (Obj.cells #[Value.int .i64 2, Value.int .i64 0, Value.slice (some ⟨w.heap.size + 1, 0, none⟩) 2 2] 24)) (Obj.cells #[Value.int .i64 (z % 16), Value.int .i64 (z / 16)] 3)
    rw [World.size_alloc] at hn
    refine ⟨_, _, rfl, by simp, fun _ => ⟨w.heap.size + 1, 0, rfl, fun j hj => ?_⟩⟩
    rcases (show j = 0 ∨ j = 1 by simp at hj; omega) with rfl | rfl
    · exact cell_of_row _ _ 0 _ _ (0, 0) hn
    · exact cell_of_row _ _ 1 _ _ (0, 0) hn
  by_cases h5 : k % 16 = 13
  · rw [show actOf k z = ⟨2, 0, []⟩ by unfold actOf; rw [if_neg h1, if_neg h2, if_neg h3, if_neg h4, if_pos h5]]
    go_enter Tryz.func36, Tryz.ntmps36
    go_wp2
    refine bodyPost_ret ((results_cell1 rfl _ _ _).trans (by go_simp; rfl)) rfl ?_
    exact ⟨_, rfl, SlI.nil _ _, fun g h => absurd h (by simp), below_alloc (below_refl w) _⟩
  by_cases h6 : k % 16 = 14
  · rw [show actOf k z = ⟨4, z % 16, []⟩ by unfold actOf; rw [if_neg h1, if_neg h2, if_neg h3, if_neg h4, if_neg h5, if_pos h6]]
    go_enter Tryz.func36, Tryz.ntmps36
    go_wp2
    refine bodyPost_ret ((results_cell1 rfl _ _ _).trans (by go_simp; rfl)) rfl ?_
    exact ⟨_, rfl, SlI.nil _ _, fun g h => absurd h (by simp), below_alloc (below_refl w) _⟩
  · rw [show actOf k z = ⟨5, 256 * z, []⟩ by unfold actOf; rw [if_neg h1, if_neg h2, if_neg h3, if_neg h4, if_neg h5, if_neg h6]]
    go_enter Tryz.func36, Tryz.ntmps36
    go_wp2
    refine bodyPost_ret ((results_cell1 rfl _ _ _).trans (by go_simp; rfl)) rfl ?_
    exact ⟨_, rfl, SlI.nil _ _, fun g h => absurd h (by simp), below_alloc (below_refl w) _⟩
end Go.Proofs
