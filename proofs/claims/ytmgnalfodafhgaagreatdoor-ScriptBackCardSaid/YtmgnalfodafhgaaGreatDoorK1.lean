/- A region that draws its order, all of whose callees make new memory alone: one walk of the lexical order serves every order. No program. -/
import Derived.Test.YtmgnalfodafhgaaGreatDoorK0
import Derived.Deep.QuietTactic
import Derived.BigQuiet
set_option linter.unusedVariables false
set_option linter.unusedSimpArgs false
namespace Go.Kin
open Go.RowKit

/-- A world behind w: of what lay in w nothing has turned. -/
structure Aft (w : World) where
  W : World
  below : Below w.heap.size w W
instance (w : World) : Nonempty (Aft w) := ⟨⟨w, below_refl w⟩⟩

theorem aft_calls {P : Program} {f : FuncId} {args : Array Value} {w : World} {i : Aft w} {v : Value}
    (h : Calls P f args i.W fun e w' => e = .returned v ∧ Below i.W.heap.size i.W w') : Calls P f args i.W fun e w'' => e = .returned v ∧ ∃ j : Aft w, w'' = j.W :=
  h.mono fun _ w' ⟨he, hb⟩ => ⟨he, ⟨w', below_then i.below hb⟩, rfl⟩
theorem aft_same {P : Program} {f : FuncId} {args : Array Value} {w : World} {i : Aft w} {v : Value}
    (h : Calls P f args i.W fun e w' => e = .returned v ∧ i.W = w') : Calls P f args i.W fun e w'' => e = .returned v ∧ ∃ j : Aft w, w'' = j.W :=
  h.mono fun _ _ ⟨he, hb⟩ => ⟨he, i, hb.symm⟩
theorem wp_region_aft {P : Program} {id : Nat} {Q : Exit → Act → World → Prop} {a : Act} {w : World} {l : List Oper} (hm : P.follows .mixedOrders = true) (hB : Region.lexB .any l.toArray = true)
    (h : wpQuiet P l.toArray (fun w' => ∃ i : Aft w, w' = i.W) (fun a' => ∀ w', (∃ i : Aft w, w' = i.W) → Q .normal a' w') l a) : (Code.region id l.toArray true).wp P Q a w :=
  wp_region_quiet (C := fun w' => ∃ i : Aft w, w' = i.W) hm hB ⟨⟨_, (below_refl w).drew⟩, rfl⟩ (by simpa using h)
theorem frozen_below {w w1 : World} (h : Below w.heap.size w w1) {a : Addr} {v : Value} (hc : w.cell? a = some v) (hf : w.frozen? a = false) : w1.frozen? a = false :=
  (h.frozen (World.block_lt_of_cell? w a hc)).trans hf
/-- A row of numbers of the call's own, written at i. -/
theorem own_set {w : World} {base : Nat} {e : TypeId} {g cap n : Nat} {k : IntKind} {xs : List Int} (h : w.ownsRow base e 1 (.slice (some ⟨g, 0, none⟩) n cap) n (xs.map (Value.int k))) (i : Nat) (x : Int) :
    (w.setCell ⟨g, i, none⟩ (.int k x)).ownsRow base e 1 (.slice (some ⟨g, 0, none⟩) n cap) n ((xs.set i x).map (Value.int k)) := by
  have := (h.stored i (.int k x)).1
  simpa [List.map_set] using this
theorem own_len {w : World} {base : Nat} {e : TypeId} {v : Value} {n : Nat} {k : IntKind} {xs : List Int} (h : w.ownsRow base e 1 v n (xs.map (Value.int k))) : xs.length = n := by
  have := h.1; simpa using this
theorem own_cell {w : World} {base : Nat} {e : TypeId} {g cap n : Nat} {k : IntKind} {xs : List Int} (h : w.ownsRow base e 1 (.slice (some ⟨g, 0, none⟩) n cap) n (xs.map (Value.int k))) (i : Nat) (hi : i < n) :
    w.cell? ⟨g, i, none⟩ = some (.int k (xs.getD i 0)) := by
  have hl := own_len h
  rw [h.cellAt i (by omega)]
  simp [List.getD_eq_getElem?_getD, List.getElem?_eq_getElem (show i < xs.length by omega)]
/-- A row of numbers of the call's own, read. -/
theorem SlI.of_own {k : IntKind} {w : World} {base : Nat} {e : TypeId} {v : Value} {n : Nat} {xs : List Int} (h : w.ownsRow base e 1 v n (xs.map (Value.int k))) : SlI k w v xs := by
  have hl := own_len h
  rcases h.2 with ⟨rfl, h0⟩ | ⟨g, cap, cur, rfl, hb, hh, hn, hcap, _, _⟩
  · exact ⟨none, 0, by rw [hl, h0], by omega, fun hp => absurd hp (by omega)⟩
  · refine ⟨_, cap, by rw [hl], by unfold maxLen at hcap; omega, fun hp => ⟨g, 0, rfl, fun j hj => ?_⟩⟩
    rw [Nat.zero_add]
    exact own_cell h j (by omega)
theorem own_made {w : World} {base : Nat} {e : TypeId} {v : Value} {n : Nat} {k : IntKind} (h : w.ownsRow base e 1 v n (madeCells (Value.int k 0).cells n).toList) : w.ownsRow base e 1 v n ((List.replicate n (0 : Int)).map (Value.int k)) := by
  have : (madeCells (Value.int k 0).cells n).toList = (List.replicate n (0 : Int)).map (Value.int k) := by
    rw [show (Value.int k 0).cells = #[Value.int k 0] from rfl, List.map_replicate]
    apply List.ext_getElem?
    intro i
    simp only [madeCells, Array.toList_map, Array.toList_range, List.getElem?_map, List.getElem?_replicate]
    by_cases hi : i < n
    · simp [hi, Nat.mod_one]
    · simp [hi]
  rwa [this] at h
theorem own_base {w : World} {base base' : Nat} {e : TypeId} {size n : Nat} {v : Value} {xs : List Value} (h : w.ownsRow base e size v n xs) (hb : base' ≤ base) : w.ownsRow base' e size v n xs := by
  refine ⟨h.1, ?_⟩
  rcases h.2 with h0 | ⟨g, cap, cur, hv, hg, r⟩
  · exact .inl h0
  · exact .inr ⟨g, cap, cur, hv, Nat.le_trans hb hg, r⟩
/-- A row of numbers is handed back that lies in new memory, and is the caller's alone. -/
def RetR (k : IntKind) (t : TypeId) (xs : List Int) (w : World) (e : Ending) (w' : World) : Prop :=
  ∃ v, e = .returned v ∧ w'.ownsRow w.heap.size t 1 v xs.length (xs.map (Value.int k)) ∧ Below w.heap.size w w'
end Go.Kin
