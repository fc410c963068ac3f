/- Readings of slices of whole numbers and of errors in memory, and what keeps them; no program. -/
import Derived.WalkKit
import Derived.KernelRfl
import Derived.Deep.LoopGhost
import Derived.Deep.Draws
set_option linter.unusedVariables false
set_option linter.unusedSimpArgs false
namespace Go.Kin
open Go.RowKit

theorem ret_int {k : IntKind} {a b : Int} (h : a = b) : Ending.returned (.int k a) = .returned (.int k b) := by rw [h]
theorem ret_bool {a b : Bool} (h : a = b) : Ending.returned (.bool a) = .returned (.bool b) := by rw [h]
theorem ret_str {a b : ByteArray} (h : a = b) : Ending.returned (.string a) = .returned (.string b) := by rw [h]
theorem hid {p : Prop} (h : p) : Hid p := h

theorem below_then {w w1 w2 : World} (h : Below w.heap.size w w1) (k : Below w1.heap.size w1 w2) : Below w.heap.size w w2 := h.trans (k.mono h.size)
theorem cell_below {w w1 : World} (h : Below w.heap.size w w1) {a : Addr} {v : Value} (hc : w.cell? a = some v) : w1.cell? a = some v :=
  (h.cell (World.block_lt_of_cell? w a hc)).trans hc
theorem below_drewN {B : Nat} {w W : World} (h : Below B w W) (n : Nat) : Below B w (W.drewN n) := ⟨h.os, h.tape, h.output, h.size, h.block⟩
theorem below_alloc {w W : World} (h : Below w.heap.size w W) (o : Obj) : Below w.heap.size w (W.alloc o) := h.alloc h.size o
theorem below_refl (w : World) : Below w.heap.size w w := Below.refl _ _

/-- Outside the blocks of S what was there is as it was. -/
structure Frm (S : Nat → Prop) (w w' : World) : Prop where
  os : w'.os = w.os
  tape : w'.tape = w.tape
  output : w'.output = w.output
  size : w.heap.size ≤ w'.heap.size
  block : ∀ k, k < w.heap.size → ¬ S k → w'.heap[k]? = w.heap[k]?
theorem Frm.refl (S : Nat → Prop) (w : World) : Frm S w w := ⟨rfl, rfl, rfl, Nat.le_refl _, fun _ _ _ => rfl⟩
theorem Frm.trans {S : Nat → Prop} {a b c : World} (h : Frm S a b) (k : Frm S b c) : Frm S a c :=
  ⟨k.os.trans h.os, k.tape.trans h.tape, k.output.trans h.output, Nat.le_trans h.size k.size, fun i hi hs => (k.block i (Nat.lt_of_lt_of_le hi h.size) hs).trans (h.block i hi hs)⟩
/-- The second step may write what is new besides. -/
theorem Frm.then {S T : Nat → Prop} {a b c : World} (h : Frm S a b) (k : Frm T b c) (hT : ∀ i, i < a.heap.size → T i → S i) : Frm S a c :=
  ⟨k.os.trans h.os, k.tape.trans h.tape, k.output.trans h.output, Nat.le_trans h.size k.size, fun i hi hs => (k.block i (Nat.lt_of_lt_of_le hi h.size) (fun t => hs (hT i hi t))).trans (h.block i hi hs)⟩
theorem Frm.of_below {S : Nat → Prop} {w w' : World} (h : Below w.heap.size w w') : Frm S w w' := ⟨h.os, h.tape, h.output, h.size, fun k hk _ => h.block k hk⟩
theorem Frm.below {S : Nat → Prop} {w w' : World} (h : Frm S w w') (hS : ∀ k, S k → w.heap.size ≤ k) : Below w.heap.size w w' :=
  ⟨h.os, h.tape, h.output, h.size, fun k hk => h.block k hk (fun s => by have := hS k s; omega)⟩
/-- From an elder world: what is written is younger. -/
theorem Frm.below_of {S : Nat → Prop} {w0 w w' : World} (hb : Below w0.heap.size w0 w) (h : Frm S w w') (hS : ∀ k, S k → w0.heap.size ≤ k) : Below w0.heap.size w0 w' :=
  hb.trans ⟨h.os, h.tape, h.output, h.size, fun k hk => h.block k (Nat.lt_of_lt_of_le hk hb.size) (fun s => by have := hS k s; omega)⟩
theorem Frm.mono {S T : Nat → Prop} {w w' : World} (h : Frm S w w') (hST : ∀ k, S k → T k) : Frm T w w' := ⟨h.os, h.tape, h.output, h.size, fun k hk ht => h.block k hk (fun s => ht (hST k s))⟩
theorem Frm.setCell {S : Nat → Prop} {a w : World} (h : Frm S a w) {p : Addr} (hp : p.block < a.heap.size → S p.block) (u : Value) : Frm S a (w.setCell p u) :=
  ⟨h.os, h.tape, h.output, by simpa [World.setCell] using h.size, fun k hk hs => (Below.heap_setCell _ _ _ _ (fun e => hs (by rw [e]; exact hp (by rw [← e]; exact hk)))).trans (h.block k hk hs)⟩
theorem Frm.set1 {a w : World} {p : Addr} (h : Frm (· = p.block) a w) (u : Value) : Frm (· = p.block) a (w.setCell p u) := h.setCell (S := (· = p.block)) (fun _ => rfl) u
theorem Frm.alloc {S : Nat → Prop} {a w : World} (h : Frm S a w) (o : Obj) : Frm S a (w.alloc o) :=
  h.trans ⟨rfl, rfl, rfl, by simp, fun k hk _ => Below.heap_alloc _ _ _ hk⟩
theorem Frm.drewN {S : Nat → Prop} {a w : World} (h : Frm S a w) (n : Nat) : Frm S a (w.drewN n) := ⟨h.os, h.tape, h.output, h.size, h.block⟩
theorem Frm.drew {S : Nat → Prop} {a w : World} (h : Frm S a w) : Frm S a w.drew := ⟨h.os, h.tape, h.output, h.size, h.block⟩
theorem Frm.grown {S : Nat → Prop} {a w w' : World} {row : Option Nat} (h : Frm S a w) (hg : w.grownBy w' row) (hr : ∀ k, row = some k → k < a.heap.size → S k) : Frm S a w' :=
  ⟨hg.os.trans h.os, hg.tape.trans h.tape, hg.output.trans h.output, Nat.le_trans h.size hg.size, fun k hk hs => (hg.block k (Nat.lt_of_lt_of_le hk h.size) (fun e => hs (hr k e.symm hk))).trans (h.block k hk hs)⟩
theorem Frm.cell {S : Nat → Prop} {w w' : World} (h : Frm S w w') {a : Addr} {v : Value} (hc : w.cell? a = some v) (hs : ¬ S a.block) : w'.cell? a = some v :=
  (World.cell?_of_block (h.block a.block (World.block_lt_of_cell? w a hc) hs)).trans hc
theorem Frm.frozen {S : Nat → Prop} {w w' : World} (h : Frm S w w') {a : Addr} (ha : a.block < w.heap.size) (hs : ¬ S a.block) : w'.frozen? a = w.frozen? a :=
  World.frozen?_of_block (h.block a.block ha hs)
theorem Frm.own {S : Nat → Prop} {w w' : World} (h : Frm S w w') {base : Nat} {e : TypeId} {size : Nat} {v : Value} {n : Nat} {xs : List Value} (ho : w.ownsRow base e size v n xs)
    (hs : ∀ k, v.ownBlock = some k → ¬ S k) : w'.ownsRow base e size v n xs := by
  refine ⟨ho.1, ?_⟩
  rcases ho.2 with h0 | ⟨g, cap, cur, hv, hb, hh, r⟩
  · exact .inl h0
  · refine .inr ⟨g, cap, cur, hv, hb, ?_, r⟩
    rw [h.block g (by have := (Array.getElem?_eq_some_iff.1 hh).1; exact this) (hs g (by rw [hv]; rfl))]
    exact hh

/-- The slice value v reads as the numbers xs. -/
def SlI (k : IntKind) (w : World) (v : Value) (xs : List Int) : Prop :=
  ∃ A c, v = .slice A xs.length c ∧ xs.length ≤ 9223372036854775807 ∧
    (0 < xs.length → ∃ b off, A = some ⟨b, off, none⟩ ∧ ∀ j, j < xs.length → w.cell? ⟨b, off + j, none⟩ = some (.int k (xs.getD j 0)))

theorem SlI.below {k : IntKind} {w w1 : World} {v : Value} {xs : List Int} (h : SlI k w v xs) (hb : Below w.heap.size w w1) : SlI k w1 v xs := by
  obtain ⟨A, c, hv, hm, hr⟩ := h
  refine ⟨A, c, hv, hm, fun hn => ?_⟩
  obtain ⟨b, off, hA, hc⟩ := hr hn
  exact ⟨b, off, hA, fun j hj => cell_below hb (hc j hj)⟩

theorem SlI.nil (k : IntKind) (w : World) : SlI k w (.slice none 0 0) [] := ⟨none, 0, rfl, by simp, fun h => absurd h (by simp)⟩

/-- The slice value v reads as the list xs, an element of which takes sz cells and reads by R. -/
def SlG {α : Type} (sz : Nat) (R : World → List Value → α → Prop) (w : World) (v : Value) (xs : List α) : Prop :=
  ∃ A c, v = .slice A xs.length c ∧ xs.length ≤ 9223372036854775807 ∧
    (0 < xs.length → ∃ b off, A = some ⟨b, off, none⟩ ∧ ∀ j (hj : j < xs.length), ∃ cs, cs.length = sz ∧ R w cs xs[j] ∧ ∀ i u, cs[i]? = some u → w.cell? ⟨b, off + j * sz + i, none⟩ = some u)
/-- A reading that new memory leaves as it is. -/
def Stable {α : Type} (R : World → List Value → α → Prop) : Prop := ∀ w w' cs x, Below w.heap.size w w' → R w cs x → R w' cs x
theorem SlG.below {α : Type} {sz : Nat} {R : World → List Value → α → Prop} (hR : Stable R) {w w1 : World} {v : Value} {xs : List α} (h : SlG sz R w v xs) (hb : Below w.heap.size w w1) : SlG sz R w1 v xs := by
  obtain ⟨A, c, hv, hm, hr⟩ := h
  refine ⟨A, c, hv, hm, fun hn => ?_⟩
  obtain ⟨b, off, hA, hc⟩ := hr hn
  refine ⟨b, off, hA, fun j hj => ?_⟩
  obtain ⟨cs, hl, hx, hcs⟩ := hc j hj
  exact ⟨cs, hl, hR _ _ _ _ hb hx, fun i u hi => cell_below hb (hcs i u hi)⟩
theorem SlG.nil {α : Type} (sz : Nat) (R : World → List Value → α → Prop) (w : World) : SlG sz R w (.slice none 0 0) [] := ⟨none, 0, rfl, by simp, fun h => absurd h (by simp)⟩
/-- A row of the call's own, read: element j's cells stand at j * sz. -/
theorem SlG.of_own {α : Type} {sz : Nat} {R : World → List Value → α → Prop} {w : World} {base : Nat} {e : TypeId} {v : Value} {xs : List α} {cells : List Value}
    (h : w.ownsRow base e sz v xs.length cells) (hs : 0 < sz) (hc : ∀ j (hj : j < xs.length), ∃ cs, cs.length = sz ∧ R w cs xs[j] ∧ ∀ i u, cs[i]? = some u → cells[j * sz + i]? = some u) : SlG sz R w v xs := by
  rcases h.2 with ⟨rfl, h0⟩ | ⟨g, cap, cur, rfl, hb, hh, hn, hcap, _, _⟩
  · exact ⟨none, 0, by rw [h0], by omega, fun hp => absurd hp (by omega)⟩
  · refine ⟨_, cap, rfl, by unfold maxLen at hcap; omega, fun hp => ⟨g, 0, rfl, fun j hj => ?_⟩⟩
    obtain ⟨cs, hl, hx, hcs⟩ := hc j hj
    refine ⟨cs, hl, hx, fun i u hi => ?_⟩
    have := h.cells (g := g) rfl (j * sz + i) u (hcs i u hi)
    have ha : (⟨g, 0, none⟩ : Addr).add (j * sz + i) = ⟨g, 0 + j * sz + i, none⟩ := by unfold Addr.add; split <;> simp_all
    rw [← ha]; exact this

/-- An error: a code, or one that came through a place. -/
inductive Er where
  | code (n : Int)
  | fault (s : ByteArray) (p : Int) (e : Er)
/-- The innermost code. -/
def Er.leaf : Er → Int
  | .code n => n
  | .fault _ _ e => e.leaf
/-- How many places. -/
def Er.depth : Er → Nat
  | .code _ => 0
  | .fault _ _ e => e.depth + 1
/-- The places, the outermost first. -/
def Er.path : Er → List (ByteArray × Int)
  | .code _ => []
  | .fault s p e => (s, p) :: e.path
/-- The value v reads as the error e (tc, tf: the types' numbers of a code and of a pointer to a fault). -/
def ErrV (tc tf : TypeId) (w : World) : Er → Value → Prop
  | .code n, v => v = .iface tc (.int .i64 n)
  | .fault s p e, v => ∃ b u, v = .iface tf (.pointer (some ⟨b, 0, none⟩)) ∧ w.cell? ⟨b, 0, none⟩ = some (.string s) ∧ w.cell? ⟨b, 1, none⟩ = some (.int .i64 p) ∧
      w.cell? ⟨b, 2, none⟩ = some u ∧ ErrV tc tf w e u
theorem ErrV.below {tc tf : TypeId} {w w1 : World} (hb : Below w.heap.size w w1) : ∀ {e : Er} {v : Value}, ErrV tc tf w e v → ErrV tc tf w1 e v
  | .code _, _, h => h
  | .fault _ _ _, _, ⟨b, u, hv, h0, h1, h2, h⟩ => ⟨b, u, hv, cell_below hb h0, cell_below hb h1, cell_below hb h2, ErrV.below hb h⟩
theorem ErrV.shape {tc tf : TypeId} {w : World} {e : Er} {v : Value} (h : ErrV tc tf w e v) : ∃ T x, v = .iface T x := by
  cases e with
  | code n => exact ⟨_, _, h⟩
  | fault s p e => obtain ⟨b, u, hv, _⟩ := h; exact ⟨_, _, hv⟩
/-- An error or none. -/
def ErrO (tc tf : TypeId) (w : World) (v : Value) : Option Er → Prop
  | none => v = .nilIface
  | some e => ErrV tc tf w e v
theorem ErrO.below {tc tf : TypeId} {w w1 : World} (hb : Below w.heap.size w w1) {e : Option Er} {v : Value} (h : ErrO tc tf w v e) : ErrO tc tf w1 v e := by
  cases e with
  | none => exact h
  | some e => exact ErrV.below hb h
/-- A step's cells. -/
def StepR (_ : World) (cs : List Value) (p : ByteArray × Int) : Prop := cs = [.string p.1, .int .i64 p.2]
theorem StepR.stable : Stable StepR := fun _ _ _ _ _ h => h
/-- An error of the document: its code and its path. -/
structure KEr where
  code : Int
  path : List (ByteArray × Int)
def KErV (w : World) (v : Value) (e : KEr) : Prop := ∃ pv, v = .agg #[.int .i64 e.code, pv] ∧ SlG 2 StepR w pv e.path
theorem KErV.below {w w1 : World} {v : Value} {e : KEr} (h : KErV w v e) (hb : Below w.heap.size w w1) : KErV w1 v e := by
  obtain ⟨pv, hv, hp⟩ := h
  exact ⟨pv, hv, hp.below StepR.stable hb⟩
/-- Is the error the document's? -/
def sameErr (e : Option Er) (k : KEr) : Bool :=
  match e with
  | none => decide (k.code = 0 ∧ k.path = [])
  | some e => decide (k.code ≠ 0 ∧ e.leaf = k.code ∧ e.path = k.path)
end Go.Kin
