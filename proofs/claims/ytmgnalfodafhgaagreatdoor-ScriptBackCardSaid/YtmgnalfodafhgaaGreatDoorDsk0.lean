import Derived.Test.YtmgnalfodafhgaaGreatDoorVbv0
import Derived.Test.YtmgnalfodafhgaaGreatDoorActs2
import Derived.Test.YtmgnalfodafhgaaGreatDoorTxt0
import Derived.Maps.Own
import Derived.Maps.RangeRun
import Derived.Maps.Range
set_option linter.unusedVariables false
set_option linter.unusedSimpArgs false
namespace Go.Kin
open Go.RowKit Go.Maps
theorem run_next_empty {P : Program} (w : World) (ty : TypeId) (r b c s c0 : Nat) (hr : w.heap[r]? = some (.mapIter (some b) s #[] c0)) (hb : w.heap[b]? = some (.map #[] c)) (hs : s ≤ c0) :
    (Instr.next (.pointer (some ⟨r, 0, none⟩)) false ty).run P w = .ok (.tuple #[.bool false]) w := by
  rcases run_next_at (P := P) w ty r b s c0 #[] #[] c hr hb (fun x hx => by cases hx) hs with ⟨_, h⟩ | ⟨e, he, _⟩
  · exact h
  · simp [leftOf] at he
end Go.Kin
namespace Go.Proofs
open Go.RowKit Go.Kin Go.Shelf Go.Maps
/-- A fresh disk at block d. -/
structure DskNew (d : Nat) (r : Int) (w : World) : Prop where
  room : w.cell? ⟨d, 0, none⟩ = some (.int .i64 r)
  names : ∃ b, w.cell? ⟨d, 2, none⟩ = some (.map (some b)) ∧ w.heap[b]? = some (.map #[] 0)
theorem DskNew.below {d : Nat} {r : Int} {w w1 : World} (h : DskNew d r w) (hb : Below w.heap.size w w1) : DskNew d r w1 := by
  obtain ⟨h1, b, h2, h3⟩ := h
  exact ⟨cell_below hb h1, b, cell_below hb h2, (hb.block b (Array.getElem?_eq_some_iff.1 h3).1).trans h3⟩
def DNewRet (r : Int) (w : World) (e : Ending) (w' : World) : Prop := ∃ d, e = .returned (.tuple #[.pointer (some ⟨d, 0, none⟩), .nilIface]) ∧ DskNew d r w' ∧ Below w.heap.size w w'
set_option maxHeartbeats 1000000 in
theorem dnew_ok (r : Int) (w : World) (h : 0 ≤ r ∧ r ≤ 16777216) : Calls Tryz.prog 83 #[.int .i64 r] w (DNewRet r w) := by
  have hmm := @run_makeMap Tryz.prog
  go_enter Tryz.func83, Tryz.ntmps83
  go_wp2
  have hn := heap_alloc_new ((w.alloc (Obj.map #[] 0)).alloc (Obj.map #[] 0)) (Obj.cells #[Value.int .i64 r, Value.slice none 0 0, Value.map (some w.heap.size), Value.map (some (w.heap.size + 1)), Value.slice none 0 0, Value.int .i64 0, Value.bool false, Value.int .i64 0] 198)
  simp only [World.size_alloc] at hn
  go_ret2
  refine ⟨_, rfl, ⟨cell_of_row _ _ 0 _ _ (0, 0) hn, w.heap.size, cell_of_row _ _ 2 _ _ (0, 0) hn, ?_⟩, below_alloc (below_alloc (below_alloc (below_refl w) _) _) _⟩
  rw [Below.heap_alloc _ _ _ (by simp; omega), Below.heap_alloc _ _ _ (by simp)]
  exact heap_alloc_new w _
theorem insNil (w : World) : Calls Tryz.prog 243 #[.slice none 0 0, .int .i64 0, .int .i64 0] w fun e w' => e = .returned (.tuple #[]) ∧ w = w' := by
  go_enter Tryz.func243, Tryz.ntmps243
  go_wp2_with fail
  go_loopg [6] 0 (fun _ s6 wr => s6 = .int .i64 1 ∧ wr = w)
  case atStart => exact ⟨rfl, rfl⟩
  case round =>
    obtain ⟨rfl, rfl⟩ := hrel
    go_wp2_with fail
    go_end0
    exact ⟨rfl, rfl⟩
set_option maxRecDepth 100000 in
theorem pdqNil (n : Int) (w : World) : Calls Tryz.prog 205 #[.slice none 0 0, .int .i64 0, .int .i64 0, .int .i64 n] w fun e w' => e = .returned (.tuple #[]) ∧ w = w' := by
  go_enter Tryz.func205, Tryz.ntmps205
  go_wp2_with fail
  go_loopg [1, 2, 3] 0 (fun _ s1 s2 s3 wr => s1 = .int .i64 0 ∧ s2 = .int .i64 0 ∧ s3 = .int .i64 n ∧ wr = w)
  case atStart => exact ⟨rfl, rfl, rfl, rfl⟩
  case round =>
    obtain ⟨rfl, rfl, rfl, rfl⟩ := hrel
    go_wp2_with (go_at_call 243; refine (insNil _).mono ?_; rintro _ _ ⟨rfl, rfl⟩)
    exact bodyPost_ret (results_none rfl _ _ _) rfl ⟨rfl, rfl⟩
theorem sortNil (w : World) : Calls Tryz.prog 166 #[.slice none 0 0] w fun e w' => e = .returned (.tuple #[]) ∧ w = w' := by
  go_enter Tryz.func166, Tryz.ntmps166
  go_wp2_with (first
    | (go_at_call 194; refine (Tryz.bits_Len 0 _ (by omega) (by omega)).mono ?_; rintro _ _ ⟨rfl, rfl⟩)
    | (go_at_call 205; refine (pdqNil _ _).mono ?_; rintro _ _ ⟨rfl, rfl⟩))
  go_end0
  exact ⟨rfl, rfl⟩
theorem dlist_new (d : Nat) (r : Int) (w : World) (hd : DskNew d r w) : Calls Tryz.prog 127 #[.pointer (some ⟨d, 0, none⟩)] w fun e w' => e = .returned (.slice none 0 0) ∧ Below w.heap.size w w' := by
  obtain ⟨b, hc, hb⟩ := hd.names
  have hrg : ∀ W : World, W.heap[b]? = some (.map #[] 0) → (Instr.range 194 (.map (some b))).run Tryz.prog W = .ok (.pointer (some ⟨W.heap.size, 0, none⟩)) (W.alloc (.mapIter (some b) 0 #[] 0)) := fun W h => run_range_map W 194 9 3 b #[] 0 Tryz.underlying194 h
  have hrw := hrg w hb
  have hblt : b < w.heap.size := (Array.getElem?_eq_some_iff.1 hb).1
  have hnx := fun ty => run_next_empty (P := Tryz.prog) (w.alloc (.mapIter (some b) 0 #[] 0)) ty w.heap.size b 0 0 0 (heap_alloc_new w _) ((Below.heap_alloc _ _ _ hblt).trans hb) (Nat.le_refl _)
  have HRG := hid hrg
  have HB := hid hb
  clear hrg hb
  go_enter Tryz.func127, Tryz.ntmps127
  go_wp2_with fail
  have hbw := below_alloc (below_refl w) (.mapIter (some b) 0 #[] 0)
  generalize w.alloc (.mapIter (some b) 0 #[] 0) = W at *
  go_loopg [3] 0 (fun _ s3 wr => s3 = .slice none 0 0 ∧ wr = W)
  case atStart => exact ⟨rfl, rfl⟩
  case round =>
    obtain ⟨rfl, rfl⟩ := hrel
    go_wp2_with (go_at_call 166; refine (sortNil _).mono ?_; rintro _ _ ⟨rfl, rfl⟩)
    go_ret
    exact ⟨rfl, hbw⟩
set_option maxRecDepth 100000 in
theorem dfiles_new (d : Nat) (r : Int) (w : World) (hd : DskNew d r w) : Calls Tryz.prog 94 #[.pointer (some ⟨d, 0, none⟩)] w fun e w' => e = .returned (.slice none 0 0) ∧ Below w.heap.size w w' := by
  go_enter Tryz.func94, Tryz.ntmps94
  go_wp2_with (go_at_call 127; refine (dlist_new d r _ hd).mono ?_; rintro _ w1 ⟨rfl, hb1⟩)
  go_loopg [3, 10] 0 (fun _ s3 s10 wr => s3 = .slice none 0 0 ∧ s10 = .int .i64 0 ∧ wr = w1)
  case atStart => exact ⟨rfl, rfl, rfl⟩
  case round =>
    obtain ⟨rfl, rfl, rfl⟩ := hrel
    go_wp2_with fail
    go_ret
    exact ⟨rfl, hb1⟩
/-- A site without a farm over a fresh disk. -/
structure SiteNew (s : Nat) (w : World) : Prop where
  disk : ∃ d r, w.cell? ⟨s, 10, none⟩ = some (.pointer (some ⟨d, 0, none⟩)) ∧ DskNew d r w
  farm : w.cell? ⟨s, 11, none⟩ = some (.pointer none)
theorem SiteNew.below {s : Nat} {w w1 : World} (h : SiteNew s w) (hb : Below w.heap.size w w1) : SiteNew s w1 := by
  obtain ⟨⟨d, r, h1, h2⟩, h3⟩ := h
  exact ⟨⟨d, r, cell_below hb h1, h2.below hb⟩, cell_below hb h3⟩
theorem sstate_new (s : Nat) (w : World) (h : SiteNew s w) : Calls Tryz.prog 60 #[.pointer (some ⟨s, 0, none⟩)] w fun e w' => e = .returned (.int .i64 0) ∧ w = w' := by
  have h1 := h.farm
  go_enter Tryz.func60, Tryz.ntmps60
  go_wp2_with fail
  go_ret
  exact ⟨rfl, rfl⟩
theorem sout_new (s : Nat) (w : World) (h : SiteNew s w) : Calls Tryz.prog 61 #[.pointer (some ⟨s, 0, none⟩)] w fun e w' => e = .returned (.tuple #[.slice none 0 0, .bool false]) ∧ Below w.heap.size w w' := by
  obtain ⟨d, r, h1, h2⟩ := h.disk
  go_enter Tryz.func61, Tryz.ntmps61
  go_wp2_with (go_at_call 94; refine (dfiles_new d r _ h2).mono ?_; rintro _ w1 ⟨rfl, hb1⟩)
  go_loopg [12] 0 (fun _ s12 wr => s12 = .int .i64 0 ∧ wr = w1)
  case atStart => exact ⟨rfl, rfl⟩
  case round =>
    obtain ⟨rfl, rfl⟩ := hrel
    go_wp2_with fail
    go_ret2
    exact ⟨rfl, hb1⟩
def SNewRet (w : World) (e : Ending) (w' : World) : Prop := ∃ s, e = .returned (.tuple #[.pointer (some ⟨s, 0, none⟩), .nilIface]) ∧ SiteNew s w' ∧ Below w.heap.size w w'
end Go.Proofs
