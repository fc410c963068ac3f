import Derived.Test.YtmgnalfodafhgaaGreatDoorActs2
import Derived.Test.YtmgnalfodafhgaaGreatDoorErrSame2
import Derived.Test.YtmgnalfodafhgaaGreatDoorShelf
import Derived.Lib.AppendIntMem
import Derived.Lib.QuietBelow
set_option linter.unusedVariables false
set_option linter.unusedSimpArgs false
namespace Go.Proofs
open Go.RowKit Go.Kin Go.Shelf
/-- The library's variables that the texts read. -/
structure VarsOk (w : World) : Prop where
  maxlen : ∃ m, w.cell? ⟨1, 0, none⟩ = some (.int .i64 m)
  tab : Lib.TabIs Tryz.prog w "internal/strconv.uint64pow10" .u64 Lib.pow10Tab
  syn : ∃ ev, w.cell? ⟨2, 0, none⟩ = some ev ∧ (ev = .nilIface ∨ ∃ te pe, ev = .iface te pe)
  rng : ∃ ev, w.cell? ⟨3, 0, none⟩ = some ev ∧ (ev = .nilIface ∨ ∃ te pe, ev = .iface te pe)
  typ : ErrTyp w
theorem VarsOk.below {w w1 : World} (h : VarsOk w) (hb : Below w.heap.size w w1) : VarsOk w1 := by
  obtain ⟨⟨m, h1⟩, h2, ⟨e, h3, h3'⟩, ⟨f, h4, h4'⟩, h5⟩ := h
  exact ⟨⟨m, cell_below hb h1⟩, Lib.tabBelow_of_tabIs h2 w1 hb, ⟨e, cell_below hb h3, h3'⟩, ⟨f, cell_below hb h4, h4'⟩, h5.below hb⟩
theorem itoa_any (n : Int) (w : World) (hV : VarsOk w) (h0 : -9223372036854775808 ≤ n) (h1 : n ≤ 9223372036854775807) :
    Calls Tryz.prog 24 #[.int .i64 n] w fun e w' => e = .returned (.string ⟨(Lib.itoa n).toArray⟩) ∧ Below w.heap.size w w' :=
  (Tryz.strconv_Itoa n h0 h1 w hV.tab).mono fun _ _ ⟨he, k, os, hw⟩ => ⟨he, by rw [hw]; exact Lib.below_grow _ _ (Nat.le_refl _) _ _⟩

end Go.Proofs
namespace Go.Kin
open Go.RowKit
/-- The number that a word says. -/
def numS (s : ByteArray) : Option Int :=
  match Lib.atoiAll s.data.toList with
  | .ok v => if Lib.itoa v = s.data.toList ∧ (Lib.trimPrefix s.data.toList [45]).length ≤ 18 then some v else none
  | _ => none
end Go.Kin
