import Derived.Test.YtmgnalfodafhgaaGreatDoorBld0
import Derived.Test.YtmgnalfodafhgaaGreatDoorSite0
import Derived.Test.YtmgnalfodafhgaaGreatDoorOpts4
import Derived.Test.YtmgnalfodafhgaaGreatDoorPics3
import Derived.Test.YtmgnalfodafhgaaGreatDoorTxt3
set_option linter.unusedVariables false
set_option linter.unusedSimpArgs false
namespace Go.Proofs
open Go.RowKit Go.Kin Go.Shelf
theorem bat_below {T e : TypeId} {B b : Nat} {p : Value} {bs : List Value} {w w' : World} (h : Lib.BuilderAt T e B b p bs w) (hb : Below w.heap.size w w') : Lib.BuilderAt T e B b p bs w' := by
  obtain ⟨h0, v, h1, h2, h3⟩ := h
  exact ⟨h0, v, (hb.block b (Array.getElem?_eq_some_iff.1 h1).1).trans h1, (Frm.of_below (S := fun _ => False) hb).own h2 (fun _ _ h => h), h3⟩
def stateS : ByteArray := ⟨#[115, 116, 97, 116, 101, 32, 48, 10]⟩
def noneS : ByteArray := ⟨#[111, 117, 116, 32, 110, 111, 110, 101, 10]⟩
theorem itoa0 (w : World) : Calls Tryz.prog 24 #[.int .i64 0] w fun e w' => e = .returned (.string ⟨#[48]⟩) ∧ w = w' :=
  (Tryz.strconv_Itoa_small 0 (by omega) w).mono fun _ _ ⟨he, hw⟩ => ⟨by rw [he]; simp [Lib.decDigits], hw.symm⟩
def TellRet (s : ByteArray) (w : World) (e : Ending) (w' : World) : Prop := e = .returned (.tuple #[.string s, .nilIface]) ∧ Below w.heap.size w w'
theorem len1 : ([] ++ Lib.strCells ((⟨#[115, 116, 97, 116, 101, 32]⟩ : ByteArray) ++ (⟨#[48]⟩ : ByteArray) ++ (⟨#[10]⟩ : ByteArray))).length + (⟨#[111, 117, 116, 32, 110, 111, 110, 101, 10]⟩ : ByteArray).size ≤ 140737488355328 := by
  rw [List.nil_append, Lib.strCells_length, ByteArray.size_append, ByteArray.size_append]; decide
theorem cells1 : ([] ++ Lib.strCells ((⟨#[115, 116, 97, 116, 101, 32]⟩ : ByteArray) ++ (⟨#[48]⟩ : ByteArray) ++ (⟨#[10]⟩ : ByteArray))) ++ Lib.strCells ⟨#[111, 117, 116, 32, 110, 111, 110, 101, 10]⟩ = Lib.byteCells [115, 116, 97, 116, 101, 32, 48, 10, 111, 117, 116, 32, 110, 111, 110, 101, 10] := by
  kernel_rfl
set_option maxRecDepth 100000 in
set_option maxHeartbeats 4000000 in
/-- No acts. -/
theorem tell_nil (c : Cfg) (sv : Value) (xs : List Int) (rm wk : Int) (w : World) (hc : c.may = true) (hs : SlI .u8 w sv xs) (hx : xs.length ≤ 1000000) (hr : 0 ≤ rm ∧ rm ≤ 16777216) (hw : 1 ≤ wk ∧ wk ≤ 64) :
    Calls Tryz.prog 38 #[c.val, sv, .int .i64 rm, .int .i64 wk, .slice none 0 0] w (TellRet ⟨#[115, 116, 97, 116, 101, 32, 48, 10, 111, 117, 116, 32, 110, 111, 110, 101, 10]⟩ w) := by
  have HN := hid (fun W (h : Below w.heap.size w W) => snew_ok c sv xs rm wk W hc (hs.below h) hx hr hw)
  obtain ⟨qmin, qmax, reach, cut, gop, rate, room, fill⟩ := c
  unfold Cfg.val at *
  clear hs hc
  go_enter Tryz.func38, Tryz.ntmps38
  go_wp2_with (go_at_call 56; refine (HN.out _ (below_alloc (below_refl w) _)).mono ?_; rintro _ w1 ⟨s, rfl, hsn, hb1⟩; have HSN := hid hsn; have HB1 := hid (below_then (below_alloc (below_refl w) _) hb1); clear hsn hb1)
  have hfr := Lib.fresh_isBuilder 115 5 w1
  have HFR := hid hfr
  have HB2 := hid (below_alloc HB1.out (.cells #[.pointer none, .slice none 0 0] 115))
  have HS2 := hid (HSN.out.below (below_alloc (below_refl w1) (.cells #[.pointer none, .slice none 0 0] 115)))
  have hsz := World.size_alloc w1 (.cells #[.pointer none, .slice none 0 0] 115)
  have HSB := hid (fun W' (h : Below w1.heap.size (w1.alloc (.cells #[.pointer none, .slice none 0 0] 115)) W') => HSN.out.below ((below_alloc (below_refl w1) _).trans h))
  have HWB := hid HB1.out.size
  clear hfr
  generalize w1.alloc (.cells #[.pointer none, .slice none 0 0] 115) = W at *
  generalize w1.heap.size = B at *
  go_loopg [37] 0 (fun _ s37 wr => s37 = .int .i64 0 ∧ wr = W)
  case atStart => exact ⟨rfl, rfl⟩
  case round =>
    obtain ⟨rfl, rfl⟩ := hrel
    go_wp2_with (first
      | (go_at_call 60; refine (sstate_new s _ HS2.out).mono ?_; rintro _ _ ⟨rfl, rfl⟩)
      | (go_at_call 24; refine (itoa0 _).mono ?_; rintro _ _ ⟨rfl, rfl⟩)
      | (go_at_call_of 58 (Value.string { data := #[111, 117, 116, 32, 110, 111, 110, 101, 10] }); refine (writeString_any B B _ _ _ (.inr HW3.out) len1 hbz).mono ?_; rintro _ w5 ⟨rfl, hw5, hb5⟩; rw [cells1] at hw5; have HW5 := hid hw5; have HB5 := hid hb5; have hbz5 := Nat.le_trans hbz hb5.size; clear hw5 hb5)
      | (go_at_call 58; refine (writeString_any B B [] _ _ HFR.out (by simp; decide) (by omega)).mono ?_; rintro _ w2 ⟨rfl, hw2, hb2⟩; have HW2 := hid hw2; have HB3 := hid hb2; have hbz2 := hb2.size; clear hw2 hb2)
      | (go_at_call 61; refine (sout_new s _ (HSB.out _ HB3.out)).mono ?_; rintro _ w3 ⟨rfl, hb3⟩; have HW3 := hid (bat_below HW2.out hb3); have HB4 := hid hb3; have hbz := Nat.le_trans (show B ≤ w2.heap.size by omega) hb3.size; clear hb3)
      | (go_at_call 62; refine (Tryz.Builder_String_any B B [115, 116, 97, 116, 101, 32, 48, 10, 111, 117, 116, 32, 110, 111, 110, 101, 10] _ (.inr HW5.out) (by omega)).mono ?_; rintro _ w6 ⟨rfl, hb6⟩))
    go_ret2
    exact ⟨rfl, ((HB2.out.trans (HB3.out.mono HWB.out)).trans (HB4.out.mono (by have := HB2.out.size; omega))).trans ((HB5.out.mono HWB.out).trans (hb6.mono HWB.out))⟩
end Go.Proofs
