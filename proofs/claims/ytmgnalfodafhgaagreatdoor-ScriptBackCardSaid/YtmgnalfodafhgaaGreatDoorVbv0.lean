import Derived.Test.YtmgnalfodafhgaaGreatDoorActs
import Derived.Deep.DeepCutAuto
set_option linter.unusedVariables false
set_option linter.unusedSimpArgs false
namespace Go.Kin
open Go.RowKit
/-- The configuration, plain. -/
structure Cfg where
  qmin : Int
  qmax : Int
  reach : Int
  cut : Int
  gop : Int
  rate : Int
  room : Int
  fill : Int
  deriving DecidableEq
def Cfg.val (c : Cfg) : Value := .agg #[.int .i64 c.qmin, .int .i64 c.qmax, .int .i64 c.reach, .int .i64 c.cut, .int .i64 c.gop, .int .i64 c.rate, .int .i64 c.room, .int .i64 c.fill]
def Cfg.cells (c : Cfg) : Array Value := #[.int .i64 c.qmin, .int .i64 c.qmax, .int .i64 c.reach, .int .i64 c.cut, .int .i64 c.gop, .int .i64 c.rate, .int .i64 c.room, .int .i64 c.fill]
def fromB (v a b : Int) : Bool := decide (a ≤ v) && decide (v ≤ b)
def leB (a b : Int) : Bool := decide (a ≤ b)
/-- May it be a configuration? -/
def Cfg.may (c : Cfg) : Bool :=
  (fromB c.qmin 0 c.qmax && leB c.qmax 15) && (fromB c.reach 0 7 && (fromB c.cut 0 16320 && fromB c.gop 1 16)) && fromB c.rate 8 c.room && leB c.room 16384 && fromB c.fill 8 c.room
end Go.Kin
namespace Go.Proofs
open Go.RowKit Go.Kin Go.Shelf
theorem from_any (v a b : Int) (w : World) : Calls Tryz.prog 37 #[.int .i64 v, .int .i64 a, .int .i64 b] w fun e w' => e = .returned (.bool (fromB v a b)) ∧ w = w' := by
  by_cases h1 : a ≤ v
  · go_enter Tryz.func37, Tryz.ntmps37
    go_wp2
    all_goals (go_ret; exact ⟨ret_bool (by simp [fromB, *]), rfl⟩)
  · go_enter Tryz.func37, Tryz.ntmps37
    go_wp2
    all_goals (go_ret; exact ⟨ret_bool (by simp [fromB]; omega), rfl⟩)
set_option maxRecDepth 100000 in
set_option maxHeartbeats 4000000 in
theorem vmay_any (c : Cfg) (w : World) : Calls Tryz.prog 17 #[c.val] w fun e w' => e = .returned (.bool c.may) ∧ Below w.heap.size w w' := by
  obtain ⟨qmin, qmax, reach, cut, gop, rate, room, fill⟩ := c
  have hm := hid (show Cfg.may ⟨qmin, qmax, reach, cut, gop, rate, room, fill⟩ = ((fromB qmin 0 qmax && leB qmax 15) && (fromB reach 0 7 && (fromB cut 0 16320 && fromB gop 1 16)) && fromB rate 8 room && leB room 16384 && fromB fill 8 room) from rfl)
  unfold Cfg.val
  go_enter Tryz.func17, Tryz.ntmps17
  go_upto_region 1 with fail
  have hW : Below w.heap.size w (w.alloc (.cells #[.int .i64 qmin, .int .i64 qmax, .int .i64 reach, .int .i64 cut, .int .i64 gop, .int .i64 rate, .int .i64 room, .int .i64 fill] 42)) := below_alloc (below_refl w) _
  have hc := heap_alloc_new w (.cells #[.int .i64 qmin, .int .i64 qmax, .int .i64 reach, .int .i64 cut, .int .i64 gop, .int .i64 rate, .int .i64 room, .int .i64 fill] 42)
  generalize w.alloc (.cells #[.int .i64 qmin, .int .i64 qmax, .int .i64 reach, .int .i64 cut, .int .i64 gop, .int .i64 rate, .int .i64 room, .int .i64 fill] 42) = W at *
  have c0 := cell_of_row W w.heap.size 0 _ _ (0, 0) hc
  have c1 := cell_of_row W w.heap.size 1 _ _ (0, 0) hc
  have c2 := cell_of_row W w.heap.size 2 _ _ (0, 0) hc
  have c3 := cell_of_row W w.heap.size 3 _ _ (0, 0) hc
  have c4 := cell_of_row W w.heap.size 4 _ _ (0, 0) hc
  have c5 := cell_of_row W w.heap.size 5 _ _ (0, 0) hc
  have c6 := cell_of_row W w.heap.size 6 _ _ (0, 0) hc
  have c7 := cell_of_row W w.heap.size 7 _ _ (0, 0) hc
  have HW := hid hW
  clear hW hc
  go_cut [3] (fun s3 wx => s3 = .bool (fromB qmin 0 qmax && leB qmax 15) ∧ wx = W)
  case first =>
    go_wp2_with (go_at_call 37; refine (from_any _ _ _ _).mono ?_; rintro _ _ ⟨rfl, rfl⟩)
    all_goals (go_meet; exact ⟨by simp [leB, *], rfl⟩)
  case rest =>
    obtain ⟨rfl, rfl⟩ := hcut
    go_upto_region 2 with fail
    go_cut [4] (fun s4 wx => s4 = .bool (fromB reach 0 7 && (fromB cut 0 16320 && fromB gop 1 16)) ∧ wx = wc)
    case first =>
      go_wp2_with (go_at_call 37; refine (from_any _ _ _ _).mono ?_; rintro _ _ ⟨rfl, rfl⟩)
      all_goals (go_meet; exact ⟨by simp [*], rfl⟩)
    case rest =>
      obtain ⟨rfl, rfl⟩ := hcut
      generalize (fromB qmin 0 qmax && leB qmax 15) = q at *
      generalize (fromB reach 0 7 && (fromB cut 0 16320 && fromB gop 1 16)) = s at *
      go_wp2_with (go_at_call 37; refine (from_any _ _ _ _).mono ?_; rintro _ _ ⟨rfl, rfl⟩)
      all_goals (go_ret; exact ⟨ret_bool (by rw [hm.out]; first | (simp [leB, *]; done) | (simp [leB, *]; intros; omega)), HW.out⟩)
theorem vmay_is (c : Cfg) (b : Bool) (w : World) (h : c.may = b) : Calls Tryz.prog 17 #[c.val] w fun e w' => e = .returned (.bool b) ∧ Below w.heap.size w w' := by
  rw [← h]; exact vmay_any c w
theorem vcheck_ok (c : Cfg) (w : World) (h : c.may = true) : Calls Tryz.prog 82 #[c.val] w fun e w' => e = .returned .nilIface ∧ Below w.heap.size w w' := by
  have HM := hid (fun w => vmay_is c true w h)
  clear h
  obtain ⟨qmin, qmax, reach, cut, gop, rate, room, fill⟩ := c
  unfold Cfg.val at *
  go_enter Tryz.func82, Tryz.ntmps82
  go_wp2_with (go_at_call 17; refine (HM.out _).mono ?_; rintro _ w1 ⟨rfl, hb1⟩)
  go_ret
  exact ⟨rfl, below_then (below_alloc (below_refl w) _) hb1⟩
theorem vcheck_no (c : Cfg) (w : World) (h : c.may = false) : Calls Tryz.prog 82 #[c.val] w fun e w' => e = .returned (.iface 32 (.int .i64 11)) ∧ Below w.heap.size w w' := by
  have HM := hid (fun w => vmay_is c false w h)
  clear h
  obtain ⟨qmin, qmax, reach, cut, gop, rate, room, fill⟩ := c
  unfold Cfg.val at *
  go_enter Tryz.func82, Tryz.ntmps82
  go_wp2_with (go_at_call 17; refine (HM.out _).mono ?_; rintro _ w1 ⟨rfl, hb1⟩)
  go_ret
  exact ⟨rfl, below_then (below_alloc (below_refl w) _) hb1⟩
end Go.Proofs
