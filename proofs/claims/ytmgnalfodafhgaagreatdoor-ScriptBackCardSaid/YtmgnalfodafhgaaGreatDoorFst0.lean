import Derived.Test.YtmgnalfodafhgaaGreatDoorRun0
set_option linter.unusedVariables false
set_option linter.unusedSimpArgs false
namespace Go.Kin
open Go.RowKit
theorem spl_crash : splitL ⟨#[99, 114, 97, 115, 104]⟩ = [⟨#[99, 114, 97, 115, 104]⟩] := by kernel_rfl
theorem spl_pick : splitL ⟨#[112, 105, 99, 107, 32, 48, 51]⟩ = [⟨#[112, 105, 99, 107]⟩, ⟨#[48, 51]⟩] := by kernel_rfl
theorem spl_fly : splitL ⟨#[102, 108, 121]⟩ = [⟨#[102, 108, 121]⟩] := by kernel_rfl
theorem spl_arm : splitL ⟨#[97, 114, 109]⟩ = [⟨#[97, 114, 109]⟩] := by kernel_rfl
theorem at_03 : Lib.atoiAll [48, 51] = .ok 3 := by kernel_rfl
theorem num_03 : numS ⟨#[48, 51]⟩ = none := by
  unfold numS
  rw [show (⟨#[48, 51]⟩ : ByteArray).data.toList = [48, 51] from rfl, at_03]
  simp [Lib.itoa, Lib.decDigits]
theorem kd (s : ByteArray) (h : s.toList = s.data.toList) : kindS s.toList = kindS s.data.toList := by rw [h]
theorem par_crash : parseS ⟨#[99, 114, 97, 115, 104]⟩ = (⟨2, 0, []⟩, none) := by
  unfold parseS; rw [spl_crash]; kernel_rfl
theorem par_pick : parseS ⟨#[112, 105, 99, 107, 32, 48, 51]⟩ = (⟨0, 0, []⟩, some 2) := by
  unfold parseS; rw [spl_pick]; unfold parseL
  rw [show kindS (([⟨#[112, 105, 99, 107]⟩, ⟨#[48, 51]⟩] : List ByteArray).getD 0 ⟨#[]⟩).toList = 1 by kernel_rfl]
  simp [num_03]
theorem par_fly : parseS ⟨#[102, 108, 121]⟩ = (⟨0, 0, []⟩, some 13) := by
  unfold parseS; rw [spl_fly]; kernel_rfl
theorem par_arm : parseS ⟨#[97, 114, 109]⟩ = (⟨0, 0, []⟩, some 1) := by
  unfold parseS; rw [spl_arm]; kernel_rfl
theorem words_three : wordsL.getD 1 ⟨#[]⟩ ++ sp ++ (⟨#[51]⟩ : ByteArray) = ⟨#[112, 105, 99, 107, 32, 51]⟩ := by kernel_rfl
theorem pr_pick : printS ⟨1, 3, []⟩ = ⟨#[112, 105, 99, 107, 32, 51]⟩ := by
  have : itoaB 3 = ⟨#[51]⟩ := by simp [itoaB, Lib.itoa, Lib.decDigits]
  have h2 : printS ⟨1, 3, []⟩ = wordsL.getD 1 ⟨#[]⟩ ++ sp ++ itoaB 3 := by unfold printS; simp
  rw [h2, this]
  exact words_three
end Go.Kin
namespace Go.Proofs
open Go.RowKit Go.Kin Go.Shelf
theorem fail_any (n : Int) (w : World) : Calls Tryz.prog 10 #[.int .i64 n] w fun e w' => e = .returned (.agg #[.int .i64 n, .slice none 0 0]) ∧ Below w.heap.size w w' := by
  go_enter Tryz.func10, Tryz.ntmps10
  go_wp2
  refine bodyPost_ret ((results_cell1 rfl _ _ _).trans (by go_simp; rfl)) rfl ?_
  exact ⟨rfl, below_alloc (below_refl w) _⟩
theorem kErr_code (n m : Int) (w : World) (hg : ErrTyp w) (b : Bool) (h : sameErr (some (.code n)) ⟨m, []⟩ = b) :
    Calls Tryz.prog 9 #[.iface 32 (.int .i64 n), .agg #[.int .i64 m, .slice none 0 0]] w fun e w' => e = .returned (.bool b) ∧ Below w.heap.size w w' := by
  rw [← h]
  exact kErr_some (.code n) _ ⟨m, []⟩ _ w hg rfl (by show 0 < 1000; omega) ⟨_, rfl, SlG.nil _ _ _⟩
/-- What Parse hands back where there is an error. -/
theorem parse_err (s : ByteArray) (c : Int) (w : World) (hV : VarsOk w) (hs : s.size ≤ 30000) (h : parseS s = (⟨0, 0, []⟩, some c)) :
    Calls Tryz.prog 7 #[.string s] w fun e w' => ∃ pv, e = .returned (.tuple #[.agg #[.int .i64 0, .int .i64 0, pv], .iface 32 (.int .i64 c)]) ∧ (∃ A n, pv = .slice A 0 n) ∧ Below w.heap.size w w' := by
  refine (parse_any s w hV hs).mono ?_
  rintro _ w' ⟨pv, ev, rfl, hp, he, hb⟩
  rw [h] at hp he ⊢
  simp only at he
  subst he
  obtain ⟨A, n, hv, _⟩ := hp
  exact ⟨pv, rfl, ⟨A, n, hv⟩, hb⟩
theorem parse_ok (s : ByteArray) (a : Kin.Act) (w : World) (hV : VarsOk w) (hs : s.size ≤ 30000) (h : parseS s = (a, none)) :
    Calls Tryz.prog 7 #[.string s] w fun e w' => ∃ pv, e = .returned (.tuple #[.agg #[.int .i64 a.kind, .int .i64 a.n, pv], .nilIface]) ∧ SlI .i64 w' pv a.picks ∧ Below w.heap.size w w' := by
  refine (parse_any s w hV hs).mono ?_
  rintro _ w' ⟨pv, ev, rfl, hp, he, hb⟩
  rw [h] at hp he ⊢
  simp only at he
  subst he
  exact ⟨pv, rfl, hp, hb⟩
theorem print_pick (w : World) (hV : VarsOk w) : Calls Tryz.prog 8 #[.agg #[.int .i64 1, .int .i64 3, .slice none 0 0]] w fun e w' => e = .returned (.string { data := #[112, 105, 99, 107, 32, 51] }) ∧ Below w.heap.size w w' := by
  have := print_any ⟨1, 3, []⟩ (.slice none 0 0) w hV (by simp) (by simp) (SlI.nil _ _) (by simp) (by simp)
  rw [pr_pick] at this
  exact this
set_option maxRecDepth 100000 in
set_option maxHeartbeats 4000000 in
theorem first_any (w : World) (hV : VarsOk w) : Calls Tryz.prog 6 #[] w fun e w' => e = .returned (.bool true) ∧ Below w.heap.size w w' := by
  have hv1 : ∀ W, Below w.heap.size w W → VarsOk W := fun W h => hV.below h
  have HV := hid hv1
  clear hv1 hV
  go_enter Tryz.func6, Tryz.ntmps6
  go_upto_region 5 with (first
    | (go_at_call_of 7 (Value.string { data := #[99, 114, 97, 115, 104] }); refine (parse_ok _ _ _ (HV.out _ (below_refl w)) (by decide) par_crash).mono ?_; rintro _ w1 ⟨pv1, rfl, hp1, hb1⟩; obtain ⟨A1, c1, rfl, _⟩ := hp1; have HB1 := hid (below_alloc hb1 (.cells #[.int .i64 2, .int .i64 0, .slice A1 0 c1] 24)); have Q1 := hid (cell_of_row _ _ 0 _ _ (0, 0) (heap_alloc_new w1 (.cells #[.int .i64 2, .int .i64 0, .slice A1 0 c1] 24))); clear hb1)
    | (go_at_call_of 7 (Value.string { data := #[112, 105, 99, 107, 32, 48, 51] }); refine (parse_err _ _ _ (HV.out _ HB1.out) (by decide) par_pick).mono ?_; rintro _ w2 ⟨pv2, rfl, ⟨A2, c2, rfl⟩, hb2⟩; have HB2 := hid (below_alloc (below_then HB1.out hb2) (.cells #[.int .i64 0, .int .i64 0, .slice A2 0 c2] 24)); have Q2 := hid (cell_below (below_alloc hb2 (.cells #[.int .i64 0, .int .i64 0, .slice A2 0 c2] 24)) Q1.out); clear hb2)
    | (go_at_call_of 7 (Value.string { data := #[102, 108, 121] }); refine (parse_err _ _ _ (HV.out _ HB2.out) (by decide) par_fly).mono ?_; rintro _ w3 ⟨pv3, rfl, ⟨A3, c3, rfl⟩, hb3⟩; have HB3 := hid (below_alloc (below_then HB2.out hb3) (.cells #[.int .i64 0, .int .i64 0, .slice A3 0 c3] 24)); have Q3 := hid (cell_below (below_alloc hb3 (.cells #[.int .i64 0, .int .i64 0, .slice A3 0 c3] 24)) Q2.out); clear hb3)
    | (go_at_call_of 7 (Value.string { data := #[97, 114, 109] }); refine (parse_err _ _ _ (HV.out _ HB3.out) (by decide) par_arm).mono ?_; rintro _ w4 ⟨pv4, rfl, ⟨A4, c4, rfl⟩, hb4⟩; have HB4 := hid (below_alloc (below_then HB3.out hb4) (.cells #[.int .i64 0, .int .i64 0, .slice A4 0 c4] 24)); have Q4 := hid (cell_below (below_alloc hb4 (.cells #[.int .i64 0, .int .i64 0, .slice A4 0 c4] 24)) Q3.out); clear hb4))
  have q1 : (w4.alloc (.cells #[.int .i64 0, .int .i64 0, .slice A4 0 c4] 24)).cell? ⟨w1.heap.size, 0, none⟩ = some (.int .i64 2) := Q4.out
  have HBC := HB4
  go_wp2_with (first
    | (go_at_call 10; refine (fail_any _ _).mono ?_; rintro _ _ ⟨rfl, hbx⟩; have HBC := hid (below_then HBC.out hbx); clear hbx)
    | (go_at_call 9; refine (kErr_code _ _ _ (HV.out _ HBC.out).typ true (by decide)).mono ?_; rintro _ _ ⟨rfl, hbx⟩; have HBC := hid (below_then HBC.out hbx); clear hbx)
    | (go_at_call 8; refine (print_pick _ (HV.out _ HBC.out)).mono ?_; rintro _ _ ⟨rfl, hbx⟩; have HBC := hid (below_then HBC.out hbx); clear hbx)
    | (go_at_call 19; refine (run_nil _).mono ?_; rintro _ _ ⟨rfl, hbx⟩; have HBC := hid (below_then HBC.out hbx); clear hbx))
  go_ret
  exact ⟨rfl, HBC.out⟩
end Go.Proofs
