import Derived.Test.YtmgnalfodafhgaaGreatDoorBack1
set_option linter.unusedVariables false
set_option linter.unusedSimpArgs false
namespace Go.Proofs
open Go.RowKit Go.Kin Go.Shelf
/-- The law holds; new memory alone is made. -/
def RetYes (w : World) (e : Ending) (w' : World) : Prop := e = .returned (.bool true) ∧ Below w.heap.size w w'
set_option maxRecDepth 100000 in
set_option maxHeartbeats 4000000 in
theorem back_in (kind n : Int) (picks : List Int) (A : Option Addr) (c : Nat) (s : ByteArray) (w : World) (hV : VarsOk w) (hk : -9223372036854775808 ≤ kind ∧ kind ≤ 9223372036854775807) (hn : -9223372036854775808 ≤ n ∧ n ≤ 9223372036854775807)
    (hp : SlI .i64 w (.slice A picks.length c) picks) (hl : picks.length ≤ 1000) (hr : ∀ x ∈ picks, -9223372036854775808 ≤ x ∧ x ≤ 9223372036854775807) (hs : s.size ≤ 2000) :
    Calls Tryz.prog 3 #[.agg #[.int .i64 kind, .int .i64 n, .slice A picks.length c], .string s] w (RetYes w) := by
  have HF := hid (fun W (h : Below w.heap.size w W) => first_any W (hV.below h))
  have HV := hid (fun W (h : Below w.heap.size w W) => hV.below h)
  have HSL := hid (fun W (h : Below w.heap.size w W) => hp.below h)
  have HPS := hid (fun W (h : Below w.heap.size w W) => parse_any s W (hV.below h) (by omega))
  have hrng := parse_range s
  have hback := print_parse s
  have HPA := hid (fun W (h : Below w.heap.size w W) => print_any ⟨kind, n, picks⟩ _ W (hV.below h) hk hn (hp.below h) (show picks.length ≤ 3000 by omega) hr)
  have hsz := printS_size ⟨kind, n, picks⟩ hn hl hr
  have HPP := hid (fun W (h : Below w.heap.size w W) => parse_any (printS ⟨kind, n, picks⟩) W (hV.below h) (by omega))
  have HOT := hid (parse_other ⟨kind, n, picks⟩)
  have HCR := hid (fun (h2 : kind = 2) (h : ∀ x ∈ picks, -1000000000000000000 < x ∧ x < 1000000000000000000) => show parseS (printS ⟨kind, n, picks⟩) = (⟨2, 0, picks⟩, none) from by rw [h2]; exact parse_crash n picks h)
  have HPL := hid (fun (h1 : 1 ≤ kind) (h6 : kind ≤ 6) (h2 : kind ≠ 2) (hn1 : -1000000000000000000 < n) (hn2 : n < 1000000000000000000) => show parseS (printS ⟨kind, n, picks⟩) = (⟨kind, n, []⟩, none) from by
    obtain ⟨k, rfl⟩ := Int.eq_ofNat_of_zero_le (show 0 ≤ kind by omega)
    exact parse_plain k n picks (by omega) (by omega) (by omega) hn1 hn2)
  generalize printS ⟨kind, n, picks⟩ = u at *
  rcases hps : parseS s with ⟨⟨k2, n2, p2⟩, r2⟩
  rw [hps] at HPS hrng hback
  rcases hpp : parseS u with ⟨⟨k3, n3, p3⟩, r3⟩
  rw [hpp] at HPP HOT HCR HPL
  have HRNG := hid hrng
  have HBACK := hid hback
  have i1 : ¬ ((s.size : Int) > 2000) := by omega
  have i2 : ¬ ((picks.length : Int) > 1000) := by omega
  clear hV hp hrng hback hps hpp hsz hr hl hs
  go_enter Tryz.func3, Tryz.ntmps3
  go_upto_region 3 with (go_at_call 6; refine (HF.out _ (below_alloc (below_refl w) _)).mono ?_; rintro _ w1 ⟨rfl, hbx⟩; have HBX := hid hbx; clear hbx)
  have hb1 : Below w.heap.size w w1 := below_then (below_alloc (below_refl w) _) HBX.out
  have q0 : w1.cell? ⟨w.heap.size, 0, none⟩ = some (.int .i64 kind) := cell_below HBX.out (cell_of_row _ _ 0 _ _ (0, 0) (heap_alloc_new w _))
  have q1 : w1.cell? ⟨w.heap.size, 1, none⟩ = some (.int .i64 n) := cell_below HBX.out (cell_of_row _ _ 1 _ _ (0, 0) (heap_alloc_new w _))
  have q2 : w1.cell? ⟨w.heap.size, 2, none⟩ = some (.slice A picks.length c) := cell_below HBX.out (cell_of_row _ _ 2 _ _ (0, 0) (heap_alloc_new w _))
  clear HBX
  go_upto_region 5 with (fail)
  have HB1 := hid hb1
  clear hb1
  go_upto_region 6 with (go_at_call 7; refine (HPS.out _ HB1.out).mono ?_; rintro _ w2 ⟨pv2, ev2, rfl, hp2, he2, hb2⟩; obtain ⟨A2, c2, rfl, _, _⟩ := hp2.open; have HE2 := hid he2; have HP2 := hid hp2; have HB2 := hid hb2; clear he2 hp2 hb2)
  have hbA := below_alloc HB2.out (.cells #[.int .i64 k2, .int .i64 n2, .slice A2 p2.length c2] 24)
  have HM0 := hid (cell_of_row _ _ 0 _ _ (0, 0) (heap_alloc_new w2 (.cells #[.int .i64 k2, .int .i64 n2, .slice A2 p2.length c2] 24)))
  have HM1 := hid (cell_of_row _ _ 1 _ _ (0, 0) (heap_alloc_new w2 (.cells #[.int .i64 k2, .int .i64 n2, .slice A2 p2.length c2] 24)))
  have HM2 := hid (cell_of_row _ _ 2 _ _ (0, 0) (heap_alloc_new w2 (.cells #[.int .i64 k2, .int .i64 n2, .slice A2 p2.length c2] 24)))
  have HQ0 := hid (cell_below hbA q0)
  have HQ1 := hid (cell_below hbA q1)
  have HQ2 := hid (cell_below hbA q2)
  have HSP := hid (HP2.out.below (below_alloc (below_refl w2) (.cells #[.int .i64 k2, .int .i64 n2, .slice A2 p2.length c2] 24)))
  have HBA := hid (below_then HB1.out hbA)
  clear hbA q0 q1 q2
  generalize w2.alloc (.cells #[.int .i64 k2, .int .i64 n2, .slice A2 p2.length c2] 24) = W2 at HM0 HM1 HM2 HQ0 HQ1 HQ2 HSP HBA ⊢
  go_cut [33] (fun s33 wx => s33 = .bool false ∧ Below W2.heap.size W2 wx)
  case first =>
    have m0 : W2.cell? ⟨w2.heap.size, 0, none⟩ = some (.int .i64 k2) := HM0.out
    have m1 : W2.cell? ⟨w2.heap.size, 1, none⟩ = some (.int .i64 n2) := HM1.out
    have m2 : W2.cell? ⟨w2.heap.size, 2, none⟩ = some (.slice A2 p2.length c2) := HM2.out
    cases r2 with
    | none =>
      obtain rfl : ev2 = .nilIface := HE2.out
      have HPR := hid (print_of ⟨k2, n2, p2⟩ s (.slice A2 p2.length c2) W2 (HV.out _ HBA.out) HRNG.out.1 HRNG.out.2.1 HSP.out (by have := HRNG.out.2.2.2; show p2.length ≤ 3000; omega) HRNG.out.2.2.1 (HBACK.out _ rfl))
      go_wp2_with (go_at_call 8; refine HPR.out.mono ?_; rintro _ w4 ⟨rfl, hb4⟩; have HB4 := hid hb4; clear hb4)
      go_meet
      exact ⟨rfl, HB4.out⟩
    | some code =>
      obtain rfl : ev2 = .iface 32 (.int .i64 code) := HE2.out
      go_wp2_with fail
      go_meet
      exact ⟨rfl, below_refl W2⟩
  case rest =>
    obtain ⟨rfl, hbc⟩ := hcut
    have HBC := hid (below_then HBA.out hbc)
    have q0 := cell_below hbc HQ0.out
    have q1 := cell_below hbc HQ1.out
    have q2 := cell_below hbc HQ2.out
    clear HM0 HM1 HM2 HQ0 HQ1 HQ2 HSP HBA HP2 HE2 HB2 HB1 HPS HRNG HBACK
    go_upto_region 9 with (first
      | (go_at_call 8; refine (HPA.out _ HBC.out).mono ?_; rintro _ w3 ⟨rfl, hb3⟩; have HB3 := hid hb3; clear hb3)
      | (go_at_call 7; refine (HPP.out _ (below_then HBC.out HB3.out)).mono ?_; rintro _ w4 ⟨pv3, ev3, rfl, hp3, he3, hb4⟩; obtain ⟨A3, c3, rfl, _, _⟩ := hp3.open; have HE3 := hid he3; have HP3 := hid hp3; have HB4 := hid hb4; clear he3 hp3 hb4))
    have hbD := below_alloc (below_then HB3.out HB4.out) (.cells #[.int .i64 k3, .int .i64 n3, .slice A3 p3.length c3] 24)
    have t0 := cell_of_row _ _ 0 _ _ (0, 0) (heap_alloc_new w4 (.cells #[.int .i64 k3, .int .i64 n3, .slice A3 p3.length c3] 24))
    have t1 := cell_of_row _ _ 1 _ _ (0, 0) (heap_alloc_new w4 (.cells #[.int .i64 k3, .int .i64 n3, .slice A3 p3.length c3] 24))
    have t2 := cell_of_row _ _ 2 _ _ (0, 0) (heap_alloc_new w4 (.cells #[.int .i64 k3, .int .i64 n3, .slice A3 p3.length c3] 24))
    have q0 := cell_below hbD q0
    have q1 := cell_below hbD q1
    have q2 := cell_below hbD q2
    have hSR := HP3.out.below (below_alloc (below_refl w4) (.cells #[.int .i64 k3, .int .i64 n3, .slice A3 p3.length c3] 24))
    have HBC := hid (below_then HBC.out hbD)
    clear hbD
    generalize w4.alloc (.cells #[.int .i64 k3, .int .i64 n3, .slice A3 p3.length c3] 24) = W4 at t0 t1 t2 q0 q1 q2 hSR HBC ⊢
    have HSR := hid (fun W (h : Below W4.heap.size W4 W) => hSR.below h)
    clear hSR
    have HBD := hid (below_refl W4)
    clear HP3 HPP HPA HB3 HB4
    by_cases h1 : kind < 1 ∨ 6 < kind
    · have e := HOT.out h1
      simp only [Prod.mk.injEq, Kin.Act.mk.injEq] at e
      obtain ⟨⟨e1, e2, e3⟩, e4⟩ := e
      subst e1 e2 e3 e4
      obtain rfl : ev3 = .iface 32 (.int .i64 13) := HE3.out
      clear HOT HCR HPL HE3 HSR
      by_cases h2 : kind < 1
      · clear h1
        go_wp2_with (first
      | (go_at_call 6; refine (HF.out _ HBC.out).mono ?_; rintro _ w5 ⟨rfl, hbx⟩; have q0 := cell_below hbx q0; have q1 := cell_below hbx q1; have q2 := cell_below hbx q2; have t0 := cell_below hbx t0; have t1 := cell_below hbx t1; have t2 := cell_below hbx t2; have HBC := hid (below_then HBC.out hbx); have HBD := hid (below_then HBD.out hbx); clear hbx)
      | (go_at_call 10; refine (fail_any _ _).mono ?_; rintro _ w5 ⟨rfl, hbx⟩; have q0 := cell_below hbx q0; have q1 := cell_below hbx q1; have q2 := cell_below hbx q2; have t0 := cell_below hbx t0; have t1 := cell_below hbx t1; have t2 := cell_below hbx t2; have HBC := hid (below_then HBC.out hbx); have HBD := hid (below_then HBD.out hbx); clear hbx)
      | (go_at_call 9; refine (kErr_code _ _ _ (HV.out _ HBC.out).typ true (by decide)).mono ?_; rintro _ w5 ⟨rfl, hbx⟩; have q0 := cell_below hbx q0; have q1 := cell_below hbx q1; have q2 := cell_below hbx q2; have t0 := cell_below hbx t0; have t1 := cell_below hbx t1; have t2 := cell_below hbx t2; have HBC := hid (below_then HBC.out hbx); have HBD := hid (below_then HBD.out hbx); clear hbx)
      | (go_at_call 11; refine (within_is picks _ _ _ _ (HSL.out _ HBC.out) _ HWB.out).mono ?_; rintro _ w5 ⟨rfl, hbx⟩; have q0 := cell_below hbx q0; have q1 := cell_below hbx q1; have q2 := cell_below hbx q2; have t0 := cell_below hbx t0; have t1 := cell_below hbx t1; have t2 := cell_below hbx t2; have HBC := hid (below_then HBC.out hbx); have HBD := hid (below_then HBD.out hbx); clear hbx)
      | (go_at_call 12; refine (ints_same picks _ _ _ (HSR.out _ HBD.out) (HSL.out _ HBC.out)).mono ?_; rintro _ w5 ⟨rfl, hbx⟩; have q0 := cell_below hbx q0; have q1 := cell_below hbx q1; have q2 := cell_below hbx q2; have t0 := cell_below hbx t0; have t1 := cell_below hbx t1; have t2 := cell_below hbx t2; have HBC := hid (below_then HBC.out hbx); have HBD := hid (below_then HBD.out hbx); clear hbx))
        go_ret
        exact ⟨rfl, HBC.out⟩
      · have h3 : kind > 6 := by omega
        clear h1
        go_wp2_with (first
      | (go_at_call 6; refine (HF.out _ HBC.out).mono ?_; rintro _ w5 ⟨rfl, hbx⟩; have q0 := cell_below hbx q0; have q1 := cell_below hbx q1; have q2 := cell_below hbx q2; have t0 := cell_below hbx t0; have t1 := cell_below hbx t1; have t2 := cell_below hbx t2; have HBC := hid (below_then HBC.out hbx); have HBD := hid (below_then HBD.out hbx); clear hbx)
      | (go_at_call 10; refine (fail_any _ _).mono ?_; rintro _ w5 ⟨rfl, hbx⟩; have q0 := cell_below hbx q0; have q1 := cell_below hbx q1; have q2 := cell_below hbx q2; have t0 := cell_below hbx t0; have t1 := cell_below hbx t1; have t2 := cell_below hbx t2; have HBC := hid (below_then HBC.out hbx); have HBD := hid (below_then HBD.out hbx); clear hbx)
      | (go_at_call 9; refine (kErr_code _ _ _ (HV.out _ HBC.out).typ true (by decide)).mono ?_; rintro _ w5 ⟨rfl, hbx⟩; have q0 := cell_below hbx q0; have q1 := cell_below hbx q1; have q2 := cell_below hbx q2; have t0 := cell_below hbx t0; have t1 := cell_below hbx t1; have t2 := cell_below hbx t2; have HBC := hid (below_then HBC.out hbx); have HBD := hid (below_then HBD.out hbx); clear hbx)
      | (go_at_call 11; refine (within_is picks _ _ _ _ (HSL.out _ HBC.out) _ HWB.out).mono ?_; rintro _ w5 ⟨rfl, hbx⟩; have q0 := cell_below hbx q0; have q1 := cell_below hbx q1; have q2 := cell_below hbx q2; have t0 := cell_below hbx t0; have t1 := cell_below hbx t1; have t2 := cell_below hbx t2; have HBC := hid (below_then HBC.out hbx); have HBD := hid (below_then HBD.out hbx); clear hbx)
      | (go_at_call 12; refine (ints_same picks _ _ _ (HSR.out _ HBD.out) (HSL.out _ HBC.out)).mono ?_; rintro _ w5 ⟨rfl, hbx⟩; have q0 := cell_below hbx q0; have q1 := cell_below hbx q1; have q2 := cell_below hbx q2; have t0 := cell_below hbx t0; have t1 := cell_below hbx t1; have t2 := cell_below hbx t2; have HBC := hid (below_then HBC.out hbx); have HBD := hid (below_then HBD.out hbx); clear hbx))
        go_ret
        exact ⟨rfl, HBC.out⟩
    · have j1 : ¬ kind < 1 := by omega
      have j2 : ¬ kind > 6 := by omega
      clear h1 HOT
      by_cases f1 : n ≤ -1000000000000000000
      · clear HCR HPL HE3 HSR
        go_wp2_with (first
      | (go_at_call 6; refine (HF.out _ HBC.out).mono ?_; rintro _ w5 ⟨rfl, hbx⟩; have q0 := cell_below hbx q0; have q1 := cell_below hbx q1; have q2 := cell_below hbx q2; have t0 := cell_below hbx t0; have t1 := cell_below hbx t1; have t2 := cell_below hbx t2; have HBC := hid (below_then HBC.out hbx); have HBD := hid (below_then HBD.out hbx); clear hbx)
      | (go_at_call 10; refine (fail_any _ _).mono ?_; rintro _ w5 ⟨rfl, hbx⟩; have q0 := cell_below hbx q0; have q1 := cell_below hbx q1; have q2 := cell_below hbx q2; have t0 := cell_below hbx t0; have t1 := cell_below hbx t1; have t2 := cell_below hbx t2; have HBC := hid (below_then HBC.out hbx); have HBD := hid (below_then HBD.out hbx); clear hbx)
      | (go_at_call 9; refine (kErr_code _ _ _ (HV.out _ HBC.out).typ true (by decide)).mono ?_; rintro _ w5 ⟨rfl, hbx⟩; have q0 := cell_below hbx q0; have q1 := cell_below hbx q1; have q2 := cell_below hbx q2; have t0 := cell_below hbx t0; have t1 := cell_below hbx t1; have t2 := cell_below hbx t2; have HBC := hid (below_then HBC.out hbx); have HBD := hid (below_then HBD.out hbx); clear hbx)
      | (go_at_call 11; refine (within_is picks _ _ _ _ (HSL.out _ HBC.out) _ HWB.out).mono ?_; rintro _ w5 ⟨rfl, hbx⟩; have q0 := cell_below hbx q0; have q1 := cell_below hbx q1; have q2 := cell_below hbx q2; have t0 := cell_below hbx t0; have t1 := cell_below hbx t1; have t2 := cell_below hbx t2; have HBC := hid (below_then HBC.out hbx); have HBD := hid (below_then HBD.out hbx); clear hbx)
      | (go_at_call 12; refine (ints_same picks _ _ _ (HSR.out _ HBD.out) (HSL.out _ HBC.out)).mono ?_; rintro _ w5 ⟨rfl, hbx⟩; have q0 := cell_below hbx q0; have q1 := cell_below hbx q1; have q2 := cell_below hbx q2; have t0 := cell_below hbx t0; have t1 := cell_below hbx t1; have t2 := cell_below hbx t2; have HBC := hid (below_then HBC.out hbx); have HBD := hid (below_then HBD.out hbx); clear hbx))
        go_ret
        exact ⟨rfl, HBC.out⟩
      · by_cases f2 : n ≥ 1000000000000000000
        · clear HCR HPL HE3 HSR
          go_wp2_with (first
      | (go_at_call 6; refine (HF.out _ HBC.out).mono ?_; rintro _ w5 ⟨rfl, hbx⟩; have q0 := cell_below hbx q0; have q1 := cell_below hbx q1; have q2 := cell_below hbx q2; have t0 := cell_below hbx t0; have t1 := cell_below hbx t1; have t2 := cell_below hbx t2; have HBC := hid (below_then HBC.out hbx); have HBD := hid (below_then HBD.out hbx); clear hbx)
      | (go_at_call 10; refine (fail_any _ _).mono ?_; rintro _ w5 ⟨rfl, hbx⟩; have q0 := cell_below hbx q0; have q1 := cell_below hbx q1; have q2 := cell_below hbx q2; have t0 := cell_below hbx t0; have t1 := cell_below hbx t1; have t2 := cell_below hbx t2; have HBC := hid (below_then HBC.out hbx); have HBD := hid (below_then HBD.out hbx); clear hbx)
      | (go_at_call 9; refine (kErr_code _ _ _ (HV.out _ HBC.out).typ true (by decide)).mono ?_; rintro _ w5 ⟨rfl, hbx⟩; have q0 := cell_below hbx q0; have q1 := cell_below hbx q1; have q2 := cell_below hbx q2; have t0 := cell_below hbx t0; have t1 := cell_below hbx t1; have t2 := cell_below hbx t2; have HBC := hid (below_then HBC.out hbx); have HBD := hid (below_then HBD.out hbx); clear hbx)
      | (go_at_call 11; refine (within_is picks _ _ _ _ (HSL.out _ HBC.out) _ HWB.out).mono ?_; rintro _ w5 ⟨rfl, hbx⟩; have q0 := cell_below hbx q0; have q1 := cell_below hbx q1; have q2 := cell_below hbx q2; have t0 := cell_below hbx t0; have t1 := cell_below hbx t1; have t2 := cell_below hbx t2; have HBC := hid (below_then HBC.out hbx); have HBD := hid (below_then HBD.out hbx); clear hbx)
      | (go_at_call 12; refine (ints_same picks _ _ _ (HSR.out _ HBD.out) (HSL.out _ HBC.out)).mono ?_; rintro _ w5 ⟨rfl, hbx⟩; have q0 := cell_below hbx q0; have q1 := cell_below hbx q1; have q2 := cell_below hbx q2; have t0 := cell_below hbx t0; have t1 := cell_below hbx t1; have t2 := cell_below hbx t2; have HBC := hid (below_then HBC.out hbx); have HBD := hid (below_then HBD.out hbx); clear hbx))
          go_ret
          exact ⟨rfl, HBC.out⟩
        · generalize hwb : withinB picks (-999999999999999999) 999999999999999999 = b0
          have HWB := hid hwb
          clear hwb
          cases b0 with
          | false =>
            clear HCR HPL HE3 HSR
            go_wp2_with (first
      | (go_at_call 6; refine (HF.out _ HBC.out).mono ?_; rintro _ w5 ⟨rfl, hbx⟩; have q0 := cell_below hbx q0; have q1 := cell_below hbx q1; have q2 := cell_below hbx q2; have t0 := cell_below hbx t0; have t1 := cell_below hbx t1; have t2 := cell_below hbx t2; have HBC := hid (below_then HBC.out hbx); have HBD := hid (below_then HBD.out hbx); clear hbx)
      | (go_at_call 10; refine (fail_any _ _).mono ?_; rintro _ w5 ⟨rfl, hbx⟩; have q0 := cell_below hbx q0; have q1 := cell_below hbx q1; have q2 := cell_below hbx q2; have t0 := cell_below hbx t0; have t1 := cell_below hbx t1; have t2 := cell_below hbx t2; have HBC := hid (below_then HBC.out hbx); have HBD := hid (below_then HBD.out hbx); clear hbx)
      | (go_at_call 9; refine (kErr_code _ _ _ (HV.out _ HBC.out).typ true (by decide)).mono ?_; rintro _ w5 ⟨rfl, hbx⟩; have q0 := cell_below hbx q0; have q1 := cell_below hbx q1; have q2 := cell_below hbx q2; have t0 := cell_below hbx t0; have t1 := cell_below hbx t1; have t2 := cell_below hbx t2; have HBC := hid (below_then HBC.out hbx); have HBD := hid (below_then HBD.out hbx); clear hbx)
      | (go_at_call 11; refine (within_is picks _ _ _ _ (HSL.out _ HBC.out) _ HWB.out).mono ?_; rintro _ w5 ⟨rfl, hbx⟩; have q0 := cell_below hbx q0; have q1 := cell_below hbx q1; have q2 := cell_below hbx q2; have t0 := cell_below hbx t0; have t1 := cell_below hbx t1; have t2 := cell_below hbx t2; have HBC := hid (below_then HBC.out hbx); have HBD := hid (below_then HBD.out hbx); clear hbx)
      | (go_at_call 12; refine (ints_same picks _ _ _ (HSR.out _ HBD.out) (HSL.out _ HBC.out)).mono ?_; rintro _ w5 ⟨rfl, hbx⟩; have q0 := cell_below hbx q0; have q1 := cell_below hbx q1; have q2 := cell_below hbx q2; have t0 := cell_below hbx t0; have t1 := cell_below hbx t1; have t2 := cell_below hbx t2; have HBC := hid (below_then HBC.out hbx); have HBD := hid (below_then HBD.out hbx); clear hbx))
            go_ret
            exact ⟨rfl, HBC.out⟩
          | true =>
            by_cases hk2 : kind = 2
            · have e := HCR.out hk2 (within_yes HWB.out)
              simp only [Prod.mk.injEq, Kin.Act.mk.injEq] at e
              obtain ⟨⟨e1, e2, e3⟩, e4⟩ := e
              subst k3 n3 p3 r3
              obtain rfl : ev3 = .nilIface := HE3.out
              subst hk2
              clear HCR HPL HE3
              go_wp2_with (first
      | (go_at_call 6; refine (HF.out _ HBC.out).mono ?_; rintro _ w5 ⟨rfl, hbx⟩; have q0 := cell_below hbx q0; have q1 := cell_below hbx q1; have q2 := cell_below hbx q2; have t0 := cell_below hbx t0; have t1 := cell_below hbx t1; have t2 := cell_below hbx t2; have HBC := hid (below_then HBC.out hbx); have HBD := hid (below_then HBD.out hbx); clear hbx)
      | (go_at_call 10; refine (fail_any _ _).mono ?_; rintro _ w5 ⟨rfl, hbx⟩; have q0 := cell_below hbx q0; have q1 := cell_below hbx q1; have q2 := cell_below hbx q2; have t0 := cell_below hbx t0; have t1 := cell_below hbx t1; have t2 := cell_below hbx t2; have HBC := hid (below_then HBC.out hbx); have HBD := hid (below_then HBD.out hbx); clear hbx)
      | (go_at_call 9; refine (kErr_code _ _ _ (HV.out _ HBC.out).typ true (by decide)).mono ?_; rintro _ w5 ⟨rfl, hbx⟩; have q0 := cell_below hbx q0; have q1 := cell_below hbx q1; have q2 := cell_below hbx q2; have t0 := cell_below hbx t0; have t1 := cell_below hbx t1; have t2 := cell_below hbx t2; have HBC := hid (below_then HBC.out hbx); have HBD := hid (below_then HBD.out hbx); clear hbx)
      | (go_at_call 11; refine (within_is picks _ _ _ _ (HSL.out _ HBC.out) _ HWB.out).mono ?_; rintro _ w5 ⟨rfl, hbx⟩; have q0 := cell_below hbx q0; have q1 := cell_below hbx q1; have q2 := cell_below hbx q2; have t0 := cell_below hbx t0; have t1 := cell_below hbx t1; have t2 := cell_below hbx t2; have HBC := hid (below_then HBC.out hbx); have HBD := hid (below_then HBD.out hbx); clear hbx)
      | (go_at_call 12; refine (ints_same picks _ _ _ (HSR.out _ HBD.out) (HSL.out _ HBC.out)).mono ?_; rintro _ w5 ⟨rfl, hbx⟩; have q0 := cell_below hbx q0; have q1 := cell_below hbx q1; have q2 := cell_below hbx q2; have t0 := cell_below hbx t0; have t1 := cell_below hbx t1; have t2 := cell_below hbx t2; have HBC := hid (below_then HBC.out hbx); have HBD := hid (below_then HBD.out hbx); clear hbx))
              go_ret
              exact ⟨rfl, HBC.out⟩
            · have e := HPL.out (by omega) (by omega) hk2 (by omega) (by omega)
              simp only [Prod.mk.injEq, Kin.Act.mk.injEq] at e
              obtain ⟨⟨e1, e2, e3⟩, e4⟩ := e
              subst k3 n3 p3 r3
              obtain rfl : ev3 = .nilIface := HE3.out
              clear HCR HPL HE3 HSR
              go_wp2_with (first
      | (go_at_call 6; refine (HF.out _ HBC.out).mono ?_; rintro _ w5 ⟨rfl, hbx⟩; have q0 := cell_below hbx q0; have q1 := cell_below hbx q1; have q2 := cell_below hbx q2; have t0 := cell_below hbx t0; have t1 := cell_below hbx t1; have t2 := cell_below hbx t2; have HBC := hid (below_then HBC.out hbx); have HBD := hid (below_then HBD.out hbx); clear hbx)
      | (go_at_call 10; refine (fail_any _ _).mono ?_; rintro _ w5 ⟨rfl, hbx⟩; have q0 := cell_below hbx q0; have q1 := cell_below hbx q1; have q2 := cell_below hbx q2; have t0 := cell_below hbx t0; have t1 := cell_below hbx t1; have t2 := cell_below hbx t2; have HBC := hid (below_then HBC.out hbx); have HBD := hid (below_then HBD.out hbx); clear hbx)
      | (go_at_call 9; refine (kErr_code _ _ _ (HV.out _ HBC.out).typ true (by decide)).mono ?_; rintro _ w5 ⟨rfl, hbx⟩; have q0 := cell_below hbx q0; have q1 := cell_below hbx q1; have q2 := cell_below hbx q2; have t0 := cell_below hbx t0; have t1 := cell_below hbx t1; have t2 := cell_below hbx t2; have HBC := hid (below_then HBC.out hbx); have HBD := hid (below_then HBD.out hbx); clear hbx)
      | (go_at_call 11; refine (within_is picks _ _ _ _ (HSL.out _ HBC.out) _ HWB.out).mono ?_; rintro _ w5 ⟨rfl, hbx⟩; have q0 := cell_below hbx q0; have q1 := cell_below hbx q1; have q2 := cell_below hbx q2; have t0 := cell_below hbx t0; have t1 := cell_below hbx t1; have t2 := cell_below hbx t2; have HBC := hid (below_then HBC.out hbx); have HBD := hid (below_then HBD.out hbx); clear hbx)
      | (go_at_call 12; refine (ints_same picks _ _ _ (HSR.out _ HBD.out) (HSL.out _ HBC.out)).mono ?_; rintro _ w5 ⟨rfl, hbx⟩; have q0 := cell_below hbx q0; have q1 := cell_below hbx q1; have q2 := cell_below hbx q2; have t0 := cell_below hbx t0; have t1 := cell_below hbx t1; have t2 := cell_below hbx t2; have HBC := hid (below_then HBC.out hbx); have HBD := hid (below_then HBD.out hbx); clear hbx))
              go_ret
              exact ⟨rfl, HBC.out⟩
end Go.Proofs
