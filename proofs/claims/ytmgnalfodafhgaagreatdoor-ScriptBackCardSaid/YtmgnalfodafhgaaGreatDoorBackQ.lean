/-
  PROVED: kinlaw31.ScriptBack returns true for every act and every string, and both read behind the call as they read before (the statement Rows.ScriptBackSaid, and its tied card Rows.ScriptBackCardSaid). CONDITIONS: none but the row's own: the package-level variables that the row lists hold, when the call begins, what the row says that they hold; the card ties that to the program's text.
-/
import Derived.Test.YtmgnalfodafhgaaGreatDoorLaid0
import Derived.Test.YtmgnalfodafhgaaGreatDoorBack2
import Derived.Test.YtmgnalfodafhgaaGreatDoorBackF
import Derived.Test.YtmgnalfodafhgaaGreatDoorFactsF
import Derived.Test.YtmgnalfodafhgaaGreatDoorCutsG
import Derived.ChangeMaps5
import Derived.Deep.Strs
set_option linter.unusedVariables false
set_option linter.unusedSimpArgs false
namespace Go.Kin
open Go.ChangeShapes Go.WideShapes Go.ChangeAt Go.RowKit
theorem wf_i64 {x : Int} (h : (Lit.int .i64 x).wf = true) : -9223372036854775808 ≤ x ∧ x ≤ 9223372036854775807 := by
  have e : (Lit.int .i64 x).wf = (decide (-9223372036854775808 ≤ x) && decide (x ≤ 9223372036854775807)) := rfl
  rw [e] at h
  simpa using h
theorem addr_add (b off j : Nat) : (⟨b, off, none⟩ : Addr).add j = ⟨b, off + j, none⟩ := by
  unfold Addr.add
  split
  · rename_i h0; simp [h0]
  · rfl
/-- A slice of integers that came in, by its one cell. -/
theorem open_nums {H : Type} {enc : TypeId × Value → H} {P : Program} {W : World} {t e : TypeId} {k : IntKind} {fuel : Nat} {cell : Value} {x : DataW H × List MemPlace} (ht : P.underlying t = some (.slice e)) (he : P.underlying e = some (.int k)) (hc : P.cellsOf e = 1)
    (h : DataW.trod enc P W 0 (fun _ => true) true fuel t [cell] = some x) :
    ∃ (A : Option Addr) (cap : Nat) (xs : List Int), cell = .slice A xs.length cap ∧ xs.length ≤ 9223372036854775807 ∧ SlI k W (.slice A xs.length cap) xs ∧ ∀ x ∈ xs, (Lit.int k x).wf = true := by
  rcases open_ints ht he hc h with ⟨hcs, _⟩ | ⟨a, len, cap, zs, hcs, _, hl, hm, hz, _, hcell, hwz⟩
  · obtain rfl : cell = .slice none 0 0 := by simpa using hcs
    exact ⟨none, 0, [], rfl, by decide, ⟨none, 0, rfl, by decide, fun h => absurd h (by decide)⟩, fun x hx => by cases hx⟩
  · obtain rfl : cell = .slice (some a) len cap := by simpa using hcs
    have hz' : zs.length = cap := by simpa using hz
    have hm' : cap ≤ 9223372036854775807 := by unfold maxLen at hm; omega
    have htl : (zs.take len).length = len := by rw [List.length_take]; omega
    refine ⟨some a, cap, zs.take len, by rw [htl], by omega, ⟨some a, cap, rfl, by omega, fun hp => ?_⟩, fun x hx => hwz x (List.mem_of_mem_take hx)⟩
    obtain ⟨b, off, spot⟩ := a
    have hs : spot = none := by simpa [Addr.add] using World.cell?_spot (hcell 0 (by omega))
    subst hs
    refine ⟨b, off, rfl, fun j hj => ?_⟩
    rw [htl] at hj
    have := hcell j (by omega)
    have hg : (zs.take len).getD j 0 = zs.getD j 0 := by
      rw [List.getD_eq_getElem?_getD, List.getD_eq_getElem?_getD, List.getElem?_take_of_lt hj]
    rw [hg, ← addr_add]
    exact this
/-- A struct of two ints and a slice of ints that came in. -/
theorem open_act {H : Type} {enc : TypeId × Value → H} {P : Program} {W : World} {base : Nat} {t ti ts : TypeId} {f0 f1 f2 : Field} {v : Value} {d : DataW H} {ps : List MemPlace}
    (ht : P.underlying t = some (.struct #[f0, f1, f2])) (e0 : f0.type = ti ∧ f0.offset = 0) (e1 : f1.type = ti ∧ f1.offset = 1) (e2 : f2.type = ts ∧ f2.offset = 2)
    (hi : P.underlying ti = some (.int .i64)) (hci : P.cellsOf ti = 1) (hts : P.underlying ts = some (.slice ti)) (hcs : P.cellsOf ts = 1) (hct : P.cellsOf t = 3)
    (hv : Value.okWide P W .any base t v) (h : DataW.Trod enc P W 0 (fun _ => true) true t v d ps) :
    ∃ (k n : Int) (A : Option Addr) (cap : Nat) (xs : List Int), v = .agg #[.int .i64 k, .int .i64 n, .slice A xs.length cap] ∧ (-9223372036854775808 ≤ k ∧ k ≤ 9223372036854775807) ∧ (-9223372036854775808 ≤ n ∧ n ≤ 9223372036854775807) ∧
      xs.length ≤ 9223372036854775807 ∧ SlI .i64 W (.slice A xs.length cap) xs ∧ ∀ x ∈ xs, -9223372036854775808 ≤ x ∧ x ≤ 9223372036854775807 := by
  obtain ⟨cs, rfl, hsz⟩ := okWide_struct ht hv
  obtain ⟨fuel, hf⟩ := h
  have hf' : DataW.trod enc P W 0 (fun _ => true) true fuel t cs.toList = some (d, ps) := hf
  obtain ⟨l⟩ := cs
  rw [hct] at hsz
  match l, hsz, hf' with
  | [a, b, c], _, hf' =>
    obtain ⟨y0, y1, y2, m, _, _, h0, h1, h2⟩ := Deep.trod_struct3 ht hf'
    rw [e0.1, e0.2, hci] at h0
    rw [e1.1, e1.2, hci] at h1
    rw [e2.1, e2.2, hcs] at h2
    obtain ⟨k, k1, _, k2⟩ := DataW.trod_int hi h0
    obtain ⟨n, n1, _, n2⟩ := DataW.trod_int hi h1
    have h2' : DataW.trod enc P W 0 (fun _ => true) true m ts [c] = some y2 := h2
    obtain ⟨A, cap, xs, rfl, hm, hs, hw⟩ := open_nums hts hi hci h2'
    have ka : a = .int .i64 k := by simpa using k1
    have nb : b = .int .i64 n := by simpa using n1
    subst ka nb
    exact ⟨k, n, A, cap, xs, rfl, wf_i64 k2, wf_i64 n2, hm, hs, fun x hx => wf_i64 (hw x hx)⟩
end Go.Kin
namespace Go.Proofs.YtmgnalfodafhgaaGreatDoor
open Go.ChangeShapes Go.WideShapes Go.ChangeAt Go.RowKit Go.Kin
set_option maxRecDepth 100000
set_option maxHeartbeats 4000000 in
theorem back_out (kind n : Int) (picks : List Int) (A : Option Addr) (c : Nat) (s : ByteArray) (w : World) (hV : VarsOk w) (hm : picks.length ≤ 9223372036854775807) (hs : s.size ≤ 9223372036854775807) (ho : 2000 < s.size ∨ 1000 < picks.length) :
    Calls Tryz.prog 3 #[.agg #[.int .i64 kind, .int .i64 n, .slice A picks.length c], .string s] w (RetYes w) := by
  have HF := hid (fun W (h : Below w.heap.size w W) => first_any W (hV.below h))
  clear hV
  by_cases h1 : (s.size : Int) > 2000
  · clear ho
    go_enter Tryz.func3, Tryz.ntmps3
    have HBC := hid (below_alloc (below_refl w) (.cells #[.int .i64 kind, .int .i64 n, .slice A picks.length c] 24))
    go_wp2_with (go_at_call 6; refine (HF.out _ HBC.out).mono ?_; rintro _ _ ⟨rfl, hbx⟩; have HBC := hid (below_then HBC.out hbx); clear hbx)
    go_ret
    exact ⟨rfl, HBC.out⟩
  · have h2 : (picks.length : Int) > 1000 := by omega
    clear ho
    go_enter Tryz.func3, Tryz.ntmps3
    go_upto_region 3 with (go_at_call 6; refine (HF.out _ (below_alloc (below_refl w) _)).mono ?_; rintro _ w1 ⟨rfl, hbx⟩; have HBX := hid hbx; clear hbx)
    have HBC := hid (below_then (below_alloc (below_refl w) _) HBX.out)
    have q2 : w1.cell? ⟨w.heap.size, 2, none⟩ = some (.slice A picks.length c) := cell_below HBX.out (cell_of_row _ _ 2 _ _ (0, 0) (heap_alloc_new w _))
    clear HBX
    go_wp2_with (go_at_call 6; refine (HF.out _ HBC.out).mono ?_; rintro _ _ ⟨rfl, hbx⟩; have HBC := hid (below_then HBC.out hbx); clear hbx)
    go_ret
    exact ⟨rfl, HBC.out⟩
theorem scriptBack_lifted (os : Os) (started : os.Started) (H : Type) (enc : TypeId × Value → H) :
    ReturnsInHanded {} Tryz.checked os 3 .any (fun w args => (Rows.scriptBackSpec.pre enc Tryz.prog Tryz.f3 Rows.scriptBackRow.domain false w args ∧ laidMetH Tryz.prog laidL w) ∧ sizedMet enc Tryz.prog Tryz.f3 (OpenSpec.ofChange Rows.scriptBackSpec) false w args)
      (Rows.scriptBackSpec.post enc Tryz.prog Tryz.f3 false true false false) := by
  refine handed_of (C := Tryz.checked) (X := fun w _ => laidMetH Tryz.prog laidL w) (fun _ _ _ hh h => h.of_heap hh) ownKnob_none started (by kernel_rfl) Tryz.func3
    (ChangeSpec.witness_shaped (enc := enc) (C := Tryz.checked) (os := os) (X := fun w _ => laidMetH Tryz.prog laidL w) false (seatWorld os) #[.agg #[.int .i64 0, .int .i64 0, .slice none 0 0], .string ⟨#[]⟩] 8 (seatWorld_os os) (seatWorld_shaped os _) (by kernel_rfl) (by kernel_rfl) (by kernel_rfl) (seatWorld_met os _)) ?_
  intro W base args ds gs before hval0 hW _ hL hS
  have hval : ∀ (j : Nat) t v, Tryz.f3.params[j]? = some t → args[j]? = some v → Value.okWide Tryz.prog W .any base t v := hval0
  have hVars : VarsOk W := varsOk_of_laid hL hS
  have hW' := hW
  obtain ⟨p, q, hA0, hV, rfl, _, _⟩ := hW
  have hA : DataW.TrodAll enc Tryz.prog W 0 (fun _ => true) true Tryz.f3.params.toList args.toList ds p := hA0
  rw [Tryz.params3] at hA hval
  obtain ⟨v0, v1, d0, d1, p0, p1, rfl, rfl, rfl, h0, h1⟩ := trodAll_two hA
  obtain ⟨rfl, rfl⟩ := trodVars_none hV
  obtain ⟨s, rfl, hse, hp1, ws⟩ := ChangeMaps.open_string Tryz.underlying9 (hval 1 9 v1 rfl rfl) h1
  obtain ⟨kind, n, A, cap, picks, rfl, hk, hn, hm, hsl, hr⟩ := open_act Tryz.underlying24 ⟨rfl, rfl⟩ ⟨rfl, rfl⟩ ⟨rfl, rfl⟩ Tryz.underlying3 (by kernel_rfl) Tryz.underlying22 (by kernel_rfl) (by kernel_rfl) (hval 0 24 v0 rfl rfl) h0
  clear hA0 hval0
  simp only [List.append_nil] at hW'
  have hlt : ∀ x ∈ p0 ++ p1, x.block < W.heap.size := fun x hx => by simpa using hW'.lt x hx
  have hcall : Calls Tryz.prog 3 #[.agg #[.int .i64 kind, .int .i64 n, .slice A picks.length cap], .string s] W (RetYes W) := by
    by_cases ho : 2000 < s.size ∨ 1000 < picks.length
    · exact back_out kind n picks A cap s W hVars hm (by have := ws; unfold maxLen at this; omega) ho
    · exact back_in kind n picks A cap s W hVars hk hn hsl (by omega) hr (by omega)
  refine hcall.mono fun e W' ⟨he, hb⟩ => ?_
  subst he
  exact ⟨_, rfl, post_of_below (pa := p0 ++ p1) (pv := []) hW' (fun _ _ _ => trodAll_mk1 (shut_bool Tryz.underlying4 _))
    (fun sp hsp => trodAll_mk2 (WideElems.Trod_stays (sp' := sp) laidOut_all (by kernel_rfl) (of_decide_eq_true (by kernel_rfl)) h0 (fun x hx => hb.same (hlt x (List.mem_append_left _ hx))) (fun x hx => hsp x (by simp [hx])))
      (WideElems.Trod_stays (sp' := sp) laidOut_all (by kernel_rfl) (of_decide_eq_true (by kernel_rfl)) h1 (fun x hx => hb.same (hlt x (List.mem_append_right _ hx))) (fun x hx => hsp x (by simp [hx]))))
    (fun _ _ => rfl) (by simp) hb (ok_one (by kernel_rfl) rfl (okWide_bool_mk Tryz.underlying4 _))⟩
/-- What the row's cells say of the program. -/
theorem back_closed : joinedFacts Tryz.prog 3 Tryz.f3 Rows.scriptBackSpec Rows.scriptBackRow = true := by
  unfold joinedFacts
  simp only [Bool.and_eq_true, beq_iff_eq]
  repeat' apply And.intro
  all_goals first
    | with_reducible exact backF1
    | with_reducible exact progF1
    | with_reducible exact progF2
    | with_reducible exact backF2
    | with_reducible exact backF3
    | with_reducible exact backF4
    | with_reducible exact backF5
    | with_reducible exact backF6
    | with_reducible exact backF7
    | with_reducible exact progF3.symm
    | with_reducible exact progF4
    | with_reducible exact progF5
    | with_reducible exact progF6.symm
    | with_reducible exact progF7
    | with_reducible exact progF8
    | with_reducible exact progF9
    | (as_aux_lemma => kernel_rfl)
theorem scriptBack_holds : Rows.ScriptBackSaid :=
  OpenClaim.holds_of_wide 3 Tryz.f3 rfl rfl rfl rfl rfl rfl rfl ⟨rfl, rfl, rfl, rfl, rfl⟩ rfl rfl rfl rfl rfl backF8 Tryz.func3 back_closed
    (of_decide_eq_true (by kernel_rfl)) (by unfold Func.isWrapper; first | (rw [if_pos (by decide +kernel)]; kernel_rfl) | (rw [if_neg (by decide +kernel)]; exact ⟨rfl, rfl⟩))
    (fun os started H enc _ => scriptBack_lifted os started H enc)
theorem scriptBack_card : Rows.ScriptBackCardSaid :=
  Claim7.holds_tied_plain_at .later [] [.data, .data, .data, .data, .handle, .sentinel, .sentinel, .pinned] true (true, "2a086c46756f5ee66d91955a544ad2cdc100406c79f0c608f65a130c9db2f02e") true
    scriptBack_holds (fun _ h => by cases h) backG1 (fun _ h => by cases h) scriptBack_row_tie rfl ⟨rfl, rfl⟩ progG1 rfl
    (fun f fn hf hfn => by
      obtain rfl : f = 3 := Option.some.inj (backF8.symm.trans hf) |>.symm
      obtain rfl : fn = Tryz.f3 := (Option.some.inj (Tryz.func3.symm.trans hfn)).symm
      exact ⟨progG2, fun j t ht => by
        rw [Tryz.params3] at ht
        have hm : t ∈ [24, 9] := by simpa using Array.mem_of_getElem? ht
        have hall := backG3
        exact (show Tryz.prog.wantsStandIn t = false by simpa using List.all_eq_true.1 hall t hm)⟩)
    (goesBy_none _ rfl)
end Go.Proofs.YtmgnalfodafhgaaGreatDoor
#print axioms Go.Proofs.YtmgnalfodafhgaaGreatDoor.scriptBack_card
