/-
  PROVED: kinlaw31.ScriptCuts returns true for every slice of bytes and every int, and the slice reads behind the call as it read before (the statement Rows.ScriptCutsSaid, and its tied card Rows.ScriptCutsCardSaid). CONDITIONS: none but the row's own: the package-level variables that the row lists hold, when the call begins, what the row says that they hold; the card ties that to the program's text.
-/
import Derived.Test.YtmgnalfodafhgaaGreatDoorLaid0
import Derived.Test.YtmgnalfodafhgaaGreatDoorCuts0
import Derived.Test.YtmgnalfodafhgaaGreatDoorCutsF
import Derived.Test.YtmgnalfodafhgaaGreatDoorCutsE
import Derived.Test.YtmgnalfodafhgaaGreatDoorFactsF
import Derived.Test.YtmgnalfodafhgaaGreatDoorCutsG
set_option linter.unusedVariables false
set_option linter.unusedSimpArgs false
namespace Go.Proofs.YtmgnalfodafhgaaGreatDoor
open Go.ChangeShapes Go.WideShapes Go.ChangeAt Go.RowKit Go.Kin
set_option maxRecDepth 100000
theorem scriptCuts_lifted (os : Os) (started : os.Started) (H : Type) (enc : TypeId × Value → H) :
    ReturnsInHanded {} Tryz.checked os 5 .any (fun w args => (Rows.scriptCutsSpec.pre enc Tryz.prog Tryz.f5 Rows.scriptCutsRow.domain false w args ∧ laidMetH Tryz.prog laidL w) ∧ sizedMet enc Tryz.prog Tryz.f5 (OpenSpec.ofChange Rows.scriptCutsSpec) false w args)
      (Rows.scriptCutsSpec.post enc Tryz.prog Tryz.f5 false true false false) := by
  refine handed_of (C := Tryz.checked) (X := fun w _ => laidMetH Tryz.prog laidL w) (fun _ _ _ hh h => h.of_heap hh) ownKnob_none started (by kernel_rfl) Tryz.func5
    (ChangeSpec.witness_shaped (enc := enc) (C := Tryz.checked) (os := os) (X := fun w _ => laidMetH Tryz.prog laidL w) false (seatWorld os) #[.slice none 0 0, .int .i64 0] 8 (seatWorld_os os) (seatWorld_shaped os _) (by kernel_rfl) (by kernel_rfl) (by kernel_rfl) (seatWorld_met os _)) ?_
  intro W base args ds gs before hval0 hW _ hL hS
  have hval : ∀ (j : Nat) t v, Tryz.f5.params[j]? = some t → args[j]? = some v → Value.okWide Tryz.prog W .any base t v := hval0
  have hVars : VarsOk W := varsOk_of_laid hL hS
  have hW' := hW
  obtain ⟨p, q, hA0, hV, rfl, _, _⟩ := hW
  have hA : DataW.TrodAll enc Tryz.prog W 0 (fun _ => true) true Tryz.f5.params.toList args.toList ds p := hA0
  rw [Tryz.params5] at hA hval
  obtain ⟨v0, v1, d0, d1, p0, p1, rfl, rfl, rfl, h0, h1⟩ := trodAll_two hA
  obtain ⟨rfl, rfl⟩ := trodVars_none hV
  have ho1 := hval 1 3 v1 rfl rfl
  obtain ⟨n, rfl, rfl, rfl, wn⟩ := open_int Tryz.underlying3 ho1 h1
  obtain ⟨A, len, cap, rfl⟩ := okWide_slice Tryz.underlying40 (hval 0 40 v0 rfl rfl)
  obtain ⟨bs, rfl, hm, hsl, hby⟩ := open_bytes Tryz.underlying40 Tryz.underlying5 (by kernel_rfl) h0
  clear hA0 hval0
  simp only [List.append_nil] at hW'
  have hlt : ∀ x ∈ p0, x.block < W.heap.size := fun x hx => by simpa using hW'.lt x hx
  have hcall : Calls Tryz.prog 5 #[.slice A bs.length cap, .int .i64 n] W (RetTrue W) := by
    by_cases ho : 2000 < bs.length ∨ n < 0 ∨ (bs.length : Int) < n
    · exact cuts_out bs A cap n W hVars (by omega) ho
    · obtain ⟨a, rfl⟩ : ∃ a : Nat, n = a := ⟨n.toNat, by omega⟩
      exact cuts_in bs A cap a W hVars hsl hby (by omega) (by omega)
  refine hcall.mono fun e W' ⟨he, hb⟩ => ?_
  subst he
  exact ⟨_, rfl, post_of_below (pa := p0) (pv := []) hW' (fun _ _ _ => trodAll_mk1 (shut_bool Tryz.underlying4 _))
    (fun sp hsp => by
      have := trodAll_mk2 (WideElems.Trod_stays (sp' := sp) laidOut_all (by kernel_rfl) (of_decide_eq_true (by kernel_rfl)) h0 (fun x hx => hb.same (hlt x hx)) (fun x hx => hsp x (by simpa using hx))) (shut_int (enc := enc) (w := W') (base := 0) (spare := sp) (held := true) Tryz.underlying3 wn)
      rw [List.append_nil] at this
      exact this)
    (fun _ _ => rfl) (by simp) hb (ok_one (by kernel_rfl) rfl (okWide_bool_mk Tryz.underlying4 _))⟩
/-- What the row's cells say of the program. -/
theorem cuts_closed : joinedFacts Tryz.prog 5 Tryz.f5 Rows.scriptCutsSpec Rows.scriptCutsRow = true := by
  unfold joinedFacts
  simp only [Bool.and_eq_true, beq_iff_eq]
  repeat' apply And.intro
  all_goals first
    | with_reducible exact cutsF1
    | with_reducible exact progF1
    | with_reducible exact progF2
    | with_reducible exact cutsF2
    | with_reducible exact cutsF3
    | with_reducible exact cutsF4
    | with_reducible exact cutsF5
    | with_reducible exact cutsF6
    | with_reducible exact cutsF7
    | with_reducible exact progF3.symm
    | with_reducible exact progF4
    | with_reducible exact progF5
    | with_reducible exact progF6.symm
    | with_reducible exact progF7
    | with_reducible exact progF8
    | with_reducible exact progF9
    | (as_aux_lemma => kernel_rfl)
theorem scriptCuts_holds : Rows.ScriptCutsSaid :=
  OpenClaim.holds_of_wide 5 Tryz.f5 rfl rfl rfl rfl rfl rfl rfl ⟨rfl, rfl, rfl, rfl, rfl⟩ rfl rfl rfl rfl rfl cutsF8 Tryz.func5 cuts_closed
    (of_decide_eq_true (by kernel_rfl)) (by unfold Func.isWrapper; first | (rw [if_pos (by decide +kernel)]; kernel_rfl) | (rw [if_neg (by decide +kernel)]; exact ⟨rfl, rfl⟩))
    (fun os started H enc _ => scriptCuts_lifted os started H enc)
theorem scriptCuts_card : Rows.ScriptCutsCardSaid :=
  Claim7.holds_tied_plain_at .later [] [.data, .data, .data, .data, .handle, .sentinel, .sentinel, .pinned] true (true, "2a086c46756f5ee66d91955a544ad2cdc100406c79f0c608f65a130c9db2f02e") true
    scriptCuts_holds (fun _ h => by cases h) cutsG1 (fun _ h => by cases h) scriptCuts_row_tie rfl ⟨rfl, rfl⟩ progG1 rfl
    (fun f fn hf hfn => by
      obtain rfl : f = 5 := Option.some.inj (cutsF8.symm.trans hf) |>.symm
      obtain rfl : fn = Tryz.f5 := (Option.some.inj (Tryz.func5.symm.trans hfn)).symm
      exact ⟨progG2, fun j t ht => by
        rw [Tryz.params5] at ht
        have hm : t ∈ [40, 3] := by simpa using Array.mem_of_getElem? ht
        have hall := cutsG3
        exact (show Tryz.prog.wantsStandIn t = false by simpa using List.all_eq_true.1 hall t hm)⟩)
    (goesBy_none _ rfl)
end Go.Proofs.YtmgnalfodafhgaaGreatDoor
#print axioms Go.Proofs.YtmgnalfodafhgaaGreatDoor.scriptCuts_card
