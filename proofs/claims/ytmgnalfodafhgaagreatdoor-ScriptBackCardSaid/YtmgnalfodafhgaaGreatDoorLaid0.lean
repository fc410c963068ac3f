import Derived.Test.YtmgnalfodafhgaaGreatDoorRows
import Derived.Test.YtmgnalfodafhgaaGreatDoorTxt0
import Derived.ProofKit
import Derived.Lay
import Derived.LaidMore
import Derived.LaidHandle
import Derived.HandedShaped
import Derived.Carry
import Derived.Lib.LaidTab
import Derived.Shelf.Vars
import Derived.ChangeSlices
set_option linter.unusedVariables false
set_option linter.unusedSimpArgs false
namespace Go.Kin
open Go.ChangeShapes Go.WideShapes Go.ChangeAt Go.RowKit
section
variable {H : Type} {enc : TypeId × Value → H}
/-- As the kit's wrap with a condition on the world, the world's shape kept. -/
theorem handed_of {a : Assume} {C : Checked} {os : Os} {f : FuncId} {fn : Func} {s : ChangeSpec} {conds : List PathCond} {apart fresh handsOn again : Bool} {X : World → Array Value → Prop}
    (hX : ∀ (w w' : World) (args : Array Value), w.heap = w'.heap → X w args → X w' args)
    (own : ownKnob C.prog.godebug = none) (started : os.Started) (noInit : C.prog.inits.idxOf? f = none) (hfn : C.prog.funcs[f]? = some fn)
    (witness : ∃ (w : World) (tape : Tape) (i : Input), w.os = os ∧ (w.forCall tape i).Shaped C.prog ∧ i.vars = [] ∧ Input.okWide C.prog (w.forCall tape i) .any w.heap.size f i ∧
      ((s.pre enc C.prog fn conds apart (w.forCall tape i).memory i.args ∧ X (w.forCall tape i).memory i.args) ∧ sizedMet enc C.prog fn (OpenSpec.ofChange s) apart (w.forCall tape i).memory i.args) ∧ a.holds C.prog (lone (Frame.enter C.prog f i.args .normal) [] (w.forCall tape i)))
    (contract : ∀ (W : World) (base : Nat) (args : Array Value) (ds gs : List (DataW H)) (before : List MemPlace),
      (∀ (j : Nat) t v, fn.params[j]? = some t → args[j]? = some v → Value.okWide C.prog W .any base t v) →
      DataW.Whole enc C.prog fn.params.toList s.vars apart W args.toList ds gs before →
      conds.all (PathCond.test C.prog ⟨fn.params.toList, ds, s.plain.varTypes C.prog, gs⟩) = true →
      X W args → W.ShapedOpen C.prog →
      Calls C.prog f args W fun e W' => ∃ v, e = .returned v ∧ s.post enc C.prog fn apart fresh handsOn again W args v W') :
    ReturnsInHanded a C os f .any (fun w args => (s.pre enc C.prog fn conds apart w args ∧ X w args) ∧ sizedMet enc C.prog fn (OpenSpec.ofChange s) apart w args) (s.post enc C.prog fn apart fresh handsOn again) := by
  refine returnsInHanded_of_calls own started noInit witness ?_
  intro w tape i _ hsh _ hok hpre _
  obtain ⟨_, _, _, fn', hfn', _, _, _, _, hval⟩ := hok
  have e : fn' = fn := Option.some.inj (hfn'.symm.trans hfn)
  subst e
  obtain ⟨⟨⟨ds, gs, before, hw, hc⟩, hx⟩, _⟩ := hpre
  have hw' := DataW.Whole.of_heap (w' := w.forCall tape i) (by rfl) hw
  refine (contract (w.forCall tape i) w.heap.size i.args ds gs before hval hw' hc (hX _ _ _ (by rfl) hx) hsh).mono fun e W' ⟨v, he, hp⟩ => ?_
  subst he
  exact ChangeSpec.post_blind hp
/-- The end of a law that leaves only new memory behind it. -/
theorem post_of_below {P : Program} {f : Func} {s : ChangeSpec} {apart fresh handsOn again : Bool} {W W' : World} {args : Array Value} {v : Value} {ds gs : List (DataW H)} {before pa pv : List MemPlace}
    (hW : DataW.Whole enc P f.params.toList s.vars apart W args.toList ds gs before)
    (hres : ∀ (b : Nat) (sp : Nat → Bool) (hd : Bool), DataW.TrodAll enc P W' b sp hd f.resultTypes.toList (v.resultList f.resultTypes.size) (s.fn H (ds ++ gs)).results [])
    (hargs : ∀ sp : Nat → Bool, (∀ p ∈ before, sp p.block = true) → DataW.TrodAll enc P W' 0 sp true f.params.toList args.toList (s.fn H (ds ++ gs)).args pa)
    (hvars : ∀ sp : Nat → Bool, (∀ p ∈ before, sp p.block = true) → DataW.TrodVars enc P W' sp s.vars (s.fn H (ds ++ gs)).vars pv)
    (hps : before = pa ++ pv) (hb : Below W.heap.size W W')
    (hok : ∀ (j : Nat) (t : TypeId) (r : Value), f.resultTypes[j]? = some t → (v.resultList f.resultTypes.size)[j]? = some r → Value.okWide P W' .any 0 t r) :
    s.post enc P f apart fresh handsOn again W args v W' := by
  have hold : ∀ p ∈ before, (fun b => decide (b < W.heap.size)) p.block = true := fun p hp => by simpa using hW.lt p hp
  refine ⟨ds, gs, before, [], pa, pv, hW, hres _ _ _, hargs _ hold, hvars _ hold, hb.frame _, fun _ => ?_⟩
  have hlt := hW.lt
  obtain ⟨_, _, _, _, _, hz, hn⟩ := hW
  refine ⟨hok, _, _, ([] ++ pa) ++ pv, ⟨[] ++ pa, pv, trodAll_append (hargs _ (fun _ _ => rfl)) (hres _ _ _), hvars _ (fun _ _ => rfl), rfl, ?_, ?_⟩, ?_⟩
  · intro b off hp
    have hp' : MemPlace.cell b off ∈ before := by rw [hps]; simpa using hp
    rw [hb.frozen (p := ⟨b, off, none⟩) (hlt _ hp')]
    exact hz b off hp'
  · intro ha
    have := hn ha
    rw [hps] at this
    simpa using this
  · intro p hp _
    rw [hps]
    simpa using hp
end
/-- What a listed variable reads as. -/
theorem laid_at {P : Program} {w : World} : ∀ {l : List (String × DataW Unit)} {ps : List MemPlace}, DataW.LaidVars P w l ps → ∀ {n : String} {d : DataW Unit}, (n, d) ∈ l →
    ∃ g t cs fuel p, P.globalNamed n = some g ∧ (P.globals[g]?).map (·.type) = some t ∧ w.var? P n = some cs ∧ DataW.trod (fun _ => ()) P w 0 (fun _ => true) false fuel t cs.toList = some (d, p)
  | [], _, _, _, _, hx => by cases hx
  | (_, _) :: _, _, h, _, _, hx => by
    obtain ⟨g, t, cs, fuel, p, q, hg, ht, hv, hd, hr, _⟩ := h
    rcases List.mem_cons.1 hx with e | hx
    · cases e
      exact ⟨g, t, cs, fuel, p, hg, ht, hv, hd⟩
    · exact laid_at hr hx
theorem laidMetH_split {P : Program} {l : List (String × DataW Unit)} {w : World} (h : laidMetH P l w) : laidMet P (l.filter fun x => x.2.handleName?.isNone) w ∧ handlesMet P (l.filter fun x => x.2.handleName?.isSome) w := by
  unfold laidMetH at h
  generalize hfl : (l.filter fun x => x.2.handleName?.isSome) = fl at h ⊢
  cases fl with
  | nil =>
    refine ⟨?_, fun x hx => by cases hx⟩
    have e : (l.filter fun x => x.2.handleName?.isNone) = l := by
      rw [List.filter_eq_self]
      intro x hx
      have := (List.filter_eq_nil_iff.1 hfl) x hx
      cases hn : x.2.handleName? with
      | none => rfl
      | some s => rw [hn] at this; exact absurd rfl this
    rw [e]
    exact h
  | cons a r => exact h
/-- A slice of bytes that came in. -/
theorem open_bytes {H : Type} {enc : TypeId × Value → H} {P : Program} {W : World} {t e : TypeId} {A : Option Addr} {len cap : Nat} {d : DataW H} {ps : List MemPlace} (ht : P.underlying t = some (.slice e)) (he : P.underlying e = some (.int .u8)) (hc : P.cellsOf e = 1)
    (h : DataW.Trod enc P W 0 (fun _ => true) true t (.slice A len cap) d ps) :
    ∃ bs : List Int, bs.length = len ∧ bs.length ≤ 9223372036854775807 ∧ SlB .u8 W (.slice A bs.length cap) bs ∧ ∀ x ∈ bs, 0 ≤ x ∧ x ≤ 255 := by
  obtain ⟨fuel, hf⟩ := h
  rcases open_ints ht he hc hf with ⟨hcs, _⟩ | ⟨a, len', cap', zs, hcs, _, hl, hm, hz, _, hcell, hwz⟩
  · have hcs' : [Value.slice A len cap] = [.slice none 0 0] := hcs
    cases hcs'
    exact ⟨[], rfl, by decide, ⟨⟨none, 0, rfl, by decide, fun h => absurd h (by decide)⟩, fun A n c e => by cases e; decide⟩, fun x hx => by cases hx⟩
  · have hcs' : [Value.slice A len cap] = [.slice (some a) len' cap'] := hcs
    cases hcs'
    have hz' : zs.length = cap := by simpa using hz
    have hm' : cap ≤ 9223372036854775807 := by unfold maxLen at hm; omega
    have htl : (zs.take len).length = len := by rw [List.length_take]; omega
    refine ⟨zs.take len, htl, by omega, ⟨⟨some a, cap, by rw [htl], by omega, fun hp => ?_⟩, fun A n c e => by cases e; omega⟩, fun x hx => ?_⟩
    · obtain ⟨b, off, spot⟩ := a
      have hs : spot = none := by simpa [Addr.add] using World.cell?_spot (hcell 0 (by omega))
      subst hs
      refine ⟨b, off, rfl, fun j hj => ?_⟩
      rw [htl] at hj
      have := hcell j (by omega)
      have hg : (zs.take len).getD j 0 = zs.getD j 0 := by
        rw [List.getD_eq_getElem?_getD, List.getD_eq_getElem?_getD, List.getElem?_take_of_lt hj]
      rw [hg]
      have ea : (⟨b, off, none⟩ : Addr).add j = ⟨b, off + j, none⟩ := by
        unfold Addr.add
        split
        · rename_i h0; simp [h0]
        · rfl
      rw [ea] at this
      exact this
    · have := hwz x (List.mem_of_mem_take hx)
      have e : (Lit.int .u8 x).wf = (decide (0 ≤ x) && decide (x ≤ 255)) := rfl
      rw [e] at this
      simpa using this
end Go.Kin
namespace Go.Proofs
open Go.ChangeShapes Go.WideShapes Go.ChangeAt Go.RowKit Go.Kin
set_option maxRecDepth 100000
/-- The listed variables. -/
def laidL : List (String × DataW Unit) := YtmgnalfodafhgaaGreatDoor.Rows.scriptCutsRow.laid
/-- Those that read as data. -/
def plainL : List (String × DataW Unit) := laidL.filter fun x => x.2.handleName?.isNone
theorem pow_mem : ("internal/strconv.uint64pow10", (Lib.tabData .u64 Lib.pow10Tab : DataW Unit)) ∈ plainL := by
  have e : plainL[2]? = some ("internal/strconv.uint64pow10", (Lib.tabData .u64 Lib.pow10Tab : DataW Unit)) := by kernel_rfl
  exact List.mem_of_getElem? e
theorem rng_mem : ("strconv.ErrRange", (YtmgnalfodafhgaaGreatDoor.Rows.laid_strconv_ErrRange : DataW Unit)) ∈ plainL := by
  have e : plainL[4]? = some ("strconv.ErrRange", (YtmgnalfodafhgaaGreatDoor.Rows.laid_strconv_ErrRange : DataW Unit)) := by kernel_rfl
  exact List.mem_of_getElem? e
theorem syn_mem : ("strconv.ErrSyntax", (YtmgnalfodafhgaaGreatDoor.Rows.laid_strconv_ErrSyntax : DataW Unit)) ∈ plainL := by
  have e : plainL[5]? = some ("strconv.ErrSyntax", (YtmgnalfodafhgaaGreatDoor.Rows.laid_strconv_ErrSyntax : DataW Unit)) := by kernel_rfl
  exact List.mem_of_getElem? e
theorem typ_mem : ("errors.errorType", (YtmgnalfodafhgaaGreatDoor.Rows.laid_errors_errorType : DataW Unit)) ∈ laidL.filter fun x => x.2.handleName?.isSome := by
  have e : (laidL.filter fun x => x.2.handleName?.isSome)[0]? = some ("errors.errorType", (YtmgnalfodafhgaaGreatDoor.Rows.laid_errors_errorType : DataW Unit)) := by kernel_rfl
  exact List.mem_of_getElem? e
theorem gRng : Tryz.prog.globalNamed "strconv.ErrRange" = some 3 := by kernel_rfl
theorem gSyn : Tryz.prog.globalNamed "strconv.ErrSyntax" = some 2 := by kernel_rfl
theorem gTyp : Tryz.prog.globalNamed "errors.errorType" = some 0 := by kernel_rfl
theorem gPow : Tryz.prog.globalNamed "internal/strconv.uint64pow10" = some 4 := by kernel_rfl
theorem tRng : (Tryz.prog.globals[3]?).map (·.type) = some 27 := by kernel_rfl
theorem tSyn : (Tryz.prog.globals[2]?).map (·.type) = some 27 := by kernel_rfl
theorem tPow : (Tryz.prog.globals[4]?).map (·.type) = some 235 := by kernel_rfl
theorem rtIs : (Tryz.prog.cutTypes.find? (·.1 == "internal/reflectlite.rtype")).map (·.2) = some 180 := by kernel_rfl
theorem oneRow : ((List.range Tryz.prog.types.size).filter fun t => Tryz.prog.rowNamed t [101, 114, 114, 111, 114]) = [27] := by kernel_rfl
/-- What the condition and the world's shape give. -/
theorem varsOk_of_laid {W : World} (h : laidMetH Tryz.prog laidL W) (hs : W.ShapedOpen Tryz.prog) : VarsOk W := by
  obtain ⟨⟨ps, hL, _, _⟩, hH⟩ := laidMetH_split h
  have hL' : DataW.LaidVars Tryz.prog W plainL ps := hL
  refine ⟨?_, ?_, ?_, ?_, ?_⟩
  · exact cell_of_shapedOpen_int (zero := #[.int .i64 0]) (t := 3) hs (of_decide_eq_true (by kernel_rfl)) (by kernel_rfl) rfl (by kernel_rfl) (by kernel_rfl) Tryz.underlying3
  · obtain ⟨g, t, cs, fuel, p, hg, ht, hv, hd⟩ := laid_at hL' pow_mem
    obtain rfl := Option.some.inj (gPow.symm.trans hg)
    obtain rfl := Option.some.inj (tPow.symm.trans ht)
    unfold Lib.TabIs
    rw [hv, ← Lib.cells_of_tab Tryz.underlying235 Tryz.underlying174 (by kernel_rfl) (by kernel_rfl) hd]
  · obtain ⟨g, t, cs, fuel, p, hg, ht, hv, hd⟩ := laid_at hL' syn_mem
    obtain rfl := Option.some.inj (gSyn.symm.trans hg)
    obtain rfl := Option.some.inj (tSyn.symm.trans ht)
    obtain ⟨_, u, v, hc, _, _⟩ := iface_of_trod Tryz.underlying27 hd
    refine ⟨.iface u v, ?_, .inr ⟨u, v, rfl⟩⟩
    have := World.var?_cell hg hv 0
    rw [Array.eq_one_of_toList hc] at this
    simpa using this
  · obtain ⟨g, t, cs, fuel, p, hg, ht, hv, hd⟩ := laid_at hL' rng_mem
    obtain rfl := Option.some.inj (gRng.symm.trans hg)
    obtain rfl := Option.some.inj (tRng.symm.trans ht)
    obtain ⟨_, u, v, hc, _, _⟩ := iface_of_trod Tryz.underlying27 hd
    refine ⟨.iface u v, ?_, .inr ⟨u, v, rfl⟩⟩
    have := World.var?_cell hg hv 0
    rw [Array.eq_one_of_toList hc] at this
    simpa using this
  · obtain ⟨name, u, ty, e1, e2, e3, e4, e5⟩ := hH _ typ_mem
    have en : name = [101, 114, 114, 111, 114] := (Option.some.inj e1).symm
    subst en
    obtain rfl := Option.some.inj (rtIs.symm.trans e2)
    have hm : ty ∈ (List.range Tryz.prog.types.size).filter fun t => Tryz.prog.rowNamed t [101, 114, 114, 111, 114] := List.mem_filter.2 ⟨List.mem_range.2 e3, e4⟩
    rw [oneRow] at hm
    obtain rfl := List.mem_singleton.1 hm
    have hh : typeHandle Tryz.prog 27 = .pointer (some ⟨9, 27, none⟩) := by kernel_rfl
    rw [hh] at e5
    unfold ErrTyp
    simpa using World.var?_cell gTyp e5 0
/-- A world that meets the condition: what the start-up lays, and the plain data laid again. -/
noncomputable def seatWorld (os : Os) : World := (World.doorLaid Tryz.prog 79 os).layVars Tryz.prog plainL
theorem seatWorld_os (os : Os) : (seatWorld os).os = os := (World.layVars_os _ _ _).trans rfl
theorem seatWorld_met (os : Os) (args : Array Value) : laidMetH Tryz.prog laidL ((seatWorld os).forCall (fun _ _ => 0) ⟨#[], args, []⟩).memory := by
  refine laidMetH_of_parts3 (fuel := 8) ?_ (by kernel_rfl) (by kernel_rfl)
  have e1 : (plainL.filter fun x => (plainL.map (·.1)).contains x.1) = plainL := List.filter_eq_self.2 fun x hx => List.contains_iff_mem.2 (List.mem_map.2 ⟨x, hx, rfl⟩)
  have e2 : (plainL.filter fun x => !(plainL.map (·.1)).contains x.1) = [] := List.filter_eq_nil_iff.2 fun x hx => by rw [List.contains_iff_mem.2 (List.mem_map.2 ⟨x, hx, rfl⟩)]; simp
  have h : laidMet Tryz.prog plainL (seatWorld os) := laidMet_layVars (w0 := World.doorLaid Tryz.prog 79 os) (plainL.map (·.1)) [] (by rw [e1]; rfl) (by rw [e1]; kernel_rfl) (by rw [e1]; kernel_rfl) (by rw [e2]; exact LaidIn.none)
  exact h.of_heap (by simp [World.memory, World.forCall, Input.heap])
theorem seatWorld_shaped (os : Os) (args : Array Value) : ((seatWorld os).forCall (fun _ _ => 0) ⟨#[], args, []⟩).Shaped Tryz.prog :=
  World.shaped_of_ZipB (by kernel_rfl) (by kernel_rfl)
theorem ownKnob_none : ownKnob Tryz.prog.godebug = none := by kernel_rfl
theorem laidOut_all : laidOutB Tryz.prog = true := by kernel_rfl
end Go.Proofs
