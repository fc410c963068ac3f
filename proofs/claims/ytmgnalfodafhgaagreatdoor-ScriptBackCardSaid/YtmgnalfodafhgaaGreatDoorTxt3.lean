import Derived.Test.YtmgnalfodafhgaaGreatDoorTxt2
import Derived.Lib.SplitLaws
set_option linter.unusedVariables false
set_option linter.unusedSimpArgs false
namespace Go.Kin
open Go.RowKit
/-- The words of a line. -/
def splitL (s : ByteArray) : List ByteArray := Lib.splitB sp 0 (Lib.countB s sp) s
theorem splitL_len (s : ByteArray) : (splitL s).length = Lib.countB s sp + 1 := Lib.splitB_all sp (by decide) 0 _ s rfl
theorem splitB_sizes (sep : ByteArray) : ∀ (k : Nat) (s x : ByteArray), x ∈ Lib.splitB sep 0 k s → x.size ≤ s.size
  | 0, s, x, h => by simp [Lib.splitB] at h; rw [h]; exact Nat.le_refl _
  | k + 1, s, x, h => by
    unfold Lib.splitB at h
    split at h
    · simp at h; rw [h]; exact Nat.le_refl _
    · rcases List.mem_cons.1 h with h | h
      · rw [h, ByteArray.size_extract]; omega
      · have := splitB_sizes sep k _ x h
        rw [ByteArray.size_extract] at this; omega
theorem splitL_sizes (s x : ByteArray) (h : x ∈ splitL s) : x.size ≤ s.size := splitB_sizes _ _ s x h
theorem splitB_pos (sep : ByteArray) (k : Nat) (s : ByteArray) : 0 < (Lib.splitB sep 0 k s).length := by
  cases k with
  | zero => simp [Lib.splitB]
  | succ k => unfold Lib.splitB; split <;> simp
/-- How long a line of that many words is at least. -/
theorem splitB_sum (sep : ByteArray) (h1 : 1 ≤ sep.size) : ∀ (k : Nat) (s : ByteArray), (Lib.splitB sep 0 k s).length ≤ s.size + 1
  | 0, s => by simp [Lib.splitB]
  | k + 1, s => by
    rcases Lib.indexB_cases s sep with hix | ⟨i, hix, hi⟩
    · rw [Lib.splitB_miss _ _ _ _ hix]; simp
    · rw [Lib.splitB_hit _ _ _ _ i hix, List.length_cons]
      have := splitB_sum sep h1 k (s.extract (i + sep.size) s.size)
      rw [ByteArray.size_extract] at this
      omega
/-- The numbers of words. -/
def numsL : List ByteArray → Option (List Int)
  | [] => some []
  | x :: l => match numS x, numsL l with
    | some n, some r => some (n :: r)
    | _, _ => none
theorem numsL_snoc (l : List ByteArray) (x : ByteArray) : numsL (l ++ [x]) = (match numsL l, numS x with | some r, some n => some (r ++ [n]) | _, _ => none) := by
  induction l with
  | nil => unfold numsL; simp [numsL]; cases numS x <;> rfl
  | cons a l ih =>
    rw [List.cons_append, numsL, ih, numsL]
    cases numS a <;> cases numsL l <;> cases numS x <;> rfl
theorem numsL_none {l : List ByteArray} {x : ByteArray} (h : x ∈ l) (hx : numS x = none) : numsL l = none := by
  induction l with
  | nil => cases h
  | cons a l ih =>
    rw [numsL]
    rcases List.mem_cons.1 h with rfl | h
    · rw [hx]
    · rw [ih h]; cases numS a <;> rfl
theorem numsL_take {l : List ByteArray} {j : Nat} {ps : List Int} {n : Int} (hj : j < l.length) (h : numsL (l.take j) = some ps) (hx : numS l[j] = some n) : numsL (l.take (j + 1)) = some (ps ++ [n]) := by
  rw [List.take_succ_eq_append_getElem hj, numsL_snoc, h, hx]
theorem numsL_len {l : List ByteArray} {ps : List Int} (h : numsL l = some ps) : ps.length = l.length := by
  induction l generalizing ps with
  | nil => simp [numsL] at h; rw [h]; rfl
  | cons a l ih =>
    rw [numsL] at h
    cases hx : numS a with
    | none => rw [hx] at h; cases h
    | some n =>
      cases hl : numsL l with
      | none => rw [hx, hl] at h; cases h
      | some r => rw [hx, hl] at h; simp at h; rw [← h, List.length_cons, ih hl, List.length_cons]
/-- The act that is being read: its block, its picks so far. -/
def PkS (P : Nat) (tA ti : TypeId) (k : Int) (ps : List Int) (w0 w : World) : Prop :=
  ∃ pv, w.heap[P]? = some (.cells #[.int .i64 k, .int .i64 0, pv] tA (0, 0)) ∧ w.ownsRow w0.heap.size ti 1 pv ps.length (ps.map (Value.int .i64)) ∧ Frm (· = P) w0 w
theorem PkS.step {P : Nat} {tA ti : TypeId} {k : Int} {ps : List Int} {w0 w w5 w1 : World} {pv : Value} {x : Int} {gg cap : Nat} (hP : P < w0.heap.size) (hh : w.heap[P]? = some (.cells #[.int .i64 k, .int .i64 0, pv] tA (0, 0)))
    (ho : w.ownsRow w0.heap.size ti 1 pv ps.length (ps.map (Value.int .i64))) (hf : Frm (· = P) w0 w) (hb5 : Below w.heap.size w w5)
    (hown1 : w1.ownsRow w0.heap.size ti 1 (.slice (some ⟨gg, 0, none⟩) (ps.length + 1) cap) (ps.length + 1) (ps.map (Value.int .i64) ++ [.int .i64 x])) (hgrow : w5.grownBy w1 pv.ownBlock) :
    PkS P tA ti k (ps ++ [x]) w0 (w1.setCell ⟨P, 2, none⟩ (.slice (some ⟨gg, 0, none⟩) (ps.length + 1) cap)) := by
  have hlt := (Array.getElem?_eq_some_iff.1 hh).1
  have hf5 : Frm (· = P) w0 w5 := hf.trans (Frm.of_below hb5)
  have hf1 : Frm (· = P) w0 w1 := hf5.grown hgrow (fun q hq h => by have := (ho.lt q hq).1; omega)
  have h5 : w1.heap[P]? = some (.cells #[.int .i64 k, .int .i64 0, pv] tA (0, 0)) := by
    rw [hgrow.block _ (Nat.lt_of_lt_of_le hlt hb5.size) (fun e => by have := (ho.lt _ e.symm).1; omega)]
    exact (hb5.block _ hlt).trans hh
  refine ⟨_, heap_setCell_same w1 P 2 _ tA _ h5, ?_, hf1.setCell (fun _ => rfl) _⟩
  rw [List.length_append, List.map_append]
  refine (Frm.setCell (S := (· = P)) (Frm.refl _ _) (p := ⟨P, 2, none⟩) (fun _ => rfl) _).own hown1 (fun q hq e => ?_)
  have h6 : gg = q := by simpa [Value.ownBlock] using hq
  have h7 := (hown1.lt gg rfl).1
  have h8 : q = P := e
  omega
theorem below_of_frm {P : Nat} {a w w' : World} (h : Below a.heap.size a w) (hf : Frm (· = P) w w') (hP : a.heap.size ≤ P) : Below a.heap.size a w' := hf.below_of h (fun q hq => by subst hq; exact hP)
/-- What a line's words say: the act, the code of an error. -/
def parseL (l : List ByteArray) : Kin.Act × Option Int :=
  let k := kindS (l.getD 0 ⟨#[]⟩).toList
  if k = 0 then (⟨0, 0, []⟩, some 13)
  else if k = 2 then (match numsL l.tail with
    | none => (⟨0, 0, []⟩, some 2)
    | some ps => (⟨2, 0, ps⟩, none))
  else if l.length < 2 then (⟨0, 0, []⟩, some 1)
  else if 2 < l.length then (⟨0, 0, []⟩, some 2)
  else match numS (l.getD 1 ⟨#[]⟩) with
    | none => (⟨0, 0, []⟩, some 2)
    | some n => (⟨k, n, []⟩, none)
def parseS (s : ByteArray) : Kin.Act × Option Int := parseL (splitL s)
theorem kindS_range (l : List UInt8) : 0 ≤ kindS l ∧ kindS l ≤ 6 := by
  unfold kindS
  repeat (split; · omega)
  omega
end Go.Kin
namespace Go.Proofs
open Go.RowKit Go.Kin Go.Shelf
theorem split_any (s : ByteArray) (w : World) (hV : VarsOk w) (hs : s.size ≤ 30000) :
    Calls Tryz.prog 20 #[.string s, .string ⟨#[32]⟩] w fun e w' => e = .returned (.slice (some ⟨w.heap.size, 0, none⟩) (splitL s).length (splitL s).length) ∧ w' = w.alloc (.cells ((splitL s).map Value.string).toArray 9) := by
  obtain ⟨m, hm⟩ := hV.maxlen
  rw [splitL_len]
  exact Tryz.strings_Split s sp m w (by omega) hm (by decide)
theorem results_cell2 {fn : Func} {p q : Tmp} {ty : TypeId} (h : fn.results = #[.cell p ty, .tmp q]) (tmps : Array Value) (P : Program) (w : World) :
    (results fn tmps).run P w = ((asAddr (tmps.getD p undef)).run P w).andThen fun a w₁ => ((loadVar ty a).run P w₁).andThen fun v w₂ => .ok (.tuple #[v, tmps.getD q undef]) w₂ := by
  simp only [results, h]
  simp only [Sem.run_bind, Result.andThen]
  simp [Result.andThen]
  cases Sem.run P (asAddr (tmps[p]?.getD undef)) w with
  | ok a w1 =>
    simp only []
    cases Sem.run P (loadVar ty a) w1 <;> rfl
  | halt h w1 => rfl
theorem set3 {w : World} {b : Nat} {x y z u0 u1 u2 : Value} {t : TypeId} (h : w.heap[b]? = some (.cells #[x, y, z] t (0, 0))) :
    (((w.setCell ⟨b, 0, none⟩ u0).setCell ⟨b, 1, none⟩ u1).setCell ⟨b, 2, none⟩ u2).heap[b]? = some (.cells #[u0, u1, u2] t (0, 0)) :=
  heap_setCell_same _ b 2 _ t u2 (heap_setCell_same _ b 1 _ t u1 (heap_setCell_same w b 0 _ t u0 h))
def ParseRet (r : Kin.Act × Option Int) (w : World) (e : Ending) (w' : World) : Prop :=
  ∃ pv ev, e = .returned (.tuple #[.agg #[.int .i64 r.1.kind, .int .i64 r.1.n, pv], ev]) ∧ SlI .i64 w' pv r.1.picks ∧ (match r.2 with | none => ev = .nilIface | some c => ev = .iface 32 (.int .i64 c)) ∧ Below w.heap.size w w'
set_option maxRecDepth 100000 in
set_option maxHeartbeats 4000000 in
theorem parse_any (s : ByteArray) (w : World) (hV : VarsOk w) (hs : s.size ≤ 30000) : Calls Tryz.prog 7 #[.string s] w (ParseRet (parseS s) w) := by
  have hlen := splitB_sum sp (by decide) (Lib.countB s sp) s
  have hpos := splitB_pos sp (Lib.countB s sp) s
  have hsz := splitL_sizes s
  have hspl := split_any s
  unfold parseS
  change (splitL s).length ≤ _ at hlen
  change 0 < (splitL s).length at hpos
  generalize splitL s = l at *
  have hl : l.length ≤ 30001 := by omega
  have HSZ := hid hsz
  have HSPL := hid hspl
  clear hsz hspl hlen
  have hkr := kindS_range (l.getD 0 ⟨#[]⟩).toList
  have hkd := kind_any (l.getD 0 ⟨#[]⟩)
  generalize hw0 : l.getD 0 ⟨#[]⟩ = w0 at *
  have HW0 := hid hw0
  clear hw0
  generalize hk : kindS w0.toList = k at *
  have HK := hid hk
  have HKD := hid hkd
  clear hk hkd
  go_enter Tryz.func7, Tryz.ntmps7
  go_upto_region 2 with (go_at_call 20; refine (HSPL.out _ (hV.below (below_alloc (below_refl w) _)) hs).mono ?_; rintro _ w1 ⟨rfl, rfl⟩)
  have q0 : ((w.alloc (.cells #[.int .i64 0, .int .i64 0, .slice none 0 0] 24)).alloc (.cells (l.map Value.string).toArray 9)).heap[w.heap.size]? = some (.cells #[.int .i64 0, .int .i64 0, .slice none 0 0] 24) :=
    (Below.heap_alloc _ _ w.heap.size (by simp)).trans (heap_alloc_new w _)
  have qw : ∀ j (hj : j < l.length), ((w.alloc (.cells #[.int .i64 0, .int .i64 0, .slice none 0 0] 24)).alloc (.cells (l.map Value.string).toArray 9)).cell? ⟨w.heap.size + 1, j, none⟩ = some (.string l[j]) := fun j hj => by
    rw [World.cell?_alloc_at _ _ _ _ (by simp)]
    simp [hj]
  have hb0 : Below w.heap.size w ((w.alloc (.cells #[.int .i64 0, .int .i64 0, .slice none 0 0] 24)).alloc (.cells (l.map Value.string).toArray 9)) := below_alloc (below_alloc (below_refl w) _) _
  have hsz : ((w.alloc (.cells #[.int .i64 0, .int .i64 0, .slice none 0 0] 24)).alloc (.cells (l.map Value.string).toArray 9)).heap.size = w.heap.size + 2 := by simp
  generalize ((w.alloc (.cells #[.int .i64 0, .int .i64 0, .slice none 0 0] 24)).alloc (.cells (l.map Value.string).toArray 9)) = W at *
  have x0 : W.cell? ⟨w.heap.size + 1, 0, none⟩ = some (.string w0) := by
    rw [qw 0 hpos, ← HW0.out, List.getD_eq_getElem?_getD, List.getElem?_eq_getElem hpos]; rfl
  have HQW := hid qw
  have hV1 := hid hV
  have i1 : (0 : Int) < (l.length : Int) := by omega
  clear qw hV
  go_cut [5] (fun s5 wx => s5 = .pointer (some ⟨w.heap.size + 2, 0, none⟩) ∧ wx.heap[w.heap.size + 2]? = some (.cells #[.int .i64 k, .int .i64 0, .slice none 0 0] 24) ∧ Below W.heap.size W wx)
  case first =>
    go_wp2_with (go_at_call 21; refine (HKD.out _).mono ?_; rintro _ _ ⟨rfl, rfl⟩)
    go_meet
    exact ⟨rfl, by rw [← hsz]; exact heap_alloc_new W _, below_alloc (below_refl W) _⟩
  case rest =>
    obtain ⟨rfl, hp, hb1⟩ := hcut
    have hR : wc.heap[w.heap.size]? = some (.cells #[.int .i64 0, .int .i64 0, .slice none 0 0] 24) := (hb1.block _ (by omega)).trans q0
    have p0 := cell_of_row wc (w.heap.size + 2) 0 _ _ (0, 0) hp
    have p1 := cell_of_row wc (w.heap.size + 2) 1 _ _ (0, 0) hp
    have p2 := cell_of_row wc (w.heap.size + 2) 2 _ _ (0, 0) hp
    have r0 := cell_of_row wc w.heap.size 0 _ _ (0, 0) hR
    have r1 := cell_of_row wc w.heap.size 1 _ _ (0, 0) hR
    have r2 := cell_of_row wc w.heap.size 2 _ _ (0, 0) hR
    have f0 := frozen_of_row wc w.heap.size 0 _ _ hR
    have f1 := frozen_of_row wc w.heap.size 1 _ _ hR
    have f2 := frozen_of_row wc w.heap.size 2 _ _ hR
    have HB := hid (below_then hb0 hb1)
    have HR := hid hR
    have HPP := hid hp
    have HB1 := hid hb1
    have HRN := hid (show w.heap.size ≠ w.heap.size + 2 by omega)
    obtain ⟨i0, hi, hz0, hz1, hz2⟩ := info_parts Tq.info_int
    clear q0 hb0 x0 hR hp hb1
    by_cases hk0 : k = 0
    · have HP := hid (show parseL l = (⟨0, 0, []⟩, some 13) by unfold parseL; rw [HW0.out, HK.out]; simp only; rw [if_pos hk0])
      have i2 : (k == 0) = true := by simpa using hk0
      clear hk0
      go_wp2_with fail
      have hS := set3 (u0 := .int .i64 0) (u1 := .int .i64 0) (u2 := .slice none 0 0) HR.out
      have hB := ((HB.out.setCell (p := ⟨w.heap.size, 0, none⟩) (Nat.le_refl _) (.int .i64 0)).setCell (p := ⟨w.heap.size, 1, none⟩) (Nat.le_refl _) (.int .i64 0)).setCell (p := ⟨w.heap.size, 2, none⟩) (Nat.le_refl _) (.slice none 0 0)
      generalize (((wc.setCell ⟨w.heap.size, 0, none⟩ (.int .i64 0)).setCell ⟨w.heap.size, 1, none⟩ (.int .i64 0)).setCell ⟨w.heap.size, 2, none⟩ (.slice none 0 0)) = W3 at *
      have c0 := cell_of_row W3 w.heap.size 0 _ _ (0, 0) hS
      have c1 := cell_of_row W3 w.heap.size 1 _ _ (0, 0) hS
      have c2 := cell_of_row W3 w.heap.size 2 _ _ (0, 0) hS
      refine bodyPost_ret ((results_cell2 rfl _ _ _).trans (by go_simp; rfl)) rfl ?_
      rw [HP.out]
      exact ⟨_, _, rfl, SlI.nil _ _, rfl, hB⟩
    have i2 : (k == 0) = false := by simpa using hk0
    by_cases hk2 : k = 2
    · have i3 : (k == 2) = true := by simpa using hk2
      have i4 : (k != 2) = false := by simpa using hk2
      have HPL := hid (show parseL l = (match numsL l.tail with | none => (⟨0, 0, []⟩, some 2) | some ps => (⟨2, 0, ps⟩, none)) by unfold parseL; rw [HW0.out, HK.out]; simp only; rw [if_neg hk0, if_pos hk2])
      have HK2 := hid hk2
      clear hk0 hk2
      have hc0 := hid (World.ownsRow_nil wc wc.heap.size 3 1)
      have hfr := Frm.refl (· = w.heap.size + 2) wc
      by_cases h1 : l.length = 1
      · have HP := hid (show parseL l = (⟨k, 0, []⟩, none) by
          rw [HPL.out, HK2.out]
          obtain ⟨x, rfl⟩ : ∃ x, l = [x] := List.length_eq_one_iff.1 h1
          rfl)
        rw [h1]
        clear h1 i1 hpos hl
        go_wp2_with fail
        go_loopg [48] 0 (fun _ s48 wr => s48 = .int .i64 0 ∧ wr = wc)
        case atStart => exact ⟨rfl, rfl⟩
        case round =>
          obtain ⟨rfl, rfl⟩ := hrel
          go_wp2_with fail
          have hS := set3 (u0 := .int .i64 k) (u1 := .int .i64 0) (u2 := .slice none 0 0) HR.out
          have hB := ((HB.out.setCell (p := ⟨w.heap.size, 0, none⟩) (Nat.le_refl _) (.int .i64 k)).setCell (p := ⟨w.heap.size, 1, none⟩) (Nat.le_refl _) (.int .i64 0)).setCell (p := ⟨w.heap.size, 2, none⟩) (Nat.le_refl _) (.slice none 0 0)
          generalize (((wr.setCell ⟨w.heap.size, 0, none⟩ (.int .i64 k)).setCell ⟨w.heap.size, 1, none⟩ (.int .i64 0)).setCell ⟨w.heap.size, 2, none⟩ (.slice none 0 0)) = W3 at *
          have c0 := cell_of_row W3 w.heap.size 0 _ _ (0, 0) hS
          have c1 := cell_of_row W3 w.heap.size 1 _ _ (0, 0) hS
          have c2 := cell_of_row W3 w.heap.size 2 _ _ (0, 0) hS
          refine bodyPost_ret ((results_cell2 rfl _ _ _).trans (by go_simp; rfl)) rfl ?_
          rw [HP.out]
          exact ⟨_, _, rfl, SlI.nil _ _, rfl, hB⟩
      · have i5 : 1 < l.length := by omega
        have i6 : (1 : Int) ≤ (l.length : Int) := by omega
        have i7 : l.length ≠ 1 := h1
        clear h1
        have HST := hid (show PkS (w.heap.size + 2) 24 3 k [] wc wc from ⟨_, HPP.out, World.ownsRow_nil _ _ _ _, Frm.refl _ _⟩)
        have hPW : w.heap.size + 2 < wc.heap.size := (Array.getElem?_eq_some_iff.1 HPP.out).1
        clear p0 p1 p2 r0 r1 r2 f0 f1 f2
        have p0 := cell_of_row wc (w.heap.size + 2) 0 _ _ (0, 0) HPP.out
        go_wp2_with fail
        go_loopg [48] (l.length - 1) (fun gz s48 wr => ∃ (j : Nat) (ps : List Int), j ≤ l.length - 1 ∧ l.length - 1 - j ≤ gz ∧ s48 = .int .i64 (j : Int) ∧ numsL (l.tail.take j) = some ps ∧ PkS (w.heap.size + 2) 24 3 k ps wc wr)
        case atStart => exact ⟨0, [], by omega, by omega, rfl, rfl, HST.out⟩
        case round =>
          obtain ⟨j, ps, hj, hgz, rfl, hps, pv, hh, ho, hf⟩ := hrel
          have hbw : Below w.heap.size w wr := below_of_frm HB.out hf (by omega)
          have hR : wr.heap[w.heap.size]? = some (.cells #[.int .i64 0, .int .i64 0, .slice none 0 0] 24) := (hf.block _ (by omega) HRN.out).trans HR.out
          have hpl : ps.length = j := by rw [numsL_len hps, List.length_take, List.length_tail]; omega
          by_cases hlt : j < l.length - 1
          · have hj1 : j + 1 < l.length := by omega
            have htl : j < l.tail.length := by rw [List.length_tail]; omega
            have hxe : l.tail[j] = l[j + 1] := List.getElem_tail ..
            have xw : wr.cell? ⟨w.heap.size + 1, 1 + j, none⟩ = some (.string l[j + 1]) := by
              rw [Nat.add_comm 1 j]
              exact hf.cell (cell_below HB1.out (HQW.out (j + 1) hj1)) (by simp)
            have hsx : (l[j + 1]).size ≤ 30000 := Nat.le_trans (HSZ.out _ (List.getElem_mem _)) hs
            have HVR := hid (hV1.out.below hbw)
            have j1 : (j : Int) < ((l.length - 1 : Nat) : Int) := by omega
            cases hx : numS l[j + 1] with
            | none =>
              have HP := hid (show parseL l = (⟨0, 0, []⟩, some 2) by
                rw [HPL.out, numsL_none (x := l[j + 1]) (by rw [← hxe]; exact List.getElem_mem _) hx])
              have HNO := hid (number_no l[j + 1] wr HVR.out hsx hx)
              have HBW := hid hbw
              have HHR := hid hR
              generalize l[j + 1] = x at *
              clear hx hh ho hf hps hbw hR hxe
              go_wp2_with (go_at_call 22; refine HNO.out.mono ?_; rintro _ w6 ⟨rfl, hb6⟩; have hR6 : w6.heap[w.heap.size]? = some (.cells #[.int .i64 0, .int .i64 0, .slice none 0 0] 24) := (hb6.block _ (Array.getElem?_eq_some_iff.1 HHR.out).1).trans HHR.out; have HR6 := hid hR6; have HB6 := hid (below_then HBW.out hb6); have r0 := cell_of_row w6 w.heap.size 0 _ _ (0, 0) hR6; have r1 := cell_of_row w6 w.heap.size 1 _ _ (0, 0) hR6; have r2 := cell_of_row w6 w.heap.size 2 _ _ (0, 0) hR6; have f0 := frozen_of_row w6 w.heap.size 0 _ _ hR6; have f1 := frozen_of_row w6 w.heap.size 1 _ _ hR6; have f2 := frozen_of_row w6 w.heap.size 2 _ _ hR6; clear hR6 hb6)
              have hS := set3 (u0 := .int .i64 0) (u1 := .int .i64 0) (u2 := .slice none 0 0) HR6.out
              have hB := ((HB6.out.setCell (p := ⟨w.heap.size, 0, none⟩) (Nat.le_refl _) (.int .i64 0)).setCell (p := ⟨w.heap.size, 1, none⟩) (Nat.le_refl _) (.int .i64 0)).setCell (p := ⟨w.heap.size, 2, none⟩) (Nat.le_refl _) (.slice none 0 0)
              generalize (((w6.setCell ⟨w.heap.size, 0, none⟩ (.int .i64 0)).setCell ⟨w.heap.size, 1, none⟩ (.int .i64 0)).setCell ⟨w.heap.size, 2, none⟩ (.slice none 0 0)) = W3 at *
              have c0 := cell_of_row W3 w.heap.size 0 _ _ (0, 0) hS
              have c1 := cell_of_row W3 w.heap.size 1 _ _ (0, 0) hS
              have c2 := cell_of_row W3 w.heap.size 2 _ _ (0, 0) hS
              refine bodyPost_ret ((results_cell2 rfl _ _ _).trans (by go_simp; rfl)) rfl ?_
              rw [HP.out]
              exact ⟨_, _, rfl, SlI.nil _ _, rfl, hB⟩
            | some v =>
              have htk := numsL_take htl hps (by rw [hxe]; exact hx)
              have HTK := hid htk
              have HNO := hid (number_ok l[j + 1] v wr HVR.out hsx hx)
              have HSTEP := hid (fun w5 w1 gg cap2 (h1 : Below wr.heap.size wr w5) h2 h3 => PkS.step (x := v) (gg := gg) (cap := cap2) (w5 := w5) (w1 := w1) hPW hh ho hf h1 h2 h3)
              rw [hpl] at ho
              obtain ⟨A, c, rfl⟩ := own_form ho
              have HH := hid hh
              have HO := hid ho
              have HF1 := hid (show some (w.heap.size + 2) ≠ (Value.slice A j c).ownBlock from fun e => by have := (ho.lt _ e.symm).1; omega)
              have hfs := hf.size
              generalize l[j + 1] = x at *
              clear hx hh ho hf hps hbw hR hxe htk
              go_wp2_with (first
                | (go_at_call 22; refine HNO.out.mono ?_; rintro _ w6 ⟨rfl, hb6⟩; have hh6 : w6.heap[w.heap.size + 2]? = some (.cells #[.int .i64 k, .int .i64 0, .slice A j c] 24) := (hb6.block _ (Array.getElem?_eq_some_iff.1 HH.out).1).trans HH.out; have p0 := cell_of_row w6 (w.heap.size + 2) 0 _ _ (0, 0) hh6; have p2 := cell_of_row w6 (w.heap.size + 2) 2 _ _ (0, 0) hh6; have pf2 := frozen_of_row w6 (w.heap.size + 2) 2 _ _ hh6; have HH6 := hid hh6; have HB6 := hid hb6; have hsz6 := hb6.size; clear hh6 hb6)
                | (refine wpList_append_lies _ rfl (.tmp 65) (.tmp 67) 22 rfl wc.heap.size 3 i0 (.int .i64 0) 1 8 Tryz.underlying22 hi hz0 hz1 hz2 rfl (by omega) (.slice A j c) j (ps.map (Value.int .i64)) rfl ((Frm.of_below (S := fun _ => False) (below_alloc HB6.out _)).own HO.out (fun _ _ h => h)) ⟨w6.heap.size, 0, none⟩ 1 1 [.int .i64 v] rfl rfl (World.news_of_block (cs := #[.int .i64 v]) (t := 3) (fr := (0, 0)) (heap_alloc_new w6 _)) (by simp [Value.oneCell']) (by omega) (by unfold maxLen; omega) (by omega) (by simp; omega) (w6.heap.size + 1) (by simp) ?_; intro gg cap2 w7 hown7 hgrow hat hlt7; have HNEW := hid (HSTEP.out _ _ _ _ (below_alloc HB6.out _) (by rw [hpl]; exact hown7) hgrow); have g2 : w7.cell? ⟨w.heap.size + 2, 2, none⟩ = some (.slice A j c) := hgrow.cell (cell_below (below_alloc (below_refl w6) _) p2) HF1.out; have gf2 : w7.frozen? ⟨w.heap.size + 2, 2, none⟩ = false := (((Frm.refl (fun q => (Value.slice A j c).ownBlock = some q) _).grown hgrow (fun q hq _ => hq)).frozen (a := ⟨w.heap.size + 2, 2, none⟩) (World.block_lt_of_cell? _ _ (cell_below (below_alloc (below_refl w6) _) p2)) (fun e => HF1.out e.symm)).trans (frozen_below (below_alloc (below_refl w6) _) p2 pf2); clear hown7 hgrow hat))
              go_roundg (l.length - 1 - (j + 1))
              case measure => omega
              case rel => exact ⟨j + 1, ps ++ [v], by omega, by omega, by go_num, HTK.out, by have := HNEW.out; rw [hpl] at this; exact this⟩
          · obtain rfl : j = l.length - 1 := by omega
            have hall : numsL l.tail = some ps := by rw [← hps, List.take_of_length_le (by rw [List.length_tail]; omega)]
            have HP := hid (show parseL l = (⟨k, 0, ps⟩, none) by rw [HPL.out, hall, HK2.out])
            have hsl := SlI.of_own ho
            obtain ⟨A, c, rfl⟩ := own_form ho
            have HBW := hid hbw
            have HHR := hid hR
            have j1 : ¬ ((l.length - 1 : Nat) : Int) < ((l.length - 1 : Nat) : Int) := by omega
            have p0 := cell_of_row wr (w.heap.size + 2) 0 _ _ (0, 0) hh
            have p1 := cell_of_row wr (w.heap.size + 2) 1 _ _ (0, 0) hh
            have p2 := cell_of_row wr (w.heap.size + 2) 2 _ _ (0, 0) hh
            have r0 := cell_of_row wr w.heap.size 0 _ _ (0, 0) hR
            have r1 := cell_of_row wr w.heap.size 1 _ _ (0, 0) hR
            have r2 := cell_of_row wr w.heap.size 2 _ _ (0, 0) hR
            have f0 := frozen_of_row wr w.heap.size 0 _ _ hR
            have f1 := frozen_of_row wr w.heap.size 1 _ _ hR
            have f2 := frozen_of_row wr w.heap.size 2 _ _ hR
            have HSL := hid hsl
            have HOW := hid (fun q hq => (ho.lt q hq).1)
            clear hh ho hf hps hall hsl hbw hR hpl
            go_wp2_with fail
            have hS := set3 (u0 := .int .i64 k) (u1 := .int .i64 0) (u2 := .slice A ps.length c) HHR.out
            have hB := ((HBW.out.setCell (p := ⟨w.heap.size, 0, none⟩) (Nat.le_refl _) (.int .i64 k)).setCell (p := ⟨w.heap.size, 1, none⟩) (Nat.le_refl _) (.int .i64 0)).setCell (p := ⟨w.heap.size, 2, none⟩) (Nat.le_refl _) (.slice A ps.length c)
            have hSL := HSL.out.frm (((Frm.setCell (S := (· = w.heap.size)) (p := ⟨w.heap.size, 0, none⟩) (Frm.refl _ wr) (fun _ => rfl) (.int .i64 k)).setCell (p := ⟨w.heap.size, 1, none⟩) (fun _ => rfl) (.int .i64 0)).setCell (p := ⟨w.heap.size, 2, none⟩) (fun _ => rfl) (.slice A ps.length c)) (fun q hq e => by have h1 := HOW.out q hq; have h2 : q = w.heap.size := e; omega)
            generalize (((wr.setCell ⟨w.heap.size, 0, none⟩ (.int .i64 k)).setCell ⟨w.heap.size, 1, none⟩ (.int .i64 0)).setCell ⟨w.heap.size, 2, none⟩ (.slice A ps.length c)) = W3 at *
            have c0 := cell_of_row W3 w.heap.size 0 _ _ (0, 0) hS
            have c1 := cell_of_row W3 w.heap.size 1 _ _ (0, 0) hS
            have c2 := cell_of_row W3 w.heap.size 2 _ _ (0, 0) hS
            refine bodyPost_ret ((results_cell2 rfl _ _ _).trans (by go_simp; rfl)) rfl ?_
            rw [HP.out]
            exact ⟨_, _, rfl, hSL, rfl, hB⟩
    · have i3 : (k == 2) = false := by simpa using hk2
      have i4 : (k != 2) = true := by simpa using hk2
      have HPL := hid (show parseL l = (if l.length < 2 then ((⟨0, 0, []⟩, some 1) : Kin.Act × Option Int) else if 2 < l.length then (⟨0, 0, []⟩, some 2) else match numS (l.getD 1 ⟨#[]⟩) with | none => (⟨0, 0, []⟩, some 2) | some n => (⟨k, n, []⟩, none)) by unfold parseL; rw [HW0.out, HK.out]; simp only; rw [if_neg hk0, if_neg hk2])
      clear hk0 hk2
      by_cases h1 : l.length < 2
      · have HP := hid (show parseL l = (⟨0, 0, []⟩, some 1) by rw [HPL.out, if_pos h1])
        have j1 : (l.length : Int) < 2 := by omega
        clear h1
        go_wp2_with fail
        have hS := set3 (u0 := .int .i64 0) (u1 := .int .i64 0) (u2 := .slice none 0 0) HR.out
        have hB := ((HB.out.setCell (p := ⟨w.heap.size, 0, none⟩) (Nat.le_refl _) (.int .i64 0)).setCell (p := ⟨w.heap.size, 1, none⟩) (Nat.le_refl _) (.int .i64 0)).setCell (p := ⟨w.heap.size, 2, none⟩) (Nat.le_refl _) (.slice none 0 0)
        generalize (((wc.setCell ⟨w.heap.size, 0, none⟩ (.int .i64 0)).setCell ⟨w.heap.size, 1, none⟩ (.int .i64 0)).setCell ⟨w.heap.size, 2, none⟩ (.slice none 0 0)) = W3 at *
        have c0 := cell_of_row W3 w.heap.size 0 _ _ (0, 0) hS
        have c1 := cell_of_row W3 w.heap.size 1 _ _ (0, 0) hS
        have c2 := cell_of_row W3 w.heap.size 2 _ _ (0, 0) hS
        refine bodyPost_ret ((results_cell2 rfl _ _ _).trans (by go_simp; rfl)) rfl ?_
        rw [HP.out]
        exact ⟨_, _, rfl, SlI.nil _ _, rfl, hB⟩
      by_cases h2 : 2 < l.length
      · have HP := hid (show parseL l = (⟨0, 0, []⟩, some 2) by rw [HPL.out, if_neg h1, if_pos h2])
        have j1 : ¬ (l.length : Int) < 2 := by omega
        have j2 : (2 : Int) < (l.length : Int) := by omega
        clear h1 h2
        go_wp2_with fail
        have hS := set3 (u0 := .int .i64 0) (u1 := .int .i64 0) (u2 := .slice none 0 0) HR.out
        have hB := ((HB.out.setCell (p := ⟨w.heap.size, 0, none⟩) (Nat.le_refl _) (.int .i64 0)).setCell (p := ⟨w.heap.size, 1, none⟩) (Nat.le_refl _) (.int .i64 0)).setCell (p := ⟨w.heap.size, 2, none⟩) (Nat.le_refl _) (.slice none 0 0)
        generalize (((wc.setCell ⟨w.heap.size, 0, none⟩ (.int .i64 0)).setCell ⟨w.heap.size, 1, none⟩ (.int .i64 0)).setCell ⟨w.heap.size, 2, none⟩ (.slice none 0 0)) = W3 at *
        have c0 := cell_of_row W3 w.heap.size 0 _ _ (0, 0) hS
        have c1 := cell_of_row W3 w.heap.size 1 _ _ (0, 0) hS
        have c2 := cell_of_row W3 w.heap.size 2 _ _ (0, 0) hS
        refine bodyPost_ret ((results_cell2 rfl _ _ _).trans (by go_simp; rfl)) rfl ?_
        rw [HP.out]
        exact ⟨_, _, rfl, SlI.nil _ _, rfl, hB⟩
      have hl2 : l.length = 2 := by omega
      have HL2 := hid hl2
      have hsx : (l[1]).size ≤ 30000 := Nat.le_trans (HSZ.out _ (List.getElem_mem _)) hs
      have xw0 : W.cell? ⟨w.heap.size + 1, 1, none⟩ = some (.string l[1]) := HQW.out 1 (by omega)
      have HPL2 := hid (show parseL l = (match numS l[1] with | none => (⟨0, 0, []⟩, some 2) | some n => (⟨k, n, []⟩, none)) by
        rw [HPL.out, if_neg h1, if_neg h2, List.getD_eq_getElem?_getD, List.getElem?_eq_getElem (show 1 < l.length by omega)]; rfl)
      generalize hxg : l[1] = x at *
      have hPW : w.heap.size + 2 < wc.heap.size := (Array.getElem?_eq_some_iff.1 HPP.out).1
      clear h1 h2 hxg HPL i1 hpos hl HSZ
      generalize parseL l = pl at *
      rw [hl2]
      clear hl2 p1 p2 r0 r1 r2 f0 f1 f2
      have x1 := cell_below HB1.out xw0
      have XW := hid x1
      clear xw0 x1
      go_wp2_with fail
      go_loopg [48] 1 (fun gz s48 wr => ∃ (j : Nat) (nn : Int), j ≤ 1 ∧ 1 - j ≤ gz ∧ s48 = .int .i64 (j : Int) ∧ wr.heap[w.heap.size + 2]? = some (.cells #[.int .i64 k, .int .i64 nn, .slice none 0 0] 24 (0, 0)) ∧ (j = 1 → numS x = some nn) ∧ Frm (· = w.heap.size + 2) wc wr)
      case atStart => exact ⟨0, 0, by omega, by omega, rfl, HPP.out, fun h => absurd h (by omega), Frm.refl _ _⟩
      case round =>
        obtain ⟨j, nn, hj, hgz, rfl, hh, hnn, hf⟩ := hrel
        have hbw : Below w.heap.size w wr := below_of_frm HB.out hf (by omega)
        have hR : wr.heap[w.heap.size]? = some (.cells #[.int .i64 0, .int .i64 0, .slice none 0 0] 24) := (hf.block _ (by omega) HRN.out).trans HR.out
        have HBW := hid hbw
        have HHR := hid hR
        have HF := hid hf
        have HH := hid hh
        have hfs := hf.size
        by_cases hlt : j < 1
        · obtain rfl : j = 0 := by omega
          have xw : wr.cell? ⟨w.heap.size + 1, 1, none⟩ = some (.string x) := hf.cell XW.out (by simp)
          have HVR := hid (hV1.out.below hbw)
          cases hx : numS x with
          | none =>
            have HP := hid (show pl = (⟨0, 0, []⟩, some 2) by rw [HPL2.out, hx])
            have HNO := hid (number_no x wr HVR.out hsx hx)
            clear hx hh hf hbw hR hnn hlt
            go_wp2_with (go_at_call 22; refine HNO.out.mono ?_; rintro _ w6 ⟨rfl, hb6⟩; have hR6 : w6.heap[w.heap.size]? = some (.cells #[.int .i64 0, .int .i64 0, .slice none 0 0] 24) := (hb6.block _ (Array.getElem?_eq_some_iff.1 HHR.out).1).trans HHR.out; have HR6 := hid hR6; have HB6 := hid (below_then HBW.out hb6); have r0 := cell_of_row w6 w.heap.size 0 _ _ (0, 0) hR6; have r1 := cell_of_row w6 w.heap.size 1 _ _ (0, 0) hR6; have r2 := cell_of_row w6 w.heap.size 2 _ _ (0, 0) hR6; have f0 := frozen_of_row w6 w.heap.size 0 _ _ hR6; have f1 := frozen_of_row w6 w.heap.size 1 _ _ hR6; have f2 := frozen_of_row w6 w.heap.size 2 _ _ hR6; clear hR6 hb6)
            have hS := set3 (u0 := .int .i64 0) (u1 := .int .i64 0) (u2 := .slice none 0 0) HR6.out
            have hB := ((HB6.out.setCell (p := ⟨w.heap.size, 0, none⟩) (Nat.le_refl _) (.int .i64 0)).setCell (p := ⟨w.heap.size, 1, none⟩) (Nat.le_refl _) (.int .i64 0)).setCell (p := ⟨w.heap.size, 2, none⟩) (Nat.le_refl _) (.slice none 0 0)
            generalize (((w6.setCell ⟨w.heap.size, 0, none⟩ (.int .i64 0)).setCell ⟨w.heap.size, 1, none⟩ (.int .i64 0)).setCell ⟨w.heap.size, 2, none⟩ (.slice none 0 0)) = W3 at *
            have c0 := cell_of_row W3 w.heap.size 0 _ _ (0, 0) hS
            have c1 := cell_of_row W3 w.heap.size 1 _ _ (0, 0) hS
            have c2 := cell_of_row W3 w.heap.size 2 _ _ (0, 0) hS
            refine bodyPost_ret ((results_cell2 rfl _ _ _).trans (by go_simp; rfl)) rfl ?_
            rw [HP.out]
            exact ⟨_, _, rfl, SlI.nil _ _, rfl, hB⟩
          | some v =>
            have HX := hid hx
            have HNO := hid (number_ok x v wr HVR.out hsx hx)
            clear hx hh hf hbw hR hnn hlt
            go_wp2_with (go_at_call 22; refine HNO.out.mono ?_; rintro _ w6 ⟨rfl, hb6⟩; have hh6 : w6.heap[w.heap.size + 2]? = some (.cells #[.int .i64 k, .int .i64 nn, .slice none 0 0] 24) := (hb6.block _ (Array.getElem?_eq_some_iff.1 HH.out).1).trans HH.out; have p0 := cell_of_row w6 (w.heap.size + 2) 0 _ _ (0, 0) hh6; have p1 := cell_of_row w6 (w.heap.size + 2) 1 _ _ (0, 0) hh6; have pf1 := frozen_of_row w6 (w.heap.size + 2) 1 _ _ hh6; have HH6 := hid hh6; have HB6 := hid hb6; clear hh6 hb6)
            go_roundg 0
            case measure => omega
            case rel => exact ⟨1, v, by omega, by omega, by go_num, heap_setCell_same w6 (w.heap.size + 2) 1 _ _ (.int .i64 v) HH6.out, fun _ => HX.out, (HF.out.trans (Frm.of_below HB6.out)).setCell (fun _ => rfl) _⟩
        · obtain rfl : j = 1 := by omega
          have HP := hid (show pl = (⟨k, nn, []⟩, none) by rw [HPL2.out, hnn rfl])
          have p0 := cell_of_row wr (w.heap.size + 2) 0 _ _ (0, 0) hh
          have p1 := cell_of_row wr (w.heap.size + 2) 1 _ _ (0, 0) hh
          have p2 := cell_of_row wr (w.heap.size + 2) 2 _ _ (0, 0) hh
          have r0 := cell_of_row wr w.heap.size 0 _ _ (0, 0) hR
          have r1 := cell_of_row wr w.heap.size 1 _ _ (0, 0) hR
          have r2 := cell_of_row wr w.heap.size 2 _ _ (0, 0) hR
          have f0 := frozen_of_row wr w.heap.size 0 _ _ hR
          have f1 := frozen_of_row wr w.heap.size 1 _ _ hR
          have f2 := frozen_of_row wr w.heap.size 2 _ _ hR
          clear hh hf hbw hR hnn hlt
          go_wp2_with fail
          have hS := set3 (u0 := .int .i64 k) (u1 := .int .i64 nn) (u2 := .slice none 0 0) HHR.out
          have hB := ((HBW.out.setCell (p := ⟨w.heap.size, 0, none⟩) (Nat.le_refl _) (.int .i64 k)).setCell (p := ⟨w.heap.size, 1, none⟩) (Nat.le_refl _) (.int .i64 nn)).setCell (p := ⟨w.heap.size, 2, none⟩) (Nat.le_refl _) (.slice none 0 0)
          generalize (((wr.setCell ⟨w.heap.size, 0, none⟩ (.int .i64 k)).setCell ⟨w.heap.size, 1, none⟩ (.int .i64 nn)).setCell ⟨w.heap.size, 2, none⟩ (.slice none 0 0)) = W3 at *
          have c0 := cell_of_row W3 w.heap.size 0 _ _ (0, 0) hS
          have c1 := cell_of_row W3 w.heap.size 1 _ _ (0, 0) hS
          have c2 := cell_of_row W3 w.heap.size 2 _ _ (0, 0) hS
          refine bodyPost_ret ((results_cell2 rfl _ _ _).trans (by go_simp; rfl)) rfl ?_
          rw [HP.out]
          exact ⟨_, _, rfl, SlI.nil _ _, rfl, hB⟩
end Go.Proofs
