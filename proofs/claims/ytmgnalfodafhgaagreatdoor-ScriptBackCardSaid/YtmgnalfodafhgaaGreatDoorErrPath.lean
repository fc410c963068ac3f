import Derived.Test.YtmgnalfodafhgaaGreatDoorErrOf
import Derived.Deep.AppendLies
import Derived.Deep.RegionLaw
import Derived.Deep.RegionHeld3
set_option linter.unusedVariables false
set_option linter.unusedSimpArgs false
namespace Go.Proofs
open Go.RowKit Go.Extern.Stop Go.Stop Go.Extern Go.Kin
theorem Tq.info245 : (Tryz.prog.info? 68).map (fun i => (i.zero, i.size, i.bytes)) = some (some (.agg #[.string ByteArray.empty, .int .i64 0]), 2, 24) := by kernel_rfl
def stepCells (l : List (ByteArray × Int)) : List Value := l.flatMap fun p => [.string p.1, .int .i64 p.2]
theorem stepCells_snoc (l : List (ByteArray × Int)) (p : ByteArray × Int) : stepCells (l ++ [p]) = stepCells l ++ [.string p.1, .int .i64 p.2] := by simp [stepCells]
/-- The value v reads as these steps. -/
def PathPost (p : List (ByteArray × Int)) (w : World) (ev : Ending) (w' : World) : Prop := ∃ v, ev = .returned v ∧ w'.ownsRow (w.heap.size + 1) 68 2 v p.length (stepCells p) ∧ Below w.heap.size w w'

set_option maxRecDepth 100000 in
set_option maxHeartbeats 4000000 in
theorem Path_some (e : Er) (v : Value) (w : World) (hg : ErrTyp w) (hE : ErrV 32 92 w e v) (hd : e.depth < 1000) : Calls Tryz.prog 27 #[v] w (PathPost e.path w) := by
  obtain ⟨T, x, hv⟩ := hE.shape
  subst hv
  obtain ⟨i0, hi, hz0, hz1, hz2⟩ := info_parts Tq.info245
  go_enter Tryz.func27, Tryz.ntmps27
  go_wp2
  go_loopg [3, 5] e.depth (fun k s3 s5 wr => ∃ e' done old, ErrV 32 92 w e' s5 ∧ e'.depth = k ∧ Hid (e.path = done ++ e'.path) ∧ wr.ownsRow (w.heap.size + 1) 68 2 s3 done.length (stepCells done) ∧ Below w.heap.size w wr ∧
     wr.cell? ⟨w.heap.size, 0, none⟩ = some old ∧ wr.frozen? ⟨w.heap.size, 0, none⟩ = false ∧ w.heap.size < wr.heap.size ∧ done.length + e'.depth < 1000)
  case atStart =>
    exact ⟨e, [], _, hE, rfl, hid rfl, World.ownsRow_nil _ _ _ _, below_alloc (below_refl w) _, by rw [World.cell?_alloc_at _ _ _ _ rfl]; rfl, by rw [World.frozen?_alloc_at _ _ _ _ rfl], by simp, by simpa using hd⟩
  case round =>
    obtain ⟨e', done, old, hE', hd', hp, hown, hbr, hc, hf, hsz, hlen⟩ := hrel
    have hgr : ErrTyp wr := hg.below hbr
    obtain ⟨T', x', hv'⟩ := hE'.shape
    subst hv'
    have hEr := hE'.below hbr
    cases e' with
    | code n =>
      go_wp2_with (go_at_call 43; refine (As_fault (.code n) _ ⟨w.heap.size, 0, none⟩ old _ hEr hgr hc hf).mono ?_; rintro ev w' ⟨hbw, rfl⟩)
      go_ret
      have hp' := hp.out
      simp only [Er.path, List.append_nil] at hp'
      exact ⟨_, rfl, by rw [hp']; exact hbw.own hown (fun k hk e => by have := hown.lt k hk; have e' : k = w.heap.size := e; omega), hbw.below_of hbr (fun k h => by rw [h]; exact Nat.le_refl _)⟩
    | fault s p e' =>
      go_wp2_with (go_at_call 43; refine (As_fault (.fault s p e') _ ⟨w.heap.size, 0, none⟩ old _ hEr hgr hc hf).mono ?_; rintro ev w' ⟨hbw, rfl, b, hvb, hcw, hfw⟩)
      obtain ⟨b', u, hvb', k0, k1, k2, hu⟩ := hE'
      obtain rfl : b' = b := by simpa using hvb'.symm
      clear hvb' hEr
      have hbr' : Below w.heap.size w w' := hbw.below_of hbr (fun k h => by rw [h]; exact Nat.le_refl _)
      have lb : b' < w.heap.size := World.block_lt_of_cell? w _ k0
      have j0 := cell_below hbr' k0
      have j1 := cell_below hbr' k1
      have j2 := cell_below hbr' k2
      have hown' : w'.ownsRow (w.heap.size + 1) 68 2 u3 done.length (stepCells done) := hbw.own hown (fun k hk e => by have := hown.lt k hk; have e' : k = w.heap.size := e; omega)
      have hfr' : w'.frozen? ⟨w.heap.size, 0, none⟩ = false := hfw
      have hsz' : w.heap.size < w'.heap.size := World.block_lt_of_cell? w' _ hcw
      have HK2 := hid k2
      have ag : u3.ownBlock ≠ some w.heap.size := fun e => by have := hown'.lt _ e; omega
      have ak : u3.ownBlock ≠ some b' := fun e => by have := hown'.lt _ e; omega
      clear k0 k1 k2 hc hf hbw hown hgr
      go_region_held3 (fun wx => wx.cell? ⟨w.heap.size, 0, none⟩ = some (.pointer (some ⟨b', 0, none⟩)) ∧ wx.cell? ⟨b', 0, none⟩ = some (.string s) ∧ wx.cell? ⟨b', 1, none⟩ = some (.int .i64 p)) (first | go_keep | (go_split_ands; refine ⟨?_, ?_, ?_⟩; (rw [hgrow.cell_far _ (by simp; omega) (Ne.symm ag)]; assumption); (rw [hgrow.cell_far _ (by simp; omega) (Ne.symm ak)]; assumption); (rw [hgrow.cell_far _ (by simp; omega) (Ne.symm ak)]; assumption)))
        ((refine step_append_lies _ (by rfl) _ _ _ (by rfl) (w.heap.size + 1) 68 i0 _ 2 24 Tryz.underlying65 hi hz0 hz1 hz2 rfl (by omega) u3 done.length (stepCells done) (by rfl) ((hown'.alloc _).drew) ⟨w'.heap.size, 0, none⟩ 1 1 [.string s, .int .i64 p] (by rfl) (by rfl) (World.news_of_block (cs := #[.string s, .int .i64 p]) (t := 68) (fr := (0, 0)) (heap_alloc_new w' _)) (by simp [Value.oneCell']) (by omega) (by unfold maxLen; omega) (by omega) (by simp; omega) (w'.heap.size + 1) (by simp) ?_; intro gg cap w1 hown1 hgrow hat hlt))
      have hb1 : Below w.heap.size w w1 := ((below_alloc hbr' _).drew).grown hgrow (by simp; omega) (fun k hk => by have := hown'.lt k hk; omega)
      have m0 : w1.cell? ⟨w.heap.size, 0, none⟩ = some (.pointer (some ⟨b', 0, none⟩)) := by rw [hgrow.cell_far _ (by simp; omega) (Ne.symm ag)]; exact (World.cell?_alloc_lt _ _ _ hsz').trans hcw
      have m2 := cell_below hb1 HK2.out
      go_wp2
      have hd2 := hd'
      simp only [Er.depth] at hd2 hlen
      go_roundg (gk - 1)
      case measure => omega
      case rel =>
        refine ⟨e', done ++ [(s, p)], .pointer (some ⟨b', 0, none⟩), hu, by omega, hid (by rw [hp.out]; simp [Er.path]), ?_, hb1, m0, ?_, World.block_lt_of_cell? w1 _ m0, by simp only [List.length_append, List.length_singleton]; omega⟩
        · rw [stepCells_snoc, List.length_append]; exact hown1
        · rw [World.frozen?_of_block (w := (w'.alloc (.cells #[.string s, .int .i64 p] 68)).drew) (hgrow.block _ (by simp; omega) (Ne.symm ag))]
          exact (World.frozen?_alloc_old w' _ ⟨w.heap.size, 0, none⟩ (Nat.ne_of_lt hsz')).trans hfr'
end Go.Proofs
