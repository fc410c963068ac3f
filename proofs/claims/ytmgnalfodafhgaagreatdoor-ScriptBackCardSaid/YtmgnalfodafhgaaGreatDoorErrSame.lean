import Derived.Test.YtmgnalfodafhgaaGreatDoorErrPath
import Derived.Test.YtmgnalfodafhgaaGreatDoorK1
import Derived.Deep.QuietTactic
set_option linter.unusedVariables false
set_option linter.unusedSimpArgs false
namespace Go.Proofs
open Go.RowKit Go.Kin
theorem kOK_any (c : Int) (pv : Value) (w : World) : Calls Tryz.prog 25 #[.agg #[.int .i64 c, pv]] w fun e w' => e = .returned (.bool (c == 0)) ∧ Below w.heap.size w w' := by
  go_enter Tryz.func25, Tryz.ntmps25
  go_wp2
  all_goals (go_ret; exact ⟨rfl, below_alloc (below_refl w) _⟩)

theorem kOK_no (c : Int) (pv : Value) (w : World) (hc : (c == 0) = false) : Calls Tryz.prog 25 #[.agg #[.int .i64 c, pv]] w fun e w' => e = .returned (.bool false) ∧ Below w.heap.size w w' :=
  (kOK_any c pv w).mono fun _ _ ⟨he, hb⟩ => ⟨by rw [he, hc], hb⟩
theorem kOK_yes (pv : Value) (w : World) : Calls Tryz.prog 25 #[.agg #[.int .i64 0, pv]] w fun e w' => e = .returned (.bool true) ∧ Below w.heap.size w w' :=
  (kOK_any 0 pv w).mono fun _ _ ⟨he, hb⟩ => ⟨by rw [he]; rfl, hb⟩

theorem stepCells_at (l : List (ByteArray × Int)) (j : Nat) (hj : j < l.length) : ∀ i u, [Value.string l[j].1, .int .i64 l[j].2][i]? = some u → (stepCells l)[j * 2 + i]? = some u := by
  induction l generalizing j with
  | nil => simp at hj
  | cons p l ih =>
    intro i u hu
    cases j with
    | zero =>
      have : i < 2 := by
        have := (List.getElem?_eq_some_iff.1 hu).1
        simpa using this
      simp only [stepCells, List.flatMap_cons, Nat.zero_mul, Nat.zero_add]
      rw [List.getElem?_append_left (by simpa using this)]
      simpa using hu
    | succ j =>
      have := ih j (by simpa using hj) i u (by simpa using hu)
      simp only [stepCells, List.flatMap_cons] at this ⊢
      rw [List.getElem?_append_right (by simp; omega)]
      simp only [List.length_cons, List.length_nil]
      rw [show (j + 1) * 2 + i - (0 + 1 + 1) = j * 2 + i by omega]
      exact this
theorem steps_of_own {w : World} {base : Nat} {e : TypeId} {v : Value} {l : List (ByteArray × Int)} (h : w.ownsRow base e 2 v l.length (stepCells l)) : SlG 2 StepR w v l :=
  SlG.of_own h (by omega) fun j hj => ⟨_, rfl, rfl, stepCells_at l j hj⟩
theorem Path_nil (w : World) : Calls Tryz.prog 27 #[.nilIface] w fun e w' => e = .returned (.slice none 0 0) ∧ Below w.heap.size w w' := by
  go_enter Tryz.func27, Tryz.ntmps27
  go_wp2
  refine wp_loop_rounds 1 ?_
  rw [rounds_succ]
  go_wp2_with (go_at_call 43; refine (as_nil _ _).mono ?_; rintro e w' ⟨rfl, rfl⟩)
  go_ret
  exact ⟨rfl, below_alloc (below_refl w) _⟩

set_option maxRecDepth 100000 in
set_option maxHeartbeats 4000000 in
theorem kErr_nil (k : KEr) (kv : Value) (w : World) (hk : KErV w kv k) :
    Calls Tryz.prog 9 #[.nilIface, kv] w fun e w' => e = .returned (.bool (sameErr none k)) ∧ Below w.heap.size w w' := by
  obtain ⟨pv, rfl, hp⟩ := hk
  obtain ⟨c, path⟩ := k
  simp only at hp ⊢
  obtain ⟨A, cap, rfl, hm, hr⟩ := hp
  generalize hpv : Value.slice A path.length cap = pv
  generalize hW : w.alloc (.cells #[.int .i64 c, pv] 35) = W
  have hb0 : Below w.heap.size w W := by rw [← hW]; exact below_alloc (below_refl w) _
  have c0 : ∀ i : Aft W, i.W.cell? ⟨w.heap.size, 0, none⟩ = some (.int .i64 c) := fun i => cell_below i.below (by rw [← hW, World.cell?_alloc_at _ _ _ _ rfl]; rfl)
  have c1 : ∀ i : Aft W, i.W.cell? ⟨w.heap.size, 1, none⟩ = some pv := fun i => cell_below i.below (by rw [← hW, World.cell?_alloc_at _ _ _ _ rfl]; rfl)
  have HPV := hid hpv
  clear hpv hr
  by_cases hc : c = 0
  · subst hc
    go_enter Tryz.func9, Tryz.ntmps9
    go_wp2_with fail
    refine wp_region_aft (by kernel_rfl) (by kernel_rfl) ?_
    repeat (go_big_quiet_step (first | (go_at_call 25; exact aft_calls (kOK_yes pv _)) | (go_at_call 26; exact aft_same (Of_nil _))))
    refine wpQuiet_nil ?_
    intro _ hw'
    obtain ⟨iq, hw''⟩ := hw'
    subst hw''
    have d1 : ∀ W', Below iq.W.heap.size iq.W W' → W'.cell? ⟨w.heap.size, 1, none⟩ = some pv := fun W' hb => cell_below hb (c1 iq)
    clear c0 c1
    obtain rfl := HPV.out
    have hbq : Below w.heap.size w iq.W := below_then hb0 iq.below
    go_wp2_with (go_at_call 27; refine (Path_nil _).mono ?_; rintro e w' ⟨rfl, hb⟩; have d2 := d1 _ hb)
    · go_ret
      have hne : ((0 : Int) != (path.length : Int)) = true := by assumption
      exact ⟨ret_bool (by simp [sameErr]; intro e; simp [e] at hne), below_then hbq hb⟩
    · have hne : ((0 : Int) != (path.length : Int)) = false := by assumption
      have h0 : path = [] := by
        cases path with
        | nil => rfl
        | cons a l => simp at hne; omega
      subst h0
      clear hne
      refine wp_loop_rounds 1 ?_
      rw [rounds_succ]
      go_wp2
      go_ret
      exact ⟨ret_bool (by simp [sameErr]), below_then hbq hb⟩
  · have hc0 : (c == 0) = false := by simpa using hc
    go_enter Tryz.func9, Tryz.ntmps9
    go_wp2_with fail
    refine wp_region_aft (by kernel_rfl) (by kernel_rfl) ?_
    repeat (go_big_quiet_step (first | (go_at_call 25; exact aft_calls (kOK_no c pv _ hc0)) | (go_at_call 26; exact aft_same (Of_nil _))))
    refine wpQuiet_nil ?_
    intro _ hw'
    obtain ⟨iq, hw''⟩ := hw'
    subst hw''
    go_wp2
    go_ret
    exact ⟨ret_bool (by simp [sameErr, hc]), below_then hb0 iq.below⟩

theorem Of_someB (e : Er) (v : Value) (w : World) (n : Int) (hn : e.leaf = n) (hg : ErrTyp w) (hE : ErrV 32 92 w e v) : Calls Tryz.prog 26 #[v] w fun ev w' => ev = .returned (.int .i64 n) ∧ Below w.heap.size w w' := by
  subst hn; exact Of_some e v w hg hE

theorem steps_len {w : World} {v : Value} {l : List (ByteArray × Int)} (h : SlG 2 StepR w v l) : ∃ A cap, v = .slice A l.length cap ∧ l.length ≤ 9223372036854775807 ∧
    ∀ k, k < l.length → ∃ b off, A = some ⟨b, off, none⟩ ∧ w.cell? ⟨b, off + k * 2, none⟩ = some (.string (l.getD k default).1) ∧ w.cell? ⟨b, off + k * 2 + 1, none⟩ = some (.int .i64 (l.getD k default).2) := by
  obtain ⟨A, cap, hv, hm, hr⟩ := h
  refine ⟨A, cap, hv, hm, fun k hk => ?_⟩
  obtain ⟨b, off, hA, hc⟩ := hr (by omega)
  obtain ⟨cs, hl, hx, hcs⟩ := hc k hk
  have hx' : cs = [.string l[k].1, .int .i64 l[k].2] := hx
  subst hx'
  refine ⟨b, off, hA, ?_, ?_⟩
  · have := hcs 0 _ rfl
    simpa [List.getD_eq_getElem?_getD, List.getElem?_eq_getElem hk] using this
  · have := hcs 1 _ rfl

    simpa [List.getD_eq_getElem?_getD, List.getElem?_eq_getElem hk] using this
end Go.Proofs
