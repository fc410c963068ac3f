import Derived.Test.YtmgnalfodafhgaaGreatDoorSrc4
set_option linter.unusedVariables false
set_option linter.unusedSimpArgs false
namespace Go.Kin
open Go.RowKit
/-- The same, with room behind what it reads. -/
def SlB (k : IntKind) (w : World) (v : Value) (xs : List Int) : Prop := SlI k w v xs ∧ ∀ A n c, v = .slice A n c → n ≤ c
theorem SlB.below {k : IntKind} {w w1 : World} {v : Value} {xs : List Int} (h : SlB k w v xs) (hb : Below w.heap.size w w1) : SlB k w1 v xs := ⟨h.1.below hb, h.2⟩
theorem SlB.of_own {k : IntKind} {w : World} {base : Nat} {e : TypeId} {v : Value} {n : Nat} {xs : List Int} (h : w.ownsRow base e 1 v n (xs.map (Value.int k))) : SlB k w v xs := by
  refine ⟨SlI.of_own h, fun A m c hv => ?_⟩
  rcases h.2 with ⟨h0, _⟩ | ⟨g, cap, cur, h0, _, _, hn, _⟩
  · rw [h0] at hv; injection hv; omega
  · rw [h0] at hv; injection hv; omega
theorem SlI.news {k : IntKind} {w : World} {b off n c : Nat} {xs : List Int} (h : SlI k w (.slice (some ⟨b, off, none⟩) n c) xs) (m : Nat) : ∀ j u, ((xs.drop m).map (Value.int k))[j]? = some u → w.cell? ((⟨b, off + m, none⟩ : Addr).add j) = some u := by
  intro j u hu
  obtain ⟨A, c', hv, _, hr⟩ := h
  rw [List.getElem?_map, List.getElem?_drop] at hu
  have hj : m + j < xs.length := by
    rcases Nat.lt_or_ge (m + j) xs.length with h1 | h1
    · exact h1
    · rw [List.getElem?_eq_none h1] at hu; simp at hu
  obtain ⟨b', off', hA, hc⟩ := hr (by omega)
  injection hv with e1 e2 e3
  rw [hA] at e1
  injection e1 with e1
  injection e1 with e1 e2
  subst e1; subst e2
  have := hc (m + j) hj
  rw [List.getElem?_eq_getElem hj, Option.map_some] at hu
  rw [List.getD_eq_getElem?_getD, List.getElem?_eq_getElem hj, Option.getD_some] at this
  rw [show (⟨b, off + m, none⟩ : Addr).add j = ⟨b, off + (m + j), none⟩ by unfold Addr.add; simp [Nat.add_assoc], this]
  exact hu
/-- The first n, what lacks is 0. -/
def cutX (bs : List Int) (n : Nat) : List Int := (List.range n).map fun i => bs.getD i 0
def cutAt (bs : List Int) (n k : Nat) : List Int := (List.range k).map (fun i => bs.getD i 0) ++ List.replicate (n - k) 0
theorem cutAt_zero (bs : List Int) (n : Nat) : cutAt bs n 0 = List.replicate n 0 := by simp [cutAt]
theorem cutAt_end (bs : List Int) (n : Nat) : cutAt bs n n = cutX bs n := by simp [cutAt, cutX]
theorem cutAt_len (bs : List Int) (n k : Nat) (hk : k ≤ n) : (cutAt bs n k).length = n := by simp [cutAt]; omega
theorem cutAt_succ (bs : List Int) (n k : Nat) (hk : k < n) : (cutAt bs n k).set k (bs.getD k 0) = cutAt bs n (k + 1) := by
  unfold cutAt
  rw [List.set_append_right _ _ (by simp)]
  simp only [List.length_map, List.length_range, Nat.sub_self, List.range_succ, List.map_append, List.map_cons, List.map_nil, List.append_assoc]
  congr 1
  obtain ⟨m, hm⟩ : ∃ m, n - k = m + 1 := ⟨n - k - 1, by omega⟩
  rw [hm, List.replicate_succ, List.set_cons_zero, show n - (k + 1) = m by omega]
  rfl
theorem cutAt_past (bs : List Int) (n k : Nat) (hk : k < n) (hb : bs.length ≤ k) : cutAt bs n k = cutAt bs n (k + 1) := by
  rw [← cutAt_succ bs n k hk, List.getD_eq_getElem?_getD, List.getElem?_eq_none hb]
  unfold cutAt
  rw [List.set_append_right _ _ (by simp)]
  simp only [List.length_map, List.length_range, Nat.sub_self]
  obtain ⟨m, hm⟩ : ∃ m, n - k = m + 1 := ⟨n - k - 1, by omega⟩
  rw [hm, List.replicate_succ]
  rfl
end Go.Kin
namespace Go.Proofs
open Go.RowKit Go.Kin Go.Shelf
/-- What cut hands back. -/
def CutRet (bs : List Int) (n : Nat) (w : World) (e : Ending) (w' : World) : Prop :=
  ∃ x r, e = .returned (.tuple #[x, r]) ∧ w'.ownsRow w.heap.size 3 1 x n ((cutX bs n).map (Value.int .i64)) ∧ w'.ownsRow w.heap.size 5 1 r (bs.length - n) ((bs.drop n).map (Value.int .u8)) ∧ Below w.heap.size w w'
set_option maxRecDepth 100000 in
set_option maxHeartbeats 4000000 in
theorem cut_any (bs : List Int) (n : Nat) (bv : Value) (w : World) (hs : SlB .u8 w bv bs) (hn : n ≤ 8) (hn0 : 0 < n) (hbig : bs.length ≤ 2000) (hv : ∀ x ∈ bs, 0 ≤ x ∧ x ≤ 255) :
    Calls Tryz.prog 28 #[bv, .int .i64 n] w (CutRet bs n w) := by
  obtain ⟨i0, hi, hz0, hz1, hz2⟩ := info_parts Tq.info_int
  obtain ⟨A, c, rfl, hm, hc⟩ := hs.1.open
  have hcap := hs.2 _ _ _ rfl
  obtain ⟨j0, hj, hj0, hj1, hj2⟩ := info_parts Tq.info_u8
  go_enter Tryz.func28, Tryz.ntmps28
  go_wp2_with (refine wpList_make_full _ rfl (.tmp 8) (.tmp 8) 22 rfl w.heap.size 3 i0 (.int .i64 0) 1 Tryz.underlying22 hi hz0 hz1 .i64 .i64 n n n rfl rfl rfl rfl (by rw [hz2]; omega) (by unfold maxLen; omega) (by simp) ?_; intro w1 hown hgrow)
  have hb1 : Below w.heap.size w w1 := (below_refl w).grown hgrow (by simp) (fun k h => by cases h)
  have hown1 : w1.ownsRow w.heap.size 3 1 (.slice (some ⟨w.heap.size, 0, none⟩) n n) n ((cutAt bs n 0).map (Value.int .i64)) := by
    rw [cutAt_zero]; exact own_made (by simpa using hown)
  clear hown hgrow
  go_loopg [7, 12] n (fun g _ s12 wr => ∃ k : Nat, k ≤ n ∧ n - k ≤ g ∧ s12 = .int .i64 k ∧ Below w.heap.size w wr ∧ wr.ownsRow w.heap.size 3 1 (.slice (some ⟨w.heap.size, 0, none⟩) n n) n ((cutAt bs n k).map (Value.int .i64)))
  case atStart => exact ⟨0, Nat.zero_le _, by omega, rfl, hb1, hown1⟩
  case round =>
    obtain ⟨k, hk, hg, rfl, hbr, hown⟩ := hrel
    by_cases hlt : k < n
    · by_cases hkb : k < bs.length
      · obtain ⟨b, off, rfl, x0⟩ := hc k hkb
        have x1 := cell_below hbr x0
        have t0 := own_cell hown k hlt
        have tf : wr.frozen? ⟨w.heap.size, k, none⟩ = false := hown.frozenAt k
        have hvk := getD_smp hv k
        generalize hX : bs.getD k 0 = X at *
        have HX := hid hX
        clear hX hc x0
        go_wp2_with fail
        go_roundg (n - (k + 1))
        case measure => omega
        case rel =>
          refine ⟨k + 1, by omega, by omega, by go_num, hbr.setCell (by simp) _, ?_⟩
          rw [← cutAt_succ bs n k hlt, HX.out]
          exact own_set hown k X
      · go_wp2_with fail
        go_roundg (n - (k + 1))
        case measure => omega
        case rel => exact ⟨k + 1, by omega, by omega, by go_num, hbr, by rw [← cutAt_past bs n k hlt (by omega)]; exact hown⟩
    · obtain rfl : k = n := by omega
      by_cases hlong : k < bs.length
      · obtain ⟨b, off, rfl, _⟩ := hc k hlong
        have hmin : min (k : Int) (bs.length : Int) = (k : Int) := by omega
        have hsw := hid ((hs.1.below hbr).below (below_alloc (below_refl wr) (.cells #[] 5)))
        have hmk := World.ownsRow_made wr #[] 0 (base := w.heap.size) (e := 5) (size := 1) hbr.size (by unfold maxLen; omega) rfl
        go_wp2_with (first | (exfalso; omega) | (refine wpList_append_lies _ rfl (.tmp 29) (.tmp 35) 40 rfl w.heap.size 5 j0 (.int .u8 0) 1 1 Tryz.underlying40 hj hj0 hj1 hj2 rfl (by decide) (.slice (some ⟨wr.heap.size, 0, none⟩) 0 0) 0 [] rfl hmk ⟨b, off + k, none⟩ (bs.length - k) (c - k) _ rfl (by simp) (hsw.out.news k) (fun u hu => by simp only [List.mem_map] at hu; obtain ⟨_, _, rfl⟩ := hu; rfl) (by omega) (by unfold maxLen; omega) (by omega) (by have := hbr.size; simp; omega) (wr.heap.size + 1) (by simp) ?_; intro g2 cap2 w2 hown2 hgrow hat hlt2))
        go_ret2
        refine ⟨_, _, rfl, ?_, ?_, ?_⟩
        · rw [← cutAt_end]
          exact (hown.alloc (.cells #[] 5)).kept hgrow (.inr (by simp [Value.ownBlock]; have := (hown.lt w.heap.size rfl).2; omega))
        · rw [Nat.zero_add, List.nil_append] at hown2
          exact hown2
        · exact (below_alloc hbr (.cells #[] 5)).grown hgrow (below_alloc hbr (.cells #[] 5)).size (fun q hq => by have h2 := hbr.size; have h3 : wr.heap.size = q := (by simpa [Value.ownBlock] using hq); omega)
      · have hmk := World.ownsRow_made wr #[] 0 (base := w.heap.size) (e := 5) (size := 1) hbr.size (by unfold maxLen; omega) rfl
        by_cases heq : k = bs.length
        · have hd : bs.drop k = [] := List.drop_eq_nil_of_le (by omega)
          have hd0 : bs.length - k = 0 := by omega
          subst heq
          rcases A with _ | ⟨b, off, sp⟩
          all_goals
            go_wp2
            all_goals
              go_ret2
              refine ⟨_, _, rfl, ?_, ?_, below_alloc hbr _⟩
              · rw [← cutAt_end]; exact hown.alloc _
              · rw [hd, hd0]; exact hmk
        · have hd : bs.drop k = [] := List.drop_eq_nil_of_le (by omega)
          have hd0 : bs.length - k = 0 := by omega
          rcases A with _ | ⟨b, off, sp⟩
          all_goals
            go_wp2_with (exfalso; omega)
            all_goals first
              | (exfalso; omega)
              | (go_ret2
                 refine ⟨_, _, rfl, ?_, ?_, below_alloc hbr _⟩
                 · rw [← cutAt_end]; exact hown.alloc _
                 · rw [hd, hd0]; exact hmk)
end Go.Proofs
