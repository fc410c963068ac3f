import Derived.Test.YtmgnalfodafhgaaGreatDoorTxt1
import Derived.Test.YtmgnalfodafhgaaGreatDoorK6
import Derived.Lib.Hide
import Derived.Deep.DeepCutAuto
set_option linter.unusedVariables false
set_option linter.unusedSimpArgs false
namespace Go.Kin
open Go.RowKit
def wordsL : List ByteArray := [⟨#[]⟩, ⟨#[112, 105, 99, 107]⟩, ⟨#[99, 114, 97, 115, 104]⟩, ⟨#[115, 116, 97, 114, 116]⟩, ⟨#[97, 114, 109]⟩, ⟨#[103, 114, 111, 119]⟩, ⟨#[114, 111, 117, 110, 100]⟩]
/-- A number as it is printed. -/
def itoaB (n : Int) : ByteArray := ⟨(Lib.itoa n).toArray⟩
theorem decDigits_len : ∀ (m u : Nat), 0 < m → u < 10 ^ m → (Lib.decDigits u).length ≤ m
  | 0, _, h, _ => absurd h (by omega)
  | m + 1, u, _, hu => by
    rw [Lib.decDigits]
    split
    · simp
    · rename_i h10
      rw [List.length_append]
      have hm : 0 < m := by
        rcases Nat.eq_zero_or_pos m with rfl | h
        · simp at hu; omega
        · exact h
      have := decDigits_len m (u / 10) hm (by rw [Nat.pow_succ] at hu; omega)
      simp; omega
theorem itoaB_size (n : Int) (h0 : -9223372036854775808 ≤ n ∧ n ≤ 9223372036854775807) : (itoaB n).size ≤ 20 := by
  show (Lib.itoa n).toArray.size ≤ 20
  rw [List.size_toArray]
  unfold Lib.itoa
  split
  · have := decDigits_len 19 n.natAbs (by omega) (by omega)
    simp; omega
  · have := decDigits_len 19 n.toNat (by omega) (by omega)
    omega
theorem words_size (k : Nat) : (wordsL.getD k ⟨#[]⟩).size ≤ 5 := by
  rcases (show k = 0 ∨ k = 1 ∨ k = 2 ∨ k = 3 ∨ k = 4 ∨ k = 5 ∨ k = 6 ∨ 7 ≤ k by omega) with rfl | rfl | rfl | rfl | rfl | rfl | rfl | h
  all_goals first | decide | skip
  rw [List.getD_eq_getElem?_getD, List.getElem?_eq_none (by simpa [wordsL] using h)]; decide
def sp : ByteArray := ⟨#[32]⟩
def pickS (l : List Int) : ByteArray := l.foldl (fun s p => s ++ (sp ++ itoaB p)) ⟨#[99, 114, 97, 115, 104]⟩
theorem pickS_succ (l : List Int) (j : Nat) (hj : j < l.length) : pickS (l.take (j + 1)) = pickS (l.take j) ++ (sp ++ itoaB (l.getD j 0)) := by
  unfold pickS
  rw [List.take_succ_eq_append_getElem hj, List.foldl_append, List.getD_eq_getElem?_getD, List.getElem?_eq_getElem hj]
  rfl
/-- An act as a line. -/
def printS (a : Kin.Act) : ByteArray :=
  if a.kind < 1 ∨ 6 < a.kind then ⟨#[63]⟩ else if a.kind = 2 then pickS a.picks else wordsL.getD a.kind.toNat ⟨#[]⟩ ++ sp ++ itoaB a.n
end Go.Kin
namespace Go.Proofs
open Go.RowKit Go.Kin Go.Shelf
theorem itoaB_any (n : Int) (w : World) (hV : VarsOk w) (h0 : -9223372036854775808 ≤ n ∧ n ≤ 9223372036854775807) :
    Calls Tryz.prog 24 #[.int .i64 n] w fun e w' => e = .returned (.string (itoaB n)) ∧ Below w.heap.size w w' := itoa_any n w hV h0.1 h0.2
theorem words_any (w : World) : Calls Tryz.prog 23 #[] w fun e w' => e = .returned (.slice (some ⟨w.heap.size, 0, none⟩) 7 7) ∧ w' = w.alloc (.cells (wordsL.map Value.string).toArray 9) := by
  go_enter Tryz.func23, Tryz.ntmps23
  go_wp2
  go_ret
  exact ⟨rfl, rfl⟩
theorem words_at (k : Nat) (hk : k < 7) (w : World) : Calls Tryz.prog 23 #[] w fun e w' => ∃ g, e = .returned (.slice (some ⟨g, 0, none⟩) 7 7) ∧ w'.cell? ⟨g, k, none⟩ = some (.string (wordsL.getD k ⟨#[]⟩)) ∧ Below w.heap.size w w' := by
  refine (words_any w).mono ?_
  rintro _ _ ⟨rfl, rfl⟩
  refine ⟨_, rfl, ?_, below_alloc (below_refl w) _⟩
  rw [World.cell?_alloc_at _ _ _ _ rfl]
  rcases (show k = 0 ∨ k = 1 ∨ k = 2 ∨ k = 3 ∨ k = 4 ∨ k = 5 ∨ k = 6 by omega) with rfl | rfl | rfl | rfl | rfl | rfl | rfl <;> rfl
/-- A text is handed back; new memory alone is made. -/
def StrRet (s : ByteArray) (w : World) (e : Ending) (w' : World) : Prop := e = .returned (.string s) ∧ Below w.heap.size w w'
set_option maxRecDepth 100000 in
set_option maxHeartbeats 4000000 in
theorem print_any (a : Kin.Act) (pv : Value) (w : World) (hV : VarsOk w) (hk : -9223372036854775808 ≤ a.kind ∧ a.kind ≤ 9223372036854775807) (hn : -9223372036854775808 ≤ a.n ∧ a.n ≤ 9223372036854775807)
    (hp : SlI .i64 w pv a.picks) (hl : a.picks.length ≤ 3000) (hr : ∀ x ∈ a.picks, -9223372036854775808 ≤ x ∧ x ≤ 9223372036854775807) :
    Calls Tryz.prog 8 #[.agg #[.int .i64 a.kind, .int .i64 a.n, pv]] w (StrRet (printS a) w) := by
  obtain ⟨kind, n, picks⟩ := a
  simp only at hk hn hp hl hr
  by_cases h1 : kind < 1
  · have HP := hid (show printS ⟨kind, n, picks⟩ = ⟨#[63]⟩ by unfold printS; rw [if_pos (.inl h1)])
    go_enter Tryz.func8, Tryz.ntmps8
    go_wp2
    go_ret
    exact ⟨by rw [HP.out]; rfl, below_alloc (below_refl w) _⟩
  by_cases h2 : 6 < kind
  · have HP := hid (show printS ⟨kind, n, picks⟩ = ⟨#[63]⟩ by unfold printS; rw [if_pos (.inr h2)])
    go_enter Tryz.func8, Tryz.ntmps8
    go_wp2
    go_ret
    exact ⟨by rw [HP.out]; rfl, below_alloc (below_refl w) _⟩
  obtain ⟨k, rfl⟩ := Int.eq_ofNat_of_zero_le (show 0 ≤ kind by omega)
  obtain ⟨A, c, rfl, hm, hc⟩ := hp.open
  have hp2 := hid hp
  have HPK := hid (show ¬ ((k : Int) < 1 ∨ 6 < (k : Int)) by omega)
  have HRR := hid hr
  clear hp hr
  have i1 : (0 : Int) ≤ (k : Int) := by omega
  have i2 : (k : Int) < 7 := by omega
  have hwat := words_at k (by omega)
  have hus := words_size k
  have hu : wordsL.getD k ⟨#[]⟩ = wordsL.getD k ⟨#[]⟩ := rfl
  generalize hU : wordsL.getD k ⟨#[]⟩ = u at hwat hus
  have HU := hid hU
  have HWAT := hid hwat
  clear hU hu hwat
  go_enter Tryz.func8, Tryz.ntmps8
  go_wp2_with fail
  have q0 : (w.alloc (.cells #[.int .i64 k, .int .i64 n, .slice A picks.length c] 24)).cell? ⟨w.heap.size, 0, none⟩ = some (.int .i64 k) := cell_of_row _ _ 0 _ _ (0, 0) (heap_alloc_new _ _)
  have q1 : (w.alloc (.cells #[.int .i64 k, .int .i64 n, .slice A picks.length c] 24)).cell? ⟨w.heap.size, 1, none⟩ = some (.int .i64 n) := cell_of_row _ _ 1 _ _ (0, 0) (heap_alloc_new _ _)
  have q2 : (w.alloc (.cells #[.int .i64 k, .int .i64 n, .slice A picks.length c] 24)).cell? ⟨w.heap.size, 2, none⟩ = some (.slice A picks.length c) := cell_of_row _ _ 2 _ _ (0, 0) (heap_alloc_new _ _)
  have hb0 : Below w.heap.size w (w.alloc (.cells #[.int .i64 k, .int .i64 n, .slice A picks.length c] 24)) := below_alloc (below_refl w) _
  generalize w.alloc (.cells #[.int .i64 k, .int .i64 n, .slice A picks.length c] 24) = W at *
  go_cut [3] (fun s3 wx => s3 = .string u ∧ Below W.heap.size W wx)
  case first =>
    refine wp_region_keep (fun q => q = w.heap.size) 6 (by kernel_rfl) (by kernel_rfl) (fun hHeld => ?_)
    refine wpAnyH_take (i := 1) (v := ?vp_1) rfl (by kernel_rfl) (by kernel_rfl) (by kernel_rfl) (fun _ _ _ h => h) (Or.inl ⟨by rfl, ?yp_1⟩) (by assumption) ?_
    case yp_1 => intro w hSw; skip; clear hSw; go_simp; try with_reducible rfl
    try simp only [Act.put, List.setIfInBounds_toArray, List.set_cons_zero, List.set_cons_succ]
    refine wpAnyH_take (i := 2) (v := ?vp_2) rfl (by kernel_rfl) (by kernel_rfl) (by kernel_rfl) (fun _ _ _ h => h) (Or.inl ⟨by rfl, ?yp_2⟩) (by assumption) ?_
    case yp_2 => intro w hSw; have c0 := hSw _ _ rfl q0; clear hSw; go_simp; try with_reducible rfl
    try simp only [Act.put, List.setIfInBounds_toArray, List.set_cons_zero, List.set_cons_succ]
    refine wpAnyH_ready (rs := [0]) (by kernel_rfl) (by simp) ?_
    refine AllReadyH.cons (by simp only [List.getElem?_toArray, List.getElem?_cons_succ, List.getElem?_cons_zero]; rfl) (fun K hK => ?_) AllReadyH.nil
    go_simp
    refine (HWAT.out _).mono ?_
    rintro _ w5 ⟨g5, rfl, hc5, hb5⟩
    refine hK.out _ _ (hHeld.below hb5) (fun hHeld => ?_)
    clear hK K
    try simp only [Act.put, List.setIfInBounds_toArray, List.set_cons_zero, List.set_cons_succ]
    refine wpAnyH_take (i := 3) (oi := ?oq_3) (v := ?vq_3) ?hq_3 (by kernel_rfl) (by kernel_rfl) (by kernel_rfl) ?qq_3 (Or.inl ⟨?wq_3, ?yq_3⟩) (by assumption) ?_
    case hq_3 => simp only [List.getElem?_toArray, List.getElem?_cons_succ, List.getElem?_cons_zero]; rfl
    case qq_3 => exact fun _ _ _ h => h
    case wq_3 => rfl
    case yq_3 => intro w hSw; skip; clear hSw; go_simp; try with_reducible rfl
    try simp only [Act.put, List.setIfInBounds_toArray, List.set_cons_zero, List.set_cons_succ]
    refine wpAnyH_ready (rs := [4]) (by kernel_rfl) (by simp) ?_
    refine AllReadyH.cons (by simp only [List.getElem?_toArray, List.getElem?_cons_succ, List.getElem?_cons_zero]; rfl) (fun K hK => ?_) AllReadyH.nil
    have HHL := hid hHeld
    clear hHeld
    go_simp
    refine hK.out _ _ HHL.out (fun hHeld => ?_)
    clear HHL
    clear hK K
    try simp only [Act.put, List.setIfInBounds_toArray, List.set_cons_zero, List.set_cons_succ]
    refine wpAnyH_ready (rs := [5]) (by kernel_rfl) (by simp) ?_
    refine AllReadyH.cons (by simp only [List.getElem?_toArray, List.getElem?_cons_succ, List.getElem?_cons_zero]; rfl) (fun K hK => ?_) AllReadyH.nil
    have HHL := hid hHeld
    clear hHeld
    go_simp
    refine hK.out _ _ HHL.out (fun hHeld => ?_)
    clear HHL
    clear hK K
    try simp only [Act.put, List.setIfInBounds_toArray, List.set_cons_zero, List.set_cons_succ]
    refine wpAnyH_done (by kernel_rfl) ?_ _
    go_wp2_with fail
    go_meet
    exact ⟨rfl, below_then ((below_refl W).drew) hb5⟩
  case rest =>
    obtain ⟨rfl, hb⟩ := hcut
    have r0 := cell_below hb q0
    have r1 := cell_below hb q1
    have r2 := cell_below hb q2
    have hV2 := hid ((hV.below hb0).below hb)
    have hp3 := hid ((hp2.out.below hb0).below hb)
    have hB := below_then hb0 hb
    have HB := hid hB
    clear q0 q1 q2 hV hb0 hb hB hp2 hc
    have hz := itoaB_size n hn
    by_cases h3 : k = 2
    · subst h3
      have hword : u = ⟨#[99, 114, 97, 115, 104]⟩ := HU.out.symm
      have HW2 := hid hword
      clear hword
      have i3 : (((2 : Nat) : Int) != 2) = false := by decide
      go_wp2_with fail
      have HPP := hid (show printS ⟨((2 : Nat) : Int), n, picks⟩ = pickS picks from rfl)
      have HC := hid (hp3.out.open)
      clear r0 r1 r2
      go_loopg [3, 31] picks.length (fun g s3 s31 wr => ∃ j : Nat, j ≤ picks.length ∧ picks.length - j ≤ g ∧ s31 = .int .i64 (j : Int) ∧ s3 = .string (pickS (picks.take j)) ∧ (pickS (picks.take j)).size ≤ 5 + 21 * j ∧ Below wc.heap.size wc wr)
      case atStart => exact ⟨0, Nat.zero_le _, by omega, rfl, by rw [HW2.out]; rfl, by simp [pickS]; decide, below_refl wc⟩
      case round =>
        obtain ⟨j, hj, hg, rfl, rfl, hsz, hbr⟩ := hrel
        by_cases hlt : j < picks.length
        · obtain ⟨A', c', hA, _, hc⟩ := HC.out
          obtain ⟨b, off, hb, x0⟩ := hc j hlt
          have hA2 : A = A' := by injection hA
          subst hA2
          subst hb
          have x1 := cell_below hbr x0
          have hx := HRR.out (picks.getD j 0) (by rw [List.getD_eq_getElem?_getD, List.getElem?_eq_getElem hlt]; exact List.getElem_mem _)
          have hz := itoaB_size _ hx
          have hs1 := pickS_succ picks j hlt
          generalize picks.getD j 0 = X at *
          generalize pickS (picks.take j) = S at *
          have HS1 := hid hs1
          clear hs1 hA hc x0
          go_wp2_with (first | (exfalso; omega) | (go_at_call 24; refine (itoaB_any X _ (hV2.out.below hbr) hx).mono ?_; rintro _ w6 ⟨rfl, hb6⟩))
          all_goals first
            | (exfalso; omega)
            | (go_roundg (picks.length - (j + 1))
               case measure => omega
               case rel => exact ⟨j + 1, by omega, by omega, by go_num, by rw [HS1.out]; rfl, by rw [HS1.out]; show (S ++ (sp ++ itoaB X)).size ≤ _; simp only [ByteArray.size_append]; have : sp.size = 1 := rfl; omega, below_then hbr hb6⟩)
        · obtain rfl : j = picks.length := by omega
          go_wp2_with fail
          go_ret
          exact ⟨by rw [HPP.out, List.take_length]; rfl, below_then HB.out hbr⟩
    · have i3 : ((k : Int) != 2) = true := by rw [bne_iff_ne]; omega
      have i4 : ((k : Int) == 2) = false := by rw [beq_eq_false_iff_ne]; omega
      have HP := hid (show printS ⟨(k : Int), n, picks⟩ = u ++ sp ++ itoaB n by
        unfold printS; rw [if_neg HPK.out, if_neg (by simp only; omega)]; simp only [Int.toNat_natCast]; rw [HU.out])
      go_wp2_with (first | (exfalso; omega) | (go_at_call 24; refine (itoaB_any n _ hV2.out hn).mono ?_; rintro _ w6 ⟨rfl, hb6⟩))
      all_goals first
        | (exfalso; omega)
        | (go_ret
           exact ⟨by rw [HP.out]; rfl, below_then HB.out hb6⟩)
end Go.Proofs
