import Derived.Test.YtmgnalfodafhgaaGreatDoorTxt0
set_option linter.unusedVariables false
set_option linter.unusedSimpArgs false
namespace Go.Kin
open Go.RowKit
/-- Which kind of acts has a word. -/
def kindS (l : List UInt8) : Int :=
  if (l == [112, 105, 99, 107]) = true then 1 else if (l == [99, 114, 97, 115, 104]) = true then 2 else if (l == [115, 116, 97, 114, 116]) = true then 3 else if (l == [97, 114, 109]) = true then 4
  else if (l == [103, 114, 111, 119]) = true then 5 else if (l == [114, 111, 117, 110, 100]) = true then 6 else 0
end Go.Kin
namespace Go.Proofs
open Go.RowKit Go.Kin Go.Shelf
theorem kind_any (s : ByteArray) (w : World) : Calls Tryz.prog 21 #[.string s] w fun e w' => e = .returned (.int .i64 (kindS s.toList)) ∧ w = w' := by
  go_enter Tryz.func21, Tryz.ntmps21
  go_wp2
  all_goals (go_ret; exact ⟨ret_int (by simp only [kindS, *]; rfl), rfl⟩)
theorem itoa_is (s : ByteArray) (n : Int) (w : World) (h : (⟨(Lib.itoa n).toArray⟩ : ByteArray) = s) (hV : VarsOk w) (h0 : -9223372036854775808 ≤ n) (h1 : n ≤ 9223372036854775807) :
    Calls Tryz.prog 24 #[.int .i64 n] w fun e w' => e = .returned (.string s) ∧ Below w.heap.size w w' := by
  rw [← h]; exact itoa_any n w hV h0 h1
theorem below_bytes {w w' : World} {t : TypeId} (h : w' = w ∨ ∃ s, w' = Lib.bytesWorld w t s) : Below w.heap.size w w' := by
  rcases h with rfl | ⟨s, rfl⟩
  · exact below_refl _
  · exact Lib.bytesWorld_below _ _ _
set_option maxHeartbeats 4000000 in
theorem number_ok (s : ByteArray) (v : Int) (w : World) (hV : VarsOk w) (hs : s.size ≤ 30000) (h : numS s = some v) :
    Calls Tryz.prog 22 #[.string s] w fun e w' => e = .returned (.tuple #[.int .i64 v, .nilIface]) ∧ Below w.heap.size w w' := by
  unfold numS at h
  cases ha : Lib.atoiAll s.data.toList with
  | range => rw [ha] at h; cases h
  | ok n =>
    rw [ha] at h
    simp only at h
    by_cases hc : Lib.itoa n = s.data.toList ∧ (Lib.trimPrefix s.data.toList [45]).length ≤ 18
    · rw [if_pos hc] at h
      obtain rfl : n = v := by simpa using h
      have hr := Lib.atoiAll_bounds ha
      have hit : (⟨(Lib.itoa n).toArray⟩ : ByteArray) = s := by rw [hc.1]
      have HIT := hid hit
      clear hit
      have HT := hid (show Lib.trimPrefix s.data.toList (⟨#[45]⟩ : ByteArray).data.toList = Lib.trimPrefix s.data.toList [45] from rfl)
      go_enter Tryz.func22, Tryz.ntmps22
      go_wp2_with (first
        | (go_at_call 40; refine (Tryz.strconv_Atoi_ok s (by omega) n ha w).mono ?_; rintro _ w1 ⟨rfl, hw1⟩; have hb1 := below_bytes hw1; clear hw1)
        | (go_at_call 24; refine (itoa_is s n _ HIT.out (hV.below hb1) (by omega) (by omega)).mono ?_; rintro _ w2 ⟨rfl, hb2⟩)
        | (go_at_call 41; refine (Tryz.strings_TrimPrefix _ _ _).mono ?_; rintro _ _ ⟨rfl, rfl⟩))
      go_ret2
      exact ⟨rfl, below_then hb1 hb2⟩
    · rw [if_neg hc] at h; cases h
  | _ => rw [ha] at h; cases h
theorem atoi_err (s : ByteArray) (w : World) (hV : VarsOk w) (hs : s.size ≤ 30000) (h : ∀ n, Lib.atoiAll s.data.toList ≠ .ok n) :
    Calls Tryz.prog 40 #[.string s] w fun e w' => (∃ m N, e = .returned (.tuple #[.int .i64 m, .iface 169 (.pointer (some ⟨N, 0, none⟩))])) ∧ Below w.heap.size w w' := by
  cases ha : Lib.atoiAll s.data.toList with
  | ok n => exact absurd ha (h n)
  | range =>
    obtain ⟨ev, h1, h2⟩ := hV.rng
    exact (Tryz.strconv_Atoi_range s (by omega) ha ev w h1 h2).mono fun _ _ ⟨N, he, _, _, hb⟩ => ⟨⟨_, N, he⟩, hb⟩
  | _ =>
    obtain ⟨ev, h1, h2⟩ := hV.syn
    exact (Tryz.strconv_Atoi_syntax s (by omega) ha ev w h1 h2).mono fun _ _ ⟨N, he, _, _, hb⟩ => ⟨⟨0, N, he⟩, hb⟩
set_option maxHeartbeats 4000000 in
theorem number_no (s : ByteArray) (w : World) (hV : VarsOk w) (hs : s.size ≤ 30000) (h : numS s = none) :
    Calls Tryz.prog 22 #[.string s] w fun e w' => e = .returned (.tuple #[.int .i64 0, .iface 32 (.int .i64 2)]) ∧ Below w.heap.size w w' := by
  by_cases he : ∀ n, Lib.atoiAll s.data.toList ≠ .ok n
  · have HE := hid he
    clear he h
    go_enter Tryz.func22, Tryz.ntmps22
    go_wp2_with (go_at_call 40; refine (atoi_err s w hV hs HE.out).mono ?_; rintro _ w1 ⟨⟨m, N, rfl⟩, hb1⟩)
    go_ret2
    exact ⟨rfl, hb1⟩
  · obtain ⟨n, ha⟩ : ∃ n, Lib.atoiAll s.data.toList = .ok n := Classical.byContradiction fun hn => he fun n hn' => hn ⟨n, hn'⟩
    have hr := Lib.atoiAll_bounds ha
    unfold numS at h
    rw [ha] at h
    simp only at h
    have hc : ¬ (Lib.itoa n = s.data.toList ∧ (Lib.trimPrefix s.data.toList [45]).length ≤ 18) := fun hc => by rw [if_pos hc] at h; cases h
    clear h he
    have HA := hid ha
    clear ha
    by_cases hi : Lib.itoa n = s.data.toList
    · have hl : ¬ (Lib.trimPrefix s.data.toList [45]).length ≤ 18 := fun hl => hc ⟨hi, hl⟩
      have HIT := hid (show (⟨(Lib.itoa n).toArray⟩ : ByteArray) = s by rw [hi])
      clear hc hi
      have hl18 : (18 : Int) < ((Lib.trimPrefix s.data.toList [45]).length : Int) := by omega
      clear hl
      go_enter Tryz.func22, Tryz.ntmps22
      go_wp2_with (first
        | (go_at_call 40; refine (Tryz.strconv_Atoi_ok s (by omega) n HA.out w).mono ?_; rintro _ w1 ⟨rfl, hw1⟩; have hb1 := below_bytes hw1; clear hw1)
        | (go_at_call 24; refine (itoa_is s n _ HIT.out (hV.below hb1) (by omega) (by omega)).mono ?_; rintro _ w2 ⟨rfl, hb2⟩)
        | (go_at_call 41; refine (Tryz.strings_TrimPrefix _ _ _).mono ?_; rintro _ _ ⟨rfl, rfl⟩))
      all_goals first
        | (exfalso; omega)
        | (go_ret2
           exact ⟨rfl, below_then hb1 hb2⟩)
    · obtain ⟨t, ht⟩ : ∃ t : ByteArray, t = ⟨(Lib.itoa n).toArray⟩ := ⟨_, rfl⟩
      have hne : (t.toList != s.toList) = true := by
        rw [bne_iff_ne]
        intro e
        have e2 : t = s := bytes_inj e
        rw [ht] at e2
        exact hi (by rw [← e2])
      have hne2 : (t.toList == s.toList) = false := by simpa using hne
      have HT := hid ht.symm
      clear hc hi ht
      go_enter Tryz.func22, Tryz.ntmps22
      go_wp2_with (first
        | (go_at_call 40; refine (Tryz.strconv_Atoi_ok s (by omega) n HA.out w).mono ?_; rintro _ w1 ⟨rfl, hw1⟩; have hb1 := below_bytes hw1; clear hw1)
        | (go_at_call 24; refine (itoa_is t n _ HT.out (hV.below hb1) (by omega) (by omega)).mono ?_; rintro _ w2 ⟨rfl, hb2⟩))
      go_ret2
      exact ⟨rfl, below_then hb1 hb2⟩
end Go.Proofs
