import Derived.Test.YtmgnalfodafhgaaGreatDoorTxt3
import Derived.Lib.ItoaMem
import Derived.Lib.AtoiAllCases
import Derived.Lib.IndexBytes
import Derived.Lib.SplitLaws
import Derived.Lib.CountLaws
import Derived.Lib.SmallJoins
import Derived.Test.YtmgnalfodafhgaaGreatDoorFst0
import Derived.Test.YtmgnalfodafhgaaGreatDoorRef0
import Derived.Deep.DeepCutAuto
set_option linter.unusedVariables false
set_option linter.unusedSimpArgs false
namespace Go.Kin
open Go.RowKit
/-! ### numbers -/
theorem dec_byte (u : Nat) : ∀ x ∈ Lib.decDigits u, 48 ≤ x.toNat ∧ x.toNat ≤ 57 := by
  induction u using Nat.strongRecOn with
  | ind u ih =>
    intro x hx
    rw [Lib.decDigits] at hx
    split at hx
    · rename_i h
      simp only [List.mem_singleton] at hx
      subst hx
      rw [UInt8.toNat_ofNat']
      omega
    · rename_i h
      rcases List.mem_append.1 hx with hx | hx
      · exact ih (u / 10) (by omega) x hx
      · simp only [List.mem_singleton] at hx
        subst hx
        rw [UInt8.toNat_ofNat']
        omega
theorem dec_ne (u : Nat) : Lib.decDigits u ≠ [] := by
  rw [Lib.decDigits]; split <;> simp
theorem parse_dec (u : Nat) (hu : u < 1000000000000000000) : ∀ r, Lib.parseUint10 0 (Lib.decDigits u ++ r) = Lib.parseUint10 u r := by
  induction u using Nat.strongRecOn with
  | ind u ih =>
    intro r
    rw [Lib.decDigits]
    split
    · rename_i h
      rw [List.singleton_append, Lib.parseUint10]
      have e : (UInt8.ofNat (48 + u)).toNat = 48 + u := by rw [UInt8.toNat_ofNat']; omega
      rw [e, if_pos (by omega), if_neg (by omega), if_neg (by omega)]
      congr 1
      omega
    · rename_i h
      rw [List.append_assoc, List.singleton_append, ih (u / 10) (by omega) (by omega), Lib.parseUint10]
      have e : (UInt8.ofNat (48 + u % 10)).toNat = 48 + u % 10 := by rw [UInt8.toNat_ofNat']; omega
      rw [e, if_pos (by omega), if_neg (by omega), if_neg (by omega)]
      congr 1
      omega
theorem mag_dec (u : Nat) (hu : u < 1000000000000000000) : Lib.parseMag (Lib.decDigits u) = .ok u := by
  have := parse_dec u hu []
  rw [List.append_nil] at this
  unfold Lib.parseMag
  rw [if_neg (dec_ne u), this]
  rfl
theorem numS_itoa (n : Int) (h1 : -1000000000000000000 < n) (h2 : n < 1000000000000000000) : numS (itoaB n) = some n := by
  have hd : (itoaB n).data.toList = Lib.itoa n := rfl
  unfold numS
  rw [hd]
  by_cases hn : n < 0
  · obtain ⟨u, rfl⟩ : ∃ u : Nat, n = -(u : Int) := ⟨n.natAbs, by omega⟩
    rw [Lib.itoa_neg u (by omega), Lib.atoiAll_minus, mag_dec u (by omega)]
    simp only [Lib.signed]
    rw [if_neg (by omega)]
    simp only
    have hl := decDigits_len 18 u (by omega) (by omega)
    have ht : (Lib.trimPrefix (45 :: Lib.decDigits u) [45]).length ≤ 18 := by
      unfold Lib.trimPrefix
      split
      · simpa using hl
      · rename_i hc
        exact absurd (by simp [Lib.hasPrefix]) hc
    rw [if_pos ⟨Lib.itoa_neg u (by omega), ht⟩]
  · obtain ⟨u, rfl⟩ : ∃ u : Nat, n = u := ⟨n.toNat, by omega⟩
    rw [Lib.itoa_nonneg u]
    have hb := dec_byte u
    have hl := decDigits_len 18 u (by omega) (by omega)
    have hm := mag_dec u (by omega)
    have ha : Lib.atoiAll (Lib.decDigits u) = .ok (u : Int) := by
      match hx : Lib.decDigits u with
      | [] => exact absurd hx (dec_ne u)
      | c :: r =>
        have hc := hb c (by rw [hx]; exact List.mem_cons_self ..)
        rw [hx] at hm
        rw [Lib.atoiAll_plain c r (by omega) (by omega), hm]
        simp only [Lib.signless]
        rw [if_neg (by omega)]
    rw [ha]
    simp only
    rw [if_pos ⟨Lib.itoa_nonneg u, Nat.le_trans (Lib.trimPrefix_le _ _) hl⟩]
/-! ### words and blanks -/
def NoSp (s : ByteArray) : Prop := ∀ x ∈ s.data.toList, x ≠ 32
theorem noSp_itoa (n : Int) : NoSp (itoaB n) := by
  intro x hx
  have hx' : x ∈ Lib.itoa n := hx
  unfold Lib.itoa at hx'
  split at hx'
  · rcases List.mem_cons.1 hx' with rfl | hx'
    · decide
    · have := dec_byte _ x hx'
      intro e; subst e; revert this; decide
  · have := dec_byte _ x hx'
    intro e; subst e; revert this; decide
theorem indexByte_free {l : List UInt8} (h : ∀ x ∈ l, x ≠ 32) : Lib.indexByte l 32 = -1 := by
  induction l with
  | nil => rfl
  | cons a l ih =>
    unfold Lib.indexByte
    have ha : (a == (32 : UInt8)) = false := beq_eq_false_iff_ne.2 (h a (List.mem_cons_self ..))
    rw [ha, ih fun x hx => h x (List.mem_cons_of_mem _ hx)]
    rfl
theorem indexByte_at {l r : List UInt8} (h : ∀ x ∈ l, x ≠ 32) : Lib.indexByte (l ++ 32 :: r) 32 = (l.length : Int) := by
  induction l with
  | nil => rfl
  | cons a l ih =>
    rw [List.cons_append]
    unfold Lib.indexByte
    have ha : (a == (32 : UInt8)) = false := beq_eq_false_iff_ne.2 (h a (List.mem_cons_self ..))
    have hi := ih fun x hx => h x (List.mem_cons_of_mem _ hx)
    rw [ha, hi]
    have hne : ((l.length : Int) == -1) = false := beq_eq_false_iff_ne.2 (by omega)
    rw [hne]
    simp
theorem indexB_sp (s : ByteArray) : Lib.indexB s sp = Lib.indexByte s.data.toList 32 := Lib.one s sp rfl
theorem ba_ext {a b : ByteArray} (h : a.data.toList = b.data.toList) : a = b := by
  cases a; cases b
  congr 1
  exact Array.toList_inj.1 h
theorem data_sp (x r : ByteArray) : (x ++ (sp ++ r)).data.toList = x.data.toList ++ 32 :: r.data.toList := by
  rw [Joins.data_append, Joins.data_append]
  rfl
theorem splitL_one {x : ByteArray} (h : NoSp x) : splitL x = [x] := by
  have hi : Lib.indexB x sp = -1 := by rw [indexB_sp]; exact indexByte_free h
  unfold splitL
  exact Lib.splitB_miss _ _ _ _ hi
theorem splitL_cons {x r : ByteArray} (h : NoSp x) : splitL (x ++ (sp ++ r)) = x :: splitL r := by
  have hi : Lib.indexB (x ++ (sp ++ r)) sp = (x.size : Int) := by
    rw [indexB_sp, data_sp, indexByte_at h, Lib.size_eq]
  have hsz : sp.size = 1 := rfl
  have he1 : (x ++ (sp ++ r)).extract 0 (x.size + 0) = x := ba_ext (by
    rw [Lib.extract_data, data_sp, Lib.size_eq]; simp)
  have he2 : (x ++ (sp ++ r)).extract (x.size + sp.size) (x ++ (sp ++ r)).size = r := ba_ext (by
    rw [Lib.extract_to_end, data_sp, hsz, Lib.size_eq, ← List.drop_drop]; simp)
  unfold splitL
  rw [Lib.countB_hit _ _ _ (by decide) hi, Nat.add_comm 1, Lib.splitB_hit _ _ _ _ _ hi, he1, he2]
/-- Words, a blank between each two. -/
def joinS : List ByteArray → ByteArray
  | [] => ⟨#[]⟩
  | x :: r => r.foldl (fun s p => s ++ (sp ++ p)) x
theorem join_shift (a b : ByteArray) (r : List ByteArray) : r.foldl (fun s p => s ++ (sp ++ p)) (a ++ b) = a ++ r.foldl (fun s p => s ++ (sp ++ p)) b := by
  induction r generalizing b with
  | nil => rfl
  | cons p r ih =>
    rw [List.foldl_cons, List.foldl_cons, ← ih]
    congr 1
    exact ByteArray.append_assoc
theorem joinS_two (x y : ByteArray) (r : List ByteArray) : joinS (x :: y :: r) = x ++ (sp ++ joinS (y :: r)) := by
  show r.foldl _ (x ++ (sp ++ y)) = _
  rw [join_shift, join_shift]
  rfl
theorem splitL_join : ∀ (x : ByteArray) (r : List ByteArray), (∀ y ∈ x :: r, NoSp y) → splitL (joinS (x :: r)) = x :: r
  | x, [], h => splitL_one (h x (List.mem_cons_self ..))
  | x, y :: r, h => by
    rw [joinS_two, splitL_cons (h x (List.mem_cons_self ..)), splitL_join y r fun z hz => h z (List.mem_cons_of_mem _ hz)]
theorem join_splitB : ∀ (k : Nat) (s : ByteArray), joinS (Lib.splitB sp 0 k s) = s
  | 0, s => rfl
  | k + 1, s => by
    rcases Lib.indexB_cases s sp with hix | ⟨i, hix, hi⟩
    · rw [Lib.splitB_miss _ _ _ _ hix]; rfl
    · rw [Lib.splitB_hit _ _ _ _ i hix]
      have ih := join_splitB k (s.extract (i + sp.size) s.size)
      have hpos := splitB_pos sp k (s.extract (i + sp.size) s.size)
      match hl : Lib.splitB sp 0 k (s.extract (i + sp.size) s.size) with
      | [] => rw [hl] at hpos; exact absurd hpos (by decide)
      | y :: r =>
        rw [hl] at ih
        rw [joinS_two, ih]
        have h32 := (Lib.indexByte_some ((indexB_sp s).symm.trans hix)).1
        have hsz : sp.size = 1 := rfl
        have hlt : i < s.data.toList.length := by rw [← Lib.size_eq]; omega
        refine ba_ext ?_
        rw [data_sp, Lib.extract_data, Lib.extract_to_end, hsz]
        have hd : s.data.toList.drop i = 32 :: s.data.toList.drop (i + 1) := by
          rw [List.drop_eq_getElem_cons hlt]
          congr 1
          have := List.getElem?_eq_getElem hlt
          rw [this] at h32
          simpa using h32
        rw [← hd]
        simp
theorem join_splitL (s : ByteArray) : joinS (splitL s) = s := join_splitB _ s
/-! ### lines -/
theorem kind_word {x : ByteArray} {k : Int} (h : kindS x.toList = k) (h0 : k ≠ 0) : x = wordsL.getD k.toNat ⟨#[]⟩ ∧ 1 ≤ k ∧ k ≤ 6 := by
  have e : ∀ (L : List UInt8) (a : Array UInt8), (x.toList == L) = true → a.toList = L → x = ⟨a⟩ := fun L a h1 h2 => ba_ext (by
    have := beq_iff_eq.1 h1
    rw [Lib.toList_data] at this
    rw [this, ← h2])
  unfold kindS at h
  split at h
  · rename_i hc; subst h; exact ⟨e _ _ hc rfl, by omega, by omega⟩
  split at h
  · rename_i hc; subst h; exact ⟨e _ _ hc rfl, by omega, by omega⟩
  split at h
  · rename_i hc; subst h; exact ⟨e _ _ hc rfl, by omega, by omega⟩
  split at h
  · rename_i hc; subst h; exact ⟨e _ _ hc rfl, by omega, by omega⟩
  split at h
  · rename_i hc; subst h; exact ⟨e _ _ hc rfl, by omega, by omega⟩
  split at h
  · rename_i hc; subst h; exact ⟨e _ _ hc rfl, by omega, by omega⟩
  · exact absurd h.symm h0
theorem kind_words (k : Nat) (h1 : 1 ≤ k) (h2 : k ≤ 6) : kindS (wordsL.getD k ⟨#[]⟩).toList = (k : Int) := by
  rw [Lib.toList_data]
  rcases (show k = 1 ∨ k = 2 ∨ k = 3 ∨ k = 4 ∨ k = 5 ∨ k = 6 by omega) with rfl | rfl | rfl | rfl | rfl | rfl <;> rfl
theorem noSp_words (k : Nat) (h2 : k ≤ 6) : NoSp (wordsL.getD k ⟨#[]⟩) := by
  unfold NoSp
  rcases (show k = 0 ∨ k = 1 ∨ k = 2 ∨ k = 3 ∨ k = 4 ∨ k = 5 ∨ k = 6 by omega) with rfl | rfl | rfl | rfl | rfl | rfl | rfl <;> decide
theorem num_back {x : ByteArray} {n : Int} (h : numS x = some n) : itoaB n = x := by
  unfold numS at h
  cases ha : Lib.atoiAll x.data.toList with
  | ok v =>
    rw [ha] at h
    simp only at h
    split at h
    · rename_i hc
      obtain rfl : v = n := by simpa using h
      exact ba_ext hc.1
    · cases h
  | _ => rw [ha] at h; cases h
theorem nums_back : ∀ {l : List ByteArray} {ps : List Int}, numsL l = some ps → ps.map itoaB = l
  | [], ps, h => by simp [numsL] at h; rw [h]; rfl
  | a :: l, ps, h => by
    rw [numsL] at h
    cases hx : numS a with
    | none => rw [hx] at h; cases h
    | some n =>
      cases hl : numsL l with
      | none => rw [hx, hl] at h; cases h
      | some r =>
        rw [hx, hl] at h
        simp at h
        rw [← h, List.map_cons, num_back hx, nums_back hl]
theorem nums_itoa : ∀ (ps : List Int), (∀ x ∈ ps, -1000000000000000000 < x ∧ x < 1000000000000000000) → numsL (ps.map itoaB) = some ps
  | [], _ => rfl
  | n :: ps, h => by
    rw [List.map_cons, numsL, numS_itoa n (h n (List.mem_cons_self ..)).1 (h n (List.mem_cons_self ..)).2, nums_itoa ps fun x hx => h x (List.mem_cons_of_mem _ hx)]
theorem pickS_join (ps : List Int) : pickS ps = joinS (wordsL.getD 2 ⟨#[]⟩ :: ps.map itoaB) := by
  show _ = (ps.map itoaB).foldl (fun s p => s ++ (sp ++ p)) (wordsL.getD 2 ⟨#[]⟩)
  rw [List.foldl_map]
  rfl
theorem print_join (k : Nat) (n : Int) : wordsL.getD k ⟨#[]⟩ ++ sp ++ itoaB n = joinS [wordsL.getD k ⟨#[]⟩, itoaB n] := ByteArray.append_assoc
/-- What a line says is printed just so. -/
theorem print_parse (s : ByteArray) (a : Kin.Act) (h : parseS s = (a, none)) : printS a = s := by
  have hj := join_splitL s
  have hpos : 0 < (splitL s).length := splitB_pos _ _ _
  unfold parseS parseL at h
  generalize hl : splitL s = l at h hj hpos
  simp only at h
  generalize hk : kindS (l.getD 0 ⟨#[]⟩).toList = k at h
  by_cases h0 : k = 0
  · rw [if_pos h0] at h; simp at h
  rw [if_neg h0] at h
  obtain ⟨hw, h1, h6⟩ := kind_word hk h0
  match l, hpos with
  | x :: r, _ =>
    have hx : x = wordsL.getD k.toNat ⟨#[]⟩ := hw
    by_cases h2 : k = 2
    · subst h2
      rw [if_pos rfl] at h
      simp only [List.tail_cons] at h
      cases hn : numsL r with
      | none => rw [hn] at h; simp at h
      | some ps =>
        rw [hn] at h
        simp only [Prod.mk.injEq, and_true] at h
        subst h
        have hp : printS ⟨2, 0, ps⟩ = pickS ps := by unfold printS; simp
        rw [hp, pickS_join, nums_back hn, ← hj, hx]
        rfl
    · rw [if_neg h2] at h
      by_cases hlt : (x :: r).length < 2
      · rw [if_pos hlt] at h; simp at h
      rw [if_neg hlt] at h
      by_cases hgt : 2 < (x :: r).length
      · rw [if_pos hgt] at h; simp at h
      rw [if_neg hgt] at h
      match r, hlt, hgt, hj, h with
      | [y], _, _, hj, h =>
        simp only [List.getD_cons_succ, List.getD_cons_zero] at h
        cases hn : numS y with
        | none => rw [hn] at h; simp at h
        | some n =>
          rw [hn] at h
          simp only [Prod.mk.injEq, and_true] at h
          subst h
          have hp : printS ⟨k, n, []⟩ = wordsL.getD k.toNat ⟨#[]⟩ ++ sp ++ itoaB n := by
            unfold printS
            simp only
            rw [if_neg (by omega), if_neg h2]
          rw [hp, print_join, num_back hn, ← hj, hx]
      | [], hlt, _, _, _ => exact absurd (by simp) hlt
      | _ :: _ :: _, _, hgt, _, _ => exact absurd (by simp) hgt
theorem parse_other (a : Kin.Act) (h : a.kind < 1 ∨ 6 < a.kind) : parseS (printS a) = (⟨0, 0, []⟩, some 13) := by
  have hp : printS a = ⟨#[63]⟩ := by unfold printS; rw [if_pos h]
  rw [hp]
  have hs : splitL ⟨#[63]⟩ = [⟨#[63]⟩] := splitL_one (by unfold NoSp; decide)
  have hk : kindS (⟨#[63]⟩ : ByteArray).toList = 0 := by rw [Lib.toList_data]; rfl
  unfold parseS parseL
  rw [hs]
  simp only [List.getD_cons_zero, hk]
  rfl
theorem parse_crash (n : Int) (ps : List Int) (h : ∀ x ∈ ps, -1000000000000000000 < x ∧ x < 1000000000000000000) : parseS (printS ⟨2, n, ps⟩) = (⟨2, 0, ps⟩, none) := by
  have hp : printS ⟨2, n, ps⟩ = pickS ps := by unfold printS; simp
  have hs : splitL (pickS ps) = wordsL.getD 2 ⟨#[]⟩ :: ps.map itoaB := by
    rw [pickS_join]
    refine splitL_join _ _ fun y hy => ?_
    rcases List.mem_cons.1 hy with rfl | hy
    · exact noSp_words 2 (by omega)
    · obtain ⟨p, _, rfl⟩ := List.mem_map.1 hy
      exact noSp_itoa p
  rw [hp]
  unfold parseS parseL
  rw [hs]
  simp only [List.getD_cons_zero, List.tail_cons, kind_words 2 (by omega) (by omega), nums_itoa ps h]
  rfl
theorem parse_plain (k : Nat) (n : Int) (ps : List Int) (h1 : 1 ≤ k) (h6 : k ≤ 6) (h2 : k ≠ 2) (hn1 : -1000000000000000000 < n) (hn2 : n < 1000000000000000000) : parseS (printS ⟨k, n, ps⟩) = (⟨k, n, []⟩, none) := by
  have hp : printS ⟨k, n, ps⟩ = wordsL.getD k ⟨#[]⟩ ++ sp ++ itoaB n := by
    unfold printS
    simp only
    rw [if_neg (by omega), if_neg (by omega)]
    rfl
  have hs : splitL (wordsL.getD k ⟨#[]⟩ ++ sp ++ itoaB n) = [wordsL.getD k ⟨#[]⟩, itoaB n] := by
    rw [print_join]
    refine splitL_join _ _ fun y hy => ?_
    rcases List.mem_cons.1 hy with rfl | hy
    · exact noSp_words k h6
    · rw [List.mem_singleton.1 hy]
      exact noSp_itoa n
  rw [hp]
  unfold parseS parseL
  rw [hs]
  simp only [List.getD_cons_zero, List.getD_cons_succ, kind_words k h1 h6, numS_itoa n hn1 hn2]
  rw [if_neg (by omega), if_neg (by omega), if_neg (by simp), if_neg (by simp)]
theorem pickS_size (ps : List Int) (h : ∀ x ∈ ps, -9223372036854775808 ≤ x ∧ x ≤ 9223372036854775807) : ∀ j, j ≤ ps.length → (pickS (ps.take j)).size ≤ 5 + 21 * j
  | 0, _ => by simp [pickS]; decide
  | j + 1, hj => by
    rw [pickS_succ ps j (by omega), ByteArray.size_append, ByteArray.size_append]
    have := pickS_size ps h j (by omega)
    have h2 := itoaB_size (ps.getD j 0) (h _ (by rw [List.getD_eq_getElem?_getD, List.getElem?_eq_getElem (by omega)]; exact List.getElem_mem _))
    have h3 : sp.size = 1 := rfl
    omega
theorem printS_size (a : Kin.Act) (hn : -9223372036854775808 ≤ a.n ∧ a.n ≤ 9223372036854775807) (hl : a.picks.length ≤ 1000) (hr : ∀ x ∈ a.picks, -9223372036854775808 ≤ x ∧ x ≤ 9223372036854775807) : (printS a).size ≤ 21005 := by
  unfold printS
  split
  · decide
  split
  · have := pickS_size a.picks hr a.picks.length (Nat.le_refl _)
    rw [List.take_length] at this
    omega
  · have h1 := words_size a.kind.toNat
    have h2 := itoaB_size a.n hn
    have h3 : sp.size = 1 := rfl
    rw [ByteArray.size_append, ByteArray.size_append]
    omega
end Go.Kin
namespace Go.Kin
/-- All lie in a range. -/
def withinB (xs : List Int) (a b : Int) : Bool := decide (∀ i, i < xs.length → a ≤ xs.getD i 0 ∧ xs.getD i 0 ≤ b)
end Go.Kin
namespace Go.Proofs
open Go.RowKit Go.Kin Go.Shelf
set_option maxHeartbeats 1000000 in
theorem within_any (xs : List Int) (a b : Int) (v : Value) (w : World) (h : SlI .i64 w v xs) :
    Calls Tryz.prog 11 #[v, .int .i64 a, .int .i64 b] w fun e w' => e = .returned (.bool (withinB xs a b)) ∧ Below w.heap.size w w' := by
  obtain ⟨A1, c1, rfl, hm, hc1⟩ := h.open
  go_enter Tryz.func11, Tryz.ntmps11
  go_wp2_with fail
  go_loopg [7] xs.length (fun g s7 wr => ∃ k : Nat, k ≤ xs.length ∧ xs.length - k ≤ g ∧ s7 = .int .i64 (k : Int) ∧ (∀ i, i < k → a ≤ xs.getD i 0 ∧ xs.getD i 0 ≤ b) ∧ wr = w)
  case atStart => exact ⟨0, Nat.zero_le _, by omega, rfl, fun i hi => absurd hi (by omega), rfl⟩
  case round =>
    obtain ⟨k, hk, hg, rfl, hall, rfl⟩ := hrel
    by_cases hlt : k < xs.length
    · obtain ⟨b1, o1, rfl, x1⟩ := hc1 k hlt
      have i1 : (0 : Int) ≤ (k : Int) := by omega
      have i2 : (k : Int) < (xs.length : Int) := by omega
      have HNO := hid (fun hx : ¬ (a ≤ xs.getD k 0 ∧ xs.getD k 0 ≤ b) => show withinB xs a b = false from decide_eq_false fun hh => hx (hh k hlt))
      have HYES := hid (fun (hx : a ≤ xs.getD k 0 ∧ xs.getD k 0 ≤ b) i (hi : i < k + 1) => show a ≤ xs.getD i 0 ∧ xs.getD i 0 ≤ b from by
        rcases Nat.lt_or_ge i k with h1 | h1
        · exact hall i h1
        · obtain rfl : i = k := by omega
          exact hx)
      generalize hX : xs.getD k 0 = X at x1
      have HX := hid hX
      clear hX hc1 h hall
      by_cases ha : X < a
      · go_wp2_with fail
        go_ret
        exact ⟨by rw [HNO.out (by rw [HX.out]; omega)]; rfl, below_refl _⟩
      · by_cases hb : b < X
        · go_wp2_with fail
          go_ret
          exact ⟨by rw [HNO.out (by rw [HX.out]; omega)]; rfl, below_refl _⟩
        · have hb' : ¬ X > b := hb
          go_wp2_with fail
          go_roundg (xs.length - (k + 1))
          case measure => omega
          case rel => exact ⟨k + 1, by omega, by omega, by go_num, HYES.out (by rw [HX.out]; omega), rfl⟩
    · obtain rfl : k = xs.length := by omega
      go_wp2_with fail
      go_ret
      exact ⟨by rw [show withinB xs a b = true from decide_eq_true hall]; rfl, below_refl _⟩
theorem within_is (xs : List Int) (a b : Int) (v : Value) (w : World) (h : SlI .i64 w v xs) (r : Bool) (hr : withinB xs a b = r) :
    Calls Tryz.prog 11 #[v, .int .i64 a, .int .i64 b] w fun e w' => e = .returned (.bool r) ∧ Below w.heap.size w w' := by
  rw [← hr]
  exact within_any xs a b v w h
theorem within_yes {xs : List Int} (h : withinB xs (-999999999999999999) 999999999999999999 = true) : ∀ x ∈ xs, -1000000000000000000 < x ∧ x < 1000000000000000000 := by
  intro x hx
  obtain ⟨i, hi, rfl⟩ := List.getElem_of_mem hx
  have := of_decide_eq_true h i hi
  rw [List.getD_eq_getElem?_getD, List.getElem?_eq_getElem hi] at this
  simp only [Option.getD_some] at this
  omega
theorem print_of (a : Kin.Act) (s : ByteArray) (pv : Value) (w : World) (hV : VarsOk w) (hk : -9223372036854775808 ≤ a.kind ∧ a.kind ≤ 9223372036854775807) (hn : -9223372036854775808 ≤ a.n ∧ a.n ≤ 9223372036854775807)
    (hp : SlI .i64 w pv a.picks) (hl : a.picks.length ≤ 3000) (hr : ∀ x ∈ a.picks, -9223372036854775808 ≤ x ∧ x ≤ 9223372036854775807) (h : printS a = s) :
    Calls Tryz.prog 8 #[.agg #[.int .i64 a.kind, .int .i64 a.n, pv]] w fun e w' => e = .returned (.string s) ∧ Below w.heap.size w w' := by
  rw [← h]
  exact print_any a pv w hV hk hn hp hl hr
end Go.Proofs
namespace Go.Kin
theorem num_range {x : ByteArray} {n : Int} (h : numS x = some n) : -9223372036854775808 ≤ n ∧ n ≤ 9223372036854775807 := by
  unfold numS at h
  cases ha : Lib.atoiAll x.data.toList with
  | ok v =>
    rw [ha] at h
    simp only at h
    split at h
    · obtain rfl : v = n := by simpa using h
      exact Lib.atoiAll_bounds ha
    · cases h
  | _ => rw [ha] at h; cases h
theorem nums_range : ∀ {l : List ByteArray} {ps : List Int}, numsL l = some ps → ∀ x ∈ ps, -9223372036854775808 ≤ x ∧ x ≤ 9223372036854775807
  | [], ps, h, x, hx => by simp [numsL] at h; rw [h] at hx; cases hx
  | a :: l, ps, h, x, hx => by
    rw [numsL] at h
    cases hy : numS a with
    | none => rw [hy] at h; cases h
    | some n =>
      cases hl : numsL l with
      | none => rw [hy, hl] at h; cases h
      | some r =>
        rw [hy, hl] at h
        simp at h
        rw [← h] at hx
        rcases List.mem_cons.1 hx with rfl | hx
        · exact num_range hy
        · exact nums_range hl x hx
theorem parse_range (s : ByteArray) : (-9223372036854775808 ≤ (parseS s).1.kind ∧ (parseS s).1.kind ≤ 9223372036854775807) ∧ (-9223372036854775808 ≤ (parseS s).1.n ∧ (parseS s).1.n ≤ 9223372036854775807) ∧
    (∀ x ∈ (parseS s).1.picks, -9223372036854775808 ≤ x ∧ x ≤ 9223372036854775807) ∧ (parseS s).1.picks.length ≤ s.size + 1 := by
  have hlen : (splitL s).length ≤ s.size + 1 := splitB_sum sp (by decide) _ s
  unfold parseS parseL
  generalize splitL s = l at *
  have hk := kindS_range (l.getD 0 ⟨#[]⟩).toList
  generalize kindS (l.getD 0 ⟨#[]⟩).toList = k at *
  simp only
  split
  · exact ⟨by simp, by simp, by simp, by simp⟩
  split
  · cases hn : numsL l.tail with
    | none => exact ⟨by simp, by simp, by simp, by simp⟩
    | some ps =>
      refine ⟨by simp, by simp, nums_range hn, ?_⟩
      have := numsL_len hn
      rw [List.length_tail] at this
      show ps.length ≤ _
      omega
  split
  · exact ⟨by simp, by simp, by simp, by simp⟩
  split
  · exact ⟨by simp, by simp, by simp, by simp⟩
  cases hn : numS (l.getD 1 ⟨#[]⟩) with
  | none => exact ⟨by simp, by simp, by simp, by simp⟩
  | some n => exact ⟨⟨by show _ ≤ k; omega, by show k ≤ _; omega⟩, num_range hn, by simp, by simp⟩
end Go.Kin
