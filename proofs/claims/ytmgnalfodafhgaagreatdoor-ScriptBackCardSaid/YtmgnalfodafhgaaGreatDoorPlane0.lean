import Derived.Test.YtmgnalfodafhgaaGreatDoorProg
import Derived.Test.YtmgnalfodafhgaaGreatDoorP0
import Derived.Shelf.Abstract
set_option linter.unusedVariables false
set_option linter.unusedSimpArgs false
namespace Go.Proofs
open Go.RowKit Go.Kin Go.Shelf
theorem side_any (n : Int) (w : World) : Calls Tryz.prog 112 #[.int .i64 n] w fun e w' => e = .returned (.bool (sideB n)) ∧ w = w' := by
  go_enter Tryz.func112, Tryz.ntmps112
  go_wp2
  all_goals (go_ret; exact ⟨ret_bool (by unfold sideB; first | (rw [Bool.eq_iff_iff]; simp; omega) | (symm; simp; omega)), rfl⟩)
theorem clip_any (v : Int) (w : World) : Calls Tryz.prog 55 #[.int .i64 v] w fun e w' => e = .returned (.int .i64 (min (max v 0) 255)) ∧ w = w' := by
  go_enter Tryz.func55, Tryz.ntmps55
  go_wp2
  all_goals (go_ret; exact ⟨ret_int (by omega), rfl⟩)
/-- A predicate on whole numbers that the program can call, its captured variables lying in w. -/
def PredI (g : Nat) (lb : Array Value) (p : Int → Bool) (w : World) : Prop := (∀ args W, (callFunc g args).run Tryz.prog W = .ok (.enter g args) W) ∧
  ∀ (x : Int) (W : World), Below w.heap.size w W → Calls Tryz.prog g (#[.int .i64 x] ++ lb) W fun e w' => e = .returned (.bool (p x)) ∧ W = w'
def IdxPost (b : Bool) (w : World) (e : Ending) (w' : World) : Prop := ∃ n : Int, e = .returned (.int .i64 n) ∧ decide (0 ≤ n) = b ∧ w = w'

set_option maxRecDepth 100000 in
theorem indexFunc_any (xs : List Int) (v : Value) (g : Nat) (lb : Array Value) (p : Int → Bool) (w : World) (hp : PredI g lb p w) (hs : SlI .i64 w v xs) :
    Calls Tryz.prog 173 #[v, .func (.func g) #[] lb] w (IdxPost (xs.any p) w) := by
  obtain ⟨A, c, rfl, hm, hr⟩ := hs
  obtain ⟨eg, hp⟩ := hp
  have hpAt : ∀ x : Int, Calls Tryz.prog g (#[.int .i64 x] ++ lb) w fun e w' => e = .returned (.bool (p x)) ∧ w = w' := fun x => hp x w (Below.refl _ w)
  clear hp
  go_enter Tryz.func173, Tryz.ntmps173
  go_wp2
  go_loop [8] (fun i => ∃ k : Nat, k ≤ xs.length ∧ i = .int .i64 k ∧ Hid (∀ j, j < k → p (xs.getD j 0) = false)) (fun i => xs.length - (intOf i).toNat)
  case atStart => exact ⟨0, Nat.zero_le _, rfl, fun j hj => by omega⟩
  case round =>
    obtain ⟨k, hk, rfl, hno⟩ := hrel
    by_cases hlt : k < xs.length
    · obtain ⟨b, off, rfl, hc⟩ := hr (by omega)
      have hcell := hc k hlt
      clear hc hr
      generalize hx : xs.getD k 0 = x at hcell
      have HX : Hid (xs.getD k 0 = x) := hx
      clear hx
      have hcall := hpAt x
      clear hpAt
      cases hq : p x with
      | true =>
        rw [hq] at hcall
        have HQ : Hid (p x = true) := hq
        clear hq
        go_wp2_with (go_at_fn g; refine hcall.mono ?_; rintro e w' ⟨rfl, rfl⟩)
        go_ret
        exact ⟨k, rfl, by rw [any_hit hlt (by rw [HX.out]; exact HQ.out)]; simp, rfl⟩
      | false =>
        rw [hq] at hcall
        have HQ : Hid (p x = false) := hq
        clear hq
        go_wp2_with (go_at_fn g; refine hcall.mono ?_; rintro e w' ⟨rfl, rfl⟩)
        go_round
        case rel =>
          refine ⟨k + 1, by omega, by go_num, (show Hid _ from fun j hj => ?_)⟩
          by_cases e : j = k
          · subst e; rw [HX.out]; exact HQ.out
          · exact hno.out j (by omega)
        case measure => simp [intOf]; omega
    · have : k = xs.length := by omega
      subst this
      clear hr
      go_wp2
      go_ret
      exact ⟨-1, rfl, by rw [any_miss hno.out]; rfl, rfl⟩

theorem containsFunc_any (xs : List Int) (v : Value) (g : Nat) (lb : Array Value) (p : Int → Bool) (w : World) (hp : PredI g lb p w) (hs : SlI .i64 w v xs) :
    Calls Tryz.prog 141 #[v, .func (.func g) #[] lb] w fun e w' => e = .returned (.bool (xs.any p)) ∧ w = w' := by
  go_enter Tryz.func141, Tryz.ntmps141
  go_wp2_with (go_at_call 173; refine (indexFunc_any xs _ g lb p _ hp hs).mono ?_; rintro e w' ⟨n, rfl, hn, rfl⟩)
  go_ret
  exact ⟨rfl, rfl⟩

theorem sample_any (n : Int) (w : World) : Calls Tryz.prog 143 #[.int .i64 n] w fun e w' => e = .returned (.bool (smpB n)) ∧ w = w' := by
  go_enter Tryz.func143, Tryz.ntmps143
  go_wp2
  all_goals (go_ret; exact ⟨ret_bool (by unfold smpB; first | (rw [Bool.eq_iff_iff]; simp; omega) | (symm; simp; omega)), rfl⟩)
theorem samplesC (w : World) : PredI 142 #[] (fun x => !smpB x) w := by
  refine ⟨enters_of Tryz.func142 (by kernel_rfl) rfl, fun x W _ => ?_⟩
  go_enter Tryz.func142, Tryz.ntmps142
  go_wp2_with (go_at_call 143; refine (sample_any x _).mono ?_; rintro e w' ⟨rfl, rfl⟩)
  go_ret
  exact ⟨rfl, rfl⟩
theorem samples_any (xs : List Int) (v : Value) (w : World) (hs : SlI .i64 w v xs) :
    Calls Tryz.prog 113 #[v] w fun e w' => e = .returned (.bool (smpsB xs)) ∧ w = w' := by
  go_enter Tryz.func113, Tryz.ntmps113
  go_wp2_with (go_at_call 141; refine (containsFunc_any xs _ 142 #[] _ _ (samplesC _) hs).mono ?_; rintro e w' ⟨rfl, rfl⟩)
  go_ret
  exact ⟨ret_bool (by simp [smpsB, List.all_eq_not_any_not]), rfl⟩
theorem may_1 {W H : Int} {px : List Int} (h1 : sideB W = true) (h2 : sideB H = true) (h3 : (px.length : Int) = wrap64 (W * H)) : smpsB px = mayB ⟨W, H, px⟩ := by
  have := mul_sides h1 h2
  rw [IntWalk.wrap64_in _ (by omega)] at h3
  simp [mayB, h1, h2, h3]
theorem may_2 {W H : Int} {px : List Int} (h1 : sideB W = true) (h2 : sideB H = true) (h3 : ¬ (px.length : Int) = wrap64 (W * H)) : false = mayB ⟨W, H, px⟩ := by
  have := mul_sides h1 h2
  rw [IntWalk.wrap64_in _ (by omega)] at h3
  simp [mayB, h3]
theorem may_any (f : Fr) (v : Value) (w : World) (hf : FrV w v f) :
    Calls Tryz.prog 74 #[v] w fun e w' => e = .returned (.bool (mayB f)) ∧ Below w.heap.size w w' := by
  obtain ⟨pv, rfl, hp⟩ := hf
  obtain ⟨W, H, px⟩ := f
  simp only at hp ⊢
  have HP : ∀ w', Below w.heap.size w w' → SlI .i64 w' pv px := fun w' hb => hp.below hb
  have hl : ∃ A c, pv = .slice A px.length c := by obtain ⟨A, c, h, _⟩ := hp; exact ⟨A, c, h⟩
  obtain ⟨A, c, rfl⟩ := hl
  have HH := hid HP
  clear HP hp
  go_enter Tryz.func74, Tryz.ntmps74
  go_wp2_with (first | (go_at_call 112; refine (side_any _ _).mono ?_; rintro e w' ⟨rfl, rfl⟩) | (go_at_call 113; refine (samples_any px _ _ (HH.out _ (below_alloc (below_refl w) _))).mono ?_; rintro e w' ⟨rfl, rfl⟩))
  · go_ret; exact ⟨ret_bool (may_1 (by assumption) (by assumption) (by assumption)), below_alloc (below_refl w) _⟩
  · go_ret; exact ⟨ret_bool (may_2 (by assumption) (by assumption) (by assumption)), below_alloc (below_refl w) _⟩
  · go_ret
    have h : ¬ sideB H = true := by assumption
    exact ⟨ret_bool (by simp [mayB, h]), below_alloc (below_refl w) _⟩
  · go_ret
    have h : ¬ sideB W = true := by assumption
    exact ⟨ret_bool (by simp [mayB, h]), below_alloc (below_refl w) _⟩
end Go.Proofs
