import Derived.Test.YtmgnalfodafhgaaGreatDoorActs
import Derived.Test.YtmgnalfodafhgaaGreatDoorK5
import Derived.Deep.RegionHeld3
import Derived.Deep.AppendLies
set_option linter.unusedVariables false
set_option linter.unusedSimpArgs false
namespace Go.Kin
open Go.RowKit
def actAt (bs : List Int) (i : Nat) : Kin.Act := actOf (bs.getD (2 * i) 0) (bs.getD (2 * i + 1) 0)
def actsTo (bs : List Int) (n : Nat) : List Kin.Act := (List.range n).map (actAt bs)
def actsOf (bs : List Int) : List Kin.Act := actsTo bs (min (bs.length / 2) 1024)
theorem actsTo_succ (bs : List Int) (n : Nat) : actsTo bs (n + 1) = actsTo bs n ++ [actAt bs n] := by simp [actsTo, List.range_succ]
theorem actsTo_len (bs : List Int) (n : Nat) : (actsTo bs n).length = n := by simp [actsTo]
def ActF (F : Nat → Prop) (w : World) (cs : List Value) (a : Kin.Act) : Prop := ∃ pv, cs = [.int .i64 a.kind, .int .i64 a.n, pv] ∧ SlF .i64 F w pv a.picks
theorem ActF.reads : Reads ActF := ⟨fun ⟨pv, h, hp⟩ hf hS => ⟨pv, h, hp.frm hf hS⟩, fun ⟨pv, h, hp⟩ hG => ⟨pv, h, hp.foreign hG⟩⟩
theorem own_form {w : World} {base : Nat} {e : TypeId} {size n : Nat} {v : Value} {xs : List Value} (h : w.ownsRow base e size v n xs) : ∃ A c, v = .slice A n c := by
  rcases h.2 with ⟨h0, h1⟩ | ⟨g, cap, cur, hv, _⟩
  · exact ⟨none, 0, by rw [h0, h1]⟩
  · exact ⟨_, cap, hv⟩
end Go.Kin
namespace Go.Proofs
open Go.RowKit Go.Kin Go.Shelf
theorem Tq.info_act : (Tryz.prog.info? 24).map (fun i => (i.zero, i.size, i.bytes)) = some (some (.agg #[.int .i64 0, .int .i64 0, .slice none 0 0]), 3, 40) := by kernel_rfl
def ActsRet (l : List Kin.Act) (w : World) (e : Ending) (w' : World) : Prop := ∃ v, e = .returned v ∧ OwnR 3 ActF w' w.heap.size 24 v l ∧ Below w.heap.size w w'
set_option maxRecDepth 100000 in
set_option maxHeartbeats 4000000 in
theorem acts_any (bs : List Int) (bv : Value) (w : World) (hs : SlI .u8 w bv bs) (hbig : bs.length ≤ 2000) (hv : ∀ x ∈ bs, 0 ≤ x ∧ x ≤ 255) :
    Calls Tryz.prog 16 #[bv] w (ActsRet (actsOf bs) w) := by
  obtain ⟨i0, hi, hz0, hz1, hz2⟩ := info_parts Tq.info_act
  obtain ⟨A, c, rfl, hm, hc⟩ := hs.open
  go_enter Tryz.func16, Tryz.ntmps16
  go_wp2_with fail
  go_loopg [3, 4] (bs.length / 2) (fun g s3 s4 wr => ∃ k : Nat, k ≤ bs.length / 2 ∧ bs.length / 2 - k ≤ g ∧ (∃ m : Nat, m = 2 * k ∧ s4 = .int .i64 (m : Int)) ∧ OwnR 3 ActF wr w.heap.size 24 s3 (actsTo bs k) ∧ Below w.heap.size w wr)
  case atStart => exact ⟨0, Nat.zero_le _, by omega, ⟨0, rfl, rfl⟩, OwnR.nil _ _ _ _ _, below_refl w⟩
  case round =>
    obtain ⟨k, hk, hg, ⟨m, hmk, rfl⟩, hown, hb⟩ := hrel
    by_cases hlt : k < bs.length / 2
    · obtain ⟨b, off, rfl, x0⟩ := hc m (by omega)
      obtain ⟨b', off', hA, x1⟩ := hc (m + 1) (by omega)
      obtain ⟨rfl, rfl⟩ : b' = b ∧ off' = off := by simpa using hA.symm
      have y0 := cell_below hb x0
      have y1 := cell_below hb x1
      have hv0 := getD_smp hv m
      have hv1 := getD_smp hv (m + 1)
      have hact : actOf (bs.getD m 0) (bs.getD (m + 1) 0) = actAt bs k := by rw [hmk]; rfl
      have HACT := hid hact
      generalize bs.getD m 0 = X at *
      generalize bs.getD (m + 1) 0 = Y at *
      obtain ⟨css, ho, hl, hsz, hR⟩ := hown
      have hl' := actsTo_len bs k
      rw [hl'] at ho
      obtain ⟨A3, c3, rfl⟩ := own_form ho
      have hfar : some b' ≠ (Value.slice A3 k c3).ownBlock := fun e => by
        have h1 := (ho.lt b' e.symm).1
        have h2 := World.block_lt_of_cell? w _ x0
        simp only at h2; omega
      have HFAR := hid hfar
      clear hact x0 x1 hc hs hfar
      have i1 : (0 : Int) ≤ (m : Int) := by omega
      have i2 : (m : Int) < (bs.length : Int) := by omega
      have i3 : IntKind.i64.wrap ((m : Int) + 1) = (m : Int) + 1 := by rw [IntKind.wrap_i64]; omega
      have i4 : (0 : Int) ≤ (m : Int) + 1 := by omega
      have i5 : (m : Int) + 1 < (bs.length : Int) := by omega
      have i6 : ((m : Int) + 1).toNat = m + 1 := by omega
      have i7 : IntKind.i64.wrap X = X := by rw [IntKind.wrap_i64]; omega
      have i8 : IntKind.i64.wrap Y = Y := by rw [IntKind.wrap_i64]; omega
      have HMK := hid hmk
      clear hmk
      go_wp2_with fail
      go_region_held3 (fun wx => wx.cell? ⟨b', off' + m, none⟩ = some (.int .u8 X) ∧ wx.cell? ⟨b', off' + (m + 1), none⟩ = some (.int .u8 Y)) (first | go_keep | (go_split_ands; exact ⟨cell_below hb5 ‹_›, cell_below hb5 ‹_›⟩) | (go_split_ands; exact ⟨hgrow.cell (by assumption) HFAR.out, hgrow.cell (by assumption) HFAR.out⟩) | (go_split_ands; exact ⟨cell_below (below_alloc (below_refl _) _) (by assumption), cell_below (below_alloc (below_refl _) _) (by assumption)⟩))
        (first
          | (go_at_call 36; refine (act_any X Y _ hv0 hv1).mono ?_; rintro _ w5 ⟨pv, rfl, hp, hfr, hb5⟩; have hP := hid hp; obtain ⟨A5, c5, rfl, _, hr5⟩ := hp)
          | (refine step_append_lies _ (by rfl) _ _ _ (by rfl) w.heap.size 24 i0 _ 3 40 Tryz.underlying50 hi hz0 hz1 hz2 rfl (by omega) (.slice A3 k c3) k css.flatten (by rfl) ((Frm.of_below (S := fun _ => False) (below_alloc (below_then ((below_refl wr).drew) hb5) _)).own ho (fun _ _ h => h)) ⟨w5.heap.size, 0, none⟩ 1 1 [.int .i64 (actOf X Y).kind, .int .i64 (actOf X Y).n, .slice A5 (actOf X Y).picks.length c5] (by rfl) (by rfl) (World.news_of_block (cs := #[.int .i64 (actOf X Y).kind, .int .i64 (actOf X Y).n, .slice A5 (actOf X Y).picks.length c5]) (t := 24) (fr := (0, 0)) (heap_alloc_new w5 _)) (by simp [Value.oneCell']) (by omega) (by unfold maxLen; omega) (by omega) (Nat.le_trans hb.size (Nat.le_trans hb5.size (by simp))) _ rfl ?_; intro gg cap w1 hown1 hgrow hat hlt1))
      all_goals
        clear i3 i6 i7 i8
        have HREL := hid (OwnR.snoc (x := actOf X Y) ActF.reads hR hl hsz hl' (below_alloc (below_then ((below_refl wr).drew) hb5) _) ⟨_, rfl, hP.out.below (below_alloc (below_refl w5) _), fun h0 g hg hv => by
          have h1 := hfr g h0 hv
          have h2 := (ho.lt g hg).2
          have h3 : wr.drew.heap.size = wr.heap.size := rfl
          omega⟩ rfl hown1 hgrow hat)
        have hB1 : Below w.heap.size w w1 := (below_alloc (below_then hb.drew hb5) _).grown hgrow (below_alloc (below_then hb.drew hb5) _).size (fun q hq => (ho.lt q hq).1)
        clear hown1 hgrow hat hr5
        go_wp2_with fail
        go_roundg (bs.length / 2 - (k + 1))
        case measure => omega
        case rel => exact ⟨k + 1, by omega, by omega, ⟨m + 2, by have := HMK.out; omega, by go_num⟩, by rw [actsTo_succ, ← HACT.out]; exact HREL.out, hB1⟩
    · obtain rfl : k = bs.length / 2 := by omega
      go_wp2
      go_ret
      refine ⟨_, rfl, ?_, hb⟩
      have : actsOf bs = actsTo bs (bs.length / 2) := by unfold actsOf; rw [Nat.min_eq_left (by omega)]
      rw [this]; exact hown
end Go.Proofs
