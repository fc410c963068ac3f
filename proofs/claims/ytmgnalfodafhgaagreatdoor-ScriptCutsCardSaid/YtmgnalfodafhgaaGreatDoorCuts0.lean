import Derived.Test.YtmgnalfodafhgaaGreatDoorFst0
import Derived.Test.YtmgnalfodafhgaaGreatDoorRef0
set_option linter.unusedVariables false
set_option linter.unusedSimpArgs false
namespace Go.Kin
open Go.RowKit
theorem SlI.takeA {k : IntKind} {w : World} {A : Option Addr} {n c : Nat} {xs : List Int} (h : SlI k w (.slice A n c) xs) (m : Nat) (hm : m ≤ n) : SlI k w (.slice A m c) (xs.take m) := by
  obtain ⟨A', c', hv, hx, hr⟩ := h
  injection hv with e1 e2 e3
  subst e1; subst e3
  have hl : (xs.take m).length = m := by rw [List.length_take]; omega
  refine ⟨A, c, by rw [hl], by omega, fun hp => ?_⟩
  rw [hl] at hp
  obtain ⟨b, off, hA, hc⟩ := hr (by omega)
  refine ⟨b, off, hA, fun j hj => ?_⟩
  rw [hl] at hj
  rw [hc j (by omega), List.getD_eq_getElem?_getD, List.getD_eq_getElem?_getD, List.getElem?_take_of_lt hj]
theorem SlB.takeA {k : IntKind} {w : World} {A : Option Addr} {n c : Nat} {xs : List Int} (h : SlB k w (.slice A n c) xs) (m : Nat) (hm : m ≤ n) : SlB k w (.slice A m c) (xs.take m) :=
  ⟨h.1.takeA m hm, fun A' n' c' hv => by have := h.2 A n c rfl; injection hv; omega⟩
theorem take_getD (bs : List Int) (a i : Nat) (h : i < a) : (bs.take a).getD i 0 = bs.getD i 0 := by
  rw [List.getD_eq_getElem?_getD, List.getD_eq_getElem?_getD, List.getElem?_take_of_lt h]
theorem actsOf_len (bs : List Int) : (actsOf bs).length = min (bs.length / 2) 1024 := by unfold actsOf; rw [actsTo_len]
theorem actsOf_get (bs : List Int) (i : Nat) (h : i < (actsOf bs).length) : (actsOf bs)[i] = actAt bs i := by
  simp only [actsOf, actsTo, List.getElem_map, List.getElem_range]
theorem actsOf_take_len (bs : List Int) (a : Nat) (h : a ≤ bs.length) : (actsOf (bs.take a)).length ≤ (actsOf bs).length := by
  rw [actsOf_len, actsOf_len, List.length_take]; omega
theorem actsOf_take (bs : List Int) (a : Nat) (h : a ≤ bs.length) (i : Nat) (hi : i < (actsOf (bs.take a)).length) : ∃ hi' : i < (actsOf bs).length, (actsOf (bs.take a))[i] = (actsOf bs)[i] := by
  refine ⟨Nat.lt_of_lt_of_le hi (actsOf_take_len bs a h), ?_⟩
  rw [actsOf_get, actsOf_get]
  rw [actsOf_len, List.length_take] at hi
  unfold actAt
  rw [take_getD _ _ _ (by omega), take_getD _ _ _ (by omega)]
theorem optsC_take (bs : List Int) (a : Nat) (h : 8 ≤ a) : optsC (bs.take a) = optsC bs := by
  unfold optsC
  simp only [take_getD bs a _ (show 0 < a by omega), take_getD bs a _ (show 1 < a by omega), take_getD bs a _ (show 2 < a by omega), take_getD bs a _ (show 3 < a by omega), take_getD bs a _ (show 4 < a by omega), take_getD bs a _ (show 5 < a by omega), take_getD bs a _ (show 6 < a by omega)]
theorem picB_take (bs : List Int) (a : Nat) (h : 4 ≤ a) (hr : rawB bs = false) : picB (bs.take a) = picB bs := by
  have h0 := take_getD bs a 0 (by omega)
  have h1 := take_getD bs a 1 (by omega)
  have h2 := take_getD bs a 2 (by omega)
  have h3 := take_getD bs a 3 (by omega)
  have hr' : rawB (bs.take a) = false := by unfold rawB at *; rw [h3]; exact hr
  unfold picB
  rw [hr, hr']
  have : picsOf (bs.take a) = picsOf bs := by
    unfold picsOf picsTo picsN
    rw [h2]
    congr 1
    funext i
    unfold picF
    rw [h0, h1, h3]
  rw [this]
  rfl
/-- A row of acts, read. -/
theorem acts_read {w : World} {base : Nat} {e : TypeId} {v : Value} {l : List Kin.Act} (h : OwnR 3 ActF w base e v l) : SlG 3 ActR w v l :=
  (h.slG ActF.reads (by omega)).mono fun _ _ ⟨pv, hv, hp⟩ => ⟨pv, hv, hp.1⟩
theorem acts_open {w : World} {v : Value} {l : List Kin.Act} (h : SlG 3 ActR w v l) : ∃ A c, v = .slice A l.length c ∧ l.length ≤ 9223372036854775807 ∧
    ∀ j (hj : j < l.length), ∃ b off pv, A = some ⟨b, off, none⟩ ∧ w.cell? ⟨b, off + j * 3, none⟩ = some (.int .i64 l[j].kind) ∧ w.cell? ⟨b, off + j * 3 + 1, none⟩ = some (.int .i64 l[j].n) ∧
      w.cell? ⟨b, off + j * 3 + 2, none⟩ = some pv ∧ SlI .i64 w pv l[j].picks := by
  obtain ⟨A, c, hv, hm, hr⟩ := h
  refine ⟨A, c, hv, hm, fun j hj => ?_⟩
  obtain ⟨b, off, hA, hc⟩ := hr (by omega)
  obtain ⟨cs, hl, ⟨pv, rfl, hp⟩, hcs⟩ := hc j hj
  exact ⟨b, off, pv, hA, hcs 0 _ rfl, hcs 1 _ rfl, hcs 2 _ rfl, hp⟩
end Go.Kin
namespace Go.Proofs
open Go.RowKit Go.Kin Go.Shelf
/-- Where the arguments are none of the law's. -/
def RetTrue (w : World) (e : Ending) (w' : World) : Prop := e = .returned (.bool true) ∧ Below w.heap.size w w'
set_option maxRecDepth 100000 in
set_option maxHeartbeats 4000000 in
theorem cuts_out (bs : List Int) (A : Option Addr) (c : Nat) (at' : Int) (w : World) (hV : VarsOk w) (hm : bs.length ≤ 9223372036854775807) (ho : 2000 < bs.length ∨ at' < 0 ∨ (bs.length : Int) < at') :
    Calls Tryz.prog 5 #[.slice A bs.length c, .int .i64 at'] w (RetTrue w) := by
  have HF := hid (fun W (h : Below w.heap.size w W) => first_any W (hV.below h))
  clear hV
  by_cases h1 : (2000 : Int) < (bs.length : Int)
  · clear ho
    go_enter Tryz.func5, Tryz.ntmps5
    have HBC := hid (below_refl w)
    go_wp2_with (go_at_call 6; refine (HF.out _ HBC.out).mono ?_; rintro _ _ ⟨rfl, hbx⟩; have HBC := hid (below_then HBC.out hbx); clear hbx)
    go_ret
    exact ⟨rfl, HBC.out⟩
  by_cases h2 : at' < 0
  · clear ho
    go_enter Tryz.func5, Tryz.ntmps5
    have HBC := hid (below_refl w)
    go_wp2_with (go_at_call 6; refine (HF.out _ HBC.out).mono ?_; rintro _ _ ⟨rfl, hbx⟩; have HBC := hid (below_then HBC.out hbx); clear hbx)
    go_ret
    exact ⟨rfl, HBC.out⟩
  have h3 : (bs.length : Int) < at' := by omega
  clear ho
  go_enter Tryz.func5, Tryz.ntmps5
  have HBC := hid (below_refl w)
  go_wp2_with (go_at_call 6; refine (HF.out _ HBC.out).mono ?_; rintro _ _ ⟨rfl, hbx⟩; have HBC := hid (below_then HBC.out hbx); clear hbx)
  go_ret
  exact ⟨rfl, HBC.out⟩
set_option maxRecDepth 100000 in
set_option maxHeartbeats 8000000 in
theorem cuts_in (bs : List Int) (A : Option Addr) (c a : Nat) (w : World) (hV : VarsOk w) (hs : SlB .u8 w (.slice A bs.length c) bs) (hv : ∀ x ∈ bs, 0 ≤ x ∧ x ≤ 255) (hb : bs.length ≤ 2000) (ha : a ≤ bs.length) :
    Calls Tryz.prog 5 #[.slice A bs.length c, .int .i64 (a : Int)] w (RetTrue w) := by
  have HF := hid (fun W (h : Below w.heap.size w W) => first_any W (hV.below h))
  have hvt : ∀ x ∈ bs.take a, 0 ≤ x ∧ x ≤ 255 := fun x hx => hv x (List.mem_of_mem_take hx)
  have hlt : (bs.take a).length ≤ 2000 := by rw [List.length_take]; omega
  have HS1 := hid (fun W (h : Below w.heap.size w W) => hs.below h)
  have HS2 := hid (fun W (h : Below w.heap.size w W) => (hs.takeA a ha).below h)
  have HA1 := hid (fun W (h : Below w.heap.size w W) => acts_any bs _ W (hs.below h).1 hb hv)
  have HA2 := hid (fun W (h : Below w.heap.size w W) => acts_any (bs.take a) _ W ((hs.takeA a ha).below h).1 hlt hvt)
  have HO1 := hid (fun W (h : Below w.heap.size w W) => opts_any bs _ W (hs.below h) hb hv)
  have HO2 := hid (fun W (h : Below w.heap.size w W) => opts_any (bs.take a) _ W ((hs.takeA a ha).below h) hlt hvt)
  have HP1 := hid (fun W (h : Below w.heap.size w W) => pics_any bs _ W (hs.below h) hb hv)
  have HP2 := hid (fun W (h : Below w.heap.size w W) => pics_any (bs.take a) _ W ((hs.takeA a ha).below h) hlt hvt)
  have hcap := hs.2 _ _ _ rfl
  have i1 : (0 : Int) ≤ (a : Int) := by omega
  have i2 : (a : Int) ≤ (bs.length : Int) := by omega
  have i3 : (a : Int) ≤ (c : Int) := by omega
  clear hV hvt hlt hs
  go_enter Tryz.func5, Tryz.ntmps5
  have HBC := hid (below_refl w)
  go_upto_region 5 with (go_at_call 6; refine (HF.out _ HBC.out).mono ?_; rintro _ w1 ⟨rfl, hbx⟩; have HB1 := hid (below_then HBC.out hbx); clear hbx)
  go_cut [5, 6] (fun s5 s6 wx => SlG 3 ActR wx s5 (actsOf bs) ∧ SlG 3 ActR wx s6 (actsOf (bs.take a)) ∧ Below w.heap.size w wx)
  case first =>
    go_region_held3 (fun wx => Below w.heap.size w wx) (first | exact HB1.out.drew | (go_split_ands; exact below_then (by assumption) hb5) | (go_split_ands; exact below_then (by assumption) hb6))
      (first
        | (go_at_call_of 16 (Value.slice A bs.length c); refine (HA1.out _ (by first | exact HB1.out.drew | assumption)).mono ?_; rintro _ w5 ⟨v5, rfl, hr5, hb5⟩)
        | (go_at_call_of 16 (Value.slice A a c); refine (HA2.out _ (by first | exact HB1.out.drew | assumption)).mono ?_; rintro _ w6 ⟨v6, rfl, hr6, hb6⟩))
    all_goals
      go_wp2_with fail
      go_meet
      first
        | exact ⟨(acts_read hr5).below ActR.stable hb6, acts_read hr6, by assumption⟩
        | exact ⟨acts_read hr5, (acts_read hr6).below ActR.stable hb5, by assumption⟩
  case rest =>
    obtain ⟨hg5, hg6, hbc⟩ := hcut
    have HBC := hid hbc
    have hle := actsOf_take_len bs a ha
    have HPRE := hid (actsOf_take bs a ha)
    have HOPT := hid (optsC_take bs a)
    have HPIC := hid (picB_take bs a)
    obtain ⟨A5, c5, rfl, hm5, ho5⟩ := acts_open hg5
    obtain ⟨A6, c6, rfl, hm6, ho6⟩ := acts_open hg6
    generalize hl5 : actsOf bs = l5 at *
    generalize hl6 : actsOf (bs.take a) = l6 at *
    clear hg5 hg6 hbc hl5 hl6
    have HO5 := hid ho5
    have HO6 := hid ho6
    have j1 : (l6.length : Int) ≤ (l5.length : Int) := by omega
    clear ho5 ho6
    go_wp2_with fail
    go_loopg [7] l6.length (fun gz s7 wr => ∃ j : Nat, j ≤ l6.length ∧ l6.length - j ≤ gz ∧ s7 = .int .i64 (j : Int) ∧ Below wc.heap.size wc wr)
    case atStart => exact ⟨0, Nat.zero_le _, by omega, rfl, below_refl wc⟩
    case round =>
      obtain ⟨j, hj, hgz, rfl, hbr⟩ := hrel
      by_cases hjl : j < l6.length
      · obtain ⟨b6, o6, pv6, rfl, x60, x61, x62, hp6⟩ := HO6.out j hjl
        obtain ⟨hj5, heq⟩ := HPRE.out j hjl
        obtain ⟨b5, o5, pv5, rfl, x50, x51, x52, hp5⟩ := HO5.out j hj5
        rw [← heq] at x50 x51 hp5
        generalize l6[j] = act at *
        obtain ⟨kind, n, picks⟩ := act
        simp only at x50 x51 hp5 x60 x61 hp6
        have a50 : ∀ i : Aft wr, i.W.cell? ⟨b5, o5 + j * 3, none⟩ = some (.int .i64 kind) := fun i => cell_below i.below (cell_below hbr x50)
        have a51 : ∀ i : Aft wr, i.W.cell? ⟨b5, o5 + j * 3 + 1, none⟩ = some (.int .i64 n) := fun i => cell_below i.below (cell_below hbr x51)
        have a52 : ∀ i : Aft wr, i.W.cell? ⟨b5, o5 + j * 3 + 2, none⟩ = some pv5 := fun i => cell_below i.below (cell_below hbr x52)
        have a60 : ∀ i : Aft wr, i.W.cell? ⟨b6, o6 + j * 3, none⟩ = some (.int .i64 kind) := fun i => cell_below i.below (cell_below hbr x60)
        have a61 : ∀ i : Aft wr, i.W.cell? ⟨b6, o6 + j * 3 + 1, none⟩ = some (.int .i64 n) := fun i => cell_below i.below (cell_below hbr x61)
        have a62 : ∀ i : Aft wr, i.W.cell? ⟨b6, o6 + j * 3 + 2, none⟩ = some pv6 := fun i => cell_below i.below (cell_below hbr x62)
        have HI := hid (fun i : Aft wr => ints_same picks pv5 pv6 i.W ((hp5.below hbr).below i.below) ((hp6.below hbr).below i.below))
        have k1 : (0 : Int) ≤ (j : Int) := by omega
        have k2 : (j : Int) < (l6.length : Int) := by omega
        have k3 : (j : Int) < (l5.length : Int) := by omega
        have HBR := hid hbr
        clear x50 x51 x52 x60 x61 x62 hp5 hp6 heq hbr hj5
        go_wp2_with fail
        refine wp_region_aft (by kernel_rfl) (by kernel_rfl) ?_
        repeat (go_big_quiet_step (first | (go_at_call 12; exact aft_calls (HI.out _))))
        refine wpQuiet_nil ?_
        intro _ hw'
        obtain ⟨iq, hw''⟩ := hw'
        subst hw''
        clear a50 a51 a52 a60 a61 a62
        go_wp2_with fail
        go_roundg (l6.length - (j + 1))
        case measure => omega
        case rel => exact ⟨j + 1, by omega, by omega, by go_num, below_then HBR.out iq.below⟩
      · obtain rfl : j = l6.length := by omega
        have HX0 := hid (below_then HBC.out hbr)
        clear hbr
        go_upto_region 15 with (first
          | (go_at_call_of 13 (Value.slice A bs.length c); refine (HO1.out _ HX0.out).mono ?_; rintro _ w2 ⟨r2, rfl, hr2, hb2⟩; have HX1 := hid (below_alloc (below_then HX0.out hb2) (.cells (optsC bs).cells 42)); obtain ⟨A2, c2, rfl⟩ := own_form hr2; generalize hx7 : bs.getD 7 0 = X7 at *; have HX7 := hid hx7; clear hx7; have hk2 := heap_alloc_new w2 (.cells (optsC bs).cells 42); clear hr2 hb2; generalize hcc : optsC bs = cc at *; have HCC := hid hcc; clear hcc; obtain ⟨d0, d1, d2, d3, d4, d5, d6, d7⟩ := cc; unfold Cfg.val; unfold Cfg.cells at hk2)
          | (go_at_call_of 13 (Value.slice A a c); refine (HO2.out _ HX1.out).mono ?_; rintro _ w3 ⟨r3, rfl, hr3, hb3⟩; generalize hz7 : (bs.take a).getD 7 0 = Z7 at *; have HZ7 := hid hz7; clear hz7 hr3; have HX2 := hid (below_alloc (below_then HX1.out hb3) (.cells (optsC (bs.take a)).cells 42)); generalize hce : optsC (bs.take a) = ce at *; have HCE := hid hce; clear hce; obtain ⟨f0, f1, f2, f3, f4, f5, f6, f7⟩ := ce; unfold Cfg.val))
        have hkc : (w3.alloc (.cells #[.int .i64 f0, .int .i64 f1, .int .i64 f2, .int .i64 f3, .int .i64 f4, .int .i64 f5, .int .i64 f6, .int .i64 f7] 42)).heap[w2.heap.size]? = some (.cells #[.int .i64 d0, .int .i64 d1, .int .i64 d2, .int .i64 d3, .int .i64 d4, .int .i64 d5, .int .i64 d6, .int .i64 d7] 42) := (Below.heap_alloc _ _ _ (Nat.lt_of_lt_of_le (Array.getElem?_eq_some_iff.1 hk2).1 hb3.size)).trans ((hb3.block _ (Array.getElem?_eq_some_iff.1 hk2).1).trans hk2)
        have hkd : (w3.alloc (.cells #[.int .i64 f0, .int .i64 f1, .int .i64 f2, .int .i64 f3, .int .i64 f4, .int .i64 f5, .int .i64 f6, .int .i64 f7] 42)).heap[w3.heap.size]? = some (.cells #[.int .i64 f0, .int .i64 f1, .int .i64 f2, .int .i64 f3, .int .i64 f4, .int .i64 f5, .int .i64 f6, .int .i64 f7] 42) := heap_alloc_new w3 _
        have HX2' : Hid (Below w.heap.size w (w3.alloc (.cells #[.int .i64 f0, .int .i64 f1, .int .i64 f2, .int .i64 f3, .int .i64 f4, .int .i64 f5, .int .i64 f6, .int .i64 f7] 42))) := HX2
        clear HX2 hk2 hb3
        have HX2 := HX2'
        clear HX2'
        generalize w3.alloc (.cells #[.int .i64 f0, .int .i64 f1, .int .i64 f2, .int .i64 f3, .int .i64 f4, .int .i64 f5, .int .i64 f6, .int .i64 f7] 42) = W3 at *
        by_cases h8 : (8 : Int) ≤ (a : Int)
        · have hce := HOPT.out (by omega)
          injection hce with e0 e1 e2 e3 e4 e5 e6 e7
          have hz : Z7 = X7 := HZ7.out.symm.trans ((take_getD bs a 7 (by omega)).trans HX7.out)
          subst e0 e1 e2 e3 e4 e5 e6 e7 hz
          have kc0 : W3.cell? ⟨w2.heap.size, 0, none⟩ = some (.int .i64 f0) := cell_of_row W3 w2.heap.size 0 _ _ (0, 0) hkc
          have kc1 : W3.cell? ⟨w2.heap.size, 1, none⟩ = some (.int .i64 f1) := cell_of_row W3 w2.heap.size 1 _ _ (0, 0) hkc
          have kc2 : W3.cell? ⟨w2.heap.size, 2, none⟩ = some (.int .i64 f2) := cell_of_row W3 w2.heap.size 2 _ _ (0, 0) hkc
          have kc3 : W3.cell? ⟨w2.heap.size, 3, none⟩ = some (.int .i64 f3) := cell_of_row W3 w2.heap.size 3 _ _ (0, 0) hkc
          have kc4 : W3.cell? ⟨w2.heap.size, 4, none⟩ = some (.int .i64 f4) := cell_of_row W3 w2.heap.size 4 _ _ (0, 0) hkc
          have kc5 : W3.cell? ⟨w2.heap.size, 5, none⟩ = some (.int .i64 f5) := cell_of_row W3 w2.heap.size 5 _ _ (0, 0) hkc
          have kc6 : W3.cell? ⟨w2.heap.size, 6, none⟩ = some (.int .i64 f6) := cell_of_row W3 w2.heap.size 6 _ _ (0, 0) hkc
          have kc7 : W3.cell? ⟨w2.heap.size, 7, none⟩ = some (.int .i64 f7) := cell_of_row W3 w2.heap.size 7 _ _ (0, 0) hkc
          have kd0 : W3.cell? ⟨w3.heap.size, 0, none⟩ = some (.int .i64 f0) := cell_of_row W3 w3.heap.size 0 _ _ (0, 0) hkd
          have kd1 : W3.cell? ⟨w3.heap.size, 1, none⟩ = some (.int .i64 f1) := cell_of_row W3 w3.heap.size 1 _ _ (0, 0) hkd
          have kd2 : W3.cell? ⟨w3.heap.size, 2, none⟩ = some (.int .i64 f2) := cell_of_row W3 w3.heap.size 2 _ _ (0, 0) hkd
          have kd3 : W3.cell? ⟨w3.heap.size, 3, none⟩ = some (.int .i64 f3) := cell_of_row W3 w3.heap.size 3 _ _ (0, 0) hkd
          have kd4 : W3.cell? ⟨w3.heap.size, 4, none⟩ = some (.int .i64 f4) := cell_of_row W3 w3.heap.size 4 _ _ (0, 0) hkd
          have kd5 : W3.cell? ⟨w3.heap.size, 5, none⟩ = some (.int .i64 f5) := cell_of_row W3 w3.heap.size 5 _ _ (0, 0) hkd
          have kd6 : W3.cell? ⟨w3.heap.size, 6, none⟩ = some (.int .i64 f6) := cell_of_row W3 w3.heap.size 6 _ _ (0, 0) hkd
          have kd7 : W3.cell? ⟨w3.heap.size, 7, none⟩ = some (.int .i64 f7) := cell_of_row W3 w3.heap.size 7 _ _ (0, 0) hkd
          have hl8 : ((bs.length - 8 : Nat) : Int) = (bs.length : Int) - 8 := by omega
          clear hkc hkd
          go_upto_region 17 with (fail)
          clear kc0 kc1 kc2 kc3 kc4 kc5 kc6 kc7 kd0 kd1 kd2 kd3 kd4 kd5 kd6 kd7 hl8
          go_upto_region 19 with (first
            | (go_at_call_of 14 (Value.slice A bs.length c); refine (HP1.out _ HX2.out).mono ?_; rintro _ w5 ⟨x, rst, rfl, hx, hrst, hb5⟩; have HX3 := hid (below_then HX2.out hb5); have HXX := hid hx.1; have HRST := hid (hrst.1.below (k := .u8) (below_refl w5)); clear hx hrst hb5)
            | (go_at_call_of 14 (Value.slice A a c); refine (HP2.out _ HX3.out).mono ?_; rintro _ w6 ⟨y, rs2, rfl, hy, _, hb6⟩; have HX4 := hid (below_then HX3.out hb6); have HXY := hid (HXX.out.below hb6); have HYY := hid hy.1; clear hy hb6))
          by_cases h4 : (a : Int) < 4
          · by_cases h3 : (3 : Int) < (bs.length : Int)
            · obtain ⟨A', c', hA, _, hc3⟩ := (HS1.out _ HX4.out).1.open
              injection hA with e1 e2 e3
              subst e1
              obtain ⟨b3, o3, rfl, x3⟩ := hc3 3 (by omega)
              go_wp2_with (go_at_call 6; refine (HF.out _ HX4.out).mono ?_; rintro _ w7 ⟨rfl, hb7⟩; have HX5 := hid (below_then HX4.out hb7); have HB7 := hid hb7; clear hb7)
              all_goals
                go_ret
                exact ⟨rfl, HX5.out⟩
            · go_wp2_with (go_at_call 6; refine (HF.out _ HX4.out).mono ?_; rintro _ w7 ⟨rfl, hb7⟩; have HX5 := hid (below_then HX4.out hb7); have HB7 := hid hb7; clear hb7)
              all_goals
                go_ret
                exact ⟨rfl, HX5.out⟩
          · obtain ⟨A', c', hA, _, hc3⟩ := (HS1.out _ HX4.out).1.open
            injection hA with e1 e2 e3
            subst e1
            obtain ⟨b3, o3, rfl, x3⟩ := hc3 3 (by omega)
            have hv3 := getD_smp hv 3
            have h3 : (3 : Int) < (bs.length : Int) := by omega
            by_cases hraw : bs.getD 3 0 % 8 = 7
            · generalize bs.getD 3 0 = X3 at *
              have hr1 : (X3 % 8 == 7) = true := by simpa using hraw
              clear hraw
              go_wp2_with (go_at_call 6; refine (HF.out _ HX4.out).mono ?_; rintro _ w7 ⟨rfl, hb7⟩; have HX5 := hid (below_then HX4.out hb7); have HB7 := hid hb7; clear hb7)
              go_ret
              exact ⟨rfl, HX5.out⟩
            · have hrb : rawB bs = false := by simpa [rawB] using hraw
              have hp2 := HPIC.out (by omega) hrb
              have hprest : picRest bs = bs.drop 4 := by unfold picRest; rw [hrb]; rfl
              have hy2 := HYY.out
              rw [hp2] at hy2
              have HY2 := hid hy2
              have hr2 := HRST.out
              rw [hprest] at hr2
              obtain ⟨A7, c7, hrs, _⟩ := hr2
              have hrl : (bs.drop 4).length = bs.length - 4 := List.length_drop
              rw [hrl] at hrs
              subst hrs
              have hr1 : (bs.getD 3 0 % 8 == 7) = false := by simpa using hraw
              have hlen : ((bs.length - 4 : Nat) : Int) = (bs.length : Int) - 4 := by omega
              generalize bs.getD 3 0 = X3 at *
              clear hraw hrb hp2 hprest hrl hy2
              go_wp2_with (first
                | (go_at_call 6; refine (HF.out _ HX4.out).mono ?_; rintro _ w7 ⟨rfl, hb7⟩; have HX5 := hid (below_then HX4.out hb7); have HB7 := hid hb7; clear hb7)
                | (go_at_call 18; refine (bytes_same (picB bs) _ _ _ (HXY.out.below HB7.out) (HY2.out.below HB7.out)).mono ?_; rintro _ _ ⟨rfl, rfl⟩))
              go_ret
              exact ⟨rfl, HX5.out⟩
        · clear hkc hkd
          go_upto_region 17 with (fail)
          go_upto_region 19 with (first
            | (go_at_call_of 14 (Value.slice A bs.length c); refine (HP1.out _ HX2.out).mono ?_; rintro _ w5 ⟨x, rst, rfl, hx, hrst, hb5⟩; have HX3 := hid (below_then HX2.out hb5); have HXX := hid hx.1; have HRST := hid (hrst.1.below (k := .u8) (below_refl w5)); clear hx hrst hb5)
            | (go_at_call_of 14 (Value.slice A a c); refine (HP2.out _ HX3.out).mono ?_; rintro _ w6 ⟨y, rs2, rfl, hy, _, hb6⟩; have HX4 := hid (below_then HX3.out hb6); have HXY := hid (HXX.out.below hb6); have HYY := hid hy.1; clear hy hb6))
          by_cases h4 : (a : Int) < 4
          · by_cases h3 : (3 : Int) < (bs.length : Int)
            · obtain ⟨A', c', hA, _, hc3⟩ := (HS1.out _ HX4.out).1.open
              injection hA with e1 e2 e3
              subst e1
              obtain ⟨b3, o3, rfl, x3⟩ := hc3 3 (by omega)
              go_wp2_with (go_at_call 6; refine (HF.out _ HX4.out).mono ?_; rintro _ w7 ⟨rfl, hb7⟩; have HX5 := hid (below_then HX4.out hb7); have HB7 := hid hb7; clear hb7)
              all_goals
                go_ret
                exact ⟨rfl, HX5.out⟩
            · go_wp2_with (go_at_call 6; refine (HF.out _ HX4.out).mono ?_; rintro _ w7 ⟨rfl, hb7⟩; have HX5 := hid (below_then HX4.out hb7); have HB7 := hid hb7; clear hb7)
              all_goals
                go_ret
                exact ⟨rfl, HX5.out⟩
          · obtain ⟨A', c', hA, _, hc3⟩ := (HS1.out _ HX4.out).1.open
            injection hA with e1 e2 e3
            subst e1
            obtain ⟨b3, o3, rfl, x3⟩ := hc3 3 (by omega)
            have hv3 := getD_smp hv 3
            have h3 : (3 : Int) < (bs.length : Int) := by omega
            by_cases hraw : bs.getD 3 0 % 8 = 7
            · generalize bs.getD 3 0 = X3 at *
              have hr1 : (X3 % 8 == 7) = true := by simpa using hraw
              clear hraw
              go_wp2_with (go_at_call 6; refine (HF.out _ HX4.out).mono ?_; rintro _ w7 ⟨rfl, hb7⟩; have HX5 := hid (below_then HX4.out hb7); have HB7 := hid hb7; clear hb7)
              go_ret
              exact ⟨rfl, HX5.out⟩
            · have hrb : rawB bs = false := by simpa [rawB] using hraw
              have hp2 := HPIC.out (by omega) hrb
              have hprest : picRest bs = bs.drop 4 := by unfold picRest; rw [hrb]; rfl
              have hy2 := HYY.out
              rw [hp2] at hy2
              have HY2 := hid hy2
              have hr2 := HRST.out
              rw [hprest] at hr2
              obtain ⟨A7, c7, hrs, _⟩ := hr2
              have hrl : (bs.drop 4).length = bs.length - 4 := List.length_drop
              rw [hrl] at hrs
              subst hrs
              have hr1 : (bs.getD 3 0 % 8 == 7) = false := by simpa using hraw
              have hlen : ((bs.length - 4 : Nat) : Int) = (bs.length : Int) - 4 := by omega
              generalize bs.getD 3 0 = X3 at *
              clear hraw hrb hp2 hprest hrl hy2
              go_wp2_with (first
                | (go_at_call 6; refine (HF.out _ HX4.out).mono ?_; rintro _ w7 ⟨rfl, hb7⟩; have HX5 := hid (below_then HX4.out hb7); have HB7 := hid hb7; clear hb7)
                | (go_at_call 18; refine (bytes_same (picB bs) _ _ _ (HXY.out.below HB7.out) (HY2.out.below HB7.out)).mono ?_; rintro _ _ ⟨rfl, rfl⟩))
              go_ret
              exact ⟨rfl, HX5.out⟩
end Go.Proofs
