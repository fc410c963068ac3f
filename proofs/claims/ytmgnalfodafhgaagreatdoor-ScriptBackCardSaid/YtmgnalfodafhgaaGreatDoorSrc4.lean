import Derived.Test.YtmgnalfodafhgaaGreatDoorSrc3
import Derived.Deep.RegionHeld3
set_option linter.unusedVariables false
set_option linter.unusedSimpArgs false
namespace Go.Kin
open Go.RowKit
theorem riceBits_len (v k : Nat) (hk : k ≤ 15) : (riceBits v k).length ≤ 55 := by
  unfold riceBits
  have hb : ∀ v n, (bitsOf v n).length = n := by intro v n; induction n with
    | zero => rfl
    | succ n ih => simp [bitsOf, ih]
  split
  · simp [hb]
  · simp [hb]; omega
theorem bitsOf_len (v : Nat) : ∀ n, (bitsOf v n).length = n
  | 0 => rfl
  | n + 1 => by simp [bitsOf, bitsOf_len v n]
theorem flat_len (l : List Int) (k : Nat) (hk : k ≤ 15) : (l.flatMap fun v => riceBits v.toNat k).length ≤ 55 * l.length := by
  induction l with
  | nil => simp
  | cons a l ih => have := riceBits_len a.toNat k hk; simp only [List.flatMap_cons, List.length_append, List.length_cons]; omega
theorem bestK_le (l : List Int) : bestK l ≤ 7 := by
  have := Go.Proofs.bestTo_range l 8
  unfold bestK; omega
theorem foldsF_len (f : Fr) : (foldsF f).length = f.pix.length := by simp [foldsF]
theorem frameBits_len (f : Fr) (h : mayB f = true) : (frameBits f).length ≤ 56323 := by
  have h1 := (mayB_iff.1 h)
  have h2 := mul_sides h1.1 h1.2.1
  have h3 := flat_len (foldsF f) (bestK (foldsF f)) (by have := bestK_le (foldsF f); omega)
  rw [foldsF_len] at h3
  unfold frameBits
  rw [List.length_append, bitsOf_len]
  omega
theorem frames_len (fs : List Fr) (h : ∀ f ∈ fs, mayB f = true) : (fs.flatMap frameBits).length ≤ 56323 * fs.length := by
  induction fs with
  | nil => simp
  | cons a l ih =>
    have h1 := frameBits_len a (h a (by simp))
    have h2 := ih (fun f hf => h f (by simp [hf]))
    simp only [List.flatMap_cons, List.length_append, List.length_cons]; omega
theorem WrS.foreign {tb : TypeId} {F G : Nat → Prop} {b : Nat} {l : List Bool} {w : World} (h : WrS tb F b l w) (hG : ∀ k, G k → F k) : WrS tb G b l w := h.more (below_refl w) (fun k hk => .inl (hG k hk))
theorem foldsF_range (f : Fr) (h : mayB f = true) : ∀ x ∈ foldsF f, 0 ≤ x ∧ x ≤ 510 := by
  intro x hx
  have hp := (mayB_iff.1 h).2.2.2
  simp only [foldsF, List.mem_map, List.mem_range] at hx
  obtain ⟨i, hi, rfl⟩ := hx
  have h1 := getD_smp hp i
  have h2 := guessF_range hp f.w.toNat (i % f.w.toNat) (i / f.w.toNat)
  exact foldI_range (by omega) (by omega)
theorem own_lit {w : World} {g base : Nat} {e : TypeId} {cs : Array Value} (h : w.heap[g]? = some (.cells cs e (0, 0))) (hb : base ≤ g) (hm : cs.size ≤ maxLen) : w.ownsRow base e 1 (.slice (some ⟨g, 0, none⟩) cs.size cs.size) cs.size cs.toList :=
  ⟨by simp, .inr ⟨g, cs.size, cs, rfl, hb, h, Nat.le_refl _, hm, by simp, by rw [Nat.mul_one]; exact List.take_of_length_le (by simp)⟩⟩
theorem byte_of {W : Int} (h : 8 ≤ W ∧ W ≤ 32 ∧ W % 8 = 0) : IntKind.u8.wrap (IntKind.i64.wrap (W.tdiv 8)) = W / 8 := by
  rw [Int.tdiv_eq_ediv_of_nonneg (by omega), IntKind.wrap_i64, IntKind.wrap_u8]; omega
theorem byte_of_nat {n : Nat} (h : n < 256) : IntKind.u8.wrap (n : Int) = n := by
  rw [IntKind.wrap_u8]; omega
theorem farA {a g : Nat} {n c : Nat} (h : a < g) : some a ≠ (Value.slice (some ⟨g, 0, none⟩) n c).ownBlock := fun e => by
  have : a = g := by simpa [Value.ownBlock] using e
  omega
theorem endA {w wr w5 w1 : World} {o : Obj} {n c : Nat} (hbj : Below w.heap.size w wr) (hb5 : Below (wr.alloc o).drew.heap.size (wr.alloc o).drew w5) (hg : w5.grownBy w1 (Value.slice (some ⟨wr.heap.size, 0, none⟩) n c).ownBlock) : Below w.heap.size w w1 := by
  have h1 : Below w.heap.size w w5 := below_then ((below_alloc hbj o).drew) hb5
  have h2 := hbj.size
  refine h1.grown hg h1.size (fun k hk => ?_)
  have h3 : wr.heap.size = k := by simpa [Value.ownBlock] using hk
  omega
theorem endB {w wr w5 w1 : World} {o : Obj} {n c : Nat} (hbj : Below w.heap.size w wr) (hb5 : Below wr.drew.heap.size wr.drew w5) (hg : (w5.alloc o).grownBy w1 (Value.slice (some ⟨w5.heap.size, 0, none⟩) n c).ownBlock) : Below w.heap.size w w1 := by
  have h1 : Below w.heap.size w w5 := below_then (hbj.drew) hb5
  have h2 := h1.size
  refine (below_alloc h1 o).grown hg (below_alloc h1 o).size (fun k hk => ?_)
  have h3 : w5.heap.size = k := by simpa [Value.ownBlock] using hk
  omega
end Go.Kin
namespace Go.Proofs
open Go.RowKit Go.Kin Go.Shelf
/-- Bytes and no error are handed back. -/
def EncRet (xs : List Int) (w : World) (e : Ending) (w' : World) : Prop :=
  ∃ v, e = .returned (.tuple #[v, .nilIface]) ∧ w'.ownsRow w.heap.size 5 1 v xs.length (xs.map (Value.int .u8)) ∧ Below w.heap.size w w'
set_option maxRecDepth 100000 in
set_option maxHeartbeats 8000000 in
theorem encode_ok (fs : List Fr) (W0 H0 : Int) (v : Value) (w : World) (hs : SlG 3 FrR w v fs) (hok : EncOk fs W0 H0) :
    Calls Tryz.prog 29 #[v] w (EncRet (encB fs) w) := by
  have hS := hid hs
  obtain ⟨A, c, rfl, hm, hc⟩ := frames_open hs
  have h0 := hok.pos
  have h1 := hok.most
  go_enter Tryz.func29, Tryz.ntmps29
  go_wp2_with (first | (go_at_call 44; refine (check_ok fs W0 H0 _ _ hS.out hok).mono ?_; rintro _ w1 ⟨rfl, hb1⟩) | (go_at_call 45; refine (newWriter_any _).mono ?_; rintro _ w2 ⟨rfl, hwr2, hb2⟩))
  have hb := below_then hb1 hb2
  have hwr := hwr2.foreign (G := (· < w.heap.size)) (fun k hk => by have := hb1.size; have hk' : k < w.heap.size := hk; exact Nat.lt_of_lt_of_le hk' this)
  generalize w1.heap.size = b at *
  clear hb1 hb2 hwr2
  go_loopg [7, 8, 9, 11, 20] fs.length (fun g _ _ _ _ s20 wr => ∃ j : Nat, j ≤ fs.length ∧ fs.length - j ≤ g ∧ s20 = .int .i64 j ∧ WrS 5 (· < w.heap.size) b ((fs.take j).flatMap frameBits) wr ∧ Below w.heap.size w wr)
  case atStart => exact ⟨0, Nat.zero_le _, by omega, rfl, hwr, hb⟩
  case round =>
    obtain ⟨j, hj, hg, rfl, hwj, hbj⟩ := hrel
    by_cases hlt : j < fs.length
    · obtain ⟨b', off, pv, W, H, px, rfl, hf, c0, c1, c2, hp⟩ := hc j hlt
      have hmay := (hok.ok _ (List.mem_of_getElem? hf)).1
      have hmi := mayB_iff.1 hmay
      have hms := mul_sides hmi.1 hmi.2.1
      have hsw := sideB_iff.1 hmi.1
      simp only at hmi hms hsw
      have hsh := sideB_iff.1 hmi.2.1
      have hnum := foldsF_range _ hmay
      have hfl := frames_len (fs.take j) (fun f hf => (hok.ok f (List.mem_of_mem_take hf)).1)
      have htk : (fs.take (j + 1)).flatMap frameBits = (fs.take j).flatMap frameBits ++ frameBits ⟨W, H, px⟩ := by
        obtain ⟨hl', hfe⟩ := List.getElem?_eq_some_iff.1 hf
        rw [List.take_succ_eq_append_getElem hlt, List.flatMap_append, hfe]; simp
      have htl : (fs.take j).length = j := by simp; omega
      rw [htl] at hfl
      obtain ⟨Wn, hWn⟩ := Int.eq_ofNat_of_zero_le (show 0 ≤ W by omega)
      obtain ⟨Hn, hHn⟩ := Int.eq_ofNat_of_zero_le (show 0 ≤ H by omega)
      subst hWn; subst hHn
      have hpw := hid (hp.below hbj)
      obtain ⟨A2, k2, rfl, hm2, _⟩ := hp
      have x0 := cell_below hbj c0
      have x1 := cell_below hbj c1
      have x2 := cell_below hbj c2
      have hFl : foldsTo px Wn px.length = foldsF ⟨Wn, Hn, px⟩ := rfl
      have HFL := hid hFl
      have HTK := hid htk
      clear hFl htk hf c0 c1 c2 hc hs
      have hpx : px.length ≤ 1024 := by omega
      have hpx0 : 0 < px.length := by omega
      have hFlen := foldsF_len ⟨Wn, Hn, px⟩
      have hbk := bestK_le (foldsF ⟨Wn, Hn, px⟩)
      simp only at hFlen
      generalize hL : (fs.take j).flatMap frameBits = L at *
      have hfb : frameBits ⟨Wn, Hn, px⟩ = bitsOf (bestK (foldsF ⟨Wn, Hn, px⟩)) 3 ++ (foldsF ⟨Wn, Hn, px⟩).flatMap fun v => riceBits v.toNat (bestK (foldsF ⟨Wn, Hn, px⟩)) := rfl
      generalize hX : foldsF ⟨Wn, Hn, px⟩ = xs at *
      generalize hK : bestK xs = K at *
      have HL := hid hL
      have HFB := hid hfb
      have HK := hid hK
      clear hL hfb hK hX
      go_wp2_with (first
        | (go_at_call 46; refine (folds_any Wn Hn px _ _ (hpw.out.below (below_alloc (below_refl wr) _)) (by omega) (by omega) hpx hpx0 hmi.2.2.2).mono ?_; rintro _ w3 ⟨v8, rfl, hown3, hb3⟩; rw [HFL.out] at hown3; obtain ⟨n8, hn8⟩ : ∃ n8, xs.length = n8 + 1 := ⟨xs.length - 1, by omega⟩; have hx8 := hid (SlI.of_own hown3); rw [hn8] at hown3; obtain ⟨g8, cap8, rfl⟩ := own_slice hown3; have hg8 := hown3.lt g8 rfl; clear hown3)
        | (go_at_call 47; refine (best_any _ _ _ hx8.out (by omega) (fun x hx => by have := hnum x hx; omega) _ HK.out).mono ?_; rintro _ _ ⟨rfl, rfl⟩)
        | (go_at_call 48; refine (put_any (fun k => k < w.heap.size ∨ wr.heap.size ≤ k ∧ k < w3.heap.size) b L K 3 _ (hwj.more (below_then (below_alloc (below_refl wr) _) hb3) (fun k hk => hk)) (by omega) (by omega) (by omega)).mono ?_; rintro _ w4 ⟨rfl, hw4, hf4⟩))
      have hb3' : Below w.heap.size w w3 := below_then (below_alloc hbj _) hb3
      have hx4 := hid (hx8.out.frm hf4 (fun g hg => by
        obtain rfl : g8 = g := by simpa [Value.ownBlock] using hg
        simp only [World.size_alloc] at hg8
        exact fun hn => hn (.inr ⟨by omega, hg8.2⟩)))
      obtain ⟨A8, c8, hA8, _, hr8⟩ := hx4.out
      have hA8' : A8 = some ⟨g8, 0, none⟩ := by
        injection hA8 with e1 e2 e3
        exact e1.symm
      subst hA8'
      have hcell : ∀ wq, Frm (fun k => ¬ (k < w.heap.size ∨ wr.heap.size ≤ k ∧ k < w3.heap.size)) w3 wq → ∀ i, i < n8 + 1 → wq.cell? ⟨g8, i, none⟩ = some (.int .i64 (xs.getD i 0)) := by
        intro wq hfq i hi
        obtain ⟨A9, c9, hA9, _, hr9⟩ := hx8.out
        obtain ⟨b9, o9, hb9, hc9⟩ := hr9 (by omega)
        injection hA9 with e1 e2 e3
        rw [hb9] at e1
        injection e1 with e1
        injection e1 with e1 e2
        subst e1; subst e2
        have := hc9 i (by omega)
        rw [Nat.zero_add] at this
        refine hfq.cell this (fun hn => hn (.inr ?_))
        simp only [World.size_alloc] at hg8
        show wr.heap.size ≤ g8 ∧ g8 < w3.heap.size
        exact ⟨by omega, hg8.2⟩
      have HC := hid hcell
      clear hcell hr8 hA8
      go_loopg [11, 33] (n8 + 1) (fun g _ s33 wi => ∃ i : Nat, i ≤ n8 + 1 ∧ n8 + 1 - i ≤ g ∧ s33 = .int .i64 i ∧ WrS 5 (fun k => k < w.heap.size ∨ wr.heap.size ≤ k ∧ k < w3.heap.size) b (L ++ bitsOf K 3 ++ (xs.take i).flatMap fun v => riceBits v.toNat K) wi ∧ Frm (fun k => ¬ (k < w.heap.size ∨ wr.heap.size ≤ k ∧ k < w3.heap.size)) w3 wi)
      case atStart => exact ⟨0, Nat.zero_le _, by omega, rfl, by simpa using hw4, hf4⟩
      case round =>
        obtain ⟨i, hi, hgi, rfl, hwi, hfi⟩ := hrel
        by_cases hil : i < n8 + 1
        · have y0 := HC.out wr hfi i hil
          have hxi := hnum (xs.getD i 0) (by rw [List.getD_eq_getElem?_getD, List.getElem?_eq_getElem (show i < xs.length by omega)]; exact List.getElem_mem _)
          have htki : (xs.take (i + 1)).flatMap (fun v => riceBits v.toNat K) = (xs.take i).flatMap (fun v => riceBits v.toNat K) ++ riceBits (xs.getD i 0).toNat K := by
            rw [List.take_succ_eq_append_getElem (show i < xs.length by omega), List.flatMap_append, List.getD_eq_getElem?_getD, List.getElem?_eq_getElem (show i < xs.length by omega)]; simp
          have hli := flat_len (xs.take i) K (by omega)
          have hlt2 : (xs.take i).length = i := by simp; omega
          rw [hlt2] at hli
          obtain ⟨Xn, hXn⟩ := Int.eq_ofNat_of_zero_le hxi.1
          rw [hXn] at y0 hxi htki
          rw [Int.toNat_natCast] at htki
          have HTI := hid htki
          clear htki hXn
          generalize (xs.take i).flatMap (fun v => riceBits v.toNat K) = Li at *
          go_wp2_with (go_at_call 49; refine (putRice_any _ b _ Xn K _ hwi (by simp [bitsOf_len]; omega) (by omega) (by omega)).mono ?_; rintro _ w5 ⟨rfl, hw5, hf5⟩)
          go_roundg (n8 + 1 - (i + 1))
          case measure => omega
          case rel => exact ⟨i + 1, by omega, by omega, by go_num, by rw [HTI.out, ← List.append_assoc]; exact hw5, hfi.trans hf5⟩
        · obtain rfl : i = n8 + 1 := by omega
          have hfin : L ++ bitsOf K 3 ++ (xs.take (n8 + 1)).flatMap (fun v => riceBits v.toNat K) = (fs.take (j + 1)).flatMap frameBits := by
            rw [HTK.out, HFB.out, List.append_assoc, List.take_of_length_le (by omega)]
          rw [hfin] at hwi
          go_wp2
          go_roundg (fs.length - (j + 1))
          case measure => omega
          case rel => exact ⟨j + 1, by omega, by omega, by go_num, hwi.foreign (fun k hk => .inl hk), hfi.below_of hb3' (fun k hk => Nat.le_of_not_lt (fun h => hk (.inl h)))⟩
    · obtain rfl : j = fs.length := by omega
      obtain ⟨b', off, pv, W, H, px, rfl, hf, c0, c1, _, _⟩ := hc 0 h0
      rw [Nat.zero_mul, Nat.add_zero] at c0 c1
      have hmay := (hok.ok _ (List.mem_of_getElem? hf)).1
      have hmi := mayB_iff.1 hmay
      have hsw := sideB_iff.1 hmi.1
      have hsh := sideB_iff.1 hmi.2.1
      simp only at hsw hsh
      have x0 := cell_below hbj c0
      have x1 := cell_below hbj c1
      rw [List.take_length] at hwj
      clear c0 c1 hc hs hb hwr
      go_wp2_with fail
      have hmy := frames_len fs (fun f hf => (hok.ok f hf).1)
      have hlen0 : 0 < (fs.flatMap frameBits).length := by
        obtain ⟨f0, tl, rfl⟩ : ∃ f0 tl, fs = f0 :: tl := by
          cases fs with
          | nil => simp at h0
          | cons a l => exact ⟨a, l, rfl⟩
        simp [frameBits, bitsOf_len]
        omega
      have hE : encB fs = [75, 83, W / 8, H / 8, (fs.length : Int)] ++ (pack (fs.flatMap frameBits)).map fun (n : Nat) => (n : Int) := by
        have : fs.getD 0 ⟨0, 0, []⟩ = ⟨W, H, px⟩ := by rw [List.getD_eq_getElem?_getD, hf]; rfl
        unfold encB; rw [this]
      have HE := hid hE
      clear hE hf
      generalize hL : fs.flatMap frameBits = L at *
      clear hL
      have hpl := pack_length L
      obtain ⟨n, hn⟩ : ∃ n, (pack L).length = n + 1 := ⟨(pack L).length - 1, by omega⟩
      obtain ⟨i0, hi, hz0, hz1, hz2⟩ := info_parts Tq.info_u8
      rw [← byte_of hsw, ← byte_of hsh, ← byte_of_nat (show fs.length < 256 by omega)] at HE
      have hlb : b' < wr.heap.size := World.block_lt_of_cell? wr _ x0
      go_region_held3 (fun wx => wx.cell? ⟨b', off, none⟩ = some (.int .i64 W) ∧ wx.cell? ⟨b', off + 1, none⟩ = some (.int .i64 H)) (first | go_keep | (go_split_ands; exact ⟨cell_below hb5 ‹_›, cell_below hb5 ‹_›⟩) | (go_split_ands; exact ⟨hgrow.cell ‹_› (farA hlb), hgrow.cell ‹_› (farA hlb)⟩) | (go_split_ands; exact ⟨hgrow.cell ‹_› (farA (Nat.lt_of_lt_of_le hlb hb5.size)), hgrow.cell ‹_› (farA (Nat.lt_of_lt_of_le hlb hb5.size))⟩))
        (first
          | (go_at_call 50; refine (bytes_any _ b L _ (hwj.more (G := (· < w.heap.size)) (by first | exact (below_alloc (below_refl wr) _).drew | exact (below_refl wr).drew) (fun k hk => .inl hk)) (by omega) (by omega)).mono ?_; rintro _ w5 ⟨v5, rfl, hown5, hb5⟩; rw [List.length_map, hn] at hown5; obtain ⟨g5, cap5, rfl⟩ := own_slice hown5)
          | (refine step_append_lies _ (by rfl) _ _ _ (by rfl) w.heap.size 5 i0 _ 1 1 Tryz.underlying40 hi hz0 hz1 hz2 rfl (by omega) (.slice (some ⟨wr.heap.size, 0, none⟩) 5 5) 5 _ (by rfl) (own_lit (g := wr.heap.size) (cs := #[Value.int IntKind.u8 75, Value.int IntKind.u8 83, Value.int IntKind.u8 (IntKind.u8.wrap (IntKind.i64.wrap (W.tdiv 8))), Value.int IntKind.u8 (IntKind.u8.wrap (IntKind.i64.wrap (H.tdiv 8))), Value.int IntKind.u8 (IntKind.u8.wrap (fs.length : Int))]) ((hb5.block _ (by simp)).trans (heap_alloc_new wr _)) hbj.size (by simp [maxLen])) ⟨g5, 0, none⟩ (n + 1) cap5 _ (by rfl) hown5.1 (hown5.cells rfl) (by simp [Value.oneCell']) (by omega) (by unfold maxLen; omega) (by omega) (Nat.le_trans hbj.size (by have := hb5.size; simp at this; omega)) _ rfl ?_; intro gg cap w1 hown1 hgrow hat hlt)
          | (refine step_append_lies _ (by rfl) _ _ _ (by rfl) w.heap.size 5 i0 _ 1 1 Tryz.underlying40 hi hz0 hz1 hz2 rfl (by omega) (.slice (some ⟨w5.heap.size, 0, none⟩) 5 5) 5 _ (by rfl) (own_lit (g := w5.heap.size) (cs := #[Value.int IntKind.u8 75, Value.int IntKind.u8 83, Value.int IntKind.u8 (IntKind.u8.wrap (IntKind.i64.wrap (W.tdiv 8))), Value.int IntKind.u8 (IntKind.u8.wrap (IntKind.i64.wrap (H.tdiv 8))), Value.int IntKind.u8 (IntKind.u8.wrap (fs.length : Int))]) (heap_alloc_new w5 _) (Nat.le_trans hbj.size hb5.size) (by simp [maxLen])) ⟨g5, 0, none⟩ (n + 1) cap5 _ (by rfl) hown5.1 ((hown5.alloc _).cells rfl) (by simp [Value.oneCell']) (by omega) (by unfold maxLen; omega) (by omega) (Nat.le_trans hbj.size (Nat.le_trans hb5.size (by simp))) _ rfl ?_; intro gg cap w1 hown1 hgrow hat hlt))
      all_goals
        go_wp2
        go_ret2
        refine ⟨_, rfl, ?_, ?_⟩
        · have hl : (encB fs).length = 5 + (n + 1) := by rw [HE.out]; simp [hn]; omega
          rw [hl, HE.out, List.map_append]
          exact hown1
        · first
            | exact endA hbj hb5 hgrow
            | exact endB hbj hb5 hgrow
end Go.Proofs
