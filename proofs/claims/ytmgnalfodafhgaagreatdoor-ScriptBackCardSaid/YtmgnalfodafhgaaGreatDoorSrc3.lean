import Derived.Test.YtmgnalfodafhgaaGreatDoorBits3
set_option linter.unusedVariables false
set_option linter.unusedSimpArgs false
namespace Go.Kin
theorem frames_open {w : World} {v : Value} {fs : List Fr} (h : SlG 3 FrR w v fs) : ∃ A c, v = .slice A fs.length c ∧ fs.length ≤ 9223372036854775807 ∧
    ∀ j, j < fs.length → ∃ b off pv W H px, A = some ⟨b, off, none⟩ ∧ fs[j]? = some ⟨W, H, px⟩ ∧ w.cell? ⟨b, off + j * 3, none⟩ = some (.int .i64 W) ∧ w.cell? ⟨b, off + j * 3 + 1, none⟩ = some (.int .i64 H) ∧
      w.cell? ⟨b, off + j * 3 + 2, none⟩ = some pv ∧ SlI .i64 w pv px := by
  obtain ⟨A, c, hv, hm, hr⟩ := h
  refine ⟨A, c, hv, hm, fun j hj => ?_⟩
  obtain ⟨b, off, hA, hc⟩ := hr (by omega)
  obtain ⟨cs, hl, ⟨pv, rfl, hp⟩, hcs⟩ := hc j hj
  exact ⟨b, off, pv, fs[j].w, fs[j].h, fs[j].pix, hA, List.getElem?_eq_getElem hj, hcs 0 _ rfl, hcs 1 _ rfl, hcs 2 _ rfl, hp⟩
/-- Frames that may be encoded. -/
structure EncOk (fs : List Fr) (W H : Int) : Prop where
  pos : 0 < fs.length
  most : fs.length ≤ 16
  ok : ∀ f ∈ fs, mayB f = true ∧ f.w = W ∧ f.h = H
end Go.Kin
namespace Go.Proofs
open Go.RowKit Go.Kin Go.Shelf
set_option maxRecDepth 100000 in
set_option maxHeartbeats 4000000 in
theorem check_ok (fs : List Fr) (W0 H0 : Int) (v : Value) (w : World) (hs : SlG 3 FrR w v fs) (hok : EncOk fs W0 H0) :
    Calls Tryz.prog 44 #[v] w fun e w' => e = .returned .nilIface ∧ Below w.heap.size w w' := by
  obtain ⟨A, c, rfl, hm, hc⟩ := frames_open hs
  have h0 := hok.pos
  have h1 := hok.most
  go_enter Tryz.func44, Tryz.ntmps44
  go_wp2_with fail
  rw [show ((fs.length : Int) == 0) = false by rw [beq_eq_false_iff_ne]; omega]
  go_loopg [4, 13] fs.length (fun g _ s13 wr => ∃ j : Nat, j ≤ fs.length ∧ fs.length - j ≤ g ∧ s13 = .int .i64 j ∧ Below w.heap.size w wr)
  case atStart => exact ⟨0, Nat.zero_le _, by omega, rfl, below_refl w⟩
  case round =>
    obtain ⟨j, hj, hg, rfl, hb⟩ := hrel
    by_cases hlt : j < fs.length
    · obtain ⟨b, off, pv, W, H, px, rfl, hf, c0, c1, c2, hp⟩ := hc j hlt
      have hpw := hid (hp.below hb)
      obtain ⟨A2, k2, rfl, hm2, _⟩ := hp
      have x0 := cell_below hb c0
      have x1 := cell_below hb c1
      have x2 := cell_below hb c2
      have hmay := (hok.ok _ (List.mem_of_getElem? hf)).1
      have HM := hid hmay
      clear c0 c1 c2 hf hmay
      go_wp2_with (go_at_call 74; refine (may_any ⟨W, H, px⟩ _ _ ⟨_, rfl, hpw.out.below (below_alloc (below_refl wr) _)⟩).mono ?_; rintro _ w' ⟨rfl, hb2⟩; rw [HM.out])
      go_roundg (fs.length - (j + 1))
      case measure => omega
      case rel => exact ⟨j + 1, by omega, by omega, by go_num, below_then (below_alloc hb _) hb2⟩
    · obtain rfl : j = fs.length := by omega
      obtain ⟨b, off, pvz, Wz, Hz, pxz, hAz, hfz, z0, z1, _, _⟩ := hc 0 h0
      obtain ⟨_, ez1, ez2⟩ := hok.ok _ (List.mem_of_getElem? hfz)
      simp only at ez1 ez2
      subst ez1; subst ez2; subst hAz
      rw [Nat.zero_mul, Nat.add_zero] at z0 z1
      go_wp2_with fail
      go_loopg [6, 24] fs.length (fun g _ s24 wr => ∃ j : Nat, j ≤ fs.length ∧ fs.length - j ≤ g ∧ s24 = .int .i64 j ∧ Below w.heap.size w wr)
      case atStart => exact ⟨0, Nat.zero_le _, by omega, rfl, hb⟩
      case round =>
        obtain ⟨j, hj, hg, rfl, hb⟩ := hrel
        by_cases hlt : j < fs.length
        · obtain ⟨b', off', pv, W, H, px, hA, hf, c0, c1, c2, hp⟩ := hc j hlt
          obtain ⟨rfl, rfl⟩ : b' = b ∧ off' = off := by simpa using hA.symm
          obtain ⟨_, e1, e2⟩ := hok.ok _ (List.mem_of_getElem? hf)
          simp only at e1 e2
          subst e1; subst e2
          obtain ⟨A2, k2, rfl, hm2, _⟩ := hp
          have x0 := cell_below hb c0
          have x1 := cell_below hb c1
          have x2 := cell_below hb c2
          have y0 := cell_below hb z0
          have y1 := cell_below hb z1
          clear c0 c1 c2 hf z0 z1
          go_wp2_with fail
          have hb9 := below_alloc hb (.cells #[.int .i64 W, .int .i64 H, .slice A2 px.length k2] 73)
          have m0 : (wr.alloc (.cells #[.int .i64 W, .int .i64 H, .slice A2 px.length k2] 73)).cell? ⟨wr.heap.size, 0, none⟩ = some (.int .i64 W) := by rw [World.cell?_alloc_at _ _ _ _ rfl]; rfl
          have m1 : (wr.alloc (.cells #[.int .i64 W, .int .i64 H, .slice A2 px.length k2] 73)).cell? ⟨wr.heap.size, 1, none⟩ = some (.int .i64 H) := by rw [World.cell?_alloc_at _ _ _ _ rfl]; rfl
          have y0' := cell_below (below_alloc (below_refl wr) (.cells #[.int .i64 W, .int .i64 H, .slice A2 px.length k2] 73)) y0
          have y1' := cell_below (below_alloc (below_refl wr) (.cells #[.int .i64 W, .int .i64 H, .slice A2 px.length k2] 73)) y1
          generalize (wr.alloc (.cells #[.int .i64 W, .int .i64 H, .slice A2 px.length k2] 73)) = wq at *
          go_quiet (fail)
          go_wp2
          go_roundg (fs.length - (j + 1))
          case measure => omega
          case rel => exact ⟨j + 1, by omega, by omega, by go_num, below_drewN hb9 _⟩
        · obtain rfl : j = fs.length := by omega
          go_wp2
          go_ret
          exact ⟨rfl, hb⟩
end Go.Proofs
