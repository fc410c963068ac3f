import Derived.Test.YtmgnalfodafhgaaGreatDoorBits2
set_option linter.unusedVariables false
set_option linter.unusedSimpArgs false
namespace Go.Proofs
open Go.RowKit Go.Kin Go.Shelf
theorem newWriter_any (w : World) : Calls Tryz.prog 45 #[] w fun e w' => e = .returned (.pointer (some ⟨w.heap.size, 0, none⟩)) ∧ WrS 5 (· < w.heap.size) w.heap.size [] w' ∧ Below w.heap.size w w' := by
  go_enter Tryz.func45, Tryz.ntmps45
  go_wp2
  go_ret
  have c0 : (w.alloc (Obj.cells #[Value.slice none 0 0, Value.int IntKind.i64 0] 138)).cell? ⟨w.heap.size, 0, none⟩ = some (.slice none 0 0) := by rw [World.cell?_alloc_at _ _ _ _ rfl]; rfl
  refine ⟨rfl, ⟨fun k hk => ⟨by simp; omega, by omega⟩, by rw [World.cell?_alloc_at _ _ _ _ rfl]; rfl, by simp, by simp, .slice none 0 0, c0, World.ownsRow_nil _ _ _ _, by simp [Value.ownBlock], fun k _ => by simp [Value.ownBlock]⟩, below_alloc (below_refl w) _⟩
set_option maxRecDepth 100000 in
set_option maxHeartbeats 4000000 in
theorem bytes_any (F : Nat → Prop) (b : Nat) (l : List Bool) (w : World) (h : WrS 5 F b l w) (hbig : l.length ≤ 274877906944) (hpos : 0 < l.length) :
    Calls Tryz.prog 50 #[.pointer (some ⟨b, 0, none⟩)] w (RetR .u8 5 ((pack l).map fun (n : Nat) => (n : Int)) w) := by
  obtain ⟨i0, hi, hz0, hz1, hz2⟩ := info_parts Tq.info_u8
  obtain ⟨v, h0, hrow, hv1, hv2⟩ := h.row
  have hpl := pack_length l
  obtain ⟨n, hn⟩ : ∃ n, (pack l).length = n + 1 := ⟨(pack l).length - 1, by omega⟩
  rw [hn] at hrow
  obtain ⟨g, cap, rfl⟩ := own_slice hrow
  have hb0 := below_alloc (below_refl w) (.cells #[] 5)
  have d0 := cell_below hb0 h0
  have hrw := hrow.alloc (.cells #[] 5)
  have hmk := World.ownsRow_made w #[] 0 (base := w.heap.size) (e := 5) (size := 1) (Nat.le_refl _) (by unfold maxLen; omega) rfl
  go_enter Tryz.func50, Tryz.ntmps50
  go_wp2_with (refine wpList_append_lies _ rfl (.tmp 3) (.tmp 7) 40 rfl w.heap.size 5 i0 (.int .u8 0) 1 1 Tryz.underlying40 hi hz0 hz1 hz2 rfl (by decide) (.slice (some ⟨w.heap.size, 0, none⟩) 0 0) 0 [] rfl hmk ⟨g, 0, none⟩ (n + 1) cap _ rfl hrw.1 (hrw.cells rfl) (fun u hu => by simp only [List.mem_map] at hu; obtain ⟨_, _, rfl⟩ := hu; rfl) (by omega) (by unfold maxLen; omega) (by omega) (by simp) (w.heap.size + 1) (by simp) ?_; intro g2 cap2 w1 hown hgrow hat hlt)
  go_ret
  refine ⟨_, rfl, ?_, hb0.grown hgrow (by simp) (fun k hk => by simp [Value.ownBlock] at hk; omega)⟩
  rw [List.length_map, hn, List.map_map]
  rw [Nat.zero_add, List.nil_append] at hown
  exact hown
end Go.Proofs
