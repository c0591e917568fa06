/- The law's sample. -/
import Derived.Test.YtemhfcgkfdklhaaGreatDoorText
import Derived.Test.YtemhfcgkfdklhaaGreatDoorTab0
set_option linter.all false
namespace Go.Proofs.YtemhfcgkfdklhaaGreatDoor.Look
open Go Go.RowKit Go.Shelf Go.Proofs Go.Proofs.YtemhfcgkfdklhaaGreatDoor.Rd

theorem OwnR.full {w : World} {base : Nat} {v : Value} {l : List Int} (h : OwnR w base v l) (hl : l ≠ []) : ∃ g c, v = .slice (some ⟨g, 0, none⟩) l.length c ∧ base ≤ g ∧ g < w.heap.size ∧ ∀ j x, l[j]? = some x → w.cell? ⟨g, j, none⟩ = some (.int .i32 x) := by
  have hc := fun g hg => World.ownsRow.cells h (g := g) hg
  rcases h.2 with ⟨_, h0⟩ | ⟨g, cap, cur, rfl, hb, hg, _⟩
  · exact absurd (List.eq_nil_of_length_eq_zero h0) hl
  · refine ⟨g, cap, rfl, hb, (Array.getElem?_eq_some_iff.1 hg).1, fun j x hx => ?_⟩
    have := hc g rfl j (.int .i32 x) (by rw [List.getElem?_map, hx]; rfl)
    rw [Addr.add_lit, Nat.zero_add] at this
    exact this

set_option maxHeartbeats 8000000 in
set_option maxRecDepth 100000 in
theorem answers (w : World) (hT : Tabs w) : Calls Tryz.prog 8 #[] w fun e w' => e = .returned (.bool true) ∧ Below w.heap.size w w' := by
  obtain ⟨W1, hW1⟩ : ∃ W1, W1 = w.alloc (.cells #[.int .u8 226, .int .u8 101] 5) := ⟨_, rfl⟩
  have hb1 : Below w.heap.size w W1 := by rw [hW1]; exact (Below.refl _ w).alloc (Nat.le_refl _) _
  have hx : W1.heap[w.heap.size]? = some (.cells #[.int .u8 226, .int .u8 101] 5) := by rw [hW1]; exact (MapKept.heap_alloc w _).1
  have hrow : RowB W1 (some ⟨w.heap.size, 0, none⟩) [226, 101] := fun _ => ⟨w.heap.size, 0, rfl, (Array.getElem?_eq_some_iff.1 hx).1, fun j x hj => by
    match j with
    | 0 => simp at hj; subst hj; simp [World.cell?, hx]
    | 1 => simp at hj; subst hj; simp [World.cell?, hx]
    | j + 2 => simp at hj⟩
  have HC : Hid (Calls Tryz.prog 7 #[.slice (some ⟨w.heap.size, 0, none⟩) 2 2] W1 fun e W' => ∃ g c, e = .returned (.tuple #[.slice (some ⟨g, 0, none⟩) 2 c, .agg #[.int .i64 0, .int .i64 0]]) ∧ (W'.alloc (.cells #[.int .i64 0, .int .i64 0] 26)).cell? ⟨g, 0, none⟩ = some (.int .i32 101) ∧ (W'.alloc (.cells #[.int .i64 0, .int .i64 0] 26)).cell? ⟨g, 1, none⟩ = some (.int .i32 769) ∧ Aside (Below w.heap.size w W')) := by
    refine (cText W1 (hT.below hb1) (some ⟨w.heap.size, 0, none⟩) 2 [226, 101] hrow (by decide) (by decide) (by decide) (by decide)).mono ?_
    rw [sample]
    rintro e W' ⟨v, rfl, hO, hB⟩
    obtain ⟨g, c, rfl, _, hg, hc⟩ := hO.full (by decide)
    exact ⟨g, c, rfl, (World.cell?_alloc_lt _ _ _ hg).trans (hc 0 101 rfl), (World.cell?_alloc_lt _ _ _ hg).trans (hc 1 769 rfl), hb1.trans (hB.mono hb1.size)⟩
  clear hrow hb1 hx
  rw [hW1] at HC
  clear hW1
  go_enter Tryz.func8, Tryz.ntmps8
  go_wp2_with (go_at_call 7; refine HC.out.mono ?_; rintro e W' ⟨g, c, rfl, c0, c1, hB⟩; clear HC)
  go_ret
  exact ⟨rfl, hB.out.alloc hB.out.size _⟩
end Go.Proofs.YtemhfcgkfdklhaaGreatDoor.Look
