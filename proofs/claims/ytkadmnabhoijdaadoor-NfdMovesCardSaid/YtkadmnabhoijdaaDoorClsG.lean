/- amanuensisref03.Class with its world in the form that a quiet region asks. -/
import Derived.Test.YtkadmnabhoijdaaDoorRunes
set_option linter.unusedVariables false
namespace Go.Proofs.YtkadmnabhoijdaaDoor.Look
open Go Go.RowKit Go.Shelf Go.Proofs Go.Lib Go.Sort

set_option maxHeartbeats 8000000 in
set_option maxRecDepth 1000000 in
theorem clsG (r : Int) (hlo : -2147483648 ≤ r) (hhi : r ≤ 2147483647) (w : World) : Calls Tryd.prog 11 #[.int .i32 r] w fun e w' => e = .returned (.int .i64 (classV r)) ∧ ∃ q os, w' = grow (w.drewN q) os := by
  have hlen : spansL.length = 43 := rfl
  have hB : ∀ i x, spansL[i]? = some x → ∀ W : World, W = w.alloc (.cells (rowsV spansL).toArray 37) → W.cell? ⟨w.heap.size, i * 4, none⟩ = some (.int .i64 x.1) ∧ W.cell? ⟨w.heap.size, i * 4 + 1, none⟩ = some (.int .i64 x.2.1) ∧ W.cell? ⟨w.heap.size, i * 4 + 2, none⟩ = some (.int .i64 x.2.2.1) ∧ W.cell? ⟨w.heap.size, i * 4 + 3, none⟩ = some (.int .i64 x.2.2.2) := fun i x h W hW => by
    obtain ⟨h1, h2, h3, h4⟩ := rowsV_at _ i x h
    have hn : W.heap[w.heap.size]? = some (.cells (rowsV spansL).toArray 37) := by rw [hW]; exact World.alloc_heap_new w _
    simp only [World.cell?, hn]
    simp [h1, h2, h3, h4]
  have hbw : ∀ n, ∃ q os, (w.alloc (.cells (rowsV spansL).toArray 37)).drewN n = grow (w.drewN q) os := fun n => ⟨n, #[_], by rw [alloc_eq_grow]; rfl⟩
  unfold classV
  go_enter Tryd.func11, Tryd.ntmps11
  go_wp2_with (go_at_call 21; refine (spans _).mono ?_; rintro e w' ⟨rfl, rfl⟩)
  obtain ⟨W, hW⟩ : ∃ W, W = w.alloc (.cells (rowsV spansL).toArray 37) := ⟨_, rfl⟩
  rw [← hW] at hbw ⊢
  have hB2 := fun i x h => hB i x h W hW
  clear hB hW
  go_loop [4] (fun vi => ∃ i : Nat, vi = .int .i64 i ∧ i ≤ 43 ∧ classL r spansL = classL r (spansL.drop i)) (fun vi => 43 - (intOf vi).toNat)
  case atStart => exact ⟨0, rfl, by omega, rfl⟩
  case round =>
    obtain ⟨i, rfl, hi, hcl⟩ := hrel
    by_cases hlt : i < 43
    · obtain ⟨x, hx⟩ : ∃ x, spansL[i]? = some x := ⟨_, List.getElem?_eq_getElem (by omega)⟩
      obtain ⟨c0, c1, c2, c3⟩ := hB2 i x hx
      have hdrop : spansL.drop i = x :: spansL.drop (i + 1) := by
        obtain ⟨h, e⟩ := List.getElem?_eq_some_iff.1 hx
        rw [List.drop_eq_getElem_cons h, e]
      obtain ⟨b0, b1, b2, b3, b4, b5, b6⟩ := spans_bound x (List.mem_of_getElem? hx)
      obtain ⟨x0, x1, x2, x3⟩ := x
      simp only at c0 c1 c2 c3 b0 b1 b2 b3 b4 b5 b6
      have hlz : (i : Int) < 43 := by omega
      rw [hdrop] at hcl
      clear hB2 hdrop hx hlen
      by_cases h0 : x0 ≤ r
      · by_cases h1 : r ≤ x1
        · have hv : classL r ((x0, x1, x2, x3) :: spansL.drop (i + 1)) = x2 + x3 * (r - x0) := if_pos ⟨h0, h1⟩
          rw [hv] at hcl
          have hx3 : x3 = 0 ∨ x3 = 1 := by omega
          rcases hx3 with rfl | rfl
          · simp only [Int.zero_mul, Int.add_zero] at hcl
            go_wp2
            go_quiet (fail)
            all_goals go_wp2
            all_goals go_ret
            exact ⟨by rw [hcl]; rfl, hbw _⟩
          · simp only [Int.one_mul] at hcl
            go_wp2
            go_quiet (fail)
            all_goals go_wp2
            all_goals go_ret
            exact ⟨by rw [hcl]; rfl, hbw _⟩
        · have hv : classL r ((x0, x1, x2, x3) :: spansL.drop (i + 1)) = classL r (spansL.drop (i + 1)) := if_neg fun h => h1 h.2
          rw [hv] at hcl
          have h1' : x1 < r := by omega
          go_wp2
          exact ⟨⟨i + 1, by congr 1, by omega, hcl⟩, by simp [intOf]; omega⟩
      · have hv : classL r ((x0, x1, x2, x3) :: spansL.drop (i + 1)) = classL r (spansL.drop (i + 1)) := if_neg fun h => h0 h.1
        rw [hv] at hcl
        have h1' : r < x0 := by omega
        go_wp2
        exact ⟨⟨i + 1, by congr 1, by omega, hcl⟩, by simp [intOf]; omega⟩
    · obtain rfl : i = 43 := by omega
      rw [List.drop_eq_nil_of_le (by omega)] at hcl
      go_wp2
      go_ret
      exact ⟨rfl, hbw 0⟩
end Go.Proofs.YtkadmnabhoijdaaDoor.Look
