/- class.Of: the class of a rune, at any world. -/
import Derived.Shelf.SlSortCmp.Insertion1
import Derived.Test.YtkadmnabhoijdaaDoorOf1
set_option linter.unusedVariables false
namespace Go.Proofs.YtkadmnabhoijdaaDoor.Look
open Go Go.RowKit Go.Shelf Go.Proofs Go.Lib Go.Sort

set_option maxHeartbeats 8000000 in
set_option maxRecDepth 1000000 in
theorem ofc (r : Int) (w : World) : Calls Tryd.prog 20 #[.int .i32 r] w fun e w' => e = .returned (.int .i64 (classV r)) ∧ ∃ q os, w' = grow (w.drewN q) os := by
  have hlen : spans2L.length = 43 := rfl
  rw [← class_same r]
  go_enter Tryd.func20, Tryd.ntmps20
  go_wp2_with (go_at_call 26; refine (spans2 _).mono ?_; rintro e w' ⟨rfl, rfl⟩)
  have hB2 : ∀ i x, spans2L[i]? = some x → ∀ os : Array Obj, (grow (w.alloc (.cells (rows2V spans2L).toArray 47)) os).cell? ⟨w.heap.size, i * 4, none⟩ = some (.int .i32 x.1) ∧ (grow (w.alloc (.cells (rows2V spans2L).toArray 47)) os).cell? ⟨w.heap.size, i * 4 + 1, none⟩ = some (.int .i32 x.2.1) ∧ (grow (w.alloc (.cells (rows2V spans2L).toArray 47)) os).cell? ⟨w.heap.size, i * 4 + 2, none⟩ = some (.int .i64 x.2.2.1) ∧ (grow (w.alloc (.cells (rows2V spans2L).toArray 47)) os).cell? ⟨w.heap.size, i * 4 + 3, none⟩ = some (.int .i64 x.2.2.2) := fun i x h os => by
    obtain ⟨h1, h2, h3, h4⟩ := rows2V_at _ i x h
    have hn : (w.alloc (.cells (rows2V spans2L).toArray 47)).heap[w.heap.size]? = some (.cells (rows2V spans2L).toArray 47) := World.alloc_heap_new w _
    have hs : w.heap.size < (w.alloc (.cells (rows2V spans2L).toArray 47)).heap.size := by simp
    rw [cell?_grow _ _ _ hs, cell?_grow _ _ _ hs, cell?_grow _ _ _ hs, cell?_grow _ _ _ hs]
    simp only [World.cell?, hn]
    simp [h1, h2, h3, h4]
  have hg : ∀ os : Array Obj, ∃ q os', grow (w.alloc (.cells (rows2V spans2L).toArray 47)) os = grow (w.drewN q) os' := fun os => ⟨0, #[_] ++ os, by rw [alloc_eq_grow, grow_grow]; rfl⟩
  generalize w.alloc (.cells (rows2V spans2L).toArray 47) = W0 at hB2 hg ⊢
  go_loopg [7] 43 (fun g1 vi wr => ∃ (i : Nat) (os : Array Obj), vi = .int .i64 i ∧ i ≤ 43 ∧ 43 - i ≤ g1 ∧ classL r spans2L = classL r (spans2L.drop i) ∧ wr = grow W0 os)
  case atStart => exact ⟨0, #[], rfl, by omega, by omega, rfl, by rw [grow_empty]⟩
  case round =>
    obtain ⟨i, os, rfl, hi, hg1, hcl, rfl⟩ := hrel
    by_cases hlt : i < 43
    · obtain ⟨x, hx⟩ : ∃ x, spans2L[i]? = some x := ⟨_, List.getElem?_eq_getElem (by omega)⟩
      obtain ⟨c0, c1, c2, c3⟩ := hB2 i x hx os
      have hdrop : spans2L.drop i = x :: spans2L.drop (i + 1) := by
        obtain ⟨h, e⟩ := List.getElem?_eq_some_iff.1 hx
        rw [List.drop_eq_getElem_cons h, e]
      obtain ⟨b0, b1, b2, b3, b4, b5, b6⟩ := spans2_bound x (List.mem_of_getElem? hx)
      obtain ⟨x0, x1, x2, x3⟩ := x
      simp only at c0 c1 c2 c3 b0 b1 b2 b3 b4 b5 b6
      have hlz : (i : Int) < 43 := by omega
      rw [hdrop] at hcl
      clear hB2 hdrop hx hlen
      by_cases h0 : x0 ≤ r
      · by_cases h1 : r ≤ x1
        · have hv : classL r ((x0, x1, x2, x3) :: spans2L.drop (i + 1)) = x2 + x3 * (r - x0) := if_pos ⟨h0, h1⟩
          rw [hv] at hcl
          have hx3 : x3 = 0 ∨ x3 = 1 := by omega
          have hnum : wrap64 (x2 + wrap64 (x3 * (r - x0))) = x2 + x3 * (r - x0) := by
            have w64 : ∀ z : Int, 0 ≤ z → z < 1000000 → wrap64 z = z := fun z h1 h2 => by unfold wrap64; omega
            rcases hx3 with rfl | rfl
            · rw [Int.zero_mul, w64 0 (by omega) (by omega), w64 _ (by omega) (by omega)]
            · rw [Int.one_mul, w64 (r - x0) (by omega) (by omega), w64 _ (by omega) (by omega)]
          go_wp2
          go_ret
          refine ⟨by rw [hcl, ← hnum]; rfl, ?_⟩
          obtain ⟨q, os', e⟩ := hg (os ++ #[_])
          exact ⟨q, os', by rw [← e, alloc_eq_grow, grow_grow]⟩
        · have hv : classL r ((x0, x1, x2, x3) :: spans2L.drop (i + 1)) = classL r (spans2L.drop (i + 1)) := if_neg fun h => h1 h.2
          rw [hv] at hcl
          have h1' : x1 < r := by omega
          go_wp2
          go_roundg (42 - i)
          case measure => omega
          case rel => exact ⟨i + 1, os ++ #[_], by first | rfl | go_num, by omega, by omega, hcl, by rw [alloc_eq_grow, grow_grow]⟩
      · have hv : classL r ((x0, x1, x2, x3) :: spans2L.drop (i + 1)) = classL r (spans2L.drop (i + 1)) := if_neg fun h => h0 h.1
        rw [hv] at hcl
        have h1' : r < x0 := by omega
        go_wp2
        go_roundg (42 - i)
        case measure => omega
        case rel => exact ⟨i + 1, os ++ #[_], by first | rfl | go_num, by omega, by omega, hcl, by rw [alloc_eq_grow, grow_grow]⟩
    · obtain rfl : i = 43 := by omega
      rw [List.drop_eq_nil_of_le (by omega)] at hcl
      go_wp2
      go_ret
      exact ⟨by rw [hcl]; rfl, hg os⟩

end Go.Proofs.YtkadmnabhoijdaaDoor.Look
