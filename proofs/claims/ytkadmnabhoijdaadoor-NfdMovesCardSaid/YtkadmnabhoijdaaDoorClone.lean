/- slices.Clone at runes, class.Mark. -/
import Derived.Test.YtkadmnabhoijdaaDoorLayC
import Derived.Test.YtkadmnabhoijdaaDoorSortS
set_option linter.unusedVariables false
namespace Go.Proofs.YtkadmnabhoijdaaDoor.Look
open Go Go.RowKit Go.Shelf Go.Proofs Go.Lib Go.Sort
open Go.Proofs.YtkadmnabhoijdaaDoor.Stab

theorem i21 : (Tryd.prog.info? 21).map (fun i => (i.zero, i.size, i.bytes)) = some (some (.int .i32 0), 1, 4) := by kernel_rfl

/-- A slice value that holds runes. -/
def SlV (w : World) (v : Value) (l : List Int) : Prop := ∃ b off c, v = .slice (some ⟨b, off, none⟩) l.length c ∧ ∀ j x, l[j]? = some x → w.cell? ⟨b, off + j, none⟩ = some (enc32 x)

theorem own_row {w : World} {base : Nat} {v : Value} {l : List Int} (h : w.ownsRow base 21 1 v l.length (l.map enc32)) (hv : v ≠ .slice none 0 0) :
    ∃ b c, v = .slice (some ⟨b, 0, none⟩) l.length c ∧ base ≤ b ∧ RowL w b l ∧ l.length ≤ c ∧ c ≤ maxLen ∧ Shp w b c := by
  obtain ⟨h1, h2⟩ := h
  rcases h2 with ⟨h2, _⟩ | ⟨g, cap, cur, rfl, hb, hh, hn, hc, hs, ht⟩
  · exact absurd h2 hv
  · refine ⟨g, cap, rfl, hb, ⟨fun j hj => ?_, ?_⟩, hn, hc, ⟨cur, hh, by simpa using hs⟩⟩
    · have hj' : j < l.length := by simpa using hj
      rw [toArray_at _ _ hj']
      have hcell : cur[j]? = some (enc32 l[j]) := by
        have e : (cur.toList.take (l.length * 1))[j]? = some (enc32 l[j]) := by rw [ht]; simp [hj']
        rw [List.getElem?_take] at e
        rw [if_pos (by omega)] at e
        simpa using e
      constructor
      · simp only [World.cell?, hh, Nat.zero_add]
        exact hcell
      · simp [World.frozen?, hh]
    · exact (Array.getElem?_eq_some_iff.1 hh).1

theorem clone (v : Value) (l : List Int) (w : World) (h : SlV w v l) (hn : l.length ≤ 1000000000000) :
    Calls Tryd.prog 16 #[v] w fun e w' => ∃ b c, e = .returned (.slice (some ⟨b, 0, none⟩) l.length c) ∧ w.heap.size ≤ b ∧ RowL w' b l ∧ Below w.heap.size w w' ∧ l.length ≤ c ∧ c ≤ maxLen ∧ Shp w' b c := by
  obtain ⟨b, off, c, rfl, hc⟩ := h
  obtain ⟨ie, hi, hz, hs, hb⟩ := info_parts i21
  have := AnyE.slices_Clone Tryd.cloneRune ie (.int .i32 0) 1 4 hi hz hs hb rfl (by omega) (fun w => by kernel_rfl) b off l.length c (l.map enc32) w (by simp) (by unfold maxLen; omega) (by omega) (fun j u hu => by
    rw [List.getElem?_map] at hu
    cases hl : l[j]? with
    | none => rw [hl] at hu; simp at hu
    | some x => rw [hl] at hu; simp at hu; rw [← hu]; exact hc j x hl) (fun u hu => by
    obtain ⟨x, _, rfl⟩ := List.mem_map.1 hu
    rfl)
  refine this.mono ?_
  rintro e w' ⟨v', rfl, h1, h2, h3⟩
  obtain ⟨b', c', rfl, h4, h5, h6, h7⟩ := own_row h1 h2
  exact ⟨b', c', rfl, h4, h5, h3, h6, h7⟩

set_option maxHeartbeats 8000000 in
set_option maxRecDepth 1000000 in
theorem mark (x : Int) (w : World) : Calls Tryd.prog 17 #[.int .i32 x] w fun e w' => e = .returned (.bool (decide (0 < kOf x))) ∧ ∃ q os, w' = grow (w.drewN q) os := by
  obtain ⟨bx1, bx2⟩ := (by unfold kOf; exact classV_bound x : 0 ≤ kOf x ∧ kOf x ≤ 255 + 255)
  have H : ∀ (r : Int) (w : World), Calls Tryd.prog 20 #[.int .i32 r] w fun e w' => e = .returned (.int .i64 (kOf r)) ∧ ∃ q os, w' = grow (w.drewN q) os := fun r w => by unfold kOf; exact ofc r w
  go_enter Tryd.func17, Tryd.ntmps17
  go_wp2_with (go_at_call 20; refine (H _ _).mono ?_; rintro e w' ⟨rfl, q, os, rfl⟩)
  go_ret
  exact ⟨rfl, q, os, rfl⟩
end Go.Proofs.YtkadmnabhoijdaaDoor.Look
