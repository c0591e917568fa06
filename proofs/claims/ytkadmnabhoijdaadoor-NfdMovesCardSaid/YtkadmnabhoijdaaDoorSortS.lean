/- slices.SortStableFunc at a piece of a row of runes. -/
import Derived.Test.YtkadmnabhoijdaaDoorStb
set_option linter.unusedVariables false
namespace Go.Proofs.YtkadmnabhoijdaaDoor.Look
open Go Go.RowKit Go.Shelf Go.Proofs Go.Lib Go.Sort
open Go.Proofs.YtkadmnabhoijdaaDoor.Stab

/-- A row of runes, at the head of its block. -/
def RowL (w : World) (b : Nat) (l : List Int) : Prop := Holds enc32 w b 0 l.toArray ∧ b < w.heap.size

/-- The row's block: how many cells it has. -/
def Shp (w : World) (b c : Nat) : Prop := ∃ cur, w.heap[b]? = some (.cells cur 21 (0, 0)) ∧ cur.size = c
theorem Shp.sorted {w w' : World} {b c off : Nat} {T : Array Int} (h : Shp w b c) (hS : SW enc32 w b off T w') : Shp w' b c := by
  obtain ⟨n, os, rfl⟩ := hS
  obtain ⟨cur, h1, h2⟩ := h
  have hlt : b < w.heap.size := (Array.getElem?_eq_some_iff.1 h1).1
  unfold sortWorld Shp
  rw [heap_grow_old _ _ (by rw [size_putRow]; exact hlt)]
  show ∃ cur, (putRow enc32 w b off T).heap[b]? = _ ∧ _
  unfold putRow mapBlock
  simp only [Array.getElem?_modify, if_true, h1, Option.map_some]
  exact ⟨_, rfl, (by unfold putCells; rw [Array.size_mapIdx]; exact h2)⟩
theorem Shp.grown {w : World} {b c : Nat} (h : Shp w b c) (q : Nat) (os : Array Obj) : Shp (grow (w.drewN q) os) b c := by
  obtain ⟨cur, h1, h2⟩ := h
  have hlt : b < w.heap.size := (Array.getElem?_eq_some_iff.1 h1).1
  exact ⟨cur, by rw [heap_grow_old _ _ (by exact hlt)]; exact h1, h2⟩
theorem toArray_at (l : List Int) (j : Nat) (h : j < l.length) : l.toArray[j]! = l[j] := by
  rw [getElem!_pos l.toArray j (by simpa using h)]
  simp

theorem RowL.cut {w : World} {b : Nat} {A U Q : List Int} (h : RowL w b (A ++ U ++ Q)) : Row1 enc32 w b A.length U.toArray := by
  refine ⟨oneCell32, fun j hj => ?_, h.2⟩
  have hj' : j < U.length := by simpa using hj
  have := h.1 (A.length + j) (by simp; omega)
  rw [Nat.zero_add] at this
  rw [toArray_at _ _ (by simp; omega)] at this
  rw [toArray_at _ _ hj']
  rw [List.getElem_append_left (by simp; omega), List.getElem_append_right (by omega)] at this
  simpa using this

theorem RowL.put {w w' : World} {b : Nat} {A U Q : List Int} {T : Array Int} (h : RowL w b (A ++ U ++ Q)) (hS : SW enc32 w b A.length T w') (hl : T.size = U.length) : RowL w' b (A ++ T.toList ++ Q) ∧ Below b w w' := by
  obtain ⟨n, os, rfl⟩ := hS
  have hc : ∀ a : Addr, a.block < w.heap.size → (sortWorld enc32 w b A.length n T os).cell? a = (putRow enc32 w b A.length T).cell? a := fun a ha => by
    unfold sortWorld
    rw [cell?_grow _ _ _ (by rw [size_putRow]; exact ha)]
    rfl
  have hf : ∀ a : Addr, a.block < w.heap.size → (sortWorld enc32 w b A.length n T os).frozen? a = w.frozen? a := fun a ha => by
    unfold sortWorld
    rw [frozen?_grow _ _ _ (by rw [size_putRow]; exact ha), frozen?_putRow]
    rfl
  have hR := h.cut
  have hTl : T.toList.length = U.length := by rw [Array.length_toList]; exact hl
  refine ⟨⟨fun j hj => ?_, ?_⟩, ?_⟩
  · have hj' : j < A.length + U.length + Q.length := by simpa [hTl, Nat.add_assoc] using hj
    have h0 := h.1 j (by simp; omega)
    rw [hc _ h.2, hf _ h.2]
    refine ⟨?_, h0.2⟩
    rw [toArray_at _ _ (by simp [hl]; omega)]
    rw [toArray_at _ _ (by simp; omega)] at h0
    by_cases h1 : j < A.length
    · rw [cell?_putRow_other _ _ _ _ _ _ (Or.inr (Or.inl (by show 0 + j < _; omega))), h0.1]
      rw [List.getElem_append_left (by simp; omega), List.getElem_append_left (by omega), List.getElem_append_left (by simp; omega), List.getElem_append_left (by omega)]
    · by_cases h2 : j < A.length + U.length
      · have := cell?_putRow enc32 w b A.length U.toArray T hR.hH (by simpa using hl) (j - A.length) (by omega)
        rw [show A.length + (j - A.length) = 0 + j by omega] at this
        rw [this]
        rw [List.getElem_append_left (by simp [hl]; omega), List.getElem_append_right (by omega), Array.getElem_toList, getElem!_pos T _ (by omega)]
      · rw [cell?_putRow_other _ _ _ _ _ _ (Or.inr (Or.inr (by show _ ≤ 0 + j; omega))), h0.1]
        rw [List.getElem_append_right (by simp; omega), List.getElem_append_right (by simp [hl]; omega)]
        simp [hl]
  · unfold sortWorld
    rw [size_grow, size_putRow]
    exact Nat.lt_of_lt_of_le h.2 (Nat.le_add_right _ _)
  · refine ⟨rfl, rfl, rfl, ?_, fun k hk => ?_⟩
    · unfold sortWorld
      rw [size_grow, size_putRow]
      exact Nat.le_add_right _ _
    · have hkw : k < w.heap.size := Nat.lt_trans hk h.2
      unfold sortWorld
      rw [heap_grow_old _ _ (by rw [size_putRow]; exact hkw)]
      unfold putRow mapBlock
      simp only [Array.getElem?_modify]
      rw [if_neg (by omega)]
      rfl

set_option maxHeartbeats 8000000 in
set_option maxRecDepth 1000000 in
theorem sortS (b cap : Nat) (A U Q : List Int) (w : World) (h : RowL w b (A ++ U ++ Q)) (hsz : U.length < 1152921504606846976) :
    Calls Tryd.prog 18 #[.slice (some ⟨b, A.length, none⟩) U.length cap, .func (.func 19) #[] #[]] w fun e w' => e = .returned (.tuple #[]) ∧ RowL w' b (A ++ sortK kOf U ++ Q) ∧ Below b w w' ∧ ∀ c, Shp w b c → Shp w' b c := by
  have hc := stb b A.length cap U.toArray w h.cut (by simpa using hsz)
  have HH : Aside (RowL w b (A ++ U ++ Q)) := h
  simp only [List.size_toArray] at hc
  clear h
  obtain ⟨n, hn⟩ : ∃ n, n = U.length := ⟨_, rfl⟩
  rw [← hn] at hc hsz ⊢
  have HN : Aside (n = U.length) := hn
  clear hn
  go_enter Tryd.func18, Tryd.ntmps18
  go_wp2_with (go_at_call 25; refine hc.mono ?_; rintro e w2 ⟨rfl, T, hS, hT, hl⟩; clear hc)
  go_end0
  have := HH.out.put hS (by rw [hT]; exact HN.out)
  rw [hl] at this
  exact ⟨rfl, this.1, this.2, fun c hc => hc.sorted hS⟩
end Go.Proofs.YtkadmnabhoijdaaDoor.Look
