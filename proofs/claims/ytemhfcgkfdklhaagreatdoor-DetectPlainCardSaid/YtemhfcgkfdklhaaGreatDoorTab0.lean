/- What the table that New lays says of the sets 1 and 2; the sample text. -/
import Derived.Test.YtemhfcgkfdklhaaGreatDoorDec2
set_option linter.unusedVariables false
namespace Go.Proofs.YtemhfcgkfdklhaaGreatDoor.Look
open Go Go.RowKit Go.Shelf Go.Proofs Go.Proofs.YtemhfcgkfdklhaaGreatDoor.Rd
open Go.Proofs.YtemhfcgkfdklhaaGreatDoor.Idx (W64 Idx Adds tabA tabStep)

theorem fold_none (s n : Int) : ∀ (B : Adds) (T : Tab), (∀ a ∈ B, a.1 ≠ s) → B.foldl tabStep T s n = T s n
  | [], T, _ => rfl
  | a :: B, T, h => by
    rw [List.foldl_cons, fold_none s n B _ fun x hx => h x (List.mem_cons_of_mem _ hx)]
    show (if s = a.1 ∧ n = a.2.1 then some a.2.2 else T s n) = _
    rw [if_neg fun e => h a (List.mem_cons_self) e.1.symm]
theorem ofSet_ne {s set : Int} {l : List (Int × Int)} (h : set ≠ s) : ∀ a ∈ ofSet set l, a.1 ≠ s := by
  intro a ha
  simp only [ofSet, List.mem_map] at ha
  obtain ⟨x, _, rfl⟩ := ha
  exact h
theorem scrTo_ne {s : Int} (h : s < 3) : ∀ n, ∀ a ∈ scrTo n, a.1 ≠ s
  | 0, a, ha => by simp [scrTo] at ha
  | n + 1, a, ha => by
    rw [scrTo_succ] at ha
    rcases List.mem_append.1 ha with h1 | h1
    · exact scrTo_ne h n a h1
    · exact ofSet_ne (by omega) a h1
theorem smallTo_set (set : Int) : ∀ n, ∀ a ∈ smallTo set n, a.1 = set
  | 0, a, ha => by simp [smallTo] at ha
  | n + 1, a, ha => by
    rw [smallTo_succ] at ha
    rcases List.mem_append.1 ha with h1 | h1
    · exact smallTo_set set n a h1
    · unfold smallOne at h1
      split at h1
      · simp only [List.mem_singleton] at h1
        rw [h1]
      · cases h1
theorem small_ne2 : ∀ a ∈ smallSets 4, a.1 ≠ 2 := by
  intro a ha
  have e : smallSets 4 = smallTo 1 94 ++ (smallTo 10 94 ++ (smallTo 11 94 ++ smallTo 12 94)) := by
    simp [smallSets, List.range_succ, setsL]
  rw [e] at ha
  rcases List.mem_append.1 ha with h | h
  · rw [smallTo_set _ _ a h]; decide
  · rcases List.mem_append.1 h with h | h
    · rw [smallTo_set _ _ a h]; decide
    · rcases List.mem_append.1 h with h | h <;> (rw [smallTo_set _ _ a h]; decide)
theorem T0_two (n : Int) : T0 2 n = tabA (ofSet 2 (eachT anselT)) 2 n := by
  unfold T0 allAdds tabA
  rw [List.foldl_append, List.foldl_append, List.foldl_append, fold_none 2 n _ _ small_ne2, fold_none 2 n _ _ (scrTo_ne (by decide) 6), fold_none 2 n _ _ (ofSet_ne (by decide))]
theorem T0_acute : T0 2 98 = some 769 := by
  rw [T0_two]
  decide +kernel
theorem T0_none : T0 2 87 = none := by
  rw [T0_two]
  decide +kernel
theorem fold_one (n : Int) (T T' : Tab) : ∀ (k : Nat), (33 ≤ n ∧ n < 33 + (k : Int)) → (∀ i : Nat, i < k → (smallR 1 (33 + (i : Int))) = (33 + (i : Int), true)) → (smallTo 1 k).foldl tabStep T 1 n = some n
  | 0, h, _ => by omega
  | k + 1, h, hs => by
    rw [smallTo_succ, List.foldl_append]
    have e : smallOne 1 k = [(1, 33 + (k : Int), 33 + (k : Int))] := by
      unfold smallOne
      rw [hs k (by omega)]
      rfl
    rw [e]
    show (if (1 : Int) = 1 ∧ n = 33 + (k : Int) then some (33 + (k : Int)) else (smallTo 1 k).foldl tabStep T 1 n) = _
    by_cases hk : n = 33 + (k : Int)
    · rw [if_pos ⟨rfl, hk⟩, hk]
    · rw [if_neg fun e => hk e.2]
      exact fold_one n T T' k (by omega) fun i hi => hs i (by omega)
theorem small_one : ∀ i : Nat, i < 94 → (smallR 1 (33 + (i : Int))) = (33 + (i : Int), true) := by decide +kernel
theorem T0_one (n : Int) (h : 33 ≤ n ∧ n ≤ 126) : T0 1 n = some n := by
  unfold T0 allAdds tabA
  rw [List.foldl_append]
  have e : smallSets 4 = smallTo 1 94 ++ (smallTo 10 94 ++ (smallTo 11 94 ++ smallTo 12 94)) := by
    simp [smallSets, List.range_succ, setsL]
  rw [e, List.foldl_append]
  have hn : ∀ a ∈ smallTo 10 94 ++ (smallTo 11 94 ++ smallTo 12 94), a.1 ≠ 1 := by
    intro a h
    rcases List.mem_append.1 h with h | h
    · rw [smallTo_set _ _ a h]; decide
    · rcases List.mem_append.1 h with h | h <;> (rw [smallTo_set _ _ a h]; decide)
  rw [fold_none 1 n _ _ hn]
  exact fold_one n _ (fun _ _ => none) 94 (by omega) small_one
theorem mark_acute : markV 769 = true := by decide +kernel
theorem mark_low : ∀ i : Nat, i < 128 → markV (i : Int) = false := by decide +kernel
theorem sample : textV markV T0 [226, 101] = .ok ⟨2, 1, 2, [101, 769], [], 0⟩ := by
  have n0 : nextV markV T0 [226, 101] ⟨0, 1, 2, [], [], 0⟩ = .ok ⟨1, 1, 2, [], [769], 0⟩ := by
    have hc : codeV [226, 101] ⟨0, 1, 2, [], [], 0⟩ = some (2, 98, 1) := by decide +kernel
    rw [nextV_cons (s := ⟨0, 1, 2, [], [], 0⟩) (c := 226) (t := [101]) rfl, if_neg (by decide), show plainV 226 = none by decide]
    simp only [hc, T0_acute]
    unfold putS
    rw [if_pos mark_acute]
    rfl
  have n1 : nextV markV T0 [226, 101] ⟨1, 1, 2, [], [769], 0⟩ = .ok ⟨2, 1, 2, [101, 769], [], 0⟩ := by
    have hc : codeV [101] ⟨1, 1, 2, [], [769], 0⟩ = some (1, 101, 1) := by decide +kernel
    rw [nextV_cons (s := ⟨1, 1, 2, [], [769], 0⟩) (c := 101) (t := []) rfl, if_neg (by decide), show plainV 101 = none by decide]
    simp only [hc, T0_one 101 (by omega)]
    unfold putS
    rw [if_neg (by rw [show markV 101 = false from mark_low 101 (by omega)]; decide)]
    rfl
  have hr : run markV T0 [226, 101] ⟨0, 1, 2, [], [], 0⟩ = .ok ⟨2, 1, 2, [101, 769], [], 0⟩ := by
    rw [run_step (by decide) n0, run_step (by decide) n1, run_end (by decide)]
  unfold textV decodeV
  rw [if_pos (by decide), hr]
  rfl
end Go.Proofs.YtemhfcgkfdklhaaGreatDoor.Look
