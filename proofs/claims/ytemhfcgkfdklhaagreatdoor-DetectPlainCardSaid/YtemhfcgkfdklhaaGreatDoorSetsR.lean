/- The package sets, and read.may. -/
import Derived.Lib.SmallJoins
import Derived.WalkSpells
import Derived.BigQuiet
import Derived.Laws.AppendOwn
import Derived.Test.YtemhfcgkfdklhaaGreatDoorEachP
import Derived.Test.YtemhfcgkfdklhaaGreatDoorReadP
set_option linter.unusedVariables false
namespace Go.Proofs.YtemhfcgkfdklhaaGreatDoor.Look
open Go Go.RowKit Go.Shelf Go.Proofs Go.Proofs.YtemhfcgkfdklhaaGreatDoor.Rd

set_option maxHeartbeats 4000000 in
set_option maxRecDepth 100000 in
theorem cFinal (n : Int) (hn : 1 ≤ n ∧ n ≤ 12) (w : World) : Calls Tryz.prog 54 #[.int .i64 n] w fun e w' => e = .returned (.tuple #[.int .u8 (finalV n), .bool true]) ∧ Below w.heap.size w w' := by
  obtain ⟨h1, h2⟩ := hn
  have hb : ∀ o, Below w.heap.size w (w.alloc o) := fun o => (Below.refl _ w).alloc (Nat.le_refl _) o
  obtain ⟨k, rfl⟩ : ∃ k : Nat, n = (k : Int) := ⟨n.toNat, by omega⟩
  obtain rfl | rfl | rfl | rfl | rfl | rfl | rfl | rfl | rfl | rfl | rfl | rfl : k = 1 ∨ k = 2 ∨ k = 3 ∨ k = 4 ∨ k = 5 ∨ k = 6 ∨ k = 7 ∨ k = 8 ∨ k = 9 ∨ k = 10 ∨ k = 11 ∨ k = 12 := by omega
  all_goals
    go_enter Tryz.func54, Tryz.ntmps54
    go_wp2
    go_ret2
    exact ⟨rfl, hb _⟩
set_option maxHeartbeats 4000000 in
set_option maxRecDepth 100000 in
theorem cFinalNo (n : Int) (hn : n < 1 ∨ 12 < n) (w : World) : Calls Tryz.prog 54 #[.int .i64 n] w fun e w' => e = .returned (.tuple #[.int .u8 0, .bool false]) ∧ Below w.heap.size w w' := by
  have hb : ∀ o, Below w.heap.size w (w.alloc o) := fun o => (Below.refl _ w).alloc (Nat.le_refl _) o
  by_cases h1 : n < 1
  · go_enter Tryz.func54, Tryz.ntmps54
    go_wp2
    go_ret2
    exact ⟨rfl, hb _⟩
  · have h2 : 12 < n := by omega
    clear hn
    go_enter Tryz.func54, Tryz.ntmps54
    go_wp2
    go_ret2
    exact ⟨rfl, hb _⟩
set_option maxHeartbeats 4000000 in
set_option maxRecDepth 100000 in
theorem cSmallQ (n : Int) (w : World) : Calls Tryz.prog 55 #[.int .i64 n] w fun e w' => e = .returned (.bool (decide (10 ≤ n ∧ n ≤ 12))) ∧ w = w' := by
  by_cases h1 : 10 ≤ n
  · by_cases h2 : n ≤ 12
    · rw [decide_eq_true ⟨h1, h2⟩]
      go_enter Tryz.func55, Tryz.ntmps55
      go_wp2
      go_ret
      exact ⟨rfl, rfl⟩
    · rw [decide_eq_false (fun h => h2 h.2)]
      go_enter Tryz.func55, Tryz.ntmps55
      go_wp2
      go_ret
      exact ⟨rfl, rfl⟩
  · rw [decide_eq_false (fun h => h1 h.1)]
    go_enter Tryz.func55, Tryz.ntmps55
    go_wp2
    go_ret
    exact ⟨rfl, rfl⟩
def middleV (side set : Int) : ByteArray := if set = 9 then (if side = 1 then ⟨#[36, 41]⟩ else ⟨#[36]⟩) else if set = 2 then (if side = 1 then ⟨#[41, 33]⟩ else ⟨#[40, 33]⟩) else (if side = 1 then ⟨#[41]⟩ else ⟨#[40]⟩)
set_option maxHeartbeats 4000000 in
set_option maxRecDepth 100000 in
theorem cMiddle (side set : Int) (hs : side = 0 ∨ side = 1) (w : World) : Calls Tryz.prog 56 #[.int .i64 side, .int .i64 set] w fun e w' => e = .returned (.string (middleV side set)) ∧ w = w' := by
  unfold middleV
  by_cases h1 : set = 9
  · subst h1
    rcases hs with rfl | rfl
    all_goals
      go_enter Tryz.func56, Tryz.ntmps56
      go_wp2
      go_ret
      exact ⟨rfl, rfl⟩
  · have h1b : (set == 9) = false := by simpa using h1
    rw [if_neg h1]
    by_cases h2 : set = 2
    · subst h2
      rcases hs with rfl | rfl
      all_goals
        go_enter Tryz.func56, Tryz.ntmps56
        go_wp2
        go_ret
        exact ⟨rfl, rfl⟩
    · have h2b : (set == 2) = false := by simpa using h2
      have h1c : (set != 9) = true := by simpa using h1
      rw [if_neg h2]
      rcases hs with rfl | rfl
      all_goals
        go_enter Tryz.func56, Tryz.ntmps56
        go_wp2
        go_ret
        exact ⟨rfl, rfl⟩
end Go.Proofs.YtemhfcgkfdklhaaGreatDoor.Look
