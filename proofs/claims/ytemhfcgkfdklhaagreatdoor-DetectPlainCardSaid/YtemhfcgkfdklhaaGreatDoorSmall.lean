/- glyph.Rune at the small sets, and what it calls. -/
import Derived.Lib.SmallJoins
import Derived.Test.YtemhfcgkfdklhaaGreatDoorEachP
set_option linter.unusedVariables false
namespace Go.Proofs.YtemhfcgkfdklhaaGreatDoor.Look
open Go Go.RowKit Go.Shelf Go.Proofs

def signsV (n first : Int) : Int × Bool := if n = 43 then (first, true) else if n = 45 then (first + 1, true) else if n = 40 then (first + 3, true) else if n = 41 then (first + 4, true) else (0, false)
def raisedV (n : Int) : Int × Bool := if n = 49 then (185, true) else if n = 50 ∨ n = 51 then (178 + (n - 50), true) else (8304 + (n - 48), true)
def smallR (set n : Int) : Int × Bool :=
  if set = 1 then (n, true)
  else if set = 10 then (if 48 ≤ n ∧ n ≤ 57 then (8320 + (n - 48), true) else signsV n 8330)
  else if set = 11 then (if 48 ≤ n ∧ n ≤ 57 then raisedV n else signsV n 8314)
  else if 97 ≤ n ∧ n ≤ 99 then (945 + (n - 97), true) else (0, false)

set_option maxHeartbeats 4000000 in
set_option maxRecDepth 100000 in
theorem cSigns (n first : Int) (hf : 0 ≤ first ∧ first ≤ 10000) (w : World) : Calls Tryz.prog 85 #[.int .i64 n, .int .i32 first] w fun e w' => e = .returned (.tuple #[.int .i32 (signsV n first).1, .bool (signsV n first).2]) ∧ w = w' := by
  obtain ⟨h0, h00⟩ := hf
  unfold signsV
  by_cases h1 : n = 43
  · subst h1
    rw [if_pos rfl]
    go_enter Tryz.func85, Tryz.ntmps85
    go_wp2
    go_ret2
    exact ⟨rfl, rfl⟩
  · rw [if_neg h1]
    have h1b : (n == 43) = false := by simpa using h1
    by_cases h2 : n = 45
    · subst h2
      rw [if_pos rfl]
      go_enter Tryz.func85, Tryz.ntmps85
      go_wp2
      go_ret2
      exact ⟨rfl, rfl⟩
    · rw [if_neg h2]
      have h2b : (n == 45) = false := by simpa using h2
      by_cases h3 : n = 40
      · subst h3
        rw [if_pos rfl]
        go_enter Tryz.func85, Tryz.ntmps85
        go_wp2
        go_ret2
        exact ⟨rfl, rfl⟩
      · rw [if_neg h3]
        have h3b : (n == 40) = false := by simpa using h3
        by_cases h4 : n = 41
        · subst h4
          rw [if_pos rfl]
          go_enter Tryz.func85, Tryz.ntmps85
          go_wp2
          go_ret2
          exact ⟨rfl, rfl⟩
        · rw [if_neg h4]
          have h4b : (n == 41) = false := by simpa using h4
          go_enter Tryz.func85, Tryz.ntmps85
          go_wp2
          go_ret2
          exact ⟨rfl, rfl⟩
set_option maxHeartbeats 4000000 in
set_option maxRecDepth 100000 in
theorem cRaised (n : Int) (hn : 48 ≤ n ∧ n ≤ 57) (w : World) : Calls Tryz.prog 86 #[.int .i64 n] w fun e w' => e = .returned (.tuple #[.int .i32 (raisedV n).1, .bool (raisedV n).2]) ∧ w = w' := by
  obtain ⟨h0, h00⟩ := hn
  unfold raisedV
  by_cases h1 : n = 49
  · subst h1
    rw [if_pos rfl]
    go_enter Tryz.func86, Tryz.ntmps86
    go_wp2
    go_ret2
    exact ⟨rfl, rfl⟩
  · rw [if_neg h1]
    have h1b : (n == 49) = false := by simpa using h1
    by_cases h2 : n = 50
    · subst h2
      rw [if_pos (.inl rfl)]
      go_enter Tryz.func86, Tryz.ntmps86
      go_wp2
      go_ret2
      exact ⟨rfl, rfl⟩
    · have h2b : (n == 50) = false := by simpa using h2
      by_cases h3 : n = 51
      · subst h3
        rw [if_pos (.inr rfl)]
        go_enter Tryz.func86, Tryz.ntmps86
        go_wp2
        go_ret2
        exact ⟨rfl, rfl⟩
      · rw [if_neg (fun h => h.elim h2 h3)]
        have h3b : (n == 51) = false := by simpa using h3
        go_enter Tryz.func86, Tryz.ntmps86
        go_wp2
        go_ret2
        exact ⟨rfl, rfl⟩
set_option maxHeartbeats 4000000 in
set_option maxRecDepth 100000 in
theorem cDigit (n : Int) (w : World) : Calls Tryz.prog 84 #[.int .i64 n] w fun e w' => e = .returned (.bool (decide (48 ≤ n ∧ n ≤ 57))) ∧ w = w' := by
  by_cases h1 : 48 ≤ n
  · by_cases h2 : n ≤ 57
    · rw [decide_eq_true ⟨h1, h2⟩]
      go_enter Tryz.func84, Tryz.ntmps84
      go_wp2
      go_ret
      exact ⟨rfl, rfl⟩
    · rw [decide_eq_false (fun h => h2 h.2)]
      go_enter Tryz.func84, Tryz.ntmps84
      go_wp2
      go_ret
      exact ⟨rfl, rfl⟩
  · rw [decide_eq_false (fun h => h1 h.1)]
    go_enter Tryz.func84, Tryz.ntmps84
    go_wp2
    go_ret
    exact ⟨rfl, rfl⟩
set_option maxHeartbeats 4000000 in
set_option maxRecDepth 100000 in
theorem cBasic (n : Int) (hn : 33 ≤ n ∧ n ≤ 126) (w : World) : Calls Tryz.prog 60 #[.int .i64 n] w fun e w' => e = .returned (.tuple #[.int .i32 n, .bool true]) ∧ w = w' := by
  obtain ⟨h0, h00⟩ := hn
  go_enter Tryz.func60, Tryz.ntmps60
  go_wp2
  go_ret2
  exact ⟨rfl, rfl⟩
set_option maxHeartbeats 4000000 in
set_option maxRecDepth 100000 in
theorem cSmall (set n : Int) (hset : set = 10 ∨ set = 11 ∨ set = 12) (hn : 33 ≤ n ∧ n ≤ 126) (w : World) : Calls Tryz.prog 63 #[.int .i64 set, .int .i64 n] w fun e w' => e = .returned (.tuple #[.int .i32 (smallR set n).1, .bool (smallR set n).2]) ∧ w = w' := by
  have cD := fun w => cDigit n w
  obtain ⟨h0, h00⟩ := hn
  rcases hset with rfl | rfl | rfl
  · have e : smallR 10 n = if 48 ≤ n ∧ n ≤ 57 then (8320 + (n - 48), true) else signsV n 8330 := rfl
    rw [e]
    clear e
    by_cases h : 48 ≤ n ∧ n ≤ 57
    · rw [if_pos h]
      simp only [decide_eq_true h] at cD
      obtain ⟨h1, h2⟩ := h
      go_enter Tryz.func63, Tryz.ntmps63
      go_wp2_with (go_at_call 84; refine (cD _).mono ?_; rintro e w' ⟨rfl, rfl⟩)
      go_ret2
      exact ⟨rfl, rfl⟩
    · rw [if_neg h]
      simp only [decide_eq_false h] at cD
      have cS := fun w => cSigns n 8330 ⟨by omega, by omega⟩ w
      generalize signsV n 8330 = R at cS ⊢
      obtain ⟨a, b⟩ := R
      go_enter Tryz.func63, Tryz.ntmps63
      go_wp2_with (first | (go_at_call 84; refine (cD _).mono ?_; rintro e w' ⟨rfl, rfl⟩) | (go_at_call 85; refine (cS _).mono ?_; rintro e w' ⟨rfl, rfl⟩))
      go_ret2
      exact ⟨rfl, rfl⟩
  · have e : smallR 11 n = if 48 ≤ n ∧ n ≤ 57 then raisedV n else signsV n 8314 := rfl
    rw [e]
    clear e
    by_cases h : 48 ≤ n ∧ n ≤ 57
    · rw [if_pos h]
      simp only [decide_eq_true h] at cD
      have cR := fun w => cRaised n h w
      generalize raisedV n = R at cR ⊢
      obtain ⟨a, b⟩ := R
      go_enter Tryz.func63, Tryz.ntmps63
      go_wp2_with (first | (go_at_call 84; refine (cD _).mono ?_; rintro e w' ⟨rfl, rfl⟩) | (go_at_call 86; refine (cR _).mono ?_; rintro e w' ⟨rfl, rfl⟩))
      go_ret2
      exact ⟨rfl, rfl⟩
    · rw [if_neg h]
      simp only [decide_eq_false h] at cD
      have cS := fun w => cSigns n 8314 ⟨by omega, by omega⟩ w
      generalize signsV n 8314 = R at cS ⊢
      obtain ⟨a, b⟩ := R
      go_enter Tryz.func63, Tryz.ntmps63
      go_wp2_with (first | (go_at_call 84; refine (cD _).mono ?_; rintro e w' ⟨rfl, rfl⟩) | (go_at_call 85; refine (cS _).mono ?_; rintro e w' ⟨rfl, rfl⟩))
      go_ret2
      exact ⟨rfl, rfl⟩
  · have e : smallR 12 n = if 97 ≤ n ∧ n ≤ 99 then (945 + (n - 97), true) else (0, false) := rfl
    rw [e]
    clear e cD
    by_cases h1 : 97 ≤ n
    · by_cases h2 : n ≤ 99
      · rw [if_pos ⟨h1, h2⟩]
        go_enter Tryz.func63, Tryz.ntmps63
        go_wp2
        go_ret2
        exact ⟨rfl, rfl⟩
      · rw [if_neg (fun h => h2 h.2)]
        go_enter Tryz.func63, Tryz.ntmps63
        go_wp2
        go_ret2
        exact ⟨rfl, rfl⟩
    · rw [if_neg (fun h => h1 h.1)]
      go_enter Tryz.func63, Tryz.ntmps63
      go_wp2
      go_ret2
      exact ⟨rfl, rfl⟩
set_option maxHeartbeats 4000000 in
set_option maxRecDepth 100000 in
theorem grune (set n : Int) (hset : set = 1 ∨ set = 10 ∨ set = 11 ∨ set = 12) (hn : 33 ≤ n ∧ n ≤ 126) (w : World) : Calls Tryz.prog 45 #[.agg #[.int .i64 set, .int .i64 n]] w fun e w' => e = .returned (.tuple #[.int .i32 (smallR set n).1, .bool (smallR set n).2]) ∧ Below w.heap.size w w' := by
  have hb : Below w.heap.size w (w.alloc (.cells #[.int .i64 set, .int .i64 n] 89)) := (Below.refl _ w).alloc (Nat.le_refl _) _
  rcases hset with rfl | hset
  · have cB := fun w => cBasic n hn w
    have e : smallR 1 n = (n, true) := rfl
    rw [e]
    clear e
    go_enter Tryz.func45, Tryz.ntmps45
    go_wp2_with (go_at_call 60; refine (cB _).mono ?_; rintro e w' ⟨rfl, rfl⟩)
    go_ret2
    exact ⟨rfl, hb⟩
  · have cS := fun w => cSmall set n hset hn w
    generalize smallR set n = R at cS ⊢
    obtain ⟨a, b⟩ := R
    rcases hset with rfl | rfl | rfl
    all_goals
      go_enter Tryz.func45, Tryz.ntmps45
      go_wp2_with (go_at_call 63; refine (cS _).mono ?_; rintro e w' ⟨rfl, rfl⟩)
      go_ret2
      exact ⟨rfl, hb⟩
end Go.Proofs.YtemhfcgkfdklhaaGreatDoor.Look
