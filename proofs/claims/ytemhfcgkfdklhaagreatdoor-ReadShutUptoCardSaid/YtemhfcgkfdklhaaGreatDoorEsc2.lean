/- escape.small, east, parse, Next. -/
import Derived.Test.YtemhfcgkfdklhaaGreatDoorEsc1
set_option linter.unusedVariables false
namespace Go.Proofs.YtemhfcgkfdklhaaGreatDoor.Look
open Go Go.RowKit Go.Shelf Go.Proofs Go.Proofs.YtemhfcgkfdklhaaGreatDoor.Rd

theorem small_hit (i : Nat) (hi : i < 3) : smallV (finalV (10 + (i : Int))) = 10 + (i : Int) := by
  have : ∀ i : Fin 3, smallV (finalV (10 + (i.val : Int))) = 10 + (i.val : Int) := by decide +kernel
  exact this ⟨i, hi⟩
theorem small_none {c : Int} (h0 : ¬ c = 115) (h : ∀ j : Nat, j < 3 → finalV (10 + (j : Int)) ≠ c) : smallV c = 0 := by
  have h1 : ¬ c = 98 := fun e => h 0 (by omega) (by rw [e]; decide)
  have h2 : ¬ c = 112 := fun e => h 1 (by omega) (by rw [e]; decide)
  have h3 : ¬ c = 103 := fun e => h 2 (by omega) (by rw [e]; decide)
  unfold smallV
  rw [if_neg h0, if_neg h1, if_neg h2, if_neg h3]
set_option maxHeartbeats 8000000 in
set_option maxRecDepth 100000 in
theorem cSmallE (c : Int) (w : World) : Calls Tryz.prog 89 #[.int .u8 c] w fun e w' => e = .returned (.int .i64 (smallV c)) ∧ Below w.heap.size w w' := by
  by_cases h0 : c = 115
  · subst h0
    go_enter Tryz.func89, Tryz.ntmps89
    go_wp2
    go_ret
    exact ⟨rfl, Below.refl _ _⟩
  · have h0b : (c == 115) = false := by simpa using h0
    have H0 : Aside (¬ c = 115) := h0
    clear h0
    go_enter Tryz.func89, Tryz.ntmps89
    go_wp2
    go_loopg [3] 3 (fun g v3 wr => ∃ (i : Nat), v3 = .int .i64 (10 + (i : Int)) ∧ i ≤ 3 ∧ 3 - i ≤ g ∧ Aside (Below w.heap.size w wr ∧ ∀ j : Nat, j < i → finalV (10 + (j : Int)) ≠ c))
    case atStart => exact ⟨0, rfl, by omega, by omega, Below.refl _ _, fun j hj => by omega⟩
    case round =>
      obtain ⟨i, rfl, hi, hg1, HI⟩ := hrel
      by_cases hlt : i < 3
      · have hle : 10 + (i : Int) ≤ 12 := by omega
        have cF : Calls Tryz.prog 54 #[.int .i64 (10 + (i : Int))] wr fun e w' => e = .returned (.tuple #[.int .u8 (finalV (10 + (i : Int))), .bool true]) ∧ Aside (Below w.heap.size w w') := by
          refine (cFinal (10 + (i : Int)) ⟨by omega, by omega⟩ wr).mono ?_
          rintro e w' ⟨rfl, hb⟩
          exact ⟨rfl, HI.out.1.trans (hb.mono HI.out.1.size)⟩
        have HH := Lib.hid (small_hit i hlt)
        have HS := Lib.hid (fun h : finalV (10 + (i : Int)) ≠ c => (fun (j : Nat) (hj : j < i + 1) => by
          by_cases e : j = i
          · rw [e]; exact h
          · exact HI.out.2 j (by omega) : ∀ j : Nat, j < i + 1 → finalV (10 + (j : Int)) ≠ c))
        generalize finalV (10 + (i : Int)) = F at cF HH HS
        by_cases h3 : F = c
        · have h4 : (F == c) = true := by simpa using h3
          have HR : Aside (smallV c = 10 + (i : Int)) := by rw [← h3]; exact HH.out
          clear h3
          go_wp2_with (go_at_call 54; refine cF.mono ?_; rintro e w1 ⟨rfl, hb1⟩)
          go_ret
          exact ⟨by rw [HR.out]; rfl, hb1.out⟩
        · have h4 : (F == c) = false := by simpa using h3
          go_wp2_with (go_at_call 54; refine cF.mono ?_; rintro e w1 ⟨rfl, hb1⟩)
          go_roundg (3 - (i + 1))
          case measure => omega
          case rel => exact ⟨i + 1, by first | rfl | go_num, by omega, by omega, hb1.out, HS.out h3⟩
      · have hle : ¬ 10 + (i : Int) ≤ 12 := by omega
        obtain rfl : i = 3 := by omega
        have HR : Aside (smallV c = 0) := small_none H0.out HI.out.2
        go_wp2
        go_ret
        exact ⟨by rw [HR.out]; rfl, HI.out.1⟩

set_option maxHeartbeats 8000000 in
set_option maxRecDepth 100000 in
theorem cEast (a : Option Addr) (cp : Nat) (l : List Int) (w : World) (hl : RowB w a l) (hn : l.length ≤ 2000000) : Calls Tryz.prog 88 #[.slice a l.length cp] w fun e w' => e = .returned (.tuple #[.int .i64 (eastV l).1, .int .i64 (eastV l).2]) ∧ Below w.heap.size w w' := by
  match l with
  | [] =>
    clear hl
    have cF := cFinal 9 (by omega) w
    show Calls _ _ #[.slice a 0 cp] w _
    go_enter Tryz.func88, Tryz.ntmps88
    go_wp2_with (go_at_call 54; refine cF.mono ?_; rintro e w1 ⟨rfl, hb1⟩)
    go_ret2
    exact ⟨rfl, hb1⟩
  | [c] =>
    obtain ⟨b, off, rfl, hb, hc⟩ := hl (by simp)
    have hc0 : w.cell? ⟨b, off, none⟩ = some (.int .u8 c) := hc 0 c rfl
    have cF : Calls Tryz.prog 54 #[.int .i64 9] w fun e w' => e = .returned (.tuple #[.int .u8 49, .bool true]) ∧ w'.cell? ⟨b, off, none⟩ = some (.int .u8 c) ∧ Below w.heap.size w w' := by
      refine (cFinal 9 (by omega) w).mono ?_
      rintro e w' ⟨rfl, h⟩
      exact ⟨rfl, (h.cell (p := ⟨b, off, none⟩) hb).trans hc0, h⟩
    rw [eastV_one]
    show Calls _ _ #[.slice (some ⟨b, off, none⟩) 1 cp] w _
    clear hl hc hc0
    by_cases h1 : c = 49
    · have h1b : (c == 49) = true := by simpa using h1
      rw [if_pos h1]
      clear h1
      go_enter Tryz.func88, Tryz.ntmps88
      go_wp2_with (go_at_call 54; refine cF.mono ?_; rintro e w1 ⟨rfl, c1, hb1⟩)
      go_ret2
      exact ⟨rfl, hb1⟩
    · have h1b : (c == 49) = false := by simpa using h1
      rw [if_neg h1]
      clear h1
      go_enter Tryz.func88, Tryz.ntmps88
      go_wp2_with (go_at_call 54; refine cF.mono ?_; rintro e w1 ⟨rfl, c1, hb1⟩)
      go_ret2
      exact ⟨rfl, hb1⟩
  | c :: d :: t =>
    obtain ⟨b, off, rfl, hb, hc⟩ := hl (by simp)
    have hc0 : w.cell? ⟨b, off, none⟩ = some (.int .u8 c) := hc 0 c rfl
    have hc1 : w.cell? ⟨b, off + 1, none⟩ = some (.int .u8 d) := hc 1 d rfl
    have cF : Calls Tryz.prog 54 #[.int .i64 9] w fun e w' => e = .returned (.tuple #[.int .u8 49, .bool true]) ∧ w'.cell? ⟨b, off, none⟩ = some (.int .u8 c) ∧ w'.cell? ⟨b, off + 1, none⟩ = some (.int .u8 d) ∧ Below w.heap.size w w' := by
      refine (cFinal 9 (by omega) w).mono ?_
      rintro e w' ⟨rfl, h⟩
      exact ⟨rfl, (h.cell (p := ⟨b, off, none⟩) hb).trans hc0, (h.cell (p := ⟨b, off + 1, none⟩) hb).trans hc1, h⟩
    rw [eastV_two]
    obtain ⟨N, hN⟩ : ∃ N, N = (c :: d :: t).length := ⟨_, rfl⟩
    rw [← hN] at hn ⊢
    have hN1 : 1 < (N : Int) := by rw [hN]; simp only [List.length_cons]; omega
    have hN0 : 0 < (N : Int) := by omega
    have hN0n : 0 < N := by omega
    have hN0d : decide (0 < N) = true := decide_eq_true hN0n
    clear hN hl hc hc0 hc1
    by_cases h1 : c = 49
    · have h1b : (c == 49) = true := by simpa using h1
      rw [if_pos h1]
      clear h1
      go_enter Tryz.func88, Tryz.ntmps88
      go_wp2_with (go_at_call 54; refine cF.mono ?_; rintro e w1 ⟨rfl, c1, c2, hb1⟩)
      go_ret2
      exact ⟨rfl, hb1⟩
    · have h1b : (c == 49) = false := by simpa using h1
      rw [if_neg h1]
      clear h1
      by_cases h2 : d = 49
      · have h2b : (d == 49) = true := by simpa using h2
        by_cases h3 : c = 44
        · subst h3
          rw [if_pos ⟨rfl, h2⟩]
          clear h2
          go_enter Tryz.func88, Tryz.ntmps88
          go_wp2_with (go_at_call 54; refine cF.mono ?_; rintro e w1 ⟨rfl, c1, c2, hb1⟩)
          go_ret2
          exact ⟨rfl, hb1⟩
        · have h3b : (c == 44) = false := by simpa using h3
          rw [if_neg (fun h => h3 h.1)]
          clear h3
          by_cases h4 : c = 41
          · subst h4
            rw [if_pos ⟨.inl rfl, h2⟩]
            clear h2
            go_enter Tryz.func88, Tryz.ntmps88
            go_wp2_with (go_at_call 54; refine cF.mono ?_; rintro e w1 ⟨rfl, c1, c2, hb1⟩)
            go_ret2
            exact ⟨rfl, hb1⟩
          · have h4b : (c == 41) = false := by simpa using h4
            by_cases h5 : c = 45
            · subst h5
              rw [if_pos ⟨.inr rfl, h2⟩]
              clear h2
              go_enter Tryz.func88, Tryz.ntmps88
              go_wp2_with (go_at_call 54; refine cF.mono ?_; rintro e w1 ⟨rfl, c1, c2, hb1⟩)
              go_ret2
              exact ⟨rfl, hb1⟩
            · have h5b : (c == 45) = false := by simpa using h5
              rw [if_neg (fun h => h.1.elim h4 h5)]
              clear h4 h5 h2
              go_enter Tryz.func88, Tryz.ntmps88
              go_wp2_with (go_at_call 54; refine cF.mono ?_; rintro e w1 ⟨rfl, c1, c2, hb1⟩)
              go_ret2
              exact ⟨rfl, hb1⟩
      · have h2b : (d == 49) = false := by simpa using h2
        rw [if_neg (fun h => h2 h.2), if_neg (fun h => h2 h.2)]
        clear h2
        by_cases h3 : c = 44
        · subst h3
          go_enter Tryz.func88, Tryz.ntmps88
          go_wp2_with (go_at_call 54; refine cF.mono ?_; rintro e w1 ⟨rfl, c1, c2, hb1⟩)
          go_ret2
          exact ⟨rfl, hb1⟩
        · have h3b : (c == 44) = false := by simpa using h3
          clear h3
          by_cases h4 : c = 41
          · subst h4
            go_enter Tryz.func88, Tryz.ntmps88
            go_wp2_with (go_at_call 54; refine cF.mono ?_; rintro e w1 ⟨rfl, c1, c2, hb1⟩)
            go_ret2
            exact ⟨rfl, hb1⟩
          · have h4b : (c == 41) = false := by simpa using h4
            clear h4
            by_cases h5 : c = 45
            · subst h5
              go_enter Tryz.func88, Tryz.ntmps88
              go_wp2_with (go_at_call 54; refine cF.mono ?_; rintro e w1 ⟨rfl, c1, c2, hb1⟩)
              go_ret2
              exact ⟨rfl, hb1⟩
            · have h5b : (c == 45) = false := by simpa using h5
              clear h5
              go_enter Tryz.func88, Tryz.ntmps88
              go_wp2_with (go_at_call 54; refine cF.mono ?_; rintro e w1 ⟨rfl, c1, c2, hb1⟩)
              go_ret2
              exact ⟨rfl, hb1⟩
end Go.Proofs.YtemhfcgkfdklhaaGreatDoor.Look
