/- escape.Next at an escape. -/
import Derived.Test.YtemhfcgkfdklhaaGreatDoorEsc1
set_option linter.unusedVariables false
namespace Go.Proofs.YtemhfcgkfdklhaaGreatDoor.Look
open Go Go.RowKit Go.Shelf Go.Proofs Go.Proofs.YtemhfcgkfdklhaaGreatDoor.Rd

theorem small_hit (i : Nat) (hi : i < 3) : smallV (finalV (10 + (i : Int))) = 10 + (i : Int) := by
  have : ∀ i : Fin 3, smallV (finalV (10 + (i.val : Int))) = 10 + (i.val : Int) := by decide +kernel
  exact this ⟨i, hi⟩
theorem small_none {c : Int} (h0 : ¬ c = 115) (h : ∀ j : Nat, j < 3 → finalV (10 + (j : Int)) ≠ c) : smallV c = 0 := by
  have h1 : ¬ c = 98 := fun e => h 0 (by omega) (by rw [e]; decide)
  have h2 : ¬ c = 112 := fun e => h 1 (by omega) (by rw [e]; decide)
  have h3 : ¬ c = 103 := fun e => h 2 (by omega) (by rw [e]; decide)
  unfold smallV
  rw [if_neg h0, if_neg h1, if_neg h2, if_neg h3]
set_option maxHeartbeats 8000000 in
set_option maxRecDepth 100000 in
theorem cSmallE (c : Int) (w : World) : Calls Tryz.prog 89 #[.int .u8 c] w fun e w' => e = .returned (.int .i64 (smallV c)) ∧ Below w.heap.size w w' := by
  by_cases h0 : c = 115
  · subst h0
    go_enter Tryz.func89, Tryz.ntmps89
    go_wp2
    go_ret
    exact ⟨rfl, Below.refl _ _⟩
  · have h0b : (c == 115) = false := by simpa using h0
    have H0 : Aside (¬ c = 115) := h0
    clear h0
    go_enter Tryz.func89, Tryz.ntmps89
    go_wp2
    go_loopg [3] 3 (fun g v3 wr => ∃ (i : Nat), v3 = .int .i64 (10 + (i : Int)) ∧ i ≤ 3 ∧ 3 - i ≤ g ∧ Aside (Below w.heap.size w wr ∧ ∀ j : Nat, j < i → finalV (10 + (j : Int)) ≠ c))
    case atStart => exact ⟨0, rfl, by omega, by omega, Below.refl _ _, fun j hj => by omega⟩
    case round =>
      obtain ⟨i, rfl, hi, hg1, HI⟩ := hrel
      by_cases hlt : i < 3
      · have hle : 10 + (i : Int) ≤ 12 := by omega
        have cF : Calls Tryz.prog 54 #[.int .i64 (10 + (i : Int))] wr fun e w' => e = .returned (.tuple #[.int .u8 (finalV (10 + (i : Int))), .bool true]) ∧ Aside (Below w.heap.size w w') := by
          refine (cFinal (10 + (i : Int)) ⟨by omega, by omega⟩ wr).mono ?_
          rintro e w' ⟨rfl, hb⟩
          exact ⟨rfl, HI.out.1.trans (hb.mono HI.out.1.size)⟩
        have HH := Lib.hid (small_hit i hlt)
        have HS := Lib.hid (fun h : finalV (10 + (i : Int)) ≠ c => (fun (j : Nat) (hj : j < i + 1) => by
          by_cases e : j = i
          · rw [e]; exact h
          · exact HI.out.2 j (by omega) : ∀ j : Nat, j < i + 1 → finalV (10 + (j : Int)) ≠ c))
        generalize finalV (10 + (i : Int)) = F at cF HH HS
        by_cases h3 : F = c
        · have h4 : (F == c) = true := by simpa using h3
          have HR : Aside (smallV c = 10 + (i : Int)) := by rw [← h3]; exact HH.out
          clear h3
          go_wp2_with (go_at_call 54; refine cF.mono ?_; rintro e w1 ⟨rfl, hb1⟩)
          go_ret
          exact ⟨by rw [HR.out]; rfl, hb1.out⟩
        · have h4 : (F == c) = false := by simpa using h3
          go_wp2_with (go_at_call 54; refine cF.mono ?_; rintro e w1 ⟨rfl, hb1⟩)
          go_roundg (3 - (i + 1))
          case measure => omega
          case rel => exact ⟨i + 1, by first | rfl | go_num, by omega, by omega, hb1.out, HS.out h3⟩
      · have hle : ¬ 10 + (i : Int) ≤ 12 := by omega
        obtain rfl : i = 3 := by omega
        have HR : Aside (smallV c = 0) := small_none H0.out HI.out.2
        go_wp2
        go_ret
        exact ⟨by rw [HR.out]; rfl, HI.out.1⟩

set_option maxHeartbeats 8000000 in
set_option maxRecDepth 100000 in
theorem cEast (a : Option Addr) (cp : Nat) (l : List Int) (w : World) (hl : RowB w a l) (hn : l.length ≤ 2000000) : Calls Tryz.prog 88 #[.slice a l.length cp] w fun e w' => e = .returned (.tuple #[.int .i64 (eastV l).1, .int .i64 (eastV l).2]) ∧ Below w.heap.size w w' := by
  match l with
  | [] =>
    clear hl
    have cF := cFinal 9 (by omega) w
    show Calls _ _ #[.slice a 0 cp] w _
    go_enter Tryz.func88, Tryz.ntmps88
    go_wp2_with (go_at_call 54; refine cF.mono ?_; rintro e w1 ⟨rfl, hb1⟩)
    go_ret2
    exact ⟨rfl, hb1⟩
  | [c] =>
    obtain ⟨b, off, rfl, hb, hc⟩ := hl (by simp)
    have hc0 : w.cell? ⟨b, off, none⟩ = some (.int .u8 c) := hc 0 c rfl
    have cF : Calls Tryz.prog 54 #[.int .i64 9] w fun e w' => e = .returned (.tuple #[.int .u8 49, .bool true]) ∧ w'.cell? ⟨b, off, none⟩ = some (.int .u8 c) ∧ Below w.heap.size w w' := by
      refine (cFinal 9 (by omega) w).mono ?_
      rintro e w' ⟨rfl, h⟩
      exact ⟨rfl, (h.cell (p := ⟨b, off, none⟩) hb).trans hc0, h⟩
    rw [eastV_one]
    show Calls _ _ #[.slice (some ⟨b, off, none⟩) 1 cp] w _
    clear hl hc hc0
    by_cases h1 : c = 49
    · have h1b : (c == 49) = true := by simpa using h1
      rw [if_pos h1]
      clear h1
      go_enter Tryz.func88, Tryz.ntmps88
      go_wp2_with (go_at_call 54; refine cF.mono ?_; rintro e w1 ⟨rfl, c1, hb1⟩)
      go_ret2
      exact ⟨rfl, hb1⟩
    · have h1b : (c == 49) = false := by simpa using h1
      rw [if_neg h1]
      clear h1
      go_enter Tryz.func88, Tryz.ntmps88
      go_wp2_with (go_at_call 54; refine cF.mono ?_; rintro e w1 ⟨rfl, c1, hb1⟩)
      go_ret2
      exact ⟨rfl, hb1⟩
  | c :: d :: t =>
    obtain ⟨b, off, rfl, hb, hc⟩ := hl (by simp)
    have hc0 : w.cell? ⟨b, off, none⟩ = some (.int .u8 c) := hc 0 c rfl
    have hc1 : w.cell? ⟨b, off + 1, none⟩ = some (.int .u8 d) := hc 1 d rfl
    have cF : Calls Tryz.prog 54 #[.int .i64 9] w fun e w' => e = .returned (.tuple #[.int .u8 49, .bool true]) ∧ w'.cell? ⟨b, off, none⟩ = some (.int .u8 c) ∧ w'.cell? ⟨b, off + 1, none⟩ = some (.int .u8 d) ∧ Below w.heap.size w w' := by
      refine (cFinal 9 (by omega) w).mono ?_
      rintro e w' ⟨rfl, h⟩
      exact ⟨rfl, (h.cell (p := ⟨b, off, none⟩) hb).trans hc0, (h.cell (p := ⟨b, off + 1, none⟩) hb).trans hc1, h⟩
    rw [eastV_two]
    obtain ⟨N, hN⟩ : ∃ N, N = (c :: d :: t).length := ⟨_, rfl⟩
    rw [← hN] at hn ⊢
    have hN1 : 1 < (N : Int) := by rw [hN]; simp only [List.length_cons]; omega
    have hN0 : 0 < (N : Int) := by omega
    have hN0n : 0 < N := by omega
    have hN0d : decide (0 < N) = true := decide_eq_true hN0n
    clear hN hl hc hc0 hc1
    by_cases h1 : c = 49
    · have h1b : (c == 49) = true := by simpa using h1
      rw [if_pos h1]
      clear h1
      go_enter Tryz.func88, Tryz.ntmps88
      go_wp2_with (go_at_call 54; refine cF.mono ?_; rintro e w1 ⟨rfl, c1, c2, hb1⟩)
      go_ret2
      exact ⟨rfl, hb1⟩
    · have h1b : (c == 49) = false := by simpa using h1
      rw [if_neg h1]
      clear h1
      by_cases h2 : d = 49
      · have h2b : (d == 49) = true := by simpa using h2
        by_cases h3 : c = 44
        · subst h3
          rw [if_pos ⟨rfl, h2⟩]
          clear h2
          go_enter Tryz.func88, Tryz.ntmps88
          go_wp2_with (go_at_call 54; refine cF.mono ?_; rintro e w1 ⟨rfl, c1, c2, hb1⟩)
          go_ret2
          exact ⟨rfl, hb1⟩
        · have h3b : (c == 44) = false := by simpa using h3
          rw [if_neg (fun h => h3 h.1)]
          clear h3
          by_cases h4 : c = 41
          · subst h4
            rw [if_pos ⟨.inl rfl, h2⟩]
            clear h2
            go_enter Tryz.func88, Tryz.ntmps88
            go_wp2_with (go_at_call 54; refine cF.mono ?_; rintro e w1 ⟨rfl, c1, c2, hb1⟩)
            go_ret2
            exact ⟨rfl, hb1⟩
          · have h4b : (c == 41) = false := by simpa using h4
            by_cases h5 : c = 45
            · subst h5
              rw [if_pos ⟨.inr rfl, h2⟩]
              clear h2
              go_enter Tryz.func88, Tryz.ntmps88
              go_wp2_with (go_at_call 54; refine cF.mono ?_; rintro e w1 ⟨rfl, c1, c2, hb1⟩)
              go_ret2
              exact ⟨rfl, hb1⟩
            · have h5b : (c == 45) = false := by simpa using h5
              rw [if_neg (fun h => h.1.elim h4 h5)]
              clear h4 h5 h2
              go_enter Tryz.func88, Tryz.ntmps88
              go_wp2_with (go_at_call 54; refine cF.mono ?_; rintro e w1 ⟨rfl, c1, c2, hb1⟩)
              go_ret2
              exact ⟨rfl, hb1⟩
      · have h2b : (d == 49) = false := by simpa using h2
        rw [if_neg (fun h => h2 h.2), if_neg (fun h => h2 h.2)]
        clear h2
        by_cases h3 : c = 44
        · subst h3
          go_enter Tryz.func88, Tryz.ntmps88
          go_wp2_with (go_at_call 54; refine cF.mono ?_; rintro e w1 ⟨rfl, c1, c2, hb1⟩)
          go_ret2
          exact ⟨rfl, hb1⟩
        · have h3b : (c == 44) = false := by simpa using h3
          clear h3
          by_cases h4 : c = 41
          · subst h4
            go_enter Tryz.func88, Tryz.ntmps88
            go_wp2_with (go_at_call 54; refine cF.mono ?_; rintro e w1 ⟨rfl, c1, c2, hb1⟩)
            go_ret2
            exact ⟨rfl, hb1⟩
          · have h4b : (c == 41) = false := by simpa using h4
            clear h4
            by_cases h5 : c = 45
            · subst h5
              go_enter Tryz.func88, Tryz.ntmps88
              go_wp2_with (go_at_call 54; refine cF.mono ?_; rintro e w1 ⟨rfl, c1, c2, hb1⟩)
              go_ret2
              exact ⟨rfl, hb1⟩
            · have h5b : (c == 45) = false := by simpa using h5
              clear h5
              go_enter Tryz.func88, Tryz.ntmps88
              go_wp2_with (go_at_call 54; refine cF.mono ?_; rintro e w1 ⟨rfl, c1, c2, hb1⟩)
              go_ret2
              exact ⟨rfl, hb1⟩
end Go.Proofs.YtemhfcgkfdklhaaGreatDoor.Look
set_option linter.unusedVariables false
namespace Go.Proofs.YtemhfcgkfdklhaaGreatDoor.Look
open Go Go.RowKit Go.Shelf Go.Proofs Go.Proofs.YtemhfcgkfdklhaaGreatDoor.Rd

set_option maxHeartbeats 8000000 in
set_option maxRecDepth 100000 in
theorem cParse (a : Option Addr) (cp : Nat) (l : List Int) (w : World) (hl : RowB w a l) (hcp : l.length ≤ cp) (hn : cp ≤ 9223372036854775807) (hn2 : l.length ≤ 2000000) : Calls Tryz.prog 65 #[.slice a l.length cp] w fun e w' => e = .returned (.tuple #[.int .i64 (parseV l).1, .int .i64 (parseV l).2.1, .int .i64 (parseV l).2.2]) ∧ Below w.heap.size w w' := by
  match l with
  | [] =>
    clear hl
    show Calls _ _ #[.slice a 0 cp] w _
    go_enter Tryz.func65, Tryz.ntmps65
    go_wp2
    all_goals exact bodyPost_ret (v := .tuple #[.int .i64 0, .int .i64 0, .int .i64 0]) (by simp [results, Tryz.results65, go_sem]) rfl ⟨rfl, Below.refl _ _⟩
  | c :: t =>
    obtain ⟨b, off, rfl, hb, hc⟩ := hl (by simp)
    have hc0 : w.cell? ⟨b, off, none⟩ = some (.int .u8 c) := hc 0 c rfl
    have hrow : ∀ E, (t ≠ [] → E = some ⟨b, off + 1, none⟩) → RowB w E t := fun E hE ht => ⟨b, off + 1, hE ht, hb, fun j x hx => by
      have := hc (j + 1) x (by simpa using hx)
      rwa [show off + (j + 1) = off + 1 + j by omega] at this⟩
    rw [List.length_cons] at hcp hn2 ⊢
    have HT : Aside (t ≠ [] → ¬ cp = 1) := fun ht e => ht (List.eq_nil_of_length_eq_zero (by omega))
    replace hn2 : t.length ≤ 2000000 := by omega
    rw [parseV_cons]
    clear hl hc
    by_cases h41 : c = 41
    · subst h41
      rw [if_pos (.inl rfl)]
      have h2 := oneV_le t
      have H1 : Hid (∀ E, (t ≠ [] → E = some ⟨b, off + 1, none⟩) → Calls Tryz.prog 87 #[.slice E t.length (cp - 1)] w fun e w' => e = .returned (.tuple #[.int .i64 (oneV t).1, .int .i64 (oneV t).2]) ∧ Below w.heap.size w w') := fun E hE => cOne E (cp - 1) t w (hrow E hE) hn2
      have C1 := H1.out (if cp = 1 then some ⟨b, off, none⟩ else some ⟨b, off + 1, none⟩) (fun ht => if_neg (HT.out ht))
      clear H1
      generalize oneV t = R at C1 h2 ⊢
      obtain ⟨st, n⟩ := R
      simp only at C1 h2 ⊢
      have HC := Lib.hid C1
      clear C1 hrow HT
      obtain ⟨h2, h3, h4⟩ := h2
      clear h4
      by_cases h5 : 0 < n
      · rw [if_pos h5]
        have HN : Aside (0 ≤ n ∧ n ≤ 2000000 ∧ 0 < n) := ⟨h2, by omega, h5⟩
        clear h2 h3 h5 hn2
        go_enter Tryz.func65, Tryz.ntmps65
        go_wp2_with (go_at_call 87; refine HC.out.mono ?_; rintro e w1 ⟨rfl, hb1⟩; have k1 := HN.out.1; have k2 := HN.out.2.1; have k5 := HN.out.2.2; clear HN HC)
        all_goals exact bodyPost_ret (v := .tuple #[.int .i64 1, .int .i64 st, .int .i64 (n + 1)]) (by simp [results, Tryz.results65, go_sem]) rfl ⟨rfl, hb1⟩
      · rw [if_neg h5]
        have HN : Aside (0 ≤ n ∧ n ≤ 2000000 ∧ ¬ 0 < n) := ⟨h2, by omega, h5⟩
        clear h2 h3 h5 hn2
        go_enter Tryz.func65, Tryz.ntmps65
        go_wp2_with (go_at_call 87; refine HC.out.mono ?_; rintro e w1 ⟨rfl, hb1⟩; have k1 := HN.out.1; have k2 := HN.out.2.1; have k5 := HN.out.2.2; clear HN HC)
        all_goals exact bodyPost_ret (v := .tuple #[.int .i64 1, .int .i64 st, .int .i64 n]) (by simp [results, Tryz.results65, go_sem]) rfl ⟨rfl, hb1⟩
    · have b41 : (c == 41) = false := by simpa using h41
      by_cases h45 : c = 45
      · subst h45
        rw [if_pos (.inr rfl)]
        clear h41
        have h2 := oneV_le t
        have H1 : Hid (∀ E, (t ≠ [] → E = some ⟨b, off + 1, none⟩) → Calls Tryz.prog 87 #[.slice E t.length (cp - 1)] w fun e w' => e = .returned (.tuple #[.int .i64 (oneV t).1, .int .i64 (oneV t).2]) ∧ Below w.heap.size w w') := fun E hE => cOne E (cp - 1) t w (hrow E hE) hn2
        have C1 := H1.out (if cp = 1 then some ⟨b, off, none⟩ else some ⟨b, off + 1, none⟩) (fun ht => if_neg (HT.out ht))
        clear H1
        generalize oneV t = R at C1 h2 ⊢
        obtain ⟨st, n⟩ := R
        simp only at C1 h2 ⊢
        have HC := Lib.hid C1
        clear C1 hrow HT
        obtain ⟨h2, h3, h4⟩ := h2
        clear h4
        by_cases h5 : 0 < n
        · rw [if_pos h5]
          have HN : Aside (0 ≤ n ∧ n ≤ 2000000 ∧ 0 < n) := ⟨h2, by omega, h5⟩
          clear h2 h3 h5 hn2
          go_enter Tryz.func65, Tryz.ntmps65
          go_wp2_with (go_at_call 87; refine HC.out.mono ?_; rintro e w1 ⟨rfl, hb1⟩; have k1 := HN.out.1; have k2 := HN.out.2.1; have k5 := HN.out.2.2; clear HN HC)
          all_goals exact bodyPost_ret (v := .tuple #[.int .i64 1, .int .i64 st, .int .i64 (n + 1)]) (by simp [results, Tryz.results65, go_sem]) rfl ⟨rfl, hb1⟩
        · rw [if_neg h5]
          have HN : Aside (0 ≤ n ∧ n ≤ 2000000 ∧ ¬ 0 < n) := ⟨h2, by omega, h5⟩
          clear h2 h3 h5 hn2
          go_enter Tryz.func65, Tryz.ntmps65
          go_wp2_with (go_at_call 87; refine HC.out.mono ?_; rintro e w1 ⟨rfl, hb1⟩; have k1 := HN.out.1; have k2 := HN.out.2.1; have k5 := HN.out.2.2; clear HN HC)
          all_goals exact bodyPost_ret (v := .tuple #[.int .i64 1, .int .i64 st, .int .i64 n]) (by simp [results, Tryz.results65, go_sem]) rfl ⟨rfl, hb1⟩
      · have b45 : (c == 45) = false := by simpa using h45
        rw [if_neg (fun h => h.elim h41 h45)]
        clear h41 h45
        by_cases h40 : c = 40
        · subst h40
          rw [if_pos (.inl rfl)]
          have h2 := oneV_le t
          have H1 : Hid (∀ E, (t ≠ [] → E = some ⟨b, off + 1, none⟩) → Calls Tryz.prog 87 #[.slice E t.length (cp - 1)] w fun e w' => e = .returned (.tuple #[.int .i64 (oneV t).1, .int .i64 (oneV t).2]) ∧ Below w.heap.size w w') := fun E hE => cOne E (cp - 1) t w (hrow E hE) hn2
          have C1 := H1.out (if cp = 1 then some ⟨b, off, none⟩ else some ⟨b, off + 1, none⟩) (fun ht => if_neg (HT.out ht))
          clear H1
          generalize oneV t = R at C1 h2 ⊢
          obtain ⟨st, n⟩ := R
          simp only at C1 h2 ⊢
          have HC := Lib.hid C1
          clear C1 hrow HT
          obtain ⟨h2, h3, h4⟩ := h2
          clear h4
          by_cases h5 : 0 < n
          · rw [if_pos h5]
            have HN : Aside (0 ≤ n ∧ n ≤ 2000000 ∧ 0 < n) := ⟨h2, by omega, h5⟩
            clear h2 h3 h5 hn2
            go_enter Tryz.func65, Tryz.ntmps65
            go_wp2_with (go_at_call 87; refine HC.out.mono ?_; rintro e w1 ⟨rfl, hb1⟩; have k1 := HN.out.1; have k2 := HN.out.2.1; have k5 := HN.out.2.2; clear HN HC)
            all_goals exact bodyPost_ret (v := .tuple #[.int .i64 0, .int .i64 st, .int .i64 (n + 1)]) (by simp [results, Tryz.results65, go_sem]) rfl ⟨rfl, hb1⟩
          · rw [if_neg h5]
            have HN : Aside (0 ≤ n ∧ n ≤ 2000000 ∧ ¬ 0 < n) := ⟨h2, by omega, h5⟩
            clear h2 h3 h5 hn2
            go_enter Tryz.func65, Tryz.ntmps65
            go_wp2_with (go_at_call 87; refine HC.out.mono ?_; rintro e w1 ⟨rfl, hb1⟩; have k1 := HN.out.1; have k2 := HN.out.2.1; have k5 := HN.out.2.2; clear HN HC)
            all_goals exact bodyPost_ret (v := .tuple #[.int .i64 0, .int .i64 st, .int .i64 n]) (by simp [results, Tryz.results65, go_sem]) rfl ⟨rfl, hb1⟩
        · have b40 : (c == 40) = false := by simpa using h40
          by_cases h44 : c = 44
          · subst h44
            rw [if_pos (.inr rfl)]
            clear h40
            have h2 := oneV_le t
            have H1 : Hid (∀ E, (t ≠ [] → E = some ⟨b, off + 1, none⟩) → Calls Tryz.prog 87 #[.slice E t.length (cp - 1)] w fun e w' => e = .returned (.tuple #[.int .i64 (oneV t).1, .int .i64 (oneV t).2]) ∧ Below w.heap.size w w') := fun E hE => cOne E (cp - 1) t w (hrow E hE) hn2
            have C1 := H1.out (if cp = 1 then some ⟨b, off, none⟩ else some ⟨b, off + 1, none⟩) (fun ht => if_neg (HT.out ht))
            clear H1
            generalize oneV t = R at C1 h2 ⊢
            obtain ⟨st, n⟩ := R
            simp only at C1 h2 ⊢
            have HC := Lib.hid C1
            clear C1 hrow HT
            obtain ⟨h2, h3, h4⟩ := h2
            clear h4
            by_cases h5 : 0 < n
            · rw [if_pos h5]
              have HN : Aside (0 ≤ n ∧ n ≤ 2000000 ∧ 0 < n) := ⟨h2, by omega, h5⟩
              clear h2 h3 h5 hn2
              go_enter Tryz.func65, Tryz.ntmps65
              go_wp2_with (go_at_call 87; refine HC.out.mono ?_; rintro e w1 ⟨rfl, hb1⟩; have k1 := HN.out.1; have k2 := HN.out.2.1; have k5 := HN.out.2.2; clear HN HC)
              all_goals exact bodyPost_ret (v := .tuple #[.int .i64 0, .int .i64 st, .int .i64 (n + 1)]) (by simp [results, Tryz.results65, go_sem]) rfl ⟨rfl, hb1⟩
            · rw [if_neg h5]
              have HN : Aside (0 ≤ n ∧ n ≤ 2000000 ∧ ¬ 0 < n) := ⟨h2, by omega, h5⟩
              clear h2 h3 h5 hn2
              go_enter Tryz.func65, Tryz.ntmps65
              go_wp2_with (go_at_call 87; refine HC.out.mono ?_; rintro e w1 ⟨rfl, hb1⟩; have k1 := HN.out.1; have k2 := HN.out.2.1; have k5 := HN.out.2.2; clear HN HC)
              all_goals exact bodyPost_ret (v := .tuple #[.int .i64 0, .int .i64 st, .int .i64 n]) (by simp [results, Tryz.results65, go_sem]) rfl ⟨rfl, hb1⟩
          · have b44 : (c == 44) = false := by simpa using h44
            rw [if_neg (fun h => h.elim h40 h44)]
            clear h40 h44
            by_cases h36 : c = 36
            · subst h36
              rw [if_pos rfl]
              have h2 := eastV_le t
              have H1 : Hid (∀ E, (t ≠ [] → E = some ⟨b, off + 1, none⟩) → Calls Tryz.prog 88 #[.slice E t.length (cp - 1)] w fun e w' => e = .returned (.tuple #[.int .i64 (eastV t).1, .int .i64 (eastV t).2]) ∧ Below w.heap.size w w') := fun E hE => cEast E (cp - 1) t w (hrow E hE) hn2
              have C1 := H1.out (if cp = 1 then some ⟨b, off, none⟩ else some ⟨b, off + 1, none⟩) (fun ht => if_neg (HT.out ht))
              clear H1
              generalize eastV t = R at C1 h2 ⊢
              obtain ⟨sd, n⟩ := R
              simp only at C1 h2 ⊢
              have HC := Lib.hid C1
              clear C1 hrow HT
              obtain ⟨h2, h3, h4⟩ := h2
              clear h4
              by_cases h5 : 0 < n
              · rw [if_pos h5]
                have HN : Aside (0 ≤ n ∧ n ≤ 2000000 ∧ 0 < n) := ⟨h2, by omega, h5⟩
                clear h2 h3 h5 hn2
                go_enter Tryz.func65, Tryz.ntmps65
                go_wp2_with (go_at_call 88; refine HC.out.mono ?_; rintro e w1 ⟨rfl, hb1⟩; have k1 := HN.out.1; have k2 := HN.out.2.1; have k5 := HN.out.2.2; clear HN HC)
                all_goals exact bodyPost_ret (v := .tuple #[.int .i64 sd, .int .i64 9, .int .i64 (n + 1)]) (by simp [results, Tryz.results65, go_sem]) rfl ⟨rfl, hb1⟩
              · rw [if_neg h5]
                have HN : Aside (0 ≤ n ∧ n ≤ 2000000 ∧ ¬ 0 < n) := ⟨h2, by omega, h5⟩
                clear h2 h3 h5 hn2
                go_enter Tryz.func65, Tryz.ntmps65
                go_wp2_with (go_at_call 88; refine HC.out.mono ?_; rintro e w1 ⟨rfl, hb1⟩; have k1 := HN.out.1; have k2 := HN.out.2.1; have k5 := HN.out.2.2; clear HN HC)
                all_goals exact bodyPost_ret (v := .tuple #[.int .i64 sd, .int .i64 9, .int .i64 n]) (by simp [results, Tryz.results65, go_sem]) rfl ⟨rfl, hb1⟩
            · have b36 : (c == 36) = false := by simpa using h36
              rw [if_neg h36]
              clear h36 hrow HT
              have h2 := smallV_le c
              have cS := cSmallE c w
              generalize smallV c = n at cS h2 ⊢
              obtain ⟨h2, h3⟩ := h2
              by_cases h5 : 0 < n
              · rw [if_pos h5]
                go_enter Tryz.func65, Tryz.ntmps65
                go_wp2_with (go_at_call 89; refine cS.mono ?_; rintro e w1 ⟨rfl, hb1⟩)
                all_goals exact bodyPost_ret (v := .tuple #[.int .i64 0, .int .i64 n, .int .i64 1]) (by simp [results, Tryz.results65, go_sem]) rfl ⟨rfl, hb1⟩
              · rw [if_neg h5]
                go_enter Tryz.func65, Tryz.ntmps65
                go_wp2_with (go_at_call 89; refine cS.mono ?_; rintro e w1 ⟨rfl, hb1⟩)
                all_goals exact bodyPost_ret (v := .tuple #[.int .i64 0, .int .i64 n, .int .i64 0]) (by simp [results, Tryz.results65, go_sem]) rfl ⟨rfl, hb1⟩
end Go.Proofs.YtemhfcgkfdklhaaGreatDoor.Look
set_option linter.unusedVariables false
namespace Go.Proofs.YtemhfcgkfdklhaaGreatDoor.Look
open Go Go.RowKit Go.Shelf Go.Proofs Go.Proofs.YtemhfcgkfdklhaaGreatDoor.Rd

theorem RowB.drop {w : World} {b off k : Nat} {l : List Int} (h : RowB w (some ⟨b, off, none⟩) l) {E : Option Addr} (hE : l.drop k ≠ [] → E = some ⟨b, off + k, none⟩) : RowB w E (l.drop k) := fun hne => by
  have hl : l ≠ [] := fun e => by rw [e] at hne; simp at hne
  obtain ⟨b', off', e, h1, h2⟩ := h hl
  simp only [Option.some.injEq, Addr.mk.injEq, and_true] at e
  obtain ⟨rfl, rfl⟩ := e
  refine ⟨b, off + k, hE hne, h1, fun j x hx => ?_⟩
  rw [List.getElem?_drop] at hx
  rw [Nat.add_assoc]
  exact h2 _ x hx

/-- A variable of two numbers. -/
structure Cells2 (w : World) (b : Nat) (x y : Int) : Prop where
  c0 : w.cell? ⟨b, 0, none⟩ = some (.int .i64 x)
  c1 : w.cell? ⟨b, 1, none⟩ = some (.int .i64 y)
  f0 : w.frozen? ⟨b, 0, none⟩ = false
  f1 : w.frozen? ⟨b, 1, none⟩ = false
  lt : b < w.heap.size
theorem cells2_of {w : World} {b : Nat} {x y : Int} (t : TypeId) (h : w.heap[b]? = some (.cells #[.int .i64 x, .int .i64 y] t)) : Cells2 w b x y :=
  ⟨by simp [World.cell?, h], by simp [World.cell?, h], by simp [World.frozen?, h], by simp [World.frozen?, h], (Array.getElem?_eq_some_iff.1 h).1⟩
set_option maxHeartbeats 8000000 in
set_option maxRecDepth 100000 in
theorem cNextE (a : Option Addr) (cp k : Nat) (l : List Int) (g0 g1 : Int) (w : World) (hl : RowB w a l) (hcp : l.length ≤ cp) (hn : cp ≤ 9223372036854775807) (hn2 : l.length ≤ 2000000) (hk : l[k]? = some 27) :
    Calls Tryz.prog 46 #[.slice a l.length cp, .int .i64 k, .agg #[.int .i64 g0, .int .i64 g1]] w fun e w' => (e = if (parseV (l.drop (k + 1))).2.2 = 0 then .returned (.tuple #[.agg #[.int .i64 0, .int .i64 0], .int .i64 0, .agg #[.int .i64 5, .int .i64 k]])
      else .returned (.tuple #[.agg #[.int .i64 (if (parseV (l.drop (k + 1))).1 = 0 then (parseV (l.drop (k + 1))).2.1 else g0), .int .i64 (if (parseV (l.drop (k + 1))).1 = 0 then g1 else (parseV (l.drop (k + 1))).2.1)], .int .i64 ((parseV (l.drop (k + 1))).2.2 + 1), .agg #[.int .i64 0, .int .i64 0]])) ∧ Below w.heap.size w w' := by
  have hkl : k < l.length := (List.getElem?_eq_some_iff.1 hk).1
  obtain ⟨b, off, rfl, hb, hc⟩ := hl (fun e => by rw [e] at hkl; simp at hkl)
  have hc0 : w.cell? ⟨b, off + k, none⟩ = some (.int .u8 27) := hc k 27 hk
  have H1 : Hid (∀ W E cp', Below w.heap.size w W → (l.drop (k + 1) ≠ [] → E = some ⟨b, off + (k + 1), none⟩) → l.length - (k + 1) ≤ cp' → cp' ≤ cp → Calls Tryz.prog 65 #[.slice E (l.length - (k + 1)) cp'] W fun e w' => e = .returned (.tuple #[.int .i64 (parseV (l.drop (k + 1))).1, .int .i64 (parseV (l.drop (k + 1))).2.1, .int .i64 (parseV (l.drop (k + 1))).2.2]) ∧ Below W.heap.size W w') := fun W E cp' hW hE h1 h2 => by
    have := cParse E cp' (l.drop (k + 1)) W ((hl.below hW).drop hE) (by rw [List.length_drop]; exact h1) (by omega) (by rw [List.length_drop]; omega)
    rwa [List.length_drop] at this
  have HT : Aside (l.drop (k + 1) ≠ [] → k + 1 < l.length) := fun h => by
    have := List.length_pos_iff.2 h
    rw [List.length_drop] at this
    omega
  have hpl := parseV_le (l.drop (k + 1))
  rw [List.length_drop] at hpl
  obtain ⟨N, hN⟩ : ∃ N, N = l.length := ⟨_, rfl⟩
  rw [← hN] at H1 HT hcp hn2 hkl hpl ⊢
  generalize parseV (l.drop (k + 1)) = R at H1 hpl ⊢
  obtain ⟨sd, st, n⟩ := R
  simp only at H1 hpl ⊢
  have HP : Aside (0 ≤ n ∧ n ≤ 2000000) := ⟨hpl.1, by omega⟩
  have hcW : (((w.alloc (.cells #[.int .i64 g0, .int .i64 g1] 53)).alloc (.cells #[.int .i64 0, .int .i64 0] 53)).alloc (.cells #[.int .i64 0, .int .i64 0] 26)).cell? ⟨b, off + k, none⟩ = some (.int .u8 27) := by
    rw [World.cell?_alloc_lt _ _ _ (by simp; omega), World.cell?_alloc_lt _ _ _ (by simp; omega), World.cell?_alloc_lt _ _ _ hb]
    exact hc0
  have hbW : Below w.heap.size w (((w.alloc (.cells #[.int .i64 g0, .int .i64 g1] 53)).alloc (.cells #[.int .i64 0, .int .i64 0] 53)).alloc (.cells #[.int .i64 0, .int .i64 0] 26)) := (((Below.refl _ w).alloc (Nat.le_refl _) _).alloc (by simp) _).alloc (by simp; omega) _
  have HN2 : Aside (N - (k + 1) ≤ cp - (k + 1) ∧ cp - (k + 1) ≤ cp) := ⟨by omega, by omega⟩
  clear hpl hl hc hk hN hc0
  have hkz : (k : Int) < (N : Int) := by omega
  have hk0 : (0 : Int) ≤ (k : Int) := by omega
  have hkd : decide ((k : Int) < 0) = false := decide_eq_false (by omega)
  have hkd2 : decide (N ≤ k) = false := decide_eq_false (by omega)
  have hn0 : ∀ (u : World) (o : Obj), (u.alloc o).heap[u.heap.size]? = some o := fun u o => (MapKept.heap_alloc u o).1
  have ho0 : ∀ (u : World) (o : Obj) (k : Nat), k < u.heap.size → (u.alloc o).heap[k]? = u.heap[k]? := fun u o k hk => (World.grownBy_alloc u o none).block k hk (by simp)
  have C1 : Calls Tryz.prog 65 #[.slice (if cp = k + 1 then some ⟨b, off, none⟩ else some ⟨b, off + (k + 1), none⟩) (N - (k + 1)) (cp - (k + 1))] (((w.alloc (.cells #[.int .i64 g0, .int .i64 g1] 53)).alloc (.cells #[.int .i64 0, .int .i64 0] 53)).alloc (.cells #[.int .i64 0, .int .i64 0] 26)) fun e w' => e = .returned (.tuple #[.int .i64 sd, .int .i64 st, .int .i64 n]) ∧
      Aside (Below w.heap.size w w') ∧ Cells2 w' w.heap.size g0 g1 ∧ Cells2 w' (w.heap.size + 1) 0 0 ∧ Cells2 w' (w.heap.size + 1 + 1) 0 0 := by
    refine (H1.out _ _ _ hbW (fun ht => if_neg fun e => by have := HT.out ht; omega) HN2.out.1 HN2.out.2).mono ?_
    rintro e w' ⟨rfl, hb2⟩
    have k0 := hn0 w (.cells #[.int .i64 g0, .int .i64 g1] 53)
    have k1 := hn0 (w.alloc (.cells #[.int .i64 g0, .int .i64 g1] 53)) (.cells #[.int .i64 0, .int .i64 0] 53)
    have k2 := hn0 ((w.alloc (.cells #[.int .i64 g0, .int .i64 g1] 53)).alloc (.cells #[.int .i64 0, .int .i64 0] 53)) (.cells #[.int .i64 0, .int .i64 0] 26)
    rw [World.size_alloc] at k1
    rw [World.size_alloc, World.size_alloc] at k2
    refine ⟨rfl, hbW.trans (hb2.mono hbW.size), cells2_of _ ((hb2.block _ (by simp; omega)).trans ((ho0 _ _ _ (by simp; omega)).trans ((ho0 _ _ _ (by simp)).trans k0))), cells2_of _ ((hb2.block _ (by simp)).trans ((ho0 _ _ _ (by simp)).trans k1)), cells2_of _ ((hb2.block _ (by simp)).trans k2)⟩
  have HC := Lib.hid C1
  clear C1 H1 HT HN2 hn0 ho0 hbW
  by_cases hz : n = 0
  · subst hz
    rw [if_pos rfl]
    go_enter Tryz.func46, Tryz.ntmps46
    go_wp2_with (go_at_call 65; refine HC.out.mono ?_; rintro e w1 ⟨rfl, hb1, ⟨x00, x01, xf0, xf1, xl⟩, ⟨y00, y01, yf0, yf1, yl⟩, ⟨z00, z01, zf0, zf1, zl⟩⟩; clear HC)
    all_goals refine bodyPost_ret (v := .tuple #[.agg #[.int .i64 0, .int .i64 0], .int .i64 0, .agg #[.int .i64 5, .int .i64 k]]) ?_ rfl ⟨rfl, ?_⟩
    all_goals first | (simp [results, Tryz.results46, go_sem, x00, x01, y00, y01, z00, z01, xl, yl, zl]; done) | exact ((((hb1.out.setCell (p := ⟨w.heap.size + 1, 0, none⟩) (Nat.le_add_right w.heap.size 1) _).setCell (p := ⟨w.heap.size + 1, 1, none⟩) (Nat.le_add_right w.heap.size 1) _).setCell (p := ⟨w.heap.size + 1 + 1, 0, none⟩) (Nat.le_add_right w.heap.size 2) _).setCell (p := ⟨w.heap.size + 1 + 1, 1, none⟩) (Nat.le_add_right w.heap.size 2) _)
  · rw [if_neg hz]
    have hzb : (n == 0) = false := by simpa using hz
    obtain ⟨p1, p2⟩ := HP.out
    by_cases hs : sd = 0
    · subst hs
      rw [if_pos rfl, if_pos rfl]
      have HQ : Aside (0 ≤ n ∧ n ≤ 2000000) := ⟨p1, p2⟩
      clear p1 p2 HP
      go_enter Tryz.func46, Tryz.ntmps46
      go_wp2_with (go_at_call 65; refine HC.out.mono ?_; rintro e w1 ⟨rfl, hb1, ⟨x00, x01, xf0, xf1, xl⟩, ⟨y00, y01, yf0, yf1, yl⟩, ⟨z00, z01, zf0, zf1, zl⟩⟩; have p1 := HQ.out.1; have p2 := HQ.out.2; clear HC HQ)
      all_goals refine bodyPost_ret (v := .tuple #[.agg #[.int .i64 st, .int .i64 g1], .int .i64 (n + 1), .agg #[.int .i64 0, .int .i64 0]]) ?_ rfl ⟨rfl, ?_⟩
      all_goals first | (simp [results, Tryz.results46, go_sem, x00, x01, y00, y01, z00, z01, xl, yl, zl]; done) | exact (((((hb1.out.setCell (p := ⟨w.heap.size, 0, none⟩) (Nat.le_refl _) _).setCell (p := ⟨w.heap.size + 1, 0, none⟩) (Nat.le_add_right w.heap.size 1) _).setCell (p := ⟨w.heap.size + 1, 1, none⟩) (Nat.le_add_right w.heap.size 1) _).setCell (p := ⟨w.heap.size + 1 + 1, 0, none⟩) (Nat.le_add_right w.heap.size 2) _).setCell (p := ⟨w.heap.size + 1 + 1, 1, none⟩) (Nat.le_add_right w.heap.size 2) _)
    · rw [if_neg hs, if_neg hs]
      have hsb : (sd == 0) = false := by simpa using hs
      have HQ : Aside (0 ≤ n ∧ n ≤ 2000000) := ⟨p1, p2⟩
      clear p1 p2 HP
      go_enter Tryz.func46, Tryz.ntmps46
      go_wp2_with (go_at_call 65; refine HC.out.mono ?_; rintro e w1 ⟨rfl, hb1, ⟨x00, x01, xf0, xf1, xl⟩, ⟨y00, y01, yf0, yf1, yl⟩, ⟨z00, z01, zf0, zf1, zl⟩⟩; have p1 := HQ.out.1; have p2 := HQ.out.2; clear HC HQ)
      all_goals refine bodyPost_ret (v := .tuple #[.agg #[.int .i64 g0, .int .i64 st], .int .i64 (n + 1), .agg #[.int .i64 0, .int .i64 0]]) ?_ rfl ⟨rfl, ?_⟩
      all_goals first | (simp [results, Tryz.results46, go_sem, x00, x01, y00, y01, z00, z01, xl, yl, zl]; done) | exact (((((hb1.out.setCell (p := ⟨w.heap.size, 1, none⟩) (Nat.le_refl _) _).setCell (p := ⟨w.heap.size + 1, 0, none⟩) (Nat.le_add_right w.heap.size 1) _).setCell (p := ⟨w.heap.size + 1, 1, none⟩) (Nat.le_add_right w.heap.size 1) _).setCell (p := ⟨w.heap.size + 1 + 1, 0, none⟩) (Nat.le_add_right w.heap.size 2) _).setCell (p := ⟨w.heap.size + 1 + 1, 1, none⟩) (Nat.le_add_right w.heap.size 2) _)
end Go.Proofs.YtemhfcgkfdklhaaGreatDoor.Look
