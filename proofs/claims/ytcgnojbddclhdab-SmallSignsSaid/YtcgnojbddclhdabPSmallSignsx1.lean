/- Begun as a text of print.sh, over a translation in which a function has a stand-in; what the stand-in changes is proved by hand. -/
import Derived.Test.YtcgnojbddclhdabPSmallSignsx0
namespace Go.Proofs.Ytcgnojbddclhdab.PSmallSigns
open Go.RowKit Go.Proofs.YtcgnojbddclhdabW.PrintWords Go.Proofs.YtcgnojbddclhdabW.PrintLast Go.Proofs.YtcgnojbddclhdabW.PrintMore
attribute [local go_sem] max2_int min2_int max_two min_two max_three min_three max_four min_four   -- for this text's walks alone
set_option linter.unusedVariables false
set_option linter.unusedSimpArgs false

/-! ### small_digit: function 17 -/
def small_digit.f (a0 : Int) : Option (Bool) := if a0 ≥ 48 then (some (decide (a0 ≤ 57))) else (some false)
set_option maxHeartbeats 8000000 in
set_option maxRecDepth 100000 in
theorem small_digit.calls (a0 : Int) (r : Bool) (w : World) (h : small_digit.f a0 = some r) :
    Calls Try.prog 17 #[.int .i64 a0] w fun e w' => e = .returned (.bool r) ∧ Drawn0 w w' := by
  have H : (if a0 ≥ 48 then (some (decide (a0 ≤ 57))) else (some false)) = some r := h
  clear h
  by_cases c2 : a0 ≥ 48
  · rw [if_pos c2] at H
    have c2b0 : decide (48 ≤ a0) = true := decide_eq_true c2
    clear c2
    obtain rfl := Option.some.inj H
    go_enter Try.func17, Try.ntmps17
    go_wp2
    go_ret
    exact ⟨by first | rfl | (simp; done) | (simp [*]; done), by repeat (first | exact Drawn0.refl _ | apply Drawn0.step)⟩
  · rw [if_neg c2] at H
    have c2b0 : decide (48 ≤ a0) = false := decide_eq_false c2
    clear c2
    obtain rfl := Option.some.inj H
    go_enter Try.func17, Try.ntmps17
    go_wp2
    go_ret
    exact ⟨by first | rfl | (simp; done) | (simp [*]; done), by repeat (first | exact Drawn0.refl _ | apply Drawn0.step)⟩

/-! ### small_signs: function 18 -/
def small_signs.f (a0 : Int) (a1 : Int) : Option (Int × Bool) := if a0 = 43 then (some (a1, true)) else (if a0 = 45 then (some (wrap32 (a1 + 1), true)) else (if a0 = 40 then (some (wrap32 (a1 + 3), true)) else (if a0 = 41 then (some (wrap32 (a1 + 4), true)) else (some (0, false)))))
set_option maxHeartbeats 8000000 in
set_option maxRecDepth 100000 in
theorem small_signs.calls (a0 : Int) (a1 : Int) (r1 : Int) (r2 : Bool) (w : World) (h : small_signs.f a0 a1 = some (r1, r2)) :
    Calls Try.prog 18 #[.int .i64 a0, .int .i32 a1] w fun e w' => e = .returned (.tuple #[.int .i32 r1, .bool r2]) ∧ Drawn0 w w' := by
  have H : (if a0 = 43 then (some (a1, true)) else (if a0 = 45 then (some (wrap32 (a1 + 1), true)) else (if a0 = 40 then (some (wrap32 (a1 + 3), true)) else (if a0 = 41 then (some (wrap32 (a1 + 4), true)) else (some (0, false)))))) = some (r1, r2) := h
  clear h
  by_cases c3 : a0 = 43
  · rw [if_pos c3] at H
    have c3b0 : (a0 == 43) = true := beq_iff_eq.mpr c3
    have c3b1 : (a0 != 43) = false := bne_eq_false_iff_eq.mpr c3
    clear c3
    simp only [Option.some.injEq, Prod.mk.injEq] at H
    obtain ⟨rfl, rfl⟩ := H
    go_enter Try.func18, Try.ntmps18
    go_wp2
    go_ret2
    exact ⟨by first | rfl | (simp; done) | (simp [*]; done), by repeat (first | exact Drawn0.refl _ | apply Drawn0.step)⟩
  · rw [if_neg c3] at H
    have c3b0 : (a0 == 43) = false := beq_eq_false_iff_ne.mpr c3
    have c3b1 : (a0 != 43) = true := bne_iff_ne.mpr c3
    by_cases c4 : a0 = 45
    · rw [if_pos c4] at H
      have c4b0 : (a0 == 45) = true := beq_iff_eq.mpr c4
      have c4b1 : (a0 != 45) = false := bne_eq_false_iff_eq.mpr c4
      clear c4
      simp only [Option.some.injEq, Prod.mk.injEq] at H
      obtain ⟨rfl, rfl⟩ := H
      go_enter Try.func18, Try.ntmps18
      go_wp2
      go_ret2
      exact ⟨by first | rfl | (simp; done) | (simp [*]; done), by repeat (first | exact Drawn0.refl _ | apply Drawn0.step)⟩
    · rw [if_neg c4] at H
      have c4b0 : (a0 == 45) = false := beq_eq_false_iff_ne.mpr c4
      have c4b1 : (a0 != 45) = true := bne_iff_ne.mpr c4
      by_cases c5 : a0 = 40
      · rw [if_pos c5] at H
        have c5b0 : (a0 == 40) = true := beq_iff_eq.mpr c5
        have c5b1 : (a0 != 40) = false := bne_eq_false_iff_eq.mpr c5
        clear c5
        simp only [Option.some.injEq, Prod.mk.injEq] at H
        obtain ⟨rfl, rfl⟩ := H
        go_enter Try.func18, Try.ntmps18
        go_wp2
        go_ret2
        exact ⟨by first | rfl | (simp; done) | (simp [*]; done), by repeat (first | exact Drawn0.refl _ | apply Drawn0.step)⟩
      · rw [if_neg c5] at H
        have c5b0 : (a0 == 40) = false := beq_eq_false_iff_ne.mpr c5
        have c5b1 : (a0 != 40) = true := bne_iff_ne.mpr c5
        by_cases c6 : a0 = 41
        · rw [if_pos c6] at H
          have c6b0 : (a0 == 41) = true := beq_iff_eq.mpr c6
          have c6b1 : (a0 != 41) = false := bne_eq_false_iff_eq.mpr c6
          clear c6
          simp only [Option.some.injEq, Prod.mk.injEq] at H
          obtain ⟨rfl, rfl⟩ := H
          go_enter Try.func18, Try.ntmps18
          go_wp2
          go_ret2
          exact ⟨by first | rfl | (simp; done) | (simp [*]; done), by repeat (first | exact Drawn0.refl _ | apply Drawn0.step)⟩
        · rw [if_neg c6] at H
          have c6b0 : (a0 == 41) = false := beq_eq_false_iff_ne.mpr c6
          have c6b1 : (a0 != 41) = true := bne_iff_ne.mpr c6
          simp only [Option.some.injEq, Prod.mk.injEq] at H
          obtain ⟨rfl, rfl⟩ := H
          go_enter Try.func18, Try.ntmps18
          go_wp2
          go_ret2
          exact ⟨by first | rfl | (simp; done) | (simp [*]; done), by repeat (first | exact Drawn0.refl _ | apply Drawn0.step)⟩

/-! ### small_raised: function 19 -/
def small_raised.f (a0 : Int) : Option (Int × Bool) := if a0 = 49 then (some (185, true)) else (if a0 = 50 then (some (wrap32 (178 + (wrap32 (wrap64 (a0 - 50)))), true)) else (if a0 = 51 then (some (wrap32 (178 + (wrap32 (wrap64 (a0 - 50)))), true)) else (some (wrap32 (8304 + (wrap32 (wrap64 (a0 - 48)))), true))))
set_option maxHeartbeats 8000000 in
set_option maxRecDepth 100000 in
theorem small_raised.calls (a0 : Int) (r1 : Int) (r2 : Bool) (w : World) (h : small_raised.f a0 = some (r1, r2)) :
    Calls Try.prog 19 #[.int .i64 a0] w fun e w' => e = .returned (.tuple #[.int .i32 r1, .bool r2]) ∧ Drawn0 w w' := by
  have H : (if a0 = 49 then (some (185, true)) else (if a0 = 50 then (some (wrap32 (178 + (wrap32 (wrap64 (a0 - 50)))), true)) else (if a0 = 51 then (some (wrap32 (178 + (wrap32 (wrap64 (a0 - 50)))), true)) else (some (wrap32 (8304 + (wrap32 (wrap64 (a0 - 48)))), true))))) = some (r1, r2) := h
  clear h
  by_cases c2 : a0 = 49
  · rw [if_pos c2] at H
    have c2b0 : (a0 == 49) = true := beq_iff_eq.mpr c2
    have c2b1 : (a0 != 49) = false := bne_eq_false_iff_eq.mpr c2
    clear c2
    simp only [Option.some.injEq, Prod.mk.injEq] at H
    obtain ⟨rfl, rfl⟩ := H
    go_enter Try.func19, Try.ntmps19
    go_wp2
    go_ret2
    exact ⟨by first | rfl | (simp; done) | (simp [*]; done), by repeat (first | exact Drawn0.refl _ | apply Drawn0.step)⟩
  · rw [if_neg c2] at H
    have c2b0 : (a0 == 49) = false := beq_eq_false_iff_ne.mpr c2
    have c2b1 : (a0 != 49) = true := bne_iff_ne.mpr c2
    by_cases c3 : a0 = 50
    · rw [if_pos c3] at H
      have c3b0 : (a0 == 50) = true := beq_iff_eq.mpr c3
      have c3b1 : (a0 != 50) = false := bne_eq_false_iff_eq.mpr c3
      clear c3
      simp only [Option.some.injEq, Prod.mk.injEq] at H
      obtain ⟨rfl, rfl⟩ := H
      go_enter Try.func19, Try.ntmps19
      go_wp2
      go_ret2
      exact ⟨by first | rfl | (simp; done) | (simp [*]; done), by repeat (first | exact Drawn0.refl _ | apply Drawn0.step)⟩
    · rw [if_neg c3] at H
      have c3b0 : (a0 == 50) = false := beq_eq_false_iff_ne.mpr c3
      have c3b1 : (a0 != 50) = true := bne_iff_ne.mpr c3
      by_cases c4 : a0 = 51
      · rw [if_pos c4] at H
        have c4b0 : (a0 == 51) = true := beq_iff_eq.mpr c4
        have c4b1 : (a0 != 51) = false := bne_eq_false_iff_eq.mpr c4
        clear c4
        simp only [Option.some.injEq, Prod.mk.injEq] at H
        obtain ⟨rfl, rfl⟩ := H
        go_enter Try.func19, Try.ntmps19
        go_wp2
        go_ret2
        exact ⟨by first | rfl | (simp; done) | (simp [*]; done), by repeat (first | exact Drawn0.refl _ | apply Drawn0.step)⟩
      · rw [if_neg c4] at H
        have c4b0 : (a0 == 51) = false := beq_eq_false_iff_ne.mpr c4
        have c4b1 : (a0 != 51) = true := bne_iff_ne.mpr c4
        simp only [Option.some.injEq, Prod.mk.injEq] at H
        obtain ⟨rfl, rfl⟩ := H
        go_enter Try.func19, Try.ntmps19
        go_wp2
        go_ret2
        exact ⟨by first | rfl | (simp; done) | (simp [*]; done), by repeat (first | exact Drawn0.refl _ | apply Drawn0.step)⟩

/-! ### small_Rune: function 7 -/
mutual
def small_Rune.j0 : Nat → Int → Int → Bool → Option (Int × Bool)
  | 0, _, _, _ => none
  | k + 1, x0, x1, x6 => if x6 = true then (some (wrap32 (8320 + (wrap32 (wrap64 (x1 - 48)))), true)) else (if x0 = 10 then ((small_signs.f x1 8330).bind fun bt102 => (some (bt102.1, bt102.2))) else (if x0 = 11 then ((small_digit.f x1).bind fun t104 => (small_Rune.j1 k x0 x1 t104)) else (small_Rune.j1 k x0 x1 false)))
def small_Rune.j1 : Nat → Int → Int → Bool → Option (Int × Bool)
  | 0, _, _, _ => none
  | k + 1, x0, x1, x24 => if x24 = true then ((small_raised.f x1).bind fun bt105 => (some (bt105.1, bt105.2))) else (if x0 = 11 then ((small_signs.f x1 8314).bind fun bt107 => (some (bt107.1, bt107.2))) else (if x0 = 12 then (if x1 ≥ 97 then (if x1 ≤ 99 then (some (wrap32 (945 + (wrap32 (wrap64 (x1 - 97)))), true)) else (some (0, false))) else (some (0, false))) else (some (0, false))))
end
def small_Rune.f (k : Nat) (a0 : Int) (a1 : Int) : Option (Int × Bool) := if a0 = 10 then ((small_digit.f a1).bind fun t101 => (small_Rune.j0 k a0 a1 t101)) else (small_Rune.j0 k a0 a1 false)
theorem small_Rune.mono_l : ∀ k, (∀ y0 y1 y2, LeO (small_Rune.j0 k y0 y1 y2) (small_Rune.j0 (k + 1) y0 y1 y2)) ∧ (∀ y0 y1 y2, LeO (small_Rune.j1 k y0 y1 y2) (small_Rune.j1 (k + 1) y0 y1 y2))
  | 0 => ⟨fun _ _ _ r h => by simp [small_Rune.j0] at h, fun _ _ _ r h => by simp [small_Rune.j1] at h⟩
  | k + 1 => by
    obtain ⟨ih0, ih1⟩ := small_Rune.mono_l k
    refine ⟨?_, ?_⟩
    · intro y0 y1 y2
      unfold small_Rune.j0
      repeat' first
      | (with_reducible exact ih0 _ _ _)
      | (with_reducible exact ih1 _ _ _)
      | (with_reducible exact LeO.refl _)
      | (with_reducible exact LeO.none _)
      | (with_reducible refine LeO.ite ?_ ?_)
      | (with_reducible refine LeO.bind ?_ (fun _ => ?_))
      | exact ih0 _ _ _
      | exact ih1 _ _ _
      | exact LeO.none _
      | refine LeO.ite ?_ ?_
      | refine LeO.bind ?_ (fun _ => ?_)
    · intro y0 y1 y2
      unfold small_Rune.j1
      repeat' first
      | (with_reducible exact ih0 _ _ _)
      | (with_reducible exact ih1 _ _ _)
      | (with_reducible exact LeO.refl _)
      | (with_reducible exact LeO.none _)
      | (with_reducible refine LeO.ite ?_ ?_)
      | (with_reducible refine LeO.bind ?_ (fun _ => ?_))
      | exact ih0 _ _ _
      | exact ih1 _ _ _
      | exact LeO.none _
      | refine LeO.ite ?_ ?_
      | refine LeO.bind ?_ (fun _ => ?_)
theorem small_Rune.mono : ∀ a0 a1 k, LeO (small_Rune.f k a0 a1) (small_Rune.f (k + 1) a0 a1) := by
  intro a0 a1 k
  obtain ⟨ih0, ih1⟩ := small_Rune.mono_l k
  unfold small_Rune.f
  repeat' first
      | (with_reducible exact ih0 _ _ _)
      | (with_reducible exact ih1 _ _ _)
      | (with_reducible exact LeO.refl _)
      | (with_reducible exact LeO.none _)
      | (with_reducible refine LeO.ite ?_ ?_)
      | (with_reducible refine LeO.bind ?_ (fun _ => ?_))
      | exact ih0 _ _ _
      | exact ih1 _ _ _
      | exact LeO.none _
      | refine LeO.ite ?_ ?_
      | refine LeO.bind ?_ (fun _ => ?_)
set_option maxHeartbeats 8000000 in
set_option maxRecDepth 100000 in
theorem small_Rune.calls (k : Nat) (a0 : Int) (a1 : Int) (r1 : Int) (r2 : Bool) (w : World) (h : small_Rune.f k a0 a1 = some (r1, r2)) :
    Calls Try.prog 7 #[.int .i64 a0, .int .i64 a1] w fun e w' => e = .returned (.tuple #[.int .i32 r1, .bool r2]) ∧ Drawn0 w w' := by
  have H : (if a0 = 10 then ((small_digit.f a1).bind fun t101 => (small_Rune.j0 k a0 a1 t101)) else (small_Rune.j0 k a0 a1 false)) = some (r1, r2) := h
  clear h
  have HC3 := Aside0.mk H
  clear H
  go_enter Try.func7, Try.ntmps7
  go_upto_region 1 with (fail)
  go_cut [6] (fun v6 wc => ∃ (kq : Nat) (x6_2 : Bool), v6 = .bool x6_2 ∧ Aside0 (small_Rune.j0 kq a0 a1 x6_2 = some (r1, r2)) ∧ Aside0 (kq ≤ k) ∧ Drawn0 w wc)
  case first =>
    have H := HC3.out
    clear HC3
    by_cases c4 : a0 = 10
    · rw [if_pos c4] at H
      have c4b0 : (a0 == 10) = true := beq_iff_eq.mpr c4
      have c4b1 : (a0 != 10) = false := bne_eq_false_iff_eq.mpr c4
      clear c4
      (first | rw [c4b0] | (simp only [i64_w, i32_w]; rw [c4b0]) | skip)
      replace H := Option.bind_eq_some_iff.mp H
      obtain ⟨t101, A50, H⟩ := H
      replace H : (small_Rune.j0 k a0 a1 t101) = some (r1, r2) := H
      have A5 := Aside0.mk A50
      clear A50
      have H' := Aside0.mk H
      clear H
      go_wp2_with (first | (go_at_call 17; (with_reducible refine (small_digit.calls a1 t101 _ A5.out).mono ?_); rintro e w' ⟨rfl, ⟨nd, rfl⟩⟩))
      go_meet
      case rel => exact ⟨_, (t101), (by first | rfl | (simp; done) | (simp [*]; done)), H', ⟨by first | omega | exact Nat.le_refl _⟩, by repeat (first | exact Drawn0.refl _ | apply Drawn0.step)⟩
    · rw [if_neg c4] at H
      have c4b0 : (a0 == 10) = false := beq_eq_false_iff_ne.mpr c4
      have c4b1 : (a0 != 10) = true := bne_iff_ne.mpr c4
      (first | rw [c4b0] | (simp only [i64_w, i32_w]; rw [c4b0]) | skip)
      have H' := Aside0.mk H
      clear H
      go_wp2
      go_meet
      case rel => exact ⟨_, (false), (by first | rfl | (simp; done) | (simp [*]; done)), H', ⟨by first | omega | exact Nat.le_refl _⟩, by repeat (first | exact Drawn0.refl _ | apply Drawn0.step)⟩
  case rest =>
    clear HC3
    try clear p2
    try clear c4
    try clear c4b0
    try clear c4b1
    obtain ⟨kq, x6_2, rfl, HA, HJ2, ⟨mc2, rfl⟩⟩ := hcut
    cases kq with
    | zero => exact absurd HA.out (by simp [small_Rune.j0])
    | succ kj2 =>
      have H := HA.out
      clear HA
      simp only [small_Rune.j0] at H
      by_cases c6 : x6_2 = true
      · subst c6
        have H1 : (some (wrap32 (8320 + (wrap32 (wrap64 (a1 - 48)))), true)) = some (r1, r2) := by rw [if_pos rfl] at H; exact H
        clear H
        have H := H1
        clear H1
        simp only [Option.some.injEq, Prod.mk.injEq] at H
        obtain ⟨rfl, rfl⟩ := H
        go_wp2
        go_ret2
        exact ⟨by first | rfl | (simp; done) | (simp [*]; done), by repeat (first | exact Drawn0.refl _ | apply Drawn0.step)⟩
      · replace c6 := Bool.eq_false_iff.mpr c6
        subst c6
        have H1 : (if a0 = 10 then ((small_signs.f a1 8330).bind fun bt102 => (some (bt102.1, bt102.2))) else (if a0 = 11 then ((small_digit.f a1).bind fun t104 => (small_Rune.j1 kj2 a0 a1 t104)) else (small_Rune.j1 kj2 a0 a1 false))) = some (r1, r2) := by rw [if_neg (show ¬ (false = true) by decide)] at H; exact H
        clear H
        have H := H1
        clear H1
        by_cases c7 : a0 = 10
        · rw [if_pos c7] at H
          have c7b0 : (a0 == 10) = true := beq_iff_eq.mpr c7
          have c7b1 : (a0 != 10) = false := bne_eq_false_iff_eq.mpr c7
          clear c7
          replace H := Option.bind_eq_some_iff.mp H
          obtain ⟨⟨t102, t103⟩, A80, H⟩ := H
          replace H : (some (t102, t103)) = some (r1, r2) := H
          have A8 := Aside0.mk A80
          clear A80
          simp only [Option.some.injEq, Prod.mk.injEq] at H
          obtain ⟨rfl, rfl⟩ := H
          go_wp2_with (first | ((with_reducible refine gate_callee (f := 18) rfl ?_); refine goesL_ (some 21) rfl rfl Try.func18 (by kernel_rfl) rfl #[.int .i64 a1, .int .i32 8330] rfl (by (try simp only [List.map_toArray, List.map_cons, List.map_nil]); first | done | rfl | (simp only [List.length_drop, List.length_take]; rfl)) ?_; (with_reducible refine (small_signs.calls a1 8330 t102 t103 _ A8.out).mono ?_); rintro e w' ⟨rfl, ⟨nd, rfl⟩⟩; refine ⟨_, rfl, ?_⟩))
          go_ret2
          exact ⟨by first | rfl | (simp; done) | (simp [*]; done), by repeat (first | exact Drawn0.refl _ | apply Drawn0.step)⟩
        · rw [if_neg c7] at H
          have c7b0 : (a0 == 10) = false := beq_eq_false_iff_ne.mpr c7
          have c7b1 : (a0 != 10) = true := bne_iff_ne.mpr c7
          have HC9 := Aside0.mk H
          clear H
          go_upto_region 5 with (fail)
          go_cut [24] (fun v24 wc => ∃ (kq : Nat) (x24_8 : Bool), v24 = .bool x24_8 ∧ Aside0 (small_Rune.j1 kq a0 a1 x24_8 = some (r1, r2)) ∧ Aside0 (kq ≤ kj2) ∧ Drawn0 w wc)
          case first =>
            have H := HC9.out
            clear HC9
            by_cases c10 : a0 = 11
            · rw [if_pos c10] at H
              have c10b0 : (a0 == 11) = true := beq_iff_eq.mpr c10
              have c10b1 : (a0 != 11) = false := bne_eq_false_iff_eq.mpr c10
              clear c10
              (first | rw [c10b0] | (simp only [i64_w, i32_w]; rw [c10b0]) | skip)
              replace H := Option.bind_eq_some_iff.mp H
              obtain ⟨t104, A110, H⟩ := H
              replace H : (small_Rune.j1 kj2 a0 a1 t104) = some (r1, r2) := H
              have A11 := Aside0.mk A110
              clear A110
              have H' := Aside0.mk H
              clear H
              go_wp2_with (first | (go_at_call 17; (with_reducible refine (small_digit.calls a1 t104 _ A11.out).mono ?_); rintro e w' ⟨rfl, ⟨nd, rfl⟩⟩))
              go_meet
              case rel => exact ⟨_, (t104), (by first | rfl | (simp; done) | (simp [*]; done)), H', ⟨by have := HJ2.out; first | omega | exact Nat.le_refl _⟩, by repeat (first | exact Drawn0.refl _ | apply Drawn0.step)⟩
            · rw [if_neg c10] at H
              have c10b0 : (a0 == 11) = false := beq_eq_false_iff_ne.mpr c10
              have c10b1 : (a0 != 11) = true := bne_iff_ne.mpr c10
              (first | rw [c10b0] | (simp only [i64_w, i32_w]; rw [c10b0]) | skip)
              have H' := Aside0.mk H
              clear H
              go_wp2
              go_meet
              case rel => exact ⟨_, (false), (by first | rfl | (simp; done) | (simp [*]; done)), H', ⟨by have := HJ2.out; first | omega | exact Nat.le_refl _⟩, by repeat (first | exact Drawn0.refl _ | apply Drawn0.step)⟩
          case rest =>
            clear HC9
            try clear c1
            try clear c2
            try clear p2
            try clear p3
            try clear c4
            try clear c4b0
            try clear c4b1
            try clear c6
            try clear p6
            try clear c7
            try clear c7b0
            try clear c7b1
            try clear c10
            try clear c10b0
            try clear c10b1
            try clear p2
            obtain ⟨kq, x24_8, rfl, HA, HJ8, ⟨mc8, rfl⟩⟩ := hcut
            cases kq with
            | zero => exact absurd HA.out (by simp [small_Rune.j1])
            | succ kj8 =>
              have H := HA.out
              clear HA
              simp only [small_Rune.j1] at H
              by_cases c12 : x24_8 = true
              · subst c12
                have H1 : ((small_raised.f a1).bind fun bt105 => (some (bt105.1, bt105.2))) = some (r1, r2) := by rw [if_pos rfl] at H; exact H
                clear H
                have H := H1
                clear H1
                replace H := Option.bind_eq_some_iff.mp H
                obtain ⟨⟨t105, t106⟩, A130, H⟩ := H
                replace H : (some (t105, t106)) = some (r1, r2) := H
                have A13 := Aside0.mk A130
                clear A130
                simp only [Option.some.injEq, Prod.mk.injEq] at H
                obtain ⟨rfl, rfl⟩ := H
                go_wp2_with (first | ((with_reducible refine gate_callee (f := 19) rfl ?_); refine goesL_ (some 32) rfl rfl Try.func19 (by kernel_rfl) rfl #[.int .i64 a1] rfl (by (try simp only [List.map_toArray, List.map_cons, List.map_nil]); first | done | rfl | (simp only [List.length_drop, List.length_take]; rfl)) ?_; (with_reducible refine (small_raised.calls a1 t105 t106 _ A13.out).mono ?_); rintro e w' ⟨rfl, ⟨nd, rfl⟩⟩; refine ⟨_, rfl, ?_⟩))
                go_ret2
                exact ⟨by first | rfl | (simp; done) | (simp [*]; done), by repeat (first | exact Drawn0.refl _ | apply Drawn0.step)⟩
              · replace c12 := Bool.eq_false_iff.mpr c12
                subst c12
                have H1 : (if a0 = 11 then ((small_signs.f a1 8314).bind fun bt107 => (some (bt107.1, bt107.2))) else (if a0 = 12 then (if a1 ≥ 97 then (if a1 ≤ 99 then (some (wrap32 (945 + (wrap32 (wrap64 (a1 - 97)))), true)) else (some (0, false))) else (some (0, false))) else (some (0, false)))) = some (r1, r2) := by rw [if_neg (show ¬ (false = true) by decide)] at H; exact H
                clear H
                have H := H1
                clear H1
                by_cases c14 : a0 = 11
                · rw [if_pos c14] at H
                  have c14b0 : (a0 == 11) = true := beq_iff_eq.mpr c14
                  have c14b1 : (a0 != 11) = false := bne_eq_false_iff_eq.mpr c14
                  clear c14
                  replace H := Option.bind_eq_some_iff.mp H
                  obtain ⟨⟨t107, t108⟩, A150, H⟩ := H
                  replace H : (some (t107, t108)) = some (r1, r2) := H
                  have A15 := Aside0.mk A150
                  clear A150
                  simp only [Option.some.injEq, Prod.mk.injEq] at H
                  obtain ⟨rfl, rfl⟩ := H
                  go_wp2_with (first | ((with_reducible refine gate_callee (f := 18) rfl ?_); refine goesL_ (some 39) rfl rfl Try.func18 (by kernel_rfl) rfl #[.int .i64 a1, .int .i32 8314] rfl (by (try simp only [List.map_toArray, List.map_cons, List.map_nil]); first | done | rfl | (simp only [List.length_drop, List.length_take]; rfl)) ?_; (with_reducible refine (small_signs.calls a1 8314 t107 t108 _ A15.out).mono ?_); rintro e w' ⟨rfl, ⟨nd, rfl⟩⟩; refine ⟨_, rfl, ?_⟩))
                  go_ret2
                  exact ⟨by first | rfl | (simp; done) | (simp [*]; done), by repeat (first | exact Drawn0.refl _ | apply Drawn0.step)⟩
                · rw [if_neg c14] at H
                  have c14b0 : (a0 == 11) = false := beq_eq_false_iff_ne.mpr c14
                  have c14b1 : (a0 != 11) = true := bne_iff_ne.mpr c14
                  by_cases c16 : a0 = 12
                  · rw [if_pos c16] at H
                    have c16b0 : (a0 == 12) = true := beq_iff_eq.mpr c16
                    have c16b1 : (a0 != 12) = false := bne_eq_false_iff_eq.mpr c16
                    clear c16
                    by_cases c17 : a1 ≥ 97
                    · rw [if_pos c17] at H
                      have c17b0 : decide (97 ≤ a1) = true := decide_eq_true c17
                      clear c17
                      by_cases c18 : a1 ≤ 99
                      · rw [if_pos c18] at H
                        have c18b0 : decide (a1 ≤ 99) = true := decide_eq_true c18
                        clear c18
                        simp only [Option.some.injEq, Prod.mk.injEq] at H
                        obtain ⟨rfl, rfl⟩ := H
                        go_wp2
                        go_ret2
                        exact ⟨by first | rfl | (simp; done) | (simp [*]; done), by repeat (first | exact Drawn0.refl _ | apply Drawn0.step)⟩
                      · rw [if_neg c18] at H
                        have c18b0 : decide (a1 ≤ 99) = false := decide_eq_false c18
                        clear c18
                        simp only [Option.some.injEq, Prod.mk.injEq] at H
                        obtain ⟨rfl, rfl⟩ := H
                        go_wp2
                        go_ret2
                        exact ⟨by first | rfl | (simp; done) | (simp [*]; done), by repeat (first | exact Drawn0.refl _ | apply Drawn0.step)⟩
                    · rw [if_neg c17] at H
                      have c17b0 : decide (97 ≤ a1) = false := decide_eq_false c17
                      clear c17
                      simp only [Option.some.injEq, Prod.mk.injEq] at H
                      obtain ⟨rfl, rfl⟩ := H
                      go_wp2
                      go_ret2
                      exact ⟨by first | rfl | (simp; done) | (simp [*]; done), by repeat (first | exact Drawn0.refl _ | apply Drawn0.step)⟩
                  · rw [if_neg c16] at H
                    have c16b0 : (a0 == 12) = false := beq_eq_false_iff_ne.mpr c16
                    have c16b1 : (a0 != 12) = true := bne_iff_ne.mpr c16
                    simp only [Option.some.injEq, Prod.mk.injEq] at H
                    obtain ⟨rfl, rfl⟩ := H
                    go_wp2
                    go_ret2
                    exact ⟨by first | rfl | (simp; done) | (simp [*]; done), by repeat (first | exact Drawn0.refl _ | apply Drawn0.step)⟩

/-! ### amanuensislaw11_answers: function 8 -/
def amanuensislaw11_answers.f (k : Nat)  : Option (Bool) := (small_Rune.f k 10 50).bind fun bt109 => (if bt109.2 = true then (some (bt109.1 == 8322)) else (some false))
theorem amanuensislaw11_answers.mono : ∀ k, LeO (amanuensislaw11_answers.f k ) (amanuensislaw11_answers.f (k + 1) ) := by
  intro  k
  unfold amanuensislaw11_answers.f
  repeat' first
      | (with_reducible exact small_Rune.mono _ _ _)
      | (with_reducible exact LeO.refl _)
      | (with_reducible exact LeO.none _)
      | (with_reducible refine LeO.ite ?_ ?_)
      | (with_reducible refine LeO.bind ?_ (fun _ => ?_))
      | exact small_Rune.mono _ _ _
      | exact LeO.none _
      | refine LeO.ite ?_ ?_
      | refine LeO.bind ?_ (fun _ => ?_)
set_option maxHeartbeats 8000000 in
set_option maxRecDepth 100000 in
theorem amanuensislaw11_answers.calls (k : Nat)  (r : Bool) (w : World) (h : amanuensislaw11_answers.f k  = some r) :
    Calls Try.prog 8 #[] w fun e w' => e = .returned (.bool r) ∧ Drawn0 w w' := by
  have H : ((small_Rune.f k 10 50).bind fun bt109 => (if bt109.2 = true then (some (bt109.1 == 8322)) else (some false))) = some r := h
  clear h
  replace H := Option.bind_eq_some_iff.mp H
  obtain ⟨⟨t109, t110⟩, A10, H⟩ := H
  replace H : (if t110 = true then (some (t109 == 8322)) else (some false)) = some r := H
  have A1 := Aside0.mk A10
  clear A10
  by_cases c2 : t110 = true
  · subst c2
    have H1 : (some (t109 == 8322)) = some r := by rw [if_pos rfl] at H; exact H
    clear H
    have H := H1
    clear H1
    obtain rfl := Option.some.inj H
    go_enter Try.func8, Try.ntmps8
    go_wp2_with (first | ((with_reducible refine gate_callee (f := 7) rfl ?_); refine goesL_ (some 4) rfl rfl Try.func7 (by kernel_rfl) rfl #[.int .i64 10, .int .i64 50] rfl (by (try simp only [List.map_toArray, List.map_cons, List.map_nil]); first | done | rfl | (simp only [List.length_drop, List.length_take]; rfl)) ?_; (with_reducible refine (small_Rune.calls k 10 50 t109 true _ A1.out).mono ?_); rintro e w' ⟨rfl, ⟨nd, rfl⟩⟩; refine ⟨_, rfl, ?_⟩))
    go_ret
    exact ⟨by first | rfl | (simp; done) | (simp [*]; done), by repeat (first | exact Drawn0.refl _ | apply Drawn0.step)⟩
  · replace c2 := Bool.eq_false_iff.mpr c2
    subst c2
    have H1 : (some false) = some r := by rw [if_neg (show ¬ (false = true) by decide)] at H; exact H
    clear H
    have H := H1
    clear H1
    obtain rfl := Option.some.inj H
    go_enter Try.func8, Try.ntmps8
    go_wp2_with (first | ((with_reducible refine gate_callee (f := 7) rfl ?_); refine goesL_ (some 4) rfl rfl Try.func7 (by kernel_rfl) rfl #[.int .i64 10, .int .i64 50] rfl (by (try simp only [List.map_toArray, List.map_cons, List.map_nil]); first | done | rfl | (simp only [List.length_drop, List.length_take]; rfl)) ?_; (with_reducible refine (small_Rune.calls k 10 50 t109 false _ A1.out).mono ?_); rintro e w' ⟨rfl, ⟨nd, rfl⟩⟩; refine ⟨_, rfl, ?_⟩))
    go_ret
    exact ⟨by first | rfl | (simp; done) | (simp [*]; done), by repeat (first | exact Drawn0.refl _ | apply Drawn0.step)⟩

end Go.Proofs.Ytcgnojbddclhdab.PSmallSigns
