-- PRINTED BY print.sh 35421559b90ae4d0a3588c463048766b98c2df88dd9212a6774a882060cdf62d: not written by this session
import Derived.Test.YtcgnojbddclhdaaPHangulAllx0
namespace Go.Proofs.Ytcgnojbddclhdaa.PHangulAll
open Go.RowKit Go.Proofs.YtcgnojbddclhdaaW.PrintWords Go.Proofs.YtcgnojbddclhdaaW.PrintLast Go.Proofs.YtcgnojbddclhdaaW.PrintMore
attribute [local go_sem] max2_int min2_int max_two min_two max_three min_three max_four min_four   -- for this text's walks alone
set_option linter.unusedVariables false
set_option linter.unusedSimpArgs false

/-! ### hangul_Syllable: function 14 -/
def hangul_Syllable.f (a0 : Int) : Option (Bool) := if a0 ≥ 44032 then (some (decide (a0 < 55204))) else (some false)
set_option maxHeartbeats 8000000 in
set_option maxRecDepth 100000 in
theorem hangul_Syllable.calls (a0 : Int) (r : Bool) (w : World) (h : hangul_Syllable.f a0 = some r) :
    Calls Try.prog 14 #[.int .i32 a0] w fun e w' => e = .returned (.bool r) ∧ Drawn0 w w' := by
  have H : (if a0 ≥ 44032 then (some (decide (a0 < 55204))) else (some false)) = some r := h
  clear h
  by_cases c2 : a0 ≥ 44032
  · rw [if_pos c2] at H
    have c2b0 : decide (44032 ≤ a0) = true := decide_eq_true c2
    clear c2
    obtain rfl := Option.some.inj H
    go_enter Try.func14, Try.ntmps14
    go_wp2
    go_ret
    exact ⟨by first | rfl | (simp; done) | (simp [*]; done), by repeat (first | exact Drawn0.refl _ | apply Drawn0.step)⟩
  · rw [if_neg c2] at H
    have c2b0 : decide (44032 ≤ a0) = false := decide_eq_false c2
    clear c2
    obtain rfl := Option.some.inj H
    go_enter Try.func14, Try.ntmps14
    go_wp2
    go_ret
    exact ⟨by first | rfl | (simp; done) | (simp [*]; done), by repeat (first | exact Drawn0.refl _ | apply Drawn0.step)⟩

/-! ### hangul_Split: function 10 -/
def hangul_Split.f (a0 : Int) : Option (List Int) := (hangul_Syllable.f a0).bind fun t101 => (if t101 = true then ((some (([wrap32 (4352 + (wrap32 (Int.tdiv (wrap32 (a0 - 44032)) 588))), wrap32 (4449 + (wrap32 (Int.tdiv (Int.tmod (wrap32 (a0 - 44032)) 588) 28)))] : List Int) : List Int)).bind fun y102 => (if (Int.tmod (wrap32 (a0 - 44032)) 28) > 0 then (if y102.length < 35184372088832 then (some (y102 ++ [wrap32 (4519 + (Int.tmod (wrap32 (a0 - 44032)) 28))])) else (none)) else (some y102))) else (some ([] : List Int)))
set_option maxHeartbeats 8000000 in
set_option maxRecDepth 100000 in
theorem hangul_Split.calls (a0 : Int) (r : List Int) (w : World) (h : hangul_Split.f a0 = some r) :
    Calls Try.prog 10 #[.int .i32 a0] w fun e w' => ∃ v0_ : Value, e = .returned (v0_) ∧ Kd.R (Kd.int .i32) 21 w' w.heap.size (fun _ => True) v0_ r ∧ Below w.heap.size w w' := by
  have HB := Aside0.mk (Below.refl w.heap.size w)
  have H : ((hangul_Syllable.f a0).bind fun t101 => (if t101 = true then ((some (([wrap32 (4352 + (wrap32 (Int.tdiv (wrap32 (a0 - 44032)) 588))), wrap32 (4449 + (wrap32 (Int.tdiv (Int.tmod (wrap32 (a0 - 44032)) 588) 28)))] : List Int) : List Int)).bind fun y102 => (if (Int.tmod (wrap32 (a0 - 44032)) 28) > 0 then (if y102.length < 35184372088832 then (some (y102 ++ [wrap32 (4519 + (Int.tmod (wrap32 (a0 - 44032)) 28))])) else (none)) else (some y102))) else (some ([] : List Int)))) = some r := h
  clear h
  replace H := Option.bind_eq_some_iff.mp H
  obtain ⟨t101, A20, H⟩ := H
  replace H : (if t101 = true then ((some (([wrap32 (4352 + (wrap32 (Int.tdiv (wrap32 (a0 - 44032)) 588))), wrap32 (4449 + (wrap32 (Int.tdiv (Int.tmod (wrap32 (a0 - 44032)) 588) 28)))] : List Int) : List Int)).bind fun y102 => (if (Int.tmod (wrap32 (a0 - 44032)) 28) > 0 then (if y102.length < 35184372088832 then (some (y102 ++ [wrap32 (4519 + (Int.tmod (wrap32 (a0 - 44032)) 28))])) else (none)) else (some y102))) else (some ([] : List Int))) = some r := H
  have A2 := Aside0.mk A20
  clear A20
  by_cases c3 : t101 = true
  · subst c3
    have H1 : ((some (([wrap32 (4352 + (wrap32 (Int.tdiv (wrap32 (a0 - 44032)) 588))), wrap32 (4449 + (wrap32 (Int.tdiv (Int.tmod (wrap32 (a0 - 44032)) 588) 28)))] : List Int) : List Int)).bind fun y102 => (if (Int.tmod (wrap32 (a0 - 44032)) 28) > 0 then (if y102.length < 35184372088832 then (some (y102 ++ [wrap32 (4519 + (Int.tmod (wrap32 (a0 - 44032)) 28))])) else (none)) else (some y102))) = some r := by rw [if_pos rfl] at H; exact H
    clear H
    have H := H1
    clear H1
    obtain ⟨y102, hy102⟩ : ∃ y_ : List Int, y_ = (([wrap32 (4352 + (wrap32 (Int.tdiv (wrap32 (a0 - 44032)) 588))), wrap32 (4449 + (wrap32 (Int.tdiv (Int.tmod (wrap32 (a0 - 44032)) 588) 28)))] : List Int)) := ⟨_, rfl⟩
    replace H : (if (Int.tmod (wrap32 (a0 - 44032)) 28) > 0 then (if y102.length < 35184372088832 then (some (y102 ++ [wrap32 (4519 + (Int.tmod (wrap32 (a0 - 44032)) 28))])) else (none)) else (some y102)) = some r := by first | (rw [hy102]; with_reducible exact H) | (have H2_ := (Option.bind_some _ _).symm.trans H; rw [hy102]; with_reducible exact H2_) | (have H2_ := (Option.bind_some _ _).symm.trans H; with_reducible exact H2_) | with_reducible exact H | (rw [hy102]; exact H) | exact H
    have Ny102 := Aside0.mk hy102
    clear hy102
    by_cases c4 : (Int.tmod (wrap32 (a0 - 44032)) 28) > 0
    · rw [if_pos c4] at H
      have c4b0 : decide (0 < (Int.tmod (wrap32 (a0 - 44032)) 28)) = true := decide_eq_true c4
      clear c4
      by_cases c5 : y102.length < 35184372088832
      · rw [if_pos c5] at H
        have LMc5 := Aside0.mk c5
        clear c5
        obtain ⟨y105, hy105⟩ : ∃ y_ : List Int, y_ = (y102 ++ [wrap32 (4519 + (Int.tmod (wrap32 (a0 - 44032)) 28))]) := ⟨_, rfl⟩
        replace H : (some y105) = some r := by first | (rw [hy105]; with_reducible exact H) | (have H2_ := (Option.bind_some _ _).symm.trans H; rw [hy105]; with_reducible exact H2_) | (have H2_ := (Option.bind_some _ _).symm.trans H; with_reducible exact H2_) | with_reducible exact H | (rw [hy105]; exact H) | exact H
        have Ny105 := Aside0.mk hy105
        clear hy105
        obtain rfl := Option.some.inj H
        go_enter Try.func10, Try.ntmps10
        go_wp2_with (first | ((with_reducible refine gate_callee (f := 14) rfl ?_); refine goesL_ (some 7) rfl rfl Try.func14 (by kernel_rfl) rfl #[.int .i32 a0] rfl (by (try simp only [List.map_toArray, List.map_cons, List.map_nil]); first | done | rfl | (simp only [List.length_drop, List.length_take]; rfl)) ?_; (with_reducible refine (hangul_Syllable.calls a0 true _ A2.out).mono ?_); rintro e w' ⟨rfl, ⟨nd, rfl⟩⟩; refine ⟨_, rfl, ?_⟩) | ((with_reducible refine gate_dst (N := 18) rfl ?_); refine Kd.R_lit (Kd.int .i32) _ 21 ?hg (N := 18) ?hd (xs := ([wrap32 (4352 + (wrap32 (Int.tdiv (wrap32 (a0 - 44032)) 588))), wrap32 (4449 + (wrap32 (Int.tdiv (Int.tmod (wrap32 (a0 - 44032)) 588) 28)))] : List Int)) (inner := [.int .i32 (wrap32 (4352 + (wrap32 (Int.tdiv (wrap32 (a0 - 44032)) 588)))), .int .i32 (wrap32 (4449 + (wrap32 (Int.tdiv (Int.tmod (wrap32 (a0 - 44032)) 588) 28))))]) (ok := fun _ => True) (okp := fun _ => True) ?hr ?hp (fun _ hk => hk) trivial (Below.refl _ _) (Nat.le_refl _) (by simp) ?_; (case hd => rfl); (case hg => rfl); (case hr => first | (go_simp; done) | (go_simp; rfl)); (case hp => exact (Reps.one (show Kd.M (Kd.int .i32) _ _ _ (wrap32 (4352 + (wrap32 (Int.tdiv (wrap32 (a0 - 44032)) 588)))) [.int .i32 (wrap32 (4352 + (wrap32 (Int.tdiv (wrap32 (a0 - 44032)) 588))))] from rfl) (Reps.one (show Kd.M (Kd.int .i32) _ _ _ (wrap32 (4449 + (wrap32 (Int.tdiv (Int.tmod (wrap32 (a0 - 44032)) 588) 28)))) [.int .i32 (wrap32 (4449 + (wrap32 (Int.tdiv (Int.tmod (wrap32 (a0 - 44032)) 588) 28))))] from rfl) (Reps.none _ _)))); intro v103 w6 ho7 hb hg_ hnew_; clear hg_ hnew_; (first | rw [← Ny102.out] at ho7 | (simp only [Int.reduceToNat] at ho7; rw [← Ny102.out] at ho7)); have n0_ := Aside0.mk (Kd.R_lower ho7 (below_size (by repeat (first | (with_reducible first | exact HB.out | apply below_alloc | apply pw_below_drewN | apply below_drew1) | exact HB.out)))); have n1_ := Aside0.mk (below_step (by repeat (first | (with_reducible first | exact HB.out | apply below_alloc | apply pw_below_drewN | apply below_drew1) | exact HB.out)) hb); clear HB; have HO104 := n0_; have HB := n1_; clear n0_ n1_; clear hb ho7) | ((with_reducible refine gate_builtin (b := .append) (xs := #[.tmp 23, .tmp 26]) rfl ?_); at_builtin; refine Kd.R_append (Kd.int .i32) (w0 := w) w.heap.size rfl (.tmp 23) (.tmp 26) 24 21 (.int .i32 0) 4 rfl Try.underlying24 info21 rfl (by decide) (by omega) v103 y102 (wrap32 (4519 + (Int.tmod (wrap32 (a0 - 44032)) 28))) [.int .i32 (wrap32 (4519 + (Int.tmod (wrap32 (a0 - 44032)) 28)))] (fun _ => True) (fun _ => False) rfl rfl ?aP (fun _ hk => hk.elim) ?aF ?aO ?aB ?aS ?aL ?_; (case aP => exact rfl); (case aB => exact (by repeat (first | (with_reducible first | exact HB.out | apply below_alloc | apply pw_below_drewN | apply below_drew1) | exact HB.out))); (case aF => exact (fun _ _ => trivial)); (case aO => exact (by (with_reducible repeat (first | apply Kd.R_alloc | apply Kd.R_drewN | apply Kd.R_drew)); exact HO104.out)); (case aS => exact (below_size (by repeat (first | (with_reducible first | exact HB.out | apply below_alloc | apply pw_below_drewN | apply below_drew1) | exact HB.out)))); (case aL => have := LMc5.out; omega); intro v106 w8 ho hb hg hat; rw [← Ny105.out] at ho; have n0_ := Aside0.mk (hb); have n1_ := Aside0.mk (ho); clear HB; clear HO104; have HB := n0_; have HO107 := n1_; clear n0_ n1_; clear ho hb hg hat))
        go_ret
        exact ⟨_, by first | rfl | (simp [errW_none, errW_some] <;> rfl) | (simp [*, errW_none, errW_some] <;> rfl), by (with_reducible repeat (first | apply Kd.R_alloc | apply Kd.R_drewN | apply Kd.R_drew)); exact HO107.out, by repeat (first | (with_reducible first | exact HB.out | apply below_alloc | apply pw_below_drewN | apply below_drew1) | exact HB.out)⟩
      · rw [if_neg c5] at H
        exact absurd H (by simp)
    · rw [if_neg c4] at H
      have c4b0 : decide (0 < (Int.tmod (wrap32 (a0 - 44032)) 28)) = false := decide_eq_false c4
      clear c4
      obtain rfl := Option.some.inj H
      go_enter Try.func10, Try.ntmps10
      go_wp2_with (first | ((with_reducible refine gate_callee (f := 14) rfl ?_); refine goesL_ (some 7) rfl rfl Try.func14 (by kernel_rfl) rfl #[.int .i32 a0] rfl (by (try simp only [List.map_toArray, List.map_cons, List.map_nil]); first | done | rfl | (simp only [List.length_drop, List.length_take]; rfl)) ?_; (with_reducible refine (hangul_Syllable.calls a0 true _ A2.out).mono ?_); rintro e w' ⟨rfl, ⟨nd, rfl⟩⟩; refine ⟨_, rfl, ?_⟩) | ((with_reducible refine gate_dst (N := 18) rfl ?_); refine Kd.R_lit (Kd.int .i32) _ 21 ?hg (N := 18) ?hd (xs := ([wrap32 (4352 + (wrap32 (Int.tdiv (wrap32 (a0 - 44032)) 588))), wrap32 (4449 + (wrap32 (Int.tdiv (Int.tmod (wrap32 (a0 - 44032)) 588) 28)))] : List Int)) (inner := [.int .i32 (wrap32 (4352 + (wrap32 (Int.tdiv (wrap32 (a0 - 44032)) 588)))), .int .i32 (wrap32 (4449 + (wrap32 (Int.tdiv (Int.tmod (wrap32 (a0 - 44032)) 588) 28))))]) (ok := fun _ => True) (okp := fun _ => True) ?hr ?hp (fun _ hk => hk) trivial (Below.refl _ _) (Nat.le_refl _) (by simp) ?_; (case hd => rfl); (case hg => rfl); (case hr => first | (go_simp; done) | (go_simp; rfl)); (case hp => exact (Reps.one (show Kd.M (Kd.int .i32) _ _ _ (wrap32 (4352 + (wrap32 (Int.tdiv (wrap32 (a0 - 44032)) 588)))) [.int .i32 (wrap32 (4352 + (wrap32 (Int.tdiv (wrap32 (a0 - 44032)) 588))))] from rfl) (Reps.one (show Kd.M (Kd.int .i32) _ _ _ (wrap32 (4449 + (wrap32 (Int.tdiv (Int.tmod (wrap32 (a0 - 44032)) 588) 28)))) [.int .i32 (wrap32 (4449 + (wrap32 (Int.tdiv (Int.tmod (wrap32 (a0 - 44032)) 588) 28))))] from rfl) (Reps.none _ _)))); intro v103 w9 ho10 hb hg_ hnew_; clear hg_ hnew_; (first | rw [← Ny102.out] at ho10 | (simp only [Int.reduceToNat] at ho10; rw [← Ny102.out] at ho10)); have n0_ := Aside0.mk (Kd.R_lower ho10 (below_size (by repeat (first | (with_reducible first | exact HB.out | apply below_alloc | apply pw_below_drewN | apply below_drew1) | exact HB.out)))); have n1_ := Aside0.mk (below_step (by repeat (first | (with_reducible first | exact HB.out | apply below_alloc | apply pw_below_drewN | apply below_drew1) | exact HB.out)) hb); clear HB; have HO104 := n0_; have HB := n1_; clear n0_ n1_; clear hb ho10))
      go_ret
      exact ⟨_, by first | rfl | (simp [errW_none, errW_some] <;> rfl) | (simp [*, errW_none, errW_some] <;> rfl), by (with_reducible repeat (first | apply Kd.R_alloc | apply Kd.R_drewN | apply Kd.R_drew)); exact HO104.out, by repeat (first | (with_reducible first | exact HB.out | apply below_alloc | apply pw_below_drewN | apply below_drew1) | exact HB.out)⟩
  · replace c3 := Bool.eq_false_iff.mpr c3
    subst c3
    have H1 : (some ([] : List Int)) = some r := by rw [if_neg (show ¬ (false = true) by decide)] at H; exact H
    clear H
    have H := H1
    clear H1
    obtain rfl := Option.some.inj H
    go_enter Try.func10, Try.ntmps10
    go_wp2_with (first | ((with_reducible refine gate_callee (f := 14) rfl ?_); refine goesL_ (some 7) rfl rfl Try.func14 (by kernel_rfl) rfl #[.int .i32 a0] rfl (by (try simp only [List.map_toArray, List.map_cons, List.map_nil]); first | done | rfl | (simp only [List.length_drop, List.length_take]; rfl)) ?_; (with_reducible refine (hangul_Syllable.calls a0 false _ A2.out).mono ?_); rintro e w' ⟨rfl, ⟨nd, rfl⟩⟩; refine ⟨_, rfl, ?_⟩))
    go_ret
    exact ⟨_, by first | rfl | (simp [errW_none, errW_some] <;> rfl) | (simp [*, errW_none, errW_some] <;> rfl), by first | exact Kd.R_nil _ _ _ _ _ | exact Kd.N_nil _ _ _ _ _ | exact Kd.V_nil _ _ _ _ _ | exact Kd.Q_nil _ _ _ _ _ | exact Kd.S_nil _ _ _ _ _, by repeat (first | (with_reducible first | exact HB.out | apply below_alloc | apply pw_below_drewN | apply below_drew1) | exact HB.out)⟩

/-! ### hangul_Join: function 8 -/
def hangul_Join.j0 : Nat → Int → Int → Bool → Option (Int × Bool)
  | 0, _, _, _ => none
  | k + 1, x0, x1, x6 => if x6 = true then (some (wrap32 (44032 + (wrap32 ((wrap32 ((wrap32 ((wrap32 ((wrap32 (x0 - 4352)) * 21)) + x1)) - 4449)) * 28))), true)) else ((hangul_Syllable.f x0).bind fun t108 => (if t108 = true then (if (Int.tmod (wrap32 (x0 - 44032)) 28) = 0 then (if x1 > 4519 then (if x1 < 4547 then (some (wrap32 ((wrap32 (x0 + x1)) - 4519), true)) else (some (0, false))) else (some (0, false))) else (some (0, false))) else (some (0, false))))
def hangul_Join.f (k : Nat) (a0 : Int) (a1 : Int) : Option (Int × Bool) := if a0 ≥ 4352 then (if a0 < 4371 then (if a1 ≥ 4449 then (hangul_Join.j0 k a0 a1 (decide (a1 < 4470))) else (hangul_Join.j0 k a0 a1 false)) else (hangul_Join.j0 k a0 a1 false)) else (hangul_Join.j0 k a0 a1 false)
theorem hangul_Join.mono_l : ∀ k, (∀ y0 y1 y2, LeO (hangul_Join.j0 k y0 y1 y2) (hangul_Join.j0 (k + 1) y0 y1 y2))
  | 0 => fun _ _ _ r h => by simp [hangul_Join.j0] at h
  | k + 1 => by
    have ih0 := hangul_Join.mono_l k
    · intro y0 y1 y2
      unfold hangul_Join.j0
      repeat' first
      | (with_reducible exact ih0 _ _ _)
      | (with_reducible exact LeO.refl _)
      | (with_reducible exact LeO.none _)
      | (with_reducible refine LeO.ite ?_ ?_)
      | (with_reducible refine LeO.bind ?_ (fun _ => ?_))
      | exact ih0 _ _ _
      | exact LeO.none _
      | refine LeO.ite ?_ ?_
      | refine LeO.bind ?_ (fun _ => ?_)
theorem hangul_Join.mono : ∀ a0 a1 k, LeO (hangul_Join.f k a0 a1) (hangul_Join.f (k + 1) a0 a1) := by
  intro a0 a1 k
  have ih0 := hangul_Join.mono_l k
  unfold hangul_Join.f
  repeat' first
      | (with_reducible exact ih0 _ _ _)
      | (with_reducible exact LeO.refl _)
      | (with_reducible exact LeO.none _)
      | (with_reducible refine LeO.ite ?_ ?_)
      | (with_reducible refine LeO.bind ?_ (fun _ => ?_))
      | exact ih0 _ _ _
      | exact LeO.none _
      | refine LeO.ite ?_ ?_
      | refine LeO.bind ?_ (fun _ => ?_)
set_option maxHeartbeats 8000000 in
set_option maxRecDepth 100000 in
theorem hangul_Join.calls (k : Nat) (a0 : Int) (a1 : Int) (r1 : Int) (r2 : Bool) (w : World) (h : hangul_Join.f k a0 a1 = some (r1, r2)) :
    Calls Try.prog 8 #[.int .i32 a0, .int .i32 a1] w fun e w' => e = .returned (.tuple #[.int .i32 r1, .bool r2]) ∧ Drawn0 w w' := by
  have H : (if a0 ≥ 4352 then (if a0 < 4371 then (if a1 ≥ 4449 then (hangul_Join.j0 k a0 a1 (decide (a1 < 4470))) else (hangul_Join.j0 k a0 a1 false)) else (hangul_Join.j0 k a0 a1 false)) else (hangul_Join.j0 k a0 a1 false)) = some (r1, r2) := h
  clear h
  have HC3 := Aside0.mk H
  clear H
  go_enter Try.func8, Try.ntmps8
  go_upto_region 1 with (fail)
  go_cut [6] (fun v6 wc => ∃ (kq : Nat) (x6_2 : Bool), v6 = .bool x6_2 ∧ Aside0 (hangul_Join.j0 kq a0 a1 x6_2 = some (r1, r2)) ∧ Aside0 (kq ≤ k) ∧ Drawn0 w wc)
  case first =>
    have H := HC3.out
    clear HC3
    by_cases c4 : a0 ≥ 4352
    · rw [if_pos c4] at H
      have c4b0 : decide (4352 ≤ a0) = true := decide_eq_true c4
      clear c4
      (first | rw [c4b0] | (simp only [i64_w, i32_w]; rw [c4b0]) | skip)
      by_cases c5 : a0 < 4371
      · rw [if_pos c5] at H
        have c5b0 : decide (a0 < 4371) = true := decide_eq_true c5
        clear c5
        by_cases c6 : a1 ≥ 4449
        · rw [if_pos c6] at H
          have c6b0 : decide (4449 ≤ a1) = true := decide_eq_true c6
          clear c6
          have H' := Aside0.mk H
          clear H
          go_wp2
          go_meet
          case rel => exact ⟨_, (decide (a1 < 4470)), (by first | rfl | (simp; done) | (simp [*]; done)), H', ⟨by first | omega | exact Nat.le_refl _⟩, by repeat (first | exact Drawn0.refl _ | apply Drawn0.step)⟩
        · rw [if_neg c6] at H
          have c6b0 : decide (4449 ≤ a1) = false := decide_eq_false c6
          clear c6
          have H' := Aside0.mk H
          clear H
          go_wp2
          go_meet
          case rel => exact ⟨_, (false), (by first | rfl | (simp; done) | (simp [*]; done)), H', ⟨by first | omega | exact Nat.le_refl _⟩, by repeat (first | exact Drawn0.refl _ | apply Drawn0.step)⟩
      · rw [if_neg c5] at H
        have c5b0 : decide (a0 < 4371) = false := decide_eq_false c5
        clear c5
        have H' := Aside0.mk H
        clear H
        go_wp2
        go_meet
        case rel => exact ⟨_, (false), (by first | rfl | (simp; done) | (simp [*]; done)), H', ⟨by first | omega | exact Nat.le_refl _⟩, by repeat (first | exact Drawn0.refl _ | apply Drawn0.step)⟩
    · rw [if_neg c4] at H
      have c4b0 : decide (4352 ≤ a0) = false := decide_eq_false c4
      clear c4
      (first | rw [c4b0] | (simp only [i64_w, i32_w]; rw [c4b0]) | skip)
      have H' := Aside0.mk H
      clear H
      go_wp2
      go_meet
      case rel => exact ⟨_, (false), (by first | rfl | (simp; done) | (simp [*]; done)), H', ⟨by first | omega | exact Nat.le_refl _⟩, by repeat (first | exact Drawn0.refl _ | apply Drawn0.step)⟩
  case rest =>
    clear HC3
    try clear p2
    try clear c4
    try clear c4b0
    try clear c5
    try clear c5b0
    try clear c6
    try clear c6b0
    obtain ⟨kq, x6_2, rfl, HA, HJ2, ⟨mc2, rfl⟩⟩ := hcut
    cases kq with
    | zero => exact absurd HA.out (by simp [hangul_Join.j0])
    | succ kj2 =>
      have H := HA.out
      clear HA
      simp only [hangul_Join.j0] at H
      by_cases c7 : x6_2 = true
      · subst c7
        have H1 : (some (wrap32 (44032 + (wrap32 ((wrap32 ((wrap32 ((wrap32 ((wrap32 (a0 - 4352)) * 21)) + a1)) - 4449)) * 28))), true)) = some (r1, r2) := by rw [if_pos rfl] at H; exact H
        clear H
        have H := H1
        clear H1
        simp only [Option.some.injEq, Prod.mk.injEq] at H
        obtain ⟨rfl, rfl⟩ := H
        go_wp2
        go_ret2
        exact ⟨by first | rfl | (simp; done) | (simp [*]; done), by repeat (first | exact Drawn0.refl _ | apply Drawn0.step)⟩
      · replace c7 := Bool.eq_false_iff.mpr c7
        subst c7
        have H1 : ((hangul_Syllable.f a0).bind fun t108 => (if t108 = true then (if (Int.tmod (wrap32 (a0 - 44032)) 28) = 0 then (if a1 > 4519 then (if a1 < 4547 then (some (wrap32 ((wrap32 (a0 + a1)) - 4519), true)) else (some (0, false))) else (some (0, false))) else (some (0, false))) else (some (0, false)))) = some (r1, r2) := by rw [if_neg (show ¬ (false = true) by decide)] at H; exact H
        clear H
        have H := H1
        clear H1
        replace H := Option.bind_eq_some_iff.mp H
        obtain ⟨t108, A80, H⟩ := H
        replace H : (if t108 = true then (if (Int.tmod (wrap32 (a0 - 44032)) 28) = 0 then (if a1 > 4519 then (if a1 < 4547 then (some (wrap32 ((wrap32 (a0 + a1)) - 4519), true)) else (some (0, false))) else (some (0, false))) else (some (0, false))) else (some (0, false))) = some (r1, r2) := H
        have A8 := Aside0.mk A80
        clear A80
        by_cases c9 : t108 = true
        · subst c9
          have H1 : (if (Int.tmod (wrap32 (a0 - 44032)) 28) = 0 then (if a1 > 4519 then (if a1 < 4547 then (some (wrap32 ((wrap32 (a0 + a1)) - 4519), true)) else (some (0, false))) else (some (0, false))) else (some (0, false))) = some (r1, r2) := by rw [if_pos rfl] at H; exact H
          clear H
          have H := H1
          clear H1
          by_cases c10 : (Int.tmod (wrap32 (a0 - 44032)) 28) = 0
          · rw [if_pos c10] at H
            have c10b0 : ((Int.tmod (wrap32 (a0 - 44032)) 28) == 0) = true := beq_iff_eq.mpr c10
            have c10b1 : ((Int.tmod (wrap32 (a0 - 44032)) 28) != 0) = false := bne_eq_false_iff_eq.mpr c10
            clear c10
            by_cases c11 : a1 > 4519
            · rw [if_pos c11] at H
              have c11b0 : decide (4519 < a1) = true := decide_eq_true c11
              clear c11
              by_cases c12 : a1 < 4547
              · rw [if_pos c12] at H
                have c12b0 : decide (a1 < 4547) = true := decide_eq_true c12
                clear c12
                simp only [Option.some.injEq, Prod.mk.injEq] at H
                obtain ⟨rfl, rfl⟩ := H
                go_wp2_with (first | ((with_reducible refine gate_callee (f := 14) rfl ?_); refine goesL_ (some 31) rfl rfl Try.func14 (by kernel_rfl) rfl #[.int .i32 a0] rfl (by (try simp only [List.map_toArray, List.map_cons, List.map_nil]); first | done | rfl | (simp only [List.length_drop, List.length_take]; rfl)) ?_; (with_reducible refine (hangul_Syllable.calls a0 true _ A8.out).mono ?_); rintro e w' ⟨rfl, ⟨nd, rfl⟩⟩; refine ⟨_, rfl, ?_⟩))
                go_ret2
                exact ⟨by first | rfl | (simp; done) | (simp [*]; done), by repeat (first | exact Drawn0.refl _ | apply Drawn0.step)⟩
              · rw [if_neg c12] at H
                have c12b0 : decide (a1 < 4547) = false := decide_eq_false c12
                clear c12
                simp only [Option.some.injEq, Prod.mk.injEq] at H
                obtain ⟨rfl, rfl⟩ := H
                go_wp2_with (first | ((with_reducible refine gate_callee (f := 14) rfl ?_); refine goesL_ (some 31) rfl rfl Try.func14 (by kernel_rfl) rfl #[.int .i32 a0] rfl (by (try simp only [List.map_toArray, List.map_cons, List.map_nil]); first | done | rfl | (simp only [List.length_drop, List.length_take]; rfl)) ?_; (with_reducible refine (hangul_Syllable.calls a0 true _ A8.out).mono ?_); rintro e w' ⟨rfl, ⟨nd, rfl⟩⟩; refine ⟨_, rfl, ?_⟩))
                go_ret2
                exact ⟨by first | rfl | (simp; done) | (simp [*]; done), by repeat (first | exact Drawn0.refl _ | apply Drawn0.step)⟩
            · rw [if_neg c11] at H
              have c11b0 : decide (4519 < a1) = false := decide_eq_false c11
              clear c11
              simp only [Option.some.injEq, Prod.mk.injEq] at H
              obtain ⟨rfl, rfl⟩ := H
              go_wp2_with (first | ((with_reducible refine gate_callee (f := 14) rfl ?_); refine goesL_ (some 31) rfl rfl Try.func14 (by kernel_rfl) rfl #[.int .i32 a0] rfl (by (try simp only [List.map_toArray, List.map_cons, List.map_nil]); first | done | rfl | (simp only [List.length_drop, List.length_take]; rfl)) ?_; (with_reducible refine (hangul_Syllable.calls a0 true _ A8.out).mono ?_); rintro e w' ⟨rfl, ⟨nd, rfl⟩⟩; refine ⟨_, rfl, ?_⟩))
              go_ret2
              exact ⟨by first | rfl | (simp; done) | (simp [*]; done), by repeat (first | exact Drawn0.refl _ | apply Drawn0.step)⟩
          · rw [if_neg c10] at H
            have c10b0 : ((Int.tmod (wrap32 (a0 - 44032)) 28) == 0) = false := beq_eq_false_iff_ne.mpr c10
            have c10b1 : ((Int.tmod (wrap32 (a0 - 44032)) 28) != 0) = true := bne_iff_ne.mpr c10
            simp only [Option.some.injEq, Prod.mk.injEq] at H
            obtain ⟨rfl, rfl⟩ := H
            go_wp2_with (first | ((with_reducible refine gate_callee (f := 14) rfl ?_); refine goesL_ (some 31) rfl rfl Try.func14 (by kernel_rfl) rfl #[.int .i32 a0] rfl (by (try simp only [List.map_toArray, List.map_cons, List.map_nil]); first | done | rfl | (simp only [List.length_drop, List.length_take]; rfl)) ?_; (with_reducible refine (hangul_Syllable.calls a0 true _ A8.out).mono ?_); rintro e w' ⟨rfl, ⟨nd, rfl⟩⟩; refine ⟨_, rfl, ?_⟩))
            go_ret2
            exact ⟨by first | rfl | (simp; done) | (simp [*]; done), by repeat (first | exact Drawn0.refl _ | apply Drawn0.step)⟩
        · replace c9 := Bool.eq_false_iff.mpr c9
          subst c9
          have H1 : (some (0, false)) = some (r1, r2) := by rw [if_neg (show ¬ (false = true) by decide)] at H; exact H
          clear H
          have H := H1
          clear H1
          simp only [Option.some.injEq, Prod.mk.injEq] at H
          obtain ⟨rfl, rfl⟩ := H
          go_wp2_with (first | ((with_reducible refine gate_callee (f := 14) rfl ?_); refine goesL_ (some 31) rfl rfl Try.func14 (by kernel_rfl) rfl #[.int .i32 a0] rfl (by (try simp only [List.map_toArray, List.map_cons, List.map_nil]); first | done | rfl | (simp only [List.length_drop, List.length_take]; rfl)) ?_; (with_reducible refine (hangul_Syllable.calls a0 false _ A8.out).mono ?_); rintro e w' ⟨rfl, ⟨nd, rfl⟩⟩; refine ⟨_, rfl, ?_⟩))
          go_ret2
          exact ⟨by first | rfl | (simp; done) | (simp [*]; done), by repeat (first | exact Drawn0.refl _ | apply Drawn0.step)⟩

/-! ### amanuensislaw05_answers: function 11 -/
def amanuensislaw05_answers.f (k : Nat)  : Option (Bool) := (hangul_Split.f 44033).bind fun t109 => ((hangul_Join.f k 4352 4449).bind fun bt112 => (if (t109.length : Int) = 3 then (if 2 < (t109.length : Int) then (if (rd t109 2) = 4520 then (if bt112.2 = true then (some (bt112.1 == 44032)) else (some false)) else (some false)) else (none)) else (some false)))
theorem amanuensislaw05_answers.mono : ∀ k, LeO (amanuensislaw05_answers.f k ) (amanuensislaw05_answers.f (k + 1) ) := by
  intro  k
  unfold amanuensislaw05_answers.f
  repeat' first
      | (with_reducible exact hangul_Join.mono _ _ _)
      | (with_reducible exact LeO.refl _)
      | (with_reducible exact LeO.none _)
      | (with_reducible refine LeO.ite ?_ ?_)
      | (with_reducible refine LeO.bind ?_ (fun _ => ?_))
      | exact hangul_Join.mono _ _ _
      | exact LeO.none _
      | refine LeO.ite ?_ ?_
      | refine LeO.bind ?_ (fun _ => ?_)
set_option maxHeartbeats 8000000 in
set_option maxRecDepth 100000 in
theorem amanuensislaw05_answers.calls (k : Nat)  (r : Bool) (w : World) (h : amanuensislaw05_answers.f k  = some r) :
    Calls Try.prog 11 #[] w fun e w' => e = .returned (.bool r) ∧ Below w.heap.size w w' := by
  have HB := Aside0.mk (Below.refl w.heap.size w)
  have H : ((hangul_Split.f 44033).bind fun t109 => ((hangul_Join.f k 4352 4449).bind fun bt112 => (if (t109.length : Int) = 3 then (if 2 < (t109.length : Int) then (if (rd t109 2) = 4520 then (if bt112.2 = true then (some (bt112.1 == 44032)) else (some false)) else (some false)) else (none)) else (some false)))) = some r := h
  clear h
  replace H := Option.bind_eq_some_iff.mp H
  obtain ⟨t109, A10, H⟩ := H
  replace H : ((hangul_Join.f k 4352 4449).bind fun bt112 => (if (t109.length : Int) = 3 then (if 2 < (t109.length : Int) then (if (rd t109 2) = 4520 then (if bt112.2 = true then (some (bt112.1 == 44032)) else (some false)) else (some false)) else (none)) else (some false))) = some r := H
  have A1 := Aside0.mk A10
  clear A10
  replace H := Option.bind_eq_some_iff.mp H
  obtain ⟨⟨t112, t113⟩, A20, H⟩ := H
  replace H : (if (t109.length : Int) = 3 then (if 2 < (t109.length : Int) then (if (rd t109 2) = 4520 then (if t113 = true then (some (t112 == 44032)) else (some false)) else (some false)) else (none)) else (some false)) = some r := H
  have A2 := Aside0.mk A20
  clear A20
  by_cases c3 : (t109.length : Int) = 3
  · rw [if_pos c3] at H
    have c3b0 : ((t109.length : Int) == 3) = true := beq_iff_eq.mpr c3
    have c3b1 : ((t109.length : Int) != 3) = false := bne_eq_false_iff_eq.mpr c3
    clear c3
    by_cases c4 : 2 < (t109.length : Int)
    · rw [if_pos c4] at H
      have c4b0 : decide (2 < (t109.length : Int)) = true := decide_eq_true c4
      have c4b1 : decide (2 < t109.length) = true := decide_eq_true (by omega)
      clear c4
      by_cases c5 : (rd t109 2) = 4520
      · rw [if_pos c5] at H
        have c5b0 : ((rd t109 2) == 4520) = true := beq_iff_eq.mpr c5
        have c5b1 : ((rd t109 2) != 4520) = false := bne_eq_false_iff_eq.mpr c5
        clear c5
        by_cases c6 : t113 = true
        · subst c6
          have H1 : (some (t112 == 44032)) = some r := by rw [if_pos rfl] at H; exact H
          clear H
          have H := H1
          clear H1
          obtain rfl := Option.some.inj H
          go_enter Try.func11, Try.ntmps11
          go_wp2_with (first | ((with_reducible refine gate_callee (f := 10) rfl ?_); refine goesL_ (some 4) rfl rfl Try.func10 (by kernel_rfl) rfl #[.int .i32 44033] rfl (by (try simp only [List.map_toArray, List.map_cons, List.map_nil]); first | done | rfl | (simp only [List.length_drop, List.length_take]; rfl)) ?_; (with_reducible refine (hangul_Split.calls 44033 t109 _ A1.out).mono ?_); rintro e w7 ⟨v110, rfl, ho0, hb⟩; refine ⟨_, rfl, ?_⟩; have n0_ := Aside0.mk (Kd.R_lower ho0 (below_size (by repeat (first | (with_reducible first | exact HB.out | apply below_alloc | apply pw_below_drewN | apply below_drew1) | exact HB.out)))); have n1_ := Aside0.mk (below_step (by repeat (first | (with_reducible first | exact HB.out | apply below_alloc | apply pw_below_drewN | apply below_drew1) | exact HB.out)) hb); clear HB; have HO111 := n0_; have HB := n1_; clear n0_ n1_; (try clear hb); (try clear hb2); (try clear hk); (try clear hi); (try clear ho0)) | ((with_reducible refine gate_callee (f := 8) rfl ?_); refine goesL_ (some 6) rfl rfl Try.func8 (by kernel_rfl) rfl #[.int .i32 4352, .int .i32 4449] rfl (by (try simp only [List.map_toArray, List.map_cons, List.map_nil]); first | done | rfl | (simp only [List.length_drop, List.length_take]; rfl)) ?_; (with_reducible refine (hangul_Join.calls k 4352 4449 t112 true _ A2.out).mono ?_); rintro e w' ⟨rfl, ⟨nd, rfl⟩⟩; refine ⟨_, rfl, ?_⟩; obtain ⟨Ao8, co8, eo8⟩ := Kd.R_slice HO111.out; subst eo8; have p114 : 0 ≤ (2 : Int) := (by omega); have q114 : 2 < (t109.length : Int) := of_decide_eq_true (by first | (with_reducible assumption) | assumption); obtain ⟨ad114, e114, hx114_0⟩ := Kd.at_int (Kd.R_reads' HO111.out).2.2 2 p114 q114; cases e114; (try simp only [show (2 : Int).toNat = 2 from rfl, Nat.reduceMul, Nat.reduceEqDiff, Go.Addr.add, ↓reduceIte] at hx114_0); have qi114 : (2 < t109.length) = True := eq_true (by omega); (try rw [show ((2 : Int)).toNat = 2 from rfl] at hx114_0); replace p114 := eq_true p114; replace q114 := eq_true q114))
          go_ret
          exact ⟨by first | rfl | (simp [errW_none, errW_some] <;> rfl) | (simp [*, errW_none, errW_some] <;> rfl), by repeat (first | (with_reducible first | exact HB.out | apply below_alloc | apply pw_below_drewN | apply below_drew1) | exact HB.out)⟩
        · replace c6 := Bool.eq_false_iff.mpr c6
          subst c6
          have H1 : (some false) = some r := by rw [if_neg (show ¬ (false = true) by decide)] at H; exact H
          clear H
          have H := H1
          clear H1
          obtain rfl := Option.some.inj H
          go_enter Try.func11, Try.ntmps11
          go_wp2_with (first | ((with_reducible refine gate_callee (f := 10) rfl ?_); refine goesL_ (some 4) rfl rfl Try.func10 (by kernel_rfl) rfl #[.int .i32 44033] rfl (by (try simp only [List.map_toArray, List.map_cons, List.map_nil]); first | done | rfl | (simp only [List.length_drop, List.length_take]; rfl)) ?_; (with_reducible refine (hangul_Split.calls 44033 t109 _ A1.out).mono ?_); rintro e w9 ⟨v110, rfl, ho0, hb⟩; refine ⟨_, rfl, ?_⟩; have n0_ := Aside0.mk (Kd.R_lower ho0 (below_size (by repeat (first | (with_reducible first | exact HB.out | apply below_alloc | apply pw_below_drewN | apply below_drew1) | exact HB.out)))); have n1_ := Aside0.mk (below_step (by repeat (first | (with_reducible first | exact HB.out | apply below_alloc | apply pw_below_drewN | apply below_drew1) | exact HB.out)) hb); clear HB; have HO111 := n0_; have HB := n1_; clear n0_ n1_; (try clear hb); (try clear hb2); (try clear hk); (try clear hi); (try clear ho0)) | ((with_reducible refine gate_callee (f := 8) rfl ?_); refine goesL_ (some 6) rfl rfl Try.func8 (by kernel_rfl) rfl #[.int .i32 4352, .int .i32 4449] rfl (by (try simp only [List.map_toArray, List.map_cons, List.map_nil]); first | done | rfl | (simp only [List.length_drop, List.length_take]; rfl)) ?_; (with_reducible refine (hangul_Join.calls k 4352 4449 t112 false _ A2.out).mono ?_); rintro e w' ⟨rfl, ⟨nd, rfl⟩⟩; refine ⟨_, rfl, ?_⟩; obtain ⟨Ao10, co10, eo10⟩ := Kd.R_slice HO111.out; subst eo10; have p114 : 0 ≤ (2 : Int) := (by omega); have q114 : 2 < (t109.length : Int) := of_decide_eq_true (by first | (with_reducible assumption) | assumption); obtain ⟨ad114, e114, hx114_0⟩ := Kd.at_int (Kd.R_reads' HO111.out).2.2 2 p114 q114; cases e114; (try simp only [show (2 : Int).toNat = 2 from rfl, Nat.reduceMul, Nat.reduceEqDiff, Go.Addr.add, ↓reduceIte] at hx114_0); have qi114 : (2 < t109.length) = True := eq_true (by omega); (try rw [show ((2 : Int)).toNat = 2 from rfl] at hx114_0); replace p114 := eq_true p114; replace q114 := eq_true q114))
          go_ret
          exact ⟨by first | rfl | (simp [errW_none, errW_some] <;> rfl) | (simp [*, errW_none, errW_some] <;> rfl), by repeat (first | (with_reducible first | exact HB.out | apply below_alloc | apply pw_below_drewN | apply below_drew1) | exact HB.out)⟩
      · rw [if_neg c5] at H
        have c5b0 : ((rd t109 2) == 4520) = false := beq_eq_false_iff_ne.mpr c5
        have c5b1 : ((rd t109 2) != 4520) = true := bne_iff_ne.mpr c5
        obtain rfl := Option.some.inj H
        go_enter Try.func11, Try.ntmps11
        go_wp2_with (first | ((with_reducible refine gate_callee (f := 10) rfl ?_); refine goesL_ (some 4) rfl rfl Try.func10 (by kernel_rfl) rfl #[.int .i32 44033] rfl (by (try simp only [List.map_toArray, List.map_cons, List.map_nil]); first | done | rfl | (simp only [List.length_drop, List.length_take]; rfl)) ?_; (with_reducible refine (hangul_Split.calls 44033 t109 _ A1.out).mono ?_); rintro e w11 ⟨v110, rfl, ho0, hb⟩; refine ⟨_, rfl, ?_⟩; have n0_ := Aside0.mk (Kd.R_lower ho0 (below_size (by repeat (first | (with_reducible first | exact HB.out | apply below_alloc | apply pw_below_drewN | apply below_drew1) | exact HB.out)))); have n1_ := Aside0.mk (below_step (by repeat (first | (with_reducible first | exact HB.out | apply below_alloc | apply pw_below_drewN | apply below_drew1) | exact HB.out)) hb); clear HB; have HO111 := n0_; have HB := n1_; clear n0_ n1_; (try clear hb); (try clear hb2); (try clear hk); (try clear hi); (try clear ho0)) | ((with_reducible refine gate_callee (f := 8) rfl ?_); refine goesL_ (some 6) rfl rfl Try.func8 (by kernel_rfl) rfl #[.int .i32 4352, .int .i32 4449] rfl (by (try simp only [List.map_toArray, List.map_cons, List.map_nil]); first | done | rfl | (simp only [List.length_drop, List.length_take]; rfl)) ?_; (with_reducible refine (hangul_Join.calls k 4352 4449 t112 t113 _ A2.out).mono ?_); rintro e w' ⟨rfl, ⟨nd, rfl⟩⟩; refine ⟨_, rfl, ?_⟩; obtain ⟨Ao12, co12, eo12⟩ := Kd.R_slice HO111.out; subst eo12; have p114 : 0 ≤ (2 : Int) := (by omega); have q114 : 2 < (t109.length : Int) := of_decide_eq_true (by first | (with_reducible assumption) | assumption); obtain ⟨ad114, e114, hx114_0⟩ := Kd.at_int (Kd.R_reads' HO111.out).2.2 2 p114 q114; cases e114; (try simp only [show (2 : Int).toNat = 2 from rfl, Nat.reduceMul, Nat.reduceEqDiff, Go.Addr.add, ↓reduceIte] at hx114_0); have qi114 : (2 < t109.length) = True := eq_true (by omega); (try rw [show ((2 : Int)).toNat = 2 from rfl] at hx114_0); replace p114 := eq_true p114; replace q114 := eq_true q114))
        go_ret
        exact ⟨by first | rfl | (simp [errW_none, errW_some] <;> rfl) | (simp [*, errW_none, errW_some] <;> rfl), by repeat (first | (with_reducible first | exact HB.out | apply below_alloc | apply pw_below_drewN | apply below_drew1) | exact HB.out)⟩
    · rw [if_neg c4] at H
      exact absurd H (by simp)
  · rw [if_neg c3] at H
    have c3b0 : ((t109.length : Int) == 3) = false := beq_eq_false_iff_ne.mpr c3
    have c3b1 : ((t109.length : Int) != 3) = true := bne_iff_ne.mpr c3
    obtain rfl := Option.some.inj H
    go_enter Try.func11, Try.ntmps11
    go_wp2_with (first | ((with_reducible refine gate_callee (f := 10) rfl ?_); refine goesL_ (some 4) rfl rfl Try.func10 (by kernel_rfl) rfl #[.int .i32 44033] rfl (by (try simp only [List.map_toArray, List.map_cons, List.map_nil]); first | done | rfl | (simp only [List.length_drop, List.length_take]; rfl)) ?_; (with_reducible refine (hangul_Split.calls 44033 t109 _ A1.out).mono ?_); rintro e w13 ⟨v110, rfl, ho0, hb⟩; refine ⟨_, rfl, ?_⟩; have n0_ := Aside0.mk (Kd.R_lower ho0 (below_size (by repeat (first | (with_reducible first | exact HB.out | apply below_alloc | apply pw_below_drewN | apply below_drew1) | exact HB.out)))); have n1_ := Aside0.mk (below_step (by repeat (first | (with_reducible first | exact HB.out | apply below_alloc | apply pw_below_drewN | apply below_drew1) | exact HB.out)) hb); clear HB; have HO111 := n0_; have HB := n1_; clear n0_ n1_; (try clear hb); (try clear hb2); (try clear hk); (try clear hi); (try clear ho0)) | ((with_reducible refine gate_callee (f := 8) rfl ?_); refine goesL_ (some 6) rfl rfl Try.func8 (by kernel_rfl) rfl #[.int .i32 4352, .int .i32 4449] rfl (by (try simp only [List.map_toArray, List.map_cons, List.map_nil]); first | done | rfl | (simp only [List.length_drop, List.length_take]; rfl)) ?_; (with_reducible refine (hangul_Join.calls k 4352 4449 t112 t113 _ A2.out).mono ?_); rintro e w' ⟨rfl, ⟨nd, rfl⟩⟩; refine ⟨_, rfl, ?_⟩; obtain ⟨Ao14, co14, eo14⟩ := Kd.R_slice HO111.out; subst eo14))
    go_ret
    exact ⟨by first | rfl | (simp [errW_none, errW_some] <;> rfl) | (simp [*, errW_none, errW_some] <;> rfl), by repeat (first | (with_reducible first | exact HB.out | apply below_alloc | apply pw_below_drewN | apply below_drew1) | exact HB.out)⟩

end Go.Proofs.Ytcgnojbddclhdaa.PHangulAll
