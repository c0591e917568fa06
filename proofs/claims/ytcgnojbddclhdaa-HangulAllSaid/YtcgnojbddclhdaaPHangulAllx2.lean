/- The walk of a law: begun as a text of print.sh, shortened by a program of this session. -/
import Derived.Test.YtcgnojbddclhdaaPHangulAllx0
import Derived.Test.YtcgnojbddclhdaaPHangulAllx1
namespace Go.Proofs.Ytcgnojbddclhdaa.PHangulAll
open Go.RowKit Go.Proofs.YtcgnojbddclhdaaW.PrintWords Go.Proofs.YtcgnojbddclhdaaW.PrintLast Go.Proofs.YtcgnojbddclhdaaW.PrintMore
attribute [local go_sem] max2_int min2_int max_two min_two max_three min_three max_four min_four   -- for this text's walks alone
set_option linter.unusedVariables false
set_option linter.unusedSimpArgs false

/-! ### amanuensislaw05_HangulAll: function 5 -/
def amanuensislaw05_HangulAll.j0 : Nat → Int → List Int → List Int → Bool → Option (Bool)
  | 0, _, _, _, _ => none
  | k + 1, x3, x4, x5, x43 => if x43 = true then (some false) else (if (x4.length : Int) = 3 then (if 2 < (x4.length : Int) then (if (x5.length : Int) = 3 then (if 2 < (x5.length : Int) then (if 0 < (x4.length : Int) then (if 1 < (x4.length : Int) then (if 0 < (x5.length : Int) then (if 1 < (x5.length : Int) then (if (wrap64 ((wrap64 ((wrap64 ((wrap64 ((wrap64 (rd x4 0)) - 4352)) * 588)) + (wrap64 ((wrap64 ((wrap64 (rd x4 1)) - 4449)) * 28)))) + (wrap64 ((wrap64 (rd x4 2)) - 4519)))) = x3 then (if (wrap64 ((wrap64 ((wrap64 ((wrap64 ((wrap64 (rd x5 0)) - 4352)) * 588)) + (wrap64 ((wrap64 ((wrap64 (rd x5 1)) - 4449)) * 28)))) + (wrap64 ((wrap64 (rd x5 2)) - 4519)))) = (wrap64 (x3 + 1)) then (if (wrap64 ((wrap64 (rd x4 2)) - 4519)) < 28 then (some (decide ((wrap64 ((wrap64 (rd x5 2)) - 4519)) < 28))) else (some false)) else (some false)) else (some false)) else (none)) else (none)) else (none)) else (none)) else (none)) else (if 0 < (x4.length : Int) then (if 1 < (x4.length : Int) then (if 0 < (x5.length : Int) then (if 1 < (x5.length : Int) then (if (wrap64 ((wrap64 ((wrap64 ((wrap64 ((wrap64 (rd x4 0)) - 4352)) * 588)) + (wrap64 ((wrap64 ((wrap64 (rd x4 1)) - 4449)) * 28)))) + (wrap64 ((wrap64 (rd x4 2)) - 4519)))) = x3 then (if (wrap64 ((wrap64 ((wrap64 ((wrap64 ((wrap64 (rd x5 0)) - 4352)) * 588)) + (wrap64 ((wrap64 ((wrap64 (rd x5 1)) - 4449)) * 28)))) + 0)) = (wrap64 (x3 + 1)) then (if (wrap64 ((wrap64 (rd x4 2)) - 4519)) < 28 then (some (decide (0 < 28))) else (some false)) else (some false)) else (some false)) else (none)) else (none)) else (none)) else (none))) else (none)) else (if (x5.length : Int) = 3 then (if 2 < (x5.length : Int) then (if 0 < (x4.length : Int) then (if 1 < (x4.length : Int) then (if 0 < (x5.length : Int) then (if 1 < (x5.length : Int) then (if (wrap64 ((wrap64 ((wrap64 ((wrap64 ((wrap64 (rd x4 0)) - 4352)) * 588)) + (wrap64 ((wrap64 ((wrap64 (rd x4 1)) - 4449)) * 28)))) + 0)) = x3 then (if (wrap64 ((wrap64 ((wrap64 ((wrap64 ((wrap64 (rd x5 0)) - 4352)) * 588)) + (wrap64 ((wrap64 ((wrap64 (rd x5 1)) - 4449)) * 28)))) + (wrap64 ((wrap64 (rd x5 2)) - 4519)))) = (wrap64 (x3 + 1)) then (if 0 < 28 then (some (decide ((wrap64 ((wrap64 (rd x5 2)) - 4519)) < 28))) else (some false)) else (some false)) else (some false)) else (none)) else (none)) else (none)) else (none)) else (none)) else (if 0 < (x4.length : Int) then (if 1 < (x4.length : Int) then (if 0 < (x5.length : Int) then (if 1 < (x5.length : Int) then (if (wrap64 ((wrap64 ((wrap64 ((wrap64 ((wrap64 (rd x4 0)) - 4352)) * 588)) + (wrap64 ((wrap64 ((wrap64 (rd x4 1)) - 4449)) * 28)))) + 0)) = x3 then (if (wrap64 ((wrap64 ((wrap64 ((wrap64 ((wrap64 (rd x5 0)) - 4352)) * 588)) + (wrap64 ((wrap64 ((wrap64 (rd x5 1)) - 4449)) * 28)))) + 0)) = (wrap64 (x3 + 1)) then (if 0 < 28 then (some (decide (0 < 28))) else (some false)) else (some false)) else (some false)) else (none)) else (none)) else (none)) else (none))))
def amanuensislaw05_HangulAll.f (k : Nat) (a0 : Int) : Option (Bool) := (hangul_Split.f (wrap32 (wrap64 (44032 + (Int.tmod (wrap64 (a0)) 11171))))).bind fun t115 => ((hangul_Split.f (wrap32 (wrap64 ((wrap64 (44032 + (Int.tmod (wrap64 (a0)) 11171))) + 1)))).bind fun t118 => ((amanuensislaw05_answers.f k).bind fun t121 => (if t121 = true then (if (t115.length : Int) < 2 then (amanuensislaw05_HangulAll.j0 k (Int.tmod (wrap64 (a0)) 11171) t115 t118 true) else (if (t118.length : Int) < 2 then (amanuensislaw05_HangulAll.j0 k (Int.tmod (wrap64 (a0)) 11171) t115 t118 true) else ((hangul_Syllable.f 44031).bind fun t122 => (if t122 = true then (amanuensislaw05_HangulAll.j0 k (Int.tmod (wrap64 (a0)) 11171) t115 t118 true) else ((hangul_Syllable.f 55204).bind fun t123 => (if t123 = true then (amanuensislaw05_HangulAll.j0 k (Int.tmod (wrap64 (a0)) 11171) t115 t118 true) else ((hangul_Syllable.f 55203).bind fun t124 => (amanuensislaw05_HangulAll.j0 k (Int.tmod (wrap64 (a0)) 11171) t115 t118 (!t124))))))))) else (amanuensislaw05_HangulAll.j0 k (Int.tmod (wrap64 (a0)) 11171) t115 t118 true))))
theorem amanuensislaw05_HangulAll.mono_l : ∀ k, (∀ y0 y1 y2 y3, LeO (amanuensislaw05_HangulAll.j0 k y0 y1 y2 y3) (amanuensislaw05_HangulAll.j0 (k + 1) y0 y1 y2 y3))
  | 0 => fun _ _ _ _ r h => by simp [amanuensislaw05_HangulAll.j0] at h
  | k + 1 => by
    have ih0 := amanuensislaw05_HangulAll.mono_l k
    · intro y0 y1 y2 y3
      unfold amanuensislaw05_HangulAll.j0
      repeat' first
      | (with_reducible exact ih0 _ _ _ _)
      | (with_reducible exact amanuensislaw05_answers.mono _)
      | (with_reducible exact LeO.refl _)
      | (with_reducible exact LeO.none _)
      | (with_reducible refine LeO.ite ?_ ?_)
      | (with_reducible refine LeO.bind ?_ (fun _ => ?_))
      | exact ih0 _ _ _ _
      | exact amanuensislaw05_answers.mono _
      | exact LeO.none _
      | refine LeO.ite ?_ ?_
      | refine LeO.bind ?_ (fun _ => ?_)
theorem amanuensislaw05_HangulAll.mono : ∀ a0 k, LeO (amanuensislaw05_HangulAll.f k a0) (amanuensislaw05_HangulAll.f (k + 1) a0) := by
  intro a0 k
  have ih0 := amanuensislaw05_HangulAll.mono_l k
  unfold amanuensislaw05_HangulAll.f
  repeat' first
      | (with_reducible exact ih0 _ _ _ _)
      | (with_reducible exact amanuensislaw05_answers.mono _)
      | (with_reducible exact LeO.refl _)
      | (with_reducible exact LeO.none _)
      | (with_reducible refine LeO.ite ?_ ?_)
      | (with_reducible refine LeO.bind ?_ (fun _ => ?_))
      | exact ih0 _ _ _ _
      | exact amanuensislaw05_answers.mono _
      | exact LeO.none _
      | refine LeO.ite ?_ ?_
      | refine LeO.bind ?_ (fun _ => ?_)
set_option maxHeartbeats 8000000 in
set_option maxRecDepth 100000 in
theorem amanuensislaw05_HangulAll.calls (k : Nat) (a0 : Int) (r : Bool) (hr : r = true) (w : World) (h : amanuensislaw05_HangulAll.f k a0 = some r) :
    Calls Try.prog 5 #[.int .u16 a0] w fun e w' => e = .returned (.bool r) ∧ Below w.heap.size w w' := by
  replace hr := Aside0.mk hr
  have HB := Aside0.mk (Below.refl w.heap.size w)
  have H : ((hangul_Split.f (wrap32 (wrap64 (44032 + (Int.tmod (wrap64 (a0)) 11171))))).bind fun t115 => ((hangul_Split.f (wrap32 (wrap64 ((wrap64 (44032 + (Int.tmod (wrap64 (a0)) 11171))) + 1)))).bind fun t118 => ((amanuensislaw05_answers.f k).bind fun t121 => (if t121 = true then (if (t115.length : Int) < 2 then (amanuensislaw05_HangulAll.j0 k (Int.tmod (wrap64 (a0)) 11171) t115 t118 true) else (if (t118.length : Int) < 2 then (amanuensislaw05_HangulAll.j0 k (Int.tmod (wrap64 (a0)) 11171) t115 t118 true) else ((hangul_Syllable.f 44031).bind fun t122 => (if t122 = true then (amanuensislaw05_HangulAll.j0 k (Int.tmod (wrap64 (a0)) 11171) t115 t118 true) else ((hangul_Syllable.f 55204).bind fun t123 => (if t123 = true then (amanuensislaw05_HangulAll.j0 k (Int.tmod (wrap64 (a0)) 11171) t115 t118 true) else ((hangul_Syllable.f 55203).bind fun t124 => (amanuensislaw05_HangulAll.j0 k (Int.tmod (wrap64 (a0)) 11171) t115 t118 (!t124))))))))) else (amanuensislaw05_HangulAll.j0 k (Int.tmod (wrap64 (a0)) 11171) t115 t118 true))))) = some r := h
  clear h
  replace H := Option.bind_eq_some_iff.mp H
  obtain ⟨t115, A20, H⟩ := H
  replace H : ((hangul_Split.f (wrap32 (wrap64 ((wrap64 (44032 + (Int.tmod (wrap64 (a0)) 11171))) + 1)))).bind fun t118 => ((amanuensislaw05_answers.f k).bind fun t121 => (if t121 = true then (if (t115.length : Int) < 2 then (amanuensislaw05_HangulAll.j0 k (Int.tmod (wrap64 (a0)) 11171) t115 t118 true) else (if (t118.length : Int) < 2 then (amanuensislaw05_HangulAll.j0 k (Int.tmod (wrap64 (a0)) 11171) t115 t118 true) else ((hangul_Syllable.f 44031).bind fun t122 => (if t122 = true then (amanuensislaw05_HangulAll.j0 k (Int.tmod (wrap64 (a0)) 11171) t115 t118 true) else ((hangul_Syllable.f 55204).bind fun t123 => (if t123 = true then (amanuensislaw05_HangulAll.j0 k (Int.tmod (wrap64 (a0)) 11171) t115 t118 true) else ((hangul_Syllable.f 55203).bind fun t124 => (amanuensislaw05_HangulAll.j0 k (Int.tmod (wrap64 (a0)) 11171) t115 t118 (!t124))))))))) else (amanuensislaw05_HangulAll.j0 k (Int.tmod (wrap64 (a0)) 11171) t115 t118 true)))) = some r := H
  have A2 := Aside0.mk A20
  clear A20
  replace H := Option.bind_eq_some_iff.mp H
  obtain ⟨t118, A30, H⟩ := H
  replace H : ((amanuensislaw05_answers.f k).bind fun t121 => (if t121 = true then (if (t115.length : Int) < 2 then (amanuensislaw05_HangulAll.j0 k (Int.tmod (wrap64 (a0)) 11171) t115 t118 true) else (if (t118.length : Int) < 2 then (amanuensislaw05_HangulAll.j0 k (Int.tmod (wrap64 (a0)) 11171) t115 t118 true) else ((hangul_Syllable.f 44031).bind fun t122 => (if t122 = true then (amanuensislaw05_HangulAll.j0 k (Int.tmod (wrap64 (a0)) 11171) t115 t118 true) else ((hangul_Syllable.f 55204).bind fun t123 => (if t123 = true then (amanuensislaw05_HangulAll.j0 k (Int.tmod (wrap64 (a0)) 11171) t115 t118 true) else ((hangul_Syllable.f 55203).bind fun t124 => (amanuensislaw05_HangulAll.j0 k (Int.tmod (wrap64 (a0)) 11171) t115 t118 (!t124))))))))) else (amanuensislaw05_HangulAll.j0 k (Int.tmod (wrap64 (a0)) 11171) t115 t118 true))) = some r := H
  have A3 := Aside0.mk A30
  clear A30
  have HC4 := Aside0.mk H
  clear H
  go_enter Try.func5, Try.ntmps5
  go_upto_region 3 with (first | (go_at_call 10; (with_reducible refine (hangul_Split.calls (wrap32 (wrap64 (44032 + (Int.tmod (wrap64 (a0)) 11171)))) t115 _ A2.out).mono ?_); rintro e w5 ⟨v116, rfl, ho0, hb⟩; have n0_ := Aside0.mk (Kd.R_lower ho0 (below_size (by repeat (first | (with_reducible first | exact HB.out | apply below_alloc | apply pw_below_drewN | apply below_drew1) | exact HB.out)))); have n1_ := Aside0.mk (below_step (by repeat (first | (with_reducible first | exact HB.out | apply below_alloc | apply pw_below_drewN | apply below_drew1) | exact HB.out)) hb); clear HB; have HO117 := n0_; have HB := n1_; clear n0_ n1_; (try clear hb); (try clear hb2); (try clear hk); (try clear hi); (try clear ho0)) | (go_at_call 10; (with_reducible refine (hangul_Split.calls (wrap32 (wrap64 ((wrap64 (44032 + (Int.tmod (wrap64 (a0)) 11171))) + 1))) t118 _ A3.out).mono ?_); rintro e w6 ⟨v119, rfl, ho0, hb⟩; have n0_ := Aside0.mk (Kd.R_elder' (by (with_reducible repeat (first | apply Kd.R_alloc | apply Kd.R_drewN | apply Kd.R_drew)); exact HO117.out) (Kd.R_base ho0) hb); have n1_ := Aside0.mk (Kd.R_lower (Kd.R_new' ho0 (Kd.R_lt (by (with_reducible repeat (first | apply Kd.R_alloc | apply Kd.R_drewN | apply Kd.R_drew)); exact HO117.out))) (below_size (by repeat (first | (with_reducible first | exact HB.out | apply below_alloc | apply pw_below_drewN | apply below_drew1) | exact HB.out)))); have n2_ := Aside0.mk (below_step (by repeat (first | (with_reducible first | exact HB.out | apply below_alloc | apply pw_below_drewN | apply below_drew1) | exact HB.out)) hb); clear HO117; clear HB; have HO117 := n0_; have HO120 := n1_; have HB := n2_; clear n0_ n1_ n2_; (try clear hb); (try clear hb2); (try clear hk); (try clear hi); (try clear ho0)))
  repeat (go_quiet (first | (go_at_call 10; (with_reducible refine (hangul_Split.calls (wrap32 (wrap64 (44032 + (Int.tmod (wrap64 (a0)) 11171)))) t115 _ A2.out).mono ?_); rintro e w5 ⟨v116, rfl, ho0, hb⟩; have n0_ := Aside0.mk (Kd.R_lower ho0 (below_size (by repeat (first | (with_reducible first | exact HB.out | apply below_alloc | apply pw_below_drewN | apply below_drew1) | exact HB.out)))); have n1_ := Aside0.mk (below_step (by repeat (first | (with_reducible first | exact HB.out | apply below_alloc | apply pw_below_drewN | apply below_drew1) | exact HB.out)) hb); clear HB; have HO117 := n0_; have HB := n1_; clear n0_ n1_; (try clear hb); (try clear hb2); (try clear hk); (try clear hi); (try clear ho0)) | (go_at_call 10; (with_reducible refine (hangul_Split.calls (wrap32 (wrap64 ((wrap64 (44032 + (Int.tmod (wrap64 (a0)) 11171))) + 1))) t118 _ A3.out).mono ?_); rintro e w6 ⟨v119, rfl, ho0, hb⟩; have n0_ := Aside0.mk (Kd.R_elder' (by (with_reducible repeat (first | apply Kd.R_alloc | apply Kd.R_drewN | apply Kd.R_drew)); exact HO117.out) (Kd.R_base ho0) hb); have n1_ := Aside0.mk (Kd.R_lower (Kd.R_new' ho0 (Kd.R_lt (by (with_reducible repeat (first | apply Kd.R_alloc | apply Kd.R_drewN | apply Kd.R_drew)); exact HO117.out))) (below_size (by repeat (first | (with_reducible first | exact HB.out | apply below_alloc | apply pw_below_drewN | apply below_drew1) | exact HB.out)))); have n2_ := Aside0.mk (below_step (by repeat (first | (with_reducible first | exact HB.out | apply below_alloc | apply pw_below_drewN | apply below_drew1) | exact HB.out)) hb); clear HO117; clear HB; have HO117 := n0_; have HO120 := n1_; have HB := n2_; clear n0_ n1_ n2_; (try clear hb); (try clear hb2); (try clear hk); (try clear hi); (try clear ho0))); go_upto_region 3 with (first | (go_at_call 10; (with_reducible refine (hangul_Split.calls (wrap32 (wrap64 (44032 + (Int.tmod (wrap64 (a0)) 11171)))) t115 _ A2.out).mono ?_); rintro e w5 ⟨v116, rfl, ho0, hb⟩; have n0_ := Aside0.mk (Kd.R_lower ho0 (below_size (by repeat (first | (with_reducible first | exact HB.out | apply below_alloc | apply pw_below_drewN | apply below_drew1) | exact HB.out)))); have n1_ := Aside0.mk (below_step (by repeat (first | (with_reducible first | exact HB.out | apply below_alloc | apply pw_below_drewN | apply below_drew1) | exact HB.out)) hb); clear HB; have HO117 := n0_; have HB := n1_; clear n0_ n1_; (try clear hb); (try clear hb2); (try clear hk); (try clear hi); (try clear ho0)) | (go_at_call 10; (with_reducible refine (hangul_Split.calls (wrap32 (wrap64 ((wrap64 (44032 + (Int.tmod (wrap64 (a0)) 11171))) + 1))) t118 _ A3.out).mono ?_); rintro e w6 ⟨v119, rfl, ho0, hb⟩; have n0_ := Aside0.mk (Kd.R_elder' (by (with_reducible repeat (first | apply Kd.R_alloc | apply Kd.R_drewN | apply Kd.R_drew)); exact HO117.out) (Kd.R_base ho0) hb); have n1_ := Aside0.mk (Kd.R_lower (Kd.R_new' ho0 (Kd.R_lt (by (with_reducible repeat (first | apply Kd.R_alloc | apply Kd.R_drewN | apply Kd.R_drew)); exact HO117.out))) (below_size (by repeat (first | (with_reducible first | exact HB.out | apply below_alloc | apply pw_below_drewN | apply below_drew1) | exact HB.out)))); have n2_ := Aside0.mk (below_step (by repeat (first | (with_reducible first | exact HB.out | apply below_alloc | apply pw_below_drewN | apply below_drew1) | exact HB.out)) hb); clear HO117; clear HB; have HO117 := n0_; have HO120 := n1_; have HB := n2_; clear n0_ n1_ n2_; (try clear hb); (try clear hb2); (try clear hk); (try clear hi); (try clear ho0))))
  (try simp only [Act.put, List.setIfInBounds_toArray, List.set_cons_zero, List.set_cons_succ])
  go_cut [43] (fun v43 wc => ∃ (kq : Nat) (x43_3 : Bool), v43 = .bool x43_3 ∧ Aside0 (amanuensislaw05_HangulAll.j0 kq (Int.tmod (wrap64 (a0)) 11171) t115 t118 x43_3 = some r) ∧ Aside0 (kq ≤ k) ∧ Aside0 (Kd.R (Kd.int .i32) 21 wc w.heap.size (fun k_ => some k_ ≠ (v119 : Value).ownBlock) v116 t115) ∧ Aside0 (Kd.R (Kd.int .i32) 21 wc w.heap.size (fun k_ => some k_ ≠ (v116 : Value).ownBlock) v119 t118) ∧ Aside0 (Below w.heap.size w wc))
  case first =>
    have H := HC4.out
    clear HC4
    replace H := Option.bind_eq_some_iff.mp H
    obtain ⟨t121, A70, H⟩ := H
    replace H : (if t121 = true then (if (t115.length : Int) < 2 then (amanuensislaw05_HangulAll.j0 k (Int.tmod (wrap64 (a0)) 11171) t115 t118 true) else (if (t118.length : Int) < 2 then (amanuensislaw05_HangulAll.j0 k (Int.tmod (wrap64 (a0)) 11171) t115 t118 true) else ((hangul_Syllable.f 44031).bind fun t122 => (if t122 = true then (amanuensislaw05_HangulAll.j0 k (Int.tmod (wrap64 (a0)) 11171) t115 t118 true) else ((hangul_Syllable.f 55204).bind fun t123 => (if t123 = true then (amanuensislaw05_HangulAll.j0 k (Int.tmod (wrap64 (a0)) 11171) t115 t118 true) else ((hangul_Syllable.f 55203).bind fun t124 => (amanuensislaw05_HangulAll.j0 k (Int.tmod (wrap64 (a0)) 11171) t115 t118 (!t124))))))))) else (amanuensislaw05_HangulAll.j0 k (Int.tmod (wrap64 (a0)) 11171) t115 t118 true)) = some r := H
    have A7 := Aside0.mk A70
    clear A70
    by_cases c8 : t121 = true
    · subst c8
      have H1 : (if (t115.length : Int) < 2 then (amanuensislaw05_HangulAll.j0 k (Int.tmod (wrap64 (a0)) 11171) t115 t118 true) else (if (t118.length : Int) < 2 then (amanuensislaw05_HangulAll.j0 k (Int.tmod (wrap64 (a0)) 11171) t115 t118 true) else ((hangul_Syllable.f 44031).bind fun t122 => (if t122 = true then (amanuensislaw05_HangulAll.j0 k (Int.tmod (wrap64 (a0)) 11171) t115 t118 true) else ((hangul_Syllable.f 55204).bind fun t123 => (if t123 = true then (amanuensislaw05_HangulAll.j0 k (Int.tmod (wrap64 (a0)) 11171) t115 t118 true) else ((hangul_Syllable.f 55203).bind fun t124 => (amanuensislaw05_HangulAll.j0 k (Int.tmod (wrap64 (a0)) 11171) t115 t118 (!t124))))))))) = some r := by rw [if_pos rfl] at H; exact H
      clear H
      have H := H1
      clear H1
      by_cases c9 : (t115.length : Int) < 2
      · rw [if_pos c9] at H
        have c9b0 : decide ((t115.length : Int) < 2) = true := decide_eq_true c9
        have c9b1 : decide (t115.length < 2) = true := decide_eq_true (by omega)
        clear c9
        (first | rw [c9b0] | (simp only [i64_w, i32_w]; rw [c9b0]) | skip)
        have H' := Aside0.mk H
        clear H
        go_wp2_with (first | (go_at_call 11; (with_reducible refine (amanuensislaw05_answers.calls k  true _ A7.out).mono ?_); rintro e w10 ⟨rfl, hb⟩; have n0_ := Aside0.mk (Kd.R_below (by (with_reducible repeat (first | apply Kd.R_alloc | apply Kd.R_drewN | apply Kd.R_drew)); exact HO117.out) hb); have n1_ := Aside0.mk (Kd.R_below (by (with_reducible repeat (first | apply Kd.R_alloc | apply Kd.R_drewN | apply Kd.R_drew)); exact HO120.out) hb); have n2_ := Aside0.mk (below_step (by repeat (first | (with_reducible first | exact HB.out | apply below_alloc | apply pw_below_drewN | apply below_drew1) | exact HB.out)) hb); clear HO117; clear HO120; clear HB; have HO117 := n0_; have HO120 := n1_; have HB := n2_; clear n0_ n1_ n2_; (try clear hb); (try clear hb2); (try clear hk); (try clear hi); obtain ⟨Ao11, co11, eo11⟩ := Kd.R_slice HO117.out; subst eo11))
        repeat (go_quiet (first | (go_at_call 11; (with_reducible refine (amanuensislaw05_answers.calls k  true _ A7.out).mono ?_); rintro e w10 ⟨rfl, hb⟩; have n0_ := Aside0.mk (Kd.R_below (by (with_reducible repeat (first | apply Kd.R_alloc | apply Kd.R_drewN | apply Kd.R_drew)); exact HO117.out) hb); have n1_ := Aside0.mk (Kd.R_below (by (with_reducible repeat (first | apply Kd.R_alloc | apply Kd.R_drewN | apply Kd.R_drew)); exact HO120.out) hb); have n2_ := Aside0.mk (below_step (by repeat (first | (with_reducible first | exact HB.out | apply below_alloc | apply pw_below_drewN | apply below_drew1) | exact HB.out)) hb); clear HO117; clear HO120; clear HB; have HO117 := n0_; have HO120 := n1_; have HB := n2_; clear n0_ n1_ n2_; (try clear hb); (try clear hb2); (try clear hk); (try clear hi); obtain ⟨Ao11, co11, eo11⟩ := Kd.R_slice HO117.out; subst eo11)); try go_wp2_with (first | (go_at_call 11; (with_reducible refine (amanuensislaw05_answers.calls k  true _ A7.out).mono ?_); rintro e w10 ⟨rfl, hb⟩; have n0_ := Aside0.mk (Kd.R_below (by (with_reducible repeat (first | apply Kd.R_alloc | apply Kd.R_drewN | apply Kd.R_drew)); exact HO117.out) hb); have n1_ := Aside0.mk (Kd.R_below (by (with_reducible repeat (first | apply Kd.R_alloc | apply Kd.R_drewN | apply Kd.R_drew)); exact HO120.out) hb); have n2_ := Aside0.mk (below_step (by repeat (first | (with_reducible first | exact HB.out | apply below_alloc | apply pw_below_drewN | apply below_drew1) | exact HB.out)) hb); clear HO117; clear HO120; clear HB; have HO117 := n0_; have HO120 := n1_; have HB := n2_; clear n0_ n1_ n2_; (try clear hb); (try clear hb2); (try clear hk); (try clear hi); obtain ⟨Ao11, co11, eo11⟩ := Kd.R_slice HO117.out; subst eo11)))
        go_meet
        case rel => exact ⟨_, (true), (by first | rfl | (simp; done) | (simp [*]; done)), H', ⟨by first | omega | exact Nat.le_refl _⟩, ⟨by (with_reducible repeat (first | apply Kd.R_alloc | apply Kd.R_drewN | apply Kd.R_drew)); exact Kd.R_mono HO117.out (fun _ hk => hk.2)⟩, ⟨by (with_reducible repeat (first | apply Kd.R_alloc | apply Kd.R_drewN | apply Kd.R_drew)); exact Kd.R_mono HO120.out (fun _ hk => hk.2)⟩, ⟨by repeat (first | (with_reducible first | exact HB.out | apply below_alloc | apply pw_below_drewN | apply below_drew1) | exact HB.out)⟩⟩
      · rw [if_neg c9] at H
        have c9b0 : decide ((t115.length : Int) < 2) = false := decide_eq_false c9
        have c9b1 : decide (t115.length < 2) = false := decide_eq_false (by omega)
        clear c9
        (first | rw [c9b0] | (simp only [i64_w, i32_w]; rw [c9b0]) | skip)
        by_cases c12 : (t118.length : Int) < 2
        · rw [if_pos c12] at H
          have c12b0 : decide ((t118.length : Int) < 2) = true := decide_eq_true c12
          have c12b1 : decide (t118.length < 2) = true := decide_eq_true (by omega)
          clear c12
          have H' := Aside0.mk H
          clear H
          go_wp2_with (first | (go_at_call 11; (with_reducible refine (amanuensislaw05_answers.calls k  true _ A7.out).mono ?_); rintro e w13 ⟨rfl, hb⟩; have n0_ := Aside0.mk (Kd.R_below (by (with_reducible repeat (first | apply Kd.R_alloc | apply Kd.R_drewN | apply Kd.R_drew)); exact HO117.out) hb); have n1_ := Aside0.mk (Kd.R_below (by (with_reducible repeat (first | apply Kd.R_alloc | apply Kd.R_drewN | apply Kd.R_drew)); exact HO120.out) hb); have n2_ := Aside0.mk (below_step (by repeat (first | (with_reducible first | exact HB.out | apply below_alloc | apply pw_below_drewN | apply below_drew1) | exact HB.out)) hb); clear HO117; clear HO120; clear HB; have HO117 := n0_; have HO120 := n1_; have HB := n2_; clear n0_ n1_ n2_; (try clear hb); (try clear hb2); (try clear hk); (try clear hi); obtain ⟨Ao14, co14, eo14⟩ := Kd.R_slice HO117.out; subst eo14; obtain ⟨Ao15, co15, eo15⟩ := Kd.R_slice HO120.out; subst eo15))
          repeat (go_quiet (first | (go_at_call 11; (with_reducible refine (amanuensislaw05_answers.calls k  true _ A7.out).mono ?_); rintro e w13 ⟨rfl, hb⟩; have n0_ := Aside0.mk (Kd.R_below (by (with_reducible repeat (first | apply Kd.R_alloc | apply Kd.R_drewN | apply Kd.R_drew)); exact HO117.out) hb); have n1_ := Aside0.mk (Kd.R_below (by (with_reducible repeat (first | apply Kd.R_alloc | apply Kd.R_drewN | apply Kd.R_drew)); exact HO120.out) hb); have n2_ := Aside0.mk (below_step (by repeat (first | (with_reducible first | exact HB.out | apply below_alloc | apply pw_below_drewN | apply below_drew1) | exact HB.out)) hb); clear HO117; clear HO120; clear HB; have HO117 := n0_; have HO120 := n1_; have HB := n2_; clear n0_ n1_ n2_; (try clear hb); (try clear hb2); (try clear hk); (try clear hi); obtain ⟨Ao14, co14, eo14⟩ := Kd.R_slice HO117.out; subst eo14; obtain ⟨Ao15, co15, eo15⟩ := Kd.R_slice HO120.out; subst eo15)); try go_wp2_with (first | (go_at_call 11; (with_reducible refine (amanuensislaw05_answers.calls k  true _ A7.out).mono ?_); rintro e w13 ⟨rfl, hb⟩; have n0_ := Aside0.mk (Kd.R_below (by (with_reducible repeat (first | apply Kd.R_alloc | apply Kd.R_drewN | apply Kd.R_drew)); exact HO117.out) hb); have n1_ := Aside0.mk (Kd.R_below (by (with_reducible repeat (first | apply Kd.R_alloc | apply Kd.R_drewN | apply Kd.R_drew)); exact HO120.out) hb); have n2_ := Aside0.mk (below_step (by repeat (first | (with_reducible first | exact HB.out | apply below_alloc | apply pw_below_drewN | apply below_drew1) | exact HB.out)) hb); clear HO117; clear HO120; clear HB; have HO117 := n0_; have HO120 := n1_; have HB := n2_; clear n0_ n1_ n2_; (try clear hb); (try clear hb2); (try clear hk); (try clear hi); obtain ⟨Ao14, co14, eo14⟩ := Kd.R_slice HO117.out; subst eo14; obtain ⟨Ao15, co15, eo15⟩ := Kd.R_slice HO120.out; subst eo15)))
          go_meet
          case rel => exact ⟨_, (true), (by first | rfl | (simp; done) | (simp [*]; done)), H', ⟨by first | omega | exact Nat.le_refl _⟩, ⟨by (with_reducible repeat (first | apply Kd.R_alloc | apply Kd.R_drewN | apply Kd.R_drew)); exact Kd.R_mono HO117.out (fun _ hk => hk.2)⟩, ⟨by (with_reducible repeat (first | apply Kd.R_alloc | apply Kd.R_drewN | apply Kd.R_drew)); exact Kd.R_mono HO120.out (fun _ hk => hk.2)⟩, ⟨by repeat (first | (with_reducible first | exact HB.out | apply below_alloc | apply pw_below_drewN | apply below_drew1) | exact HB.out)⟩⟩
        · rw [if_neg c12] at H
          have c12b0 : decide ((t118.length : Int) < 2) = false := decide_eq_false c12
          have c12b1 : decide (t118.length < 2) = false := decide_eq_false (by omega)
          clear c12
          replace H := Option.bind_eq_some_iff.mp H
          obtain ⟨t122, A160, H⟩ := H
          replace H : (if t122 = true then (amanuensislaw05_HangulAll.j0 k (Int.tmod (wrap64 (a0)) 11171) t115 t118 true) else ((hangul_Syllable.f 55204).bind fun t123 => (if t123 = true then (amanuensislaw05_HangulAll.j0 k (Int.tmod (wrap64 (a0)) 11171) t115 t118 true) else ((hangul_Syllable.f 55203).bind fun t124 => (amanuensislaw05_HangulAll.j0 k (Int.tmod (wrap64 (a0)) 11171) t115 t118 (!t124)))))) = some r := H
          have A16 := Aside0.mk A160
          clear A160
          by_cases c17 : t122 = true
          · subst c17
            have H1 : (amanuensislaw05_HangulAll.j0 k (Int.tmod (wrap64 (a0)) 11171) t115 t118 true) = some r := by rw [if_pos rfl] at H; exact H
            clear H
            have H := H1
            clear H1
            have H' := Aside0.mk H
            clear H
            go_wp2_with (first | (go_at_call 11; (with_reducible refine (amanuensislaw05_answers.calls k  true _ A7.out).mono ?_); rintro e w18 ⟨rfl, hb⟩; have n0_ := Aside0.mk (Kd.R_below (by (with_reducible repeat (first | apply Kd.R_alloc | apply Kd.R_drewN | apply Kd.R_drew)); exact HO117.out) hb); have n1_ := Aside0.mk (Kd.R_below (by (with_reducible repeat (first | apply Kd.R_alloc | apply Kd.R_drewN | apply Kd.R_drew)); exact HO120.out) hb); have n2_ := Aside0.mk (below_step (by repeat (first | (with_reducible first | exact HB.out | apply below_alloc | apply pw_below_drewN | apply below_drew1) | exact HB.out)) hb); clear HO117; clear HO120; clear HB; have HO117 := n0_; have HO120 := n1_; have HB := n2_; clear n0_ n1_ n2_; (try clear hb); (try clear hb2); (try clear hk); (try clear hi); obtain ⟨Ao19, co19, eo19⟩ := Kd.R_slice HO117.out; subst eo19; obtain ⟨Ao20, co20, eo20⟩ := Kd.R_slice HO120.out; subst eo20) | (go_at_call 14; (with_reducible refine (hangul_Syllable.calls 44031 true _ A16.out).mono ?_); rintro e w' ⟨rfl, ⟨nd, rfl⟩⟩; (try first | exact ⟨rfl, _, World.drewN_drewN _ _ _⟩ | exact ⟨rfl, _, Eq.trans (World.drewN_drewN _ _ _) (congrArg (World.drewN _) (Nat.add_assoc _ _ _))⟩)))
            repeat (go_quiet (first | (go_at_call 11; (with_reducible refine (amanuensislaw05_answers.calls k  true _ A7.out).mono ?_); rintro e w18 ⟨rfl, hb⟩; have n0_ := Aside0.mk (Kd.R_below (by (with_reducible repeat (first | apply Kd.R_alloc | apply Kd.R_drewN | apply Kd.R_drew)); exact HO117.out) hb); have n1_ := Aside0.mk (Kd.R_below (by (with_reducible repeat (first | apply Kd.R_alloc | apply Kd.R_drewN | apply Kd.R_drew)); exact HO120.out) hb); have n2_ := Aside0.mk (below_step (by repeat (first | (with_reducible first | exact HB.out | apply below_alloc | apply pw_below_drewN | apply below_drew1) | exact HB.out)) hb); clear HO117; clear HO120; clear HB; have HO117 := n0_; have HO120 := n1_; have HB := n2_; clear n0_ n1_ n2_; (try clear hb); (try clear hb2); (try clear hk); (try clear hi); obtain ⟨Ao19, co19, eo19⟩ := Kd.R_slice HO117.out; subst eo19; obtain ⟨Ao20, co20, eo20⟩ := Kd.R_slice HO120.out; subst eo20) | (go_at_call 14; (with_reducible refine (hangul_Syllable.calls 44031 true _ A16.out).mono ?_); rintro e w' ⟨rfl, ⟨nd, rfl⟩⟩; (try first | exact ⟨rfl, _, World.drewN_drewN _ _ _⟩ | exact ⟨rfl, _, Eq.trans (World.drewN_drewN _ _ _) (congrArg (World.drewN _) (Nat.add_assoc _ _ _))⟩))); try go_wp2_with (first | (go_at_call 11; (with_reducible refine (amanuensislaw05_answers.calls k  true _ A7.out).mono ?_); rintro e w18 ⟨rfl, hb⟩; have n0_ := Aside0.mk (Kd.R_below (by (with_reducible repeat (first | apply Kd.R_alloc | apply Kd.R_drewN | apply Kd.R_drew)); exact HO117.out) hb); have n1_ := Aside0.mk (Kd.R_below (by (with_reducible repeat (first | apply Kd.R_alloc | apply Kd.R_drewN | apply Kd.R_drew)); exact HO120.out) hb); have n2_ := Aside0.mk (below_step (by repeat (first | (with_reducible first | exact HB.out | apply below_alloc | apply pw_below_drewN | apply below_drew1) | exact HB.out)) hb); clear HO117; clear HO120; clear HB; have HO117 := n0_; have HO120 := n1_; have HB := n2_; clear n0_ n1_ n2_; (try clear hb); (try clear hb2); (try clear hk); (try clear hi); obtain ⟨Ao19, co19, eo19⟩ := Kd.R_slice HO117.out; subst eo19; obtain ⟨Ao20, co20, eo20⟩ := Kd.R_slice HO120.out; subst eo20) | (go_at_call 14; (with_reducible refine (hangul_Syllable.calls 44031 true _ A16.out).mono ?_); rintro e w' ⟨rfl, ⟨nd, rfl⟩⟩; (try first | exact ⟨rfl, _, World.drewN_drewN _ _ _⟩ | exact ⟨rfl, _, Eq.trans (World.drewN_drewN _ _ _) (congrArg (World.drewN _) (Nat.add_assoc _ _ _))⟩))))
            go_meet
            case rel => exact ⟨_, (true), (by first | rfl | (simp; done) | (simp [*]; done)), H', ⟨by first | omega | exact Nat.le_refl _⟩, ⟨by (with_reducible repeat (first | apply Kd.R_alloc | apply Kd.R_drewN | apply Kd.R_drew)); exact Kd.R_mono HO117.out (fun _ hk => hk.2)⟩, ⟨by (with_reducible repeat (first | apply Kd.R_alloc | apply Kd.R_drewN | apply Kd.R_drew)); exact Kd.R_mono HO120.out (fun _ hk => hk.2)⟩, ⟨by repeat (first | (with_reducible first | exact HB.out | apply below_alloc | apply pw_below_drewN | apply below_drew1) | exact HB.out)⟩⟩
          · replace c17 := Bool.eq_false_iff.mpr c17
            subst c17
            have H1 : ((hangul_Syllable.f 55204).bind fun t123 => (if t123 = true then (amanuensislaw05_HangulAll.j0 k (Int.tmod (wrap64 (a0)) 11171) t115 t118 true) else ((hangul_Syllable.f 55203).bind fun t124 => (amanuensislaw05_HangulAll.j0 k (Int.tmod (wrap64 (a0)) 11171) t115 t118 (!t124))))) = some r := by rw [if_neg (show ¬ (false = true) by decide)] at H; exact H
            clear H
            have H := H1
            clear H1
            replace H := Option.bind_eq_some_iff.mp H
            obtain ⟨t123, A210, H⟩ := H
            replace H : (if t123 = true then (amanuensislaw05_HangulAll.j0 k (Int.tmod (wrap64 (a0)) 11171) t115 t118 true) else ((hangul_Syllable.f 55203).bind fun t124 => (amanuensislaw05_HangulAll.j0 k (Int.tmod (wrap64 (a0)) 11171) t115 t118 (!t124)))) = some r := H
            have A21 := Aside0.mk A210
            clear A210
            by_cases c22 : t123 = true
            · subst c22
              have H1 : (amanuensislaw05_HangulAll.j0 k (Int.tmod (wrap64 (a0)) 11171) t115 t118 true) = some r := by rw [if_pos rfl] at H; exact H
              clear H
              have H := H1
              clear H1
              have H' := Aside0.mk H
              clear H
              go_wp2_with (first | (go_at_call 11; (with_reducible refine (amanuensislaw05_answers.calls k  true _ A7.out).mono ?_); rintro e w23 ⟨rfl, hb⟩; have n0_ := Aside0.mk (Kd.R_below (by (with_reducible repeat (first | apply Kd.R_alloc | apply Kd.R_drewN | apply Kd.R_drew)); exact HO117.out) hb); have n1_ := Aside0.mk (Kd.R_below (by (with_reducible repeat (first | apply Kd.R_alloc | apply Kd.R_drewN | apply Kd.R_drew)); exact HO120.out) hb); have n2_ := Aside0.mk (below_step (by repeat (first | (with_reducible first | exact HB.out | apply below_alloc | apply pw_below_drewN | apply below_drew1) | exact HB.out)) hb); clear HO117; clear HO120; clear HB; have HO117 := n0_; have HO120 := n1_; have HB := n2_; clear n0_ n1_ n2_; (try clear hb); (try clear hb2); (try clear hk); (try clear hi); obtain ⟨Ao24, co24, eo24⟩ := Kd.R_slice HO117.out; subst eo24; obtain ⟨Ao25, co25, eo25⟩ := Kd.R_slice HO120.out; subst eo25) | (go_at_call 14; (with_reducible refine (hangul_Syllable.calls 44031 false _ A16.out).mono ?_); rintro e w' ⟨rfl, ⟨nd, rfl⟩⟩; (try first | exact ⟨rfl, _, World.drewN_drewN _ _ _⟩ | exact ⟨rfl, _, Eq.trans (World.drewN_drewN _ _ _) (congrArg (World.drewN _) (Nat.add_assoc _ _ _))⟩)) | (go_at_call 14; (with_reducible refine (hangul_Syllable.calls 55204 true _ A21.out).mono ?_); rintro e w' ⟨rfl, ⟨nd, rfl⟩⟩; (try first | exact ⟨rfl, _, World.drewN_drewN _ _ _⟩ | exact ⟨rfl, _, Eq.trans (World.drewN_drewN _ _ _) (congrArg (World.drewN _) (Nat.add_assoc _ _ _))⟩)))
              repeat (go_quiet (first | (go_at_call 11; (with_reducible refine (amanuensislaw05_answers.calls k  true _ A7.out).mono ?_); rintro e w23 ⟨rfl, hb⟩; have n0_ := Aside0.mk (Kd.R_below (by (with_reducible repeat (first | apply Kd.R_alloc | apply Kd.R_drewN | apply Kd.R_drew)); exact HO117.out) hb); have n1_ := Aside0.mk (Kd.R_below (by (with_reducible repeat (first | apply Kd.R_alloc | apply Kd.R_drewN | apply Kd.R_drew)); exact HO120.out) hb); have n2_ := Aside0.mk (below_step (by repeat (first | (with_reducible first | exact HB.out | apply below_alloc | apply pw_below_drewN | apply below_drew1) | exact HB.out)) hb); clear HO117; clear HO120; clear HB; have HO117 := n0_; have HO120 := n1_; have HB := n2_; clear n0_ n1_ n2_; (try clear hb); (try clear hb2); (try clear hk); (try clear hi); obtain ⟨Ao24, co24, eo24⟩ := Kd.R_slice HO117.out; subst eo24; obtain ⟨Ao25, co25, eo25⟩ := Kd.R_slice HO120.out; subst eo25) | (go_at_call 14; (with_reducible refine (hangul_Syllable.calls 44031 false _ A16.out).mono ?_); rintro e w' ⟨rfl, ⟨nd, rfl⟩⟩; (try first | exact ⟨rfl, _, World.drewN_drewN _ _ _⟩ | exact ⟨rfl, _, Eq.trans (World.drewN_drewN _ _ _) (congrArg (World.drewN _) (Nat.add_assoc _ _ _))⟩)) | (go_at_call 14; (with_reducible refine (hangul_Syllable.calls 55204 true _ A21.out).mono ?_); rintro e w' ⟨rfl, ⟨nd, rfl⟩⟩; (try first | exact ⟨rfl, _, World.drewN_drewN _ _ _⟩ | exact ⟨rfl, _, Eq.trans (World.drewN_drewN _ _ _) (congrArg (World.drewN _) (Nat.add_assoc _ _ _))⟩))); try go_wp2_with (first | (go_at_call 11; (with_reducible refine (amanuensislaw05_answers.calls k  true _ A7.out).mono ?_); rintro e w23 ⟨rfl, hb⟩; have n0_ := Aside0.mk (Kd.R_below (by (with_reducible repeat (first | apply Kd.R_alloc | apply Kd.R_drewN | apply Kd.R_drew)); exact HO117.out) hb); have n1_ := Aside0.mk (Kd.R_below (by (with_reducible repeat (first | apply Kd.R_alloc | apply Kd.R_drewN | apply Kd.R_drew)); exact HO120.out) hb); have n2_ := Aside0.mk (below_step (by repeat (first | (with_reducible first | exact HB.out | apply below_alloc | apply pw_below_drewN | apply below_drew1) | exact HB.out)) hb); clear HO117; clear HO120; clear HB; have HO117 := n0_; have HO120 := n1_; have HB := n2_; clear n0_ n1_ n2_; (try clear hb); (try clear hb2); (try clear hk); (try clear hi); obtain ⟨Ao24, co24, eo24⟩ := Kd.R_slice HO117.out; subst eo24; obtain ⟨Ao25, co25, eo25⟩ := Kd.R_slice HO120.out; subst eo25) | (go_at_call 14; (with_reducible refine (hangul_Syllable.calls 44031 false _ A16.out).mono ?_); rintro e w' ⟨rfl, ⟨nd, rfl⟩⟩; (try first | exact ⟨rfl, _, World.drewN_drewN _ _ _⟩ | exact ⟨rfl, _, Eq.trans (World.drewN_drewN _ _ _) (congrArg (World.drewN _) (Nat.add_assoc _ _ _))⟩)) | (go_at_call 14; (with_reducible refine (hangul_Syllable.calls 55204 true _ A21.out).mono ?_); rintro e w' ⟨rfl, ⟨nd, rfl⟩⟩; (try first | exact ⟨rfl, _, World.drewN_drewN _ _ _⟩ | exact ⟨rfl, _, Eq.trans (World.drewN_drewN _ _ _) (congrArg (World.drewN _) (Nat.add_assoc _ _ _))⟩))))
              go_meet
              case rel => exact ⟨_, (true), (by first | rfl | (simp; done) | (simp [*]; done)), H', ⟨by first | omega | exact Nat.le_refl _⟩, ⟨by (with_reducible repeat (first | apply Kd.R_alloc | apply Kd.R_drewN | apply Kd.R_drew)); exact Kd.R_mono HO117.out (fun _ hk => hk.2)⟩, ⟨by (with_reducible repeat (first | apply Kd.R_alloc | apply Kd.R_drewN | apply Kd.R_drew)); exact Kd.R_mono HO120.out (fun _ hk => hk.2)⟩, ⟨by repeat (first | (with_reducible first | exact HB.out | apply below_alloc | apply pw_below_drewN | apply below_drew1) | exact HB.out)⟩⟩
            · replace c22 := Bool.eq_false_iff.mpr c22
              subst c22
              have H1 : ((hangul_Syllable.f 55203).bind fun t124 => (amanuensislaw05_HangulAll.j0 k (Int.tmod (wrap64 (a0)) 11171) t115 t118 (!t124))) = some r := by rw [if_neg (show ¬ (false = true) by decide)] at H; exact H
              clear H
              have H := H1
              clear H1
              replace H := Option.bind_eq_some_iff.mp H
              obtain ⟨t124, A260, H⟩ := H
              replace H : (amanuensislaw05_HangulAll.j0 k (Int.tmod (wrap64 (a0)) 11171) t115 t118 (!t124)) = some r := H
              have A26 := Aside0.mk A260
              clear A260
              have H' := Aside0.mk H
              clear H
              go_wp2_with (first | (go_at_call 11; (with_reducible refine (amanuensislaw05_answers.calls k  true _ A7.out).mono ?_); rintro e w27 ⟨rfl, hb⟩; have n0_ := Aside0.mk (Kd.R_below (by (with_reducible repeat (first | apply Kd.R_alloc | apply Kd.R_drewN | apply Kd.R_drew)); exact HO117.out) hb); have n1_ := Aside0.mk (Kd.R_below (by (with_reducible repeat (first | apply Kd.R_alloc | apply Kd.R_drewN | apply Kd.R_drew)); exact HO120.out) hb); have n2_ := Aside0.mk (below_step (by repeat (first | (with_reducible first | exact HB.out | apply below_alloc | apply pw_below_drewN | apply below_drew1) | exact HB.out)) hb); clear HO117; clear HO120; clear HB; have HO117 := n0_; have HO120 := n1_; have HB := n2_; clear n0_ n1_ n2_; (try clear hb); (try clear hb2); (try clear hk); (try clear hi); obtain ⟨Ao28, co28, eo28⟩ := Kd.R_slice HO117.out; subst eo28; obtain ⟨Ao29, co29, eo29⟩ := Kd.R_slice HO120.out; subst eo29) | (go_at_call 14; (with_reducible refine (hangul_Syllable.calls 44031 false _ A16.out).mono ?_); rintro e w' ⟨rfl, ⟨nd, rfl⟩⟩; (try first | exact ⟨rfl, _, World.drewN_drewN _ _ _⟩ | exact ⟨rfl, _, Eq.trans (World.drewN_drewN _ _ _) (congrArg (World.drewN _) (Nat.add_assoc _ _ _))⟩)) | (go_at_call 14; (with_reducible refine (hangul_Syllable.calls 55204 false _ A21.out).mono ?_); rintro e w' ⟨rfl, ⟨nd, rfl⟩⟩; (try first | exact ⟨rfl, _, World.drewN_drewN _ _ _⟩ | exact ⟨rfl, _, Eq.trans (World.drewN_drewN _ _ _) (congrArg (World.drewN _) (Nat.add_assoc _ _ _))⟩)) | (go_at_call 14; (with_reducible refine (hangul_Syllable.calls 55203 t124 _ A26.out).mono ?_); rintro e w' ⟨rfl, ⟨nd, rfl⟩⟩; (try first | exact ⟨rfl, _, World.drewN_drewN _ _ _⟩ | exact ⟨rfl, _, Eq.trans (World.drewN_drewN _ _ _) (congrArg (World.drewN _) (Nat.add_assoc _ _ _))⟩)))
              repeat (go_quiet (first | (go_at_call 11; (with_reducible refine (amanuensislaw05_answers.calls k  true _ A7.out).mono ?_); rintro e w27 ⟨rfl, hb⟩; have n0_ := Aside0.mk (Kd.R_below (by (with_reducible repeat (first | apply Kd.R_alloc | apply Kd.R_drewN | apply Kd.R_drew)); exact HO117.out) hb); have n1_ := Aside0.mk (Kd.R_below (by (with_reducible repeat (first | apply Kd.R_alloc | apply Kd.R_drewN | apply Kd.R_drew)); exact HO120.out) hb); have n2_ := Aside0.mk (below_step (by repeat (first | (with_reducible first | exact HB.out | apply below_alloc | apply pw_below_drewN | apply below_drew1) | exact HB.out)) hb); clear HO117; clear HO120; clear HB; have HO117 := n0_; have HO120 := n1_; have HB := n2_; clear n0_ n1_ n2_; (try clear hb); (try clear hb2); (try clear hk); (try clear hi); obtain ⟨Ao28, co28, eo28⟩ := Kd.R_slice HO117.out; subst eo28; obtain ⟨Ao29, co29, eo29⟩ := Kd.R_slice HO120.out; subst eo29) | (go_at_call 14; (with_reducible refine (hangul_Syllable.calls 44031 false _ A16.out).mono ?_); rintro e w' ⟨rfl, ⟨nd, rfl⟩⟩; (try first | exact ⟨rfl, _, World.drewN_drewN _ _ _⟩ | exact ⟨rfl, _, Eq.trans (World.drewN_drewN _ _ _) (congrArg (World.drewN _) (Nat.add_assoc _ _ _))⟩)) | (go_at_call 14; (with_reducible refine (hangul_Syllable.calls 55204 false _ A21.out).mono ?_); rintro e w' ⟨rfl, ⟨nd, rfl⟩⟩; (try first | exact ⟨rfl, _, World.drewN_drewN _ _ _⟩ | exact ⟨rfl, _, Eq.trans (World.drewN_drewN _ _ _) (congrArg (World.drewN _) (Nat.add_assoc _ _ _))⟩)) | (go_at_call 14; (with_reducible refine (hangul_Syllable.calls 55203 t124 _ A26.out).mono ?_); rintro e w' ⟨rfl, ⟨nd, rfl⟩⟩; (try first | exact ⟨rfl, _, World.drewN_drewN _ _ _⟩ | exact ⟨rfl, _, Eq.trans (World.drewN_drewN _ _ _) (congrArg (World.drewN _) (Nat.add_assoc _ _ _))⟩))); try go_wp2_with (first | (go_at_call 11; (with_reducible refine (amanuensislaw05_answers.calls k  true _ A7.out).mono ?_); rintro e w27 ⟨rfl, hb⟩; have n0_ := Aside0.mk (Kd.R_below (by (with_reducible repeat (first | apply Kd.R_alloc | apply Kd.R_drewN | apply Kd.R_drew)); exact HO117.out) hb); have n1_ := Aside0.mk (Kd.R_below (by (with_reducible repeat (first | apply Kd.R_alloc | apply Kd.R_drewN | apply Kd.R_drew)); exact HO120.out) hb); have n2_ := Aside0.mk (below_step (by repeat (first | (with_reducible first | exact HB.out | apply below_alloc | apply pw_below_drewN | apply below_drew1) | exact HB.out)) hb); clear HO117; clear HO120; clear HB; have HO117 := n0_; have HO120 := n1_; have HB := n2_; clear n0_ n1_ n2_; (try clear hb); (try clear hb2); (try clear hk); (try clear hi); obtain ⟨Ao28, co28, eo28⟩ := Kd.R_slice HO117.out; subst eo28; obtain ⟨Ao29, co29, eo29⟩ := Kd.R_slice HO120.out; subst eo29) | (go_at_call 14; (with_reducible refine (hangul_Syllable.calls 44031 false _ A16.out).mono ?_); rintro e w' ⟨rfl, ⟨nd, rfl⟩⟩; (try first | exact ⟨rfl, _, World.drewN_drewN _ _ _⟩ | exact ⟨rfl, _, Eq.trans (World.drewN_drewN _ _ _) (congrArg (World.drewN _) (Nat.add_assoc _ _ _))⟩)) | (go_at_call 14; (with_reducible refine (hangul_Syllable.calls 55204 false _ A21.out).mono ?_); rintro e w' ⟨rfl, ⟨nd, rfl⟩⟩; (try first | exact ⟨rfl, _, World.drewN_drewN _ _ _⟩ | exact ⟨rfl, _, Eq.trans (World.drewN_drewN _ _ _) (congrArg (World.drewN _) (Nat.add_assoc _ _ _))⟩)) | (go_at_call 14; (with_reducible refine (hangul_Syllable.calls 55203 t124 _ A26.out).mono ?_); rintro e w' ⟨rfl, ⟨nd, rfl⟩⟩; (try first | exact ⟨rfl, _, World.drewN_drewN _ _ _⟩ | exact ⟨rfl, _, Eq.trans (World.drewN_drewN _ _ _) (congrArg (World.drewN _) (Nat.add_assoc _ _ _))⟩))))
              go_meet
              case rel => exact ⟨_, (!t124), (by first | rfl | (simp; done) | (simp [*]; done)), H', ⟨by first | omega | exact Nat.le_refl _⟩, ⟨by (with_reducible repeat (first | apply Kd.R_alloc | apply Kd.R_drewN | apply Kd.R_drew)); exact Kd.R_mono HO117.out (fun _ hk => hk.2)⟩, ⟨by (with_reducible repeat (first | apply Kd.R_alloc | apply Kd.R_drewN | apply Kd.R_drew)); exact Kd.R_mono HO120.out (fun _ hk => hk.2)⟩, ⟨by repeat (first | (with_reducible first | exact HB.out | apply below_alloc | apply pw_below_drewN | apply below_drew1) | exact HB.out)⟩⟩
    · replace c8 := Bool.eq_false_iff.mpr c8
      subst c8
      have H1 : (amanuensislaw05_HangulAll.j0 k (Int.tmod (wrap64 (a0)) 11171) t115 t118 true) = some r := by rw [if_neg (show ¬ (false = true) by decide)] at H; exact H
      clear H
      have H := H1
      clear H1
      have H' := Aside0.mk H
      clear H
      go_wp2_with (first | (go_at_call 11; (with_reducible refine (amanuensislaw05_answers.calls k  false _ A7.out).mono ?_); rintro e w30 ⟨rfl, hb⟩; have n0_ := Aside0.mk (Kd.R_below (by (with_reducible repeat (first | apply Kd.R_alloc | apply Kd.R_drewN | apply Kd.R_drew)); exact HO117.out) hb); have n1_ := Aside0.mk (Kd.R_below (by (with_reducible repeat (first | apply Kd.R_alloc | apply Kd.R_drewN | apply Kd.R_drew)); exact HO120.out) hb); have n2_ := Aside0.mk (below_step (by repeat (first | (with_reducible first | exact HB.out | apply below_alloc | apply pw_below_drewN | apply below_drew1) | exact HB.out)) hb); clear HO117; clear HO120; clear HB; have HO117 := n0_; have HO120 := n1_; have HB := n2_; clear n0_ n1_ n2_; (try clear hb); (try clear hb2); (try clear hk); (try clear hi)))
      repeat (go_quiet (first | (go_at_call 11; (with_reducible refine (amanuensislaw05_answers.calls k  false _ A7.out).mono ?_); rintro e w30 ⟨rfl, hb⟩; have n0_ := Aside0.mk (Kd.R_below (by (with_reducible repeat (first | apply Kd.R_alloc | apply Kd.R_drewN | apply Kd.R_drew)); exact HO117.out) hb); have n1_ := Aside0.mk (Kd.R_below (by (with_reducible repeat (first | apply Kd.R_alloc | apply Kd.R_drewN | apply Kd.R_drew)); exact HO120.out) hb); have n2_ := Aside0.mk (below_step (by repeat (first | (with_reducible first | exact HB.out | apply below_alloc | apply pw_below_drewN | apply below_drew1) | exact HB.out)) hb); clear HO117; clear HO120; clear HB; have HO117 := n0_; have HO120 := n1_; have HB := n2_; clear n0_ n1_ n2_; (try clear hb); (try clear hb2); (try clear hk); (try clear hi))); try go_wp2_with (first | (go_at_call 11; (with_reducible refine (amanuensislaw05_answers.calls k  false _ A7.out).mono ?_); rintro e w30 ⟨rfl, hb⟩; have n0_ := Aside0.mk (Kd.R_below (by (with_reducible repeat (first | apply Kd.R_alloc | apply Kd.R_drewN | apply Kd.R_drew)); exact HO117.out) hb); have n1_ := Aside0.mk (Kd.R_below (by (with_reducible repeat (first | apply Kd.R_alloc | apply Kd.R_drewN | apply Kd.R_drew)); exact HO120.out) hb); have n2_ := Aside0.mk (below_step (by repeat (first | (with_reducible first | exact HB.out | apply below_alloc | apply pw_below_drewN | apply below_drew1) | exact HB.out)) hb); clear HO117; clear HO120; clear HB; have HO117 := n0_; have HO120 := n1_; have HB := n2_; clear n0_ n1_ n2_; (try clear hb); (try clear hb2); (try clear hk); (try clear hi))))
      go_meet
      case rel => exact ⟨_, (true), (by first | rfl | (simp; done) | (simp [*]; done)), H', ⟨by first | omega | exact Nat.le_refl _⟩, ⟨by (with_reducible repeat (first | apply Kd.R_alloc | apply Kd.R_drewN | apply Kd.R_drew)); exact Kd.R_mono HO117.out (fun _ hk => hk.2)⟩, ⟨by (with_reducible repeat (first | apply Kd.R_alloc | apply Kd.R_drewN | apply Kd.R_drew)); exact Kd.R_mono HO120.out (fun _ hk => hk.2)⟩, ⟨by repeat (first | (with_reducible first | exact HB.out | apply below_alloc | apply pw_below_drewN | apply below_drew1) | exact HB.out)⟩⟩
  case rest =>
    clear HC4
    try clear c1
    try clear c2
    try clear p2
    try clear p3
    try clear c5
    try clear p6
    try clear c8
    try clear c9
    try clear c9b0
    try clear c9b1
    try clear c12
    try clear c12b0
    try clear c12b1
    try clear c17
    try clear c22
    obtain ⟨kq, x43_3, rfl, HA, HJ3, HO_4, HO_5, HB⟩ := hcut
    cases kq with
    | zero => exact absurd HA.out (by simp [amanuensislaw05_HangulAll.j0])
    | succ kj3 =>
      have H := HA.out
      clear HA
      simp only [amanuensislaw05_HangulAll.j0] at H
      by_cases c31 : x43_3 = true
      · subst c31
        have H1 : (some false) = some r := by rw [if_pos rfl] at H; exact H
        clear H
        have H := H1
        clear H1
        obtain rfl := Option.some.inj H
        go_wp2
        repeat (go_quiet (fail); try go_wp2)
        go_ret
        exact ⟨by first | rfl | (simp [errW_none, errW_some] <;> rfl) | (simp [*, errW_none, errW_some] <;> rfl), by repeat (first | (with_reducible first | exact HB.out | apply below_alloc | apply pw_below_drewN | apply below_drew1) | exact HB.out)⟩
      · replace c31 := Bool.eq_false_iff.mpr c31
        subst c31
        have H1 : (if (t115.length : Int) = 3 then (if 2 < (t115.length : Int) then (if (t118.length : Int) = 3 then (if 2 < (t118.length : Int) then (if 0 < (t115.length : Int) then (if 1 < (t115.length : Int) then (if 0 < (t118.length : Int) then (if 1 < (t118.length : Int) then (if (wrap64 ((wrap64 ((wrap64 ((wrap64 ((wrap64 (rd t115 0)) - 4352)) * 588)) + (wrap64 ((wrap64 ((wrap64 (rd t115 1)) - 4449)) * 28)))) + (wrap64 ((wrap64 (rd t115 2)) - 4519)))) = (Int.tmod (wrap64 (a0)) 11171) then (if (wrap64 ((wrap64 ((wrap64 ((wrap64 ((wrap64 (rd t118 0)) - 4352)) * 588)) + (wrap64 ((wrap64 ((wrap64 (rd t118 1)) - 4449)) * 28)))) + (wrap64 ((wrap64 (rd t118 2)) - 4519)))) = (wrap64 ((Int.tmod (wrap64 (a0)) 11171) + 1)) then (if (wrap64 ((wrap64 (rd t115 2)) - 4519)) < 28 then (some (decide ((wrap64 ((wrap64 (rd t118 2)) - 4519)) < 28))) else (some false)) else (some false)) else (some false)) else (none)) else (none)) else (none)) else (none)) else (none)) else (if 0 < (t115.length : Int) then (if 1 < (t115.length : Int) then (if 0 < (t118.length : Int) then (if 1 < (t118.length : Int) then (if (wrap64 ((wrap64 ((wrap64 ((wrap64 ((wrap64 (rd t115 0)) - 4352)) * 588)) + (wrap64 ((wrap64 ((wrap64 (rd t115 1)) - 4449)) * 28)))) + (wrap64 ((wrap64 (rd t115 2)) - 4519)))) = (Int.tmod (wrap64 (a0)) 11171) then (if (wrap64 ((wrap64 ((wrap64 ((wrap64 ((wrap64 (rd t118 0)) - 4352)) * 588)) + (wrap64 ((wrap64 ((wrap64 (rd t118 1)) - 4449)) * 28)))) + 0)) = (wrap64 ((Int.tmod (wrap64 (a0)) 11171) + 1)) then (if (wrap64 ((wrap64 (rd t115 2)) - 4519)) < 28 then (some (decide (0 < 28))) else (some false)) else (some false)) else (some false)) else (none)) else (none)) else (none)) else (none))) else (none)) else (if (t118.length : Int) = 3 then (if 2 < (t118.length : Int) then (if 0 < (t115.length : Int) then (if 1 < (t115.length : Int) then (if 0 < (t118.length : Int) then (if 1 < (t118.length : Int) then (if (wrap64 ((wrap64 ((wrap64 ((wrap64 ((wrap64 (rd t115 0)) - 4352)) * 588)) + (wrap64 ((wrap64 ((wrap64 (rd t115 1)) - 4449)) * 28)))) + 0)) = (Int.tmod (wrap64 (a0)) 11171) then (if (wrap64 ((wrap64 ((wrap64 ((wrap64 ((wrap64 (rd t118 0)) - 4352)) * 588)) + (wrap64 ((wrap64 ((wrap64 (rd t118 1)) - 4449)) * 28)))) + (wrap64 ((wrap64 (rd t118 2)) - 4519)))) = (wrap64 ((Int.tmod (wrap64 (a0)) 11171) + 1)) then (if 0 < 28 then (some (decide ((wrap64 ((wrap64 (rd t118 2)) - 4519)) < 28))) else (some false)) else (some false)) else (some false)) else (none)) else (none)) else (none)) else (none)) else (none)) else (if 0 < (t115.length : Int) then (if 1 < (t115.length : Int) then (if 0 < (t118.length : Int) then (if 1 < (t118.length : Int) then (if (wrap64 ((wrap64 ((wrap64 ((wrap64 ((wrap64 (rd t115 0)) - 4352)) * 588)) + (wrap64 ((wrap64 ((wrap64 (rd t115 1)) - 4449)) * 28)))) + 0)) = (Int.tmod (wrap64 (a0)) 11171) then (if (wrap64 ((wrap64 ((wrap64 ((wrap64 ((wrap64 (rd t118 0)) - 4352)) * 588)) + (wrap64 ((wrap64 ((wrap64 (rd t118 1)) - 4449)) * 28)))) + 0)) = (wrap64 ((Int.tmod (wrap64 (a0)) 11171) + 1)) then (if 0 < 28 then (some (decide (0 < 28))) else (some false)) else (some false)) else (some false)) else (none)) else (none)) else (none)) else (none)))) = some r := by rw [if_neg (show ¬ (false = true) by decide)] at H; exact H
        clear H
        have H := H1
        clear H1
        by_cases c32 : (t115.length : Int) = 3
        · rw [if_pos c32] at H
          have c32b0 : ((t115.length : Int) == 3) = true := beq_iff_eq.mpr c32
          have c32b1 : ((t115.length : Int) != 3) = false := bne_eq_false_iff_eq.mpr c32
          clear c32
          by_cases c33 : 2 < (t115.length : Int)
          · rw [if_pos c33] at H
            have c33b0 : decide (2 < (t115.length : Int)) = true := decide_eq_true c33
            have c33b1 : decide (2 < t115.length) = true := decide_eq_true (by omega)
            clear c33
            by_cases c34 : (t118.length : Int) = 3
            · rw [if_pos c34] at H
              have c34b0 : ((t118.length : Int) == 3) = true := beq_iff_eq.mpr c34
              have c34b1 : ((t118.length : Int) != 3) = false := bne_eq_false_iff_eq.mpr c34
              clear c34
              by_cases c35 : 2 < (t118.length : Int)
              · rw [if_pos c35] at H
                have c35b0 : decide (2 < (t118.length : Int)) = true := decide_eq_true c35
                have c35b1 : decide (2 < t118.length) = true := decide_eq_true (by omega)
                clear c35
                by_cases c36 : 0 < (t115.length : Int)
                · rw [if_pos c36] at H
                  have c36b0 : decide (0 < (t115.length : Int)) = true := decide_eq_true c36
                  have c36b1 : decide (0 < t115.length) = true := decide_eq_true (by omega)
                  clear c36
                  by_cases c37 : 1 < (t115.length : Int)
                  · rw [if_pos c37] at H
                    have c37b0 : decide (1 < (t115.length : Int)) = true := decide_eq_true c37
                    have c37b1 : decide (1 < t115.length) = true := decide_eq_true (by omega)
                    clear c37
                    by_cases c38 : 0 < (t118.length : Int)
                    · rw [if_pos c38] at H
                      have c38b0 : decide (0 < (t118.length : Int)) = true := decide_eq_true c38
                      have c38b1 : decide (0 < t118.length) = true := decide_eq_true (by omega)
                      clear c38
                      by_cases c39 : 1 < (t118.length : Int)
                      · rw [if_pos c39] at H
                        have c39b0 : decide (1 < (t118.length : Int)) = true := decide_eq_true c39
                        have c39b1 : decide (1 < t118.length) = true := decide_eq_true (by omega)
                        clear c39
                        by_cases c40 : (wrap64 ((wrap64 ((wrap64 ((wrap64 ((wrap64 (rd t115 0)) - 4352)) * 588)) + (wrap64 ((wrap64 ((wrap64 (rd t115 1)) - 4449)) * 28)))) + (wrap64 ((wrap64 (rd t115 2)) - 4519)))) = (Int.tmod (wrap64 (a0)) 11171)
                        · rw [if_pos c40] at H
                          have c40b0 : ((wrap64 ((wrap64 ((wrap64 ((wrap64 ((wrap64 (rd t115 0)) - 4352)) * 588)) + (wrap64 ((wrap64 ((wrap64 (rd t115 1)) - 4449)) * 28)))) + (wrap64 ((wrap64 (rd t115 2)) - 4519)))) == (Int.tmod (wrap64 (a0)) 11171)) = true := beq_iff_eq.mpr c40
                          have c40b1 : ((wrap64 ((wrap64 ((wrap64 ((wrap64 ((wrap64 (rd t115 0)) - 4352)) * 588)) + (wrap64 ((wrap64 ((wrap64 (rd t115 1)) - 4449)) * 28)))) + (wrap64 ((wrap64 (rd t115 2)) - 4519)))) != (Int.tmod (wrap64 (a0)) 11171)) = false := bne_eq_false_iff_eq.mpr c40
                          clear c40
                          by_cases c41 : (wrap64 ((wrap64 ((wrap64 ((wrap64 ((wrap64 (rd t118 0)) - 4352)) * 588)) + (wrap64 ((wrap64 ((wrap64 (rd t118 1)) - 4449)) * 28)))) + (wrap64 ((wrap64 (rd t118 2)) - 4519)))) = (wrap64 ((Int.tmod (wrap64 (a0)) 11171) + 1))
                          · rw [if_pos c41] at H
                            have c41b0 : ((wrap64 ((wrap64 ((wrap64 ((wrap64 ((wrap64 (rd t118 0)) - 4352)) * 588)) + (wrap64 ((wrap64 ((wrap64 (rd t118 1)) - 4449)) * 28)))) + (wrap64 ((wrap64 (rd t118 2)) - 4519)))) == (wrap64 ((Int.tmod (wrap64 (a0)) 11171) + 1))) = true := beq_iff_eq.mpr c41
                            have c41b1 : ((wrap64 ((wrap64 ((wrap64 ((wrap64 ((wrap64 (rd t118 0)) - 4352)) * 588)) + (wrap64 ((wrap64 ((wrap64 (rd t118 1)) - 4449)) * 28)))) + (wrap64 ((wrap64 (rd t118 2)) - 4519)))) != (wrap64 ((Int.tmod (wrap64 (a0)) 11171) + 1))) = false := bne_eq_false_iff_eq.mpr c41
                            clear c41
                            by_cases c42 : (wrap64 ((wrap64 (rd t115 2)) - 4519)) < 28
                            · rw [if_pos c42] at H
                              have c42b0 : decide ((wrap64 ((wrap64 (rd t115 2)) - 4519)) < 28) = true := decide_eq_true c42
                              clear c42
                              obtain rfl := Option.some.inj H
                              obtain ⟨Ao43, co43, eo43⟩ := Kd.R_slice HO_4.out
                              subst eo43
                              have p125 : 0 ≤ (2 : Int) := (by omega)
                              have q125 : 2 < (t115.length : Int) := of_decide_eq_true (by first | (with_reducible assumption) | assumption)
                              obtain ⟨ad125, e125, hx125_0⟩ := Kd.at_int (Kd.R_reads' HO_4.out).2.2 2 p125 q125
                              cases e125
                              (try simp only [show (2 : Int).toNat = 2 from rfl, Nat.reduceMul, Nat.reduceEqDiff, Go.Addr.add, ↓reduceIte] at hx125_0)
                              have qi125 : (2 < t115.length) = True := eq_true (by omega)
                              (try rw [show ((2 : Int)).toNat = 2 from rfl] at hx125_0)
                              replace p125 := eq_true p125
                              replace q125 := eq_true q125
                              obtain ⟨Ao44, co44, eo44⟩ := Kd.R_slice HO_5.out
                              subst eo44
                              have p126 : 0 ≤ (2 : Int) := (by omega)
                              have q126 : 2 < (t118.length : Int) := of_decide_eq_true (by first | (with_reducible assumption) | assumption)
                              obtain ⟨ad126, e126, hx126_0⟩ := Kd.at_int (Kd.R_reads' HO_5.out).2.2 2 p126 q126
                              cases e126
                              (try simp only [show (2 : Int).toNat = 2 from rfl, Nat.reduceMul, Nat.reduceEqDiff, Go.Addr.add, ↓reduceIte] at hx126_0)
                              have qi126 : (2 < t118.length) = True := eq_true (by omega)
                              (try rw [show ((2 : Int)).toNat = 2 from rfl] at hx126_0)
                              replace p126 := eq_true p126
                              replace q126 := eq_true q126
                              have p127 : 0 ≤ (0 : Int) := (by omega)
                              have q127 : 0 < (t115.length : Int) := of_decide_eq_true (by first | (with_reducible assumption) | assumption)
                              obtain ⟨ad127, e127, hx127_0⟩ := Kd.at_int (Kd.R_reads' HO_4.out).2.2 0 p127 q127
                              obtain rfl : ad125 = ad127 := (by injection e127)
                              have qi127 : (0 < t115.length) = True := eq_true (by omega)
                              (try rw [show ((0 : Int)).toNat = 0 from rfl] at hx127_0)
                              (try rw [Addr.add_zero'] at hx127_0)
                              replace p127 := eq_true p127
                              replace q127 := eq_true q127
                              have p128 : 0 ≤ (1 : Int) := (by omega)
                              have q128 : 1 < (t115.length : Int) := of_decide_eq_true (by first | (with_reducible assumption) | assumption)
                              obtain ⟨ad128, e128, hx128_0⟩ := Kd.at_int (Kd.R_reads' HO_4.out).2.2 1 p128 q128
                              obtain rfl : ad125 = ad128 := (by injection e128)
                              (try simp only [show (1 : Int).toNat = 1 from rfl, Nat.reduceMul, Nat.reduceEqDiff, Go.Addr.add, ↓reduceIte] at hx128_0)
                              have qi128 : (1 < t115.length) = True := eq_true (by omega)
                              (try rw [show ((1 : Int)).toNat = 1 from rfl] at hx128_0)
                              replace p128 := eq_true p128
                              replace q128 := eq_true q128
                              have p129 : 0 ≤ (0 : Int) := (by omega)
                              have q129 : 0 < (t118.length : Int) := of_decide_eq_true (by first | (with_reducible assumption) | assumption)
                              obtain ⟨ad129, e129, hx129_0⟩ := Kd.at_int (Kd.R_reads' HO_5.out).2.2 0 p129 q129
                              obtain rfl : ad126 = ad129 := (by injection e129)
                              have qi129 : (0 < t118.length) = True := eq_true (by omega)
                              (try rw [show ((0 : Int)).toNat = 0 from rfl] at hx129_0)
                              (try rw [Addr.add_zero'] at hx129_0)
                              replace p129 := eq_true p129
                              replace q129 := eq_true q129
                              have p130 : 0 ≤ (1 : Int) := (by omega)
                              have q130 : 1 < (t118.length : Int) := of_decide_eq_true (by first | (with_reducible assumption) | assumption)
                              obtain ⟨ad130, e130, hx130_0⟩ := Kd.at_int (Kd.R_reads' HO_5.out).2.2 1 p130 q130
                              obtain rfl : ad126 = ad130 := (by injection e130)
                              (try simp only [show (1 : Int).toNat = 1 from rfl, Nat.reduceMul, Nat.reduceEqDiff, Go.Addr.add, ↓reduceIte] at hx130_0)
                              have qi130 : (1 < t118.length) = True := eq_true (by omega)
                              (try rw [show ((1 : Int)).toNat = 1 from rfl] at hx130_0)
                              replace p130 := eq_true p130
                              replace q130 := eq_true q130
                              go_wp2
                              repeat (go_quiet (fail); try go_wp2)
                              go_ret
                              exact ⟨by first | rfl | (simp [errW_none, errW_some] <;> rfl) | (simp [*, errW_none, errW_some] <;> rfl), by repeat (first | (with_reducible first | exact HB.out | apply below_alloc | apply pw_below_drewN | apply below_drew1) | exact HB.out)⟩
                            · rw [if_neg c42] at H
                              exact absurd (Option.some.inj H) (by rw [hr.out]; decide)
                          · rw [if_neg c41] at H
                            exact absurd (Option.some.inj H) (by rw [hr.out]; decide)
                        · rw [if_neg c40] at H
                          exact absurd (Option.some.inj H) (by rw [hr.out]; decide)
                      · rw [if_neg c39] at H
                        exact absurd H (by simp)
                    · rw [if_neg c38] at H
                      exact absurd H (by simp)
                  · rw [if_neg c37] at H
                    exact absurd H (by simp)
                · rw [if_neg c36] at H
                  exact absurd H (by simp)
              · rw [if_neg c35] at H
                exact absurd H (by simp)
            · rw [if_neg c34] at H
              have c34b0 : ((t118.length : Int) == 3) = false := beq_eq_false_iff_ne.mpr c34
              have c34b1 : ((t118.length : Int) != 3) = true := bne_iff_ne.mpr c34
              by_cases c51 : 0 < (t115.length : Int)
              · rw [if_pos c51] at H
                have c51b0 : decide (0 < (t115.length : Int)) = true := decide_eq_true c51
                have c51b1 : decide (0 < t115.length) = true := decide_eq_true (by omega)
                clear c51
                by_cases c52 : 1 < (t115.length : Int)
                · rw [if_pos c52] at H
                  have c52b0 : decide (1 < (t115.length : Int)) = true := decide_eq_true c52
                  have c52b1 : decide (1 < t115.length) = true := decide_eq_true (by omega)
                  clear c52
                  by_cases c53 : 0 < (t118.length : Int)
                  · rw [if_pos c53] at H
                    have c53b0 : decide (0 < (t118.length : Int)) = true := decide_eq_true c53
                    have c53b1 : decide (0 < t118.length) = true := decide_eq_true (by omega)
                    clear c53
                    by_cases c54 : 1 < (t118.length : Int)
                    · rw [if_pos c54] at H
                      have c54b0 : decide (1 < (t118.length : Int)) = true := decide_eq_true c54
                      have c54b1 : decide (1 < t118.length) = true := decide_eq_true (by omega)
                      clear c54
                      by_cases c55 : (wrap64 ((wrap64 ((wrap64 ((wrap64 ((wrap64 (rd t115 0)) - 4352)) * 588)) + (wrap64 ((wrap64 ((wrap64 (rd t115 1)) - 4449)) * 28)))) + (wrap64 ((wrap64 (rd t115 2)) - 4519)))) = (Int.tmod (wrap64 (a0)) 11171)
                      · rw [if_pos c55] at H
                        have c55b0 : ((wrap64 ((wrap64 ((wrap64 ((wrap64 ((wrap64 (rd t115 0)) - 4352)) * 588)) + (wrap64 ((wrap64 ((wrap64 (rd t115 1)) - 4449)) * 28)))) + (wrap64 ((wrap64 (rd t115 2)) - 4519)))) == (Int.tmod (wrap64 (a0)) 11171)) = true := beq_iff_eq.mpr c55
                        have c55b1 : ((wrap64 ((wrap64 ((wrap64 ((wrap64 ((wrap64 (rd t115 0)) - 4352)) * 588)) + (wrap64 ((wrap64 ((wrap64 (rd t115 1)) - 4449)) * 28)))) + (wrap64 ((wrap64 (rd t115 2)) - 4519)))) != (Int.tmod (wrap64 (a0)) 11171)) = false := bne_eq_false_iff_eq.mpr c55
                        clear c55
                        by_cases c56 : (wrap64 ((wrap64 ((wrap64 ((wrap64 ((wrap64 (rd t118 0)) - 4352)) * 588)) + (wrap64 ((wrap64 ((wrap64 (rd t118 1)) - 4449)) * 28)))) + 0)) = (wrap64 ((Int.tmod (wrap64 (a0)) 11171) + 1))
                        · rw [if_pos c56] at H
                          have c56b0 : ((wrap64 ((wrap64 ((wrap64 ((wrap64 ((wrap64 (rd t118 0)) - 4352)) * 588)) + (wrap64 ((wrap64 ((wrap64 (rd t118 1)) - 4449)) * 28)))) + 0)) == (wrap64 ((Int.tmod (wrap64 (a0)) 11171) + 1))) = true := beq_iff_eq.mpr c56
                          have c56z0 := c56b0
                          rw [Int.add_zero] at c56z0
                          have c56b1 : ((wrap64 ((wrap64 ((wrap64 ((wrap64 ((wrap64 (rd t118 0)) - 4352)) * 588)) + (wrap64 ((wrap64 ((wrap64 (rd t118 1)) - 4449)) * 28)))) + 0)) != (wrap64 ((Int.tmod (wrap64 (a0)) 11171) + 1))) = false := bne_eq_false_iff_eq.mpr c56
                          have c56z1 := c56b1
                          rw [Int.add_zero] at c56z1
                          clear c56
                          by_cases c57 : (wrap64 ((wrap64 (rd t115 2)) - 4519)) < 28
                          · rw [if_pos c57] at H
                            have c57b0 : decide ((wrap64 ((wrap64 (rd t115 2)) - 4519)) < 28) = true := decide_eq_true c57
                            clear c57
                            obtain rfl := Option.some.inj H
                            obtain ⟨Ao58, co58, eo58⟩ := Kd.R_slice HO_4.out
                            subst eo58
                            have p125 : 0 ≤ (2 : Int) := (by omega)
                            have q125 : 2 < (t115.length : Int) := of_decide_eq_true (by first | (with_reducible assumption) | assumption)
                            obtain ⟨ad125, e125, hx125_0⟩ := Kd.at_int (Kd.R_reads' HO_4.out).2.2 2 p125 q125
                            cases e125
                            (try simp only [show (2 : Int).toNat = 2 from rfl, Nat.reduceMul, Nat.reduceEqDiff, Go.Addr.add, ↓reduceIte] at hx125_0)
                            have qi125 : (2 < t115.length) = True := eq_true (by omega)
                            (try rw [show ((2 : Int)).toNat = 2 from rfl] at hx125_0)
                            replace p125 := eq_true p125
                            replace q125 := eq_true q125
                            obtain ⟨Ao59, co59, eo59⟩ := Kd.R_slice HO_5.out
                            subst eo59
                            have p131 : 0 ≤ (0 : Int) := (by omega)
                            have q131 : 0 < (t115.length : Int) := of_decide_eq_true (by first | (with_reducible assumption) | assumption)
                            obtain ⟨ad131, e131, hx131_0⟩ := Kd.at_int (Kd.R_reads' HO_4.out).2.2 0 p131 q131
                            obtain rfl : ad125 = ad131 := (by injection e131)
                            have qi131 : (0 < t115.length) = True := eq_true (by omega)
                            (try rw [show ((0 : Int)).toNat = 0 from rfl] at hx131_0)
                            (try rw [Addr.add_zero'] at hx131_0)
                            replace p131 := eq_true p131
                            replace q131 := eq_true q131
                            have p132 : 0 ≤ (1 : Int) := (by omega)
                            have q132 : 1 < (t115.length : Int) := of_decide_eq_true (by first | (with_reducible assumption) | assumption)
                            obtain ⟨ad132, e132, hx132_0⟩ := Kd.at_int (Kd.R_reads' HO_4.out).2.2 1 p132 q132
                            obtain rfl : ad125 = ad132 := (by injection e132)
                            (try simp only [show (1 : Int).toNat = 1 from rfl, Nat.reduceMul, Nat.reduceEqDiff, Go.Addr.add, ↓reduceIte] at hx132_0)
                            have qi132 : (1 < t115.length) = True := eq_true (by omega)
                            (try rw [show ((1 : Int)).toNat = 1 from rfl] at hx132_0)
                            replace p132 := eq_true p132
                            replace q132 := eq_true q132
                            have p133 : 0 ≤ (0 : Int) := (by omega)
                            have q133 : 0 < (t118.length : Int) := of_decide_eq_true (by first | (with_reducible assumption) | assumption)
                            obtain ⟨ad133, e133, hx133_0⟩ := Kd.at_int (Kd.R_reads' HO_5.out).2.2 0 p133 q133
                            cases e133
                            have qi133 : (0 < t118.length) = True := eq_true (by omega)
                            (try rw [show ((0 : Int)).toNat = 0 from rfl] at hx133_0)
                            (try rw [Addr.add_zero'] at hx133_0)
                            replace p133 := eq_true p133
                            replace q133 := eq_true q133
                            have p134 : 0 ≤ (1 : Int) := (by omega)
                            have q134 : 1 < (t118.length : Int) := of_decide_eq_true (by first | (with_reducible assumption) | assumption)
                            obtain ⟨ad134, e134, hx134_0⟩ := Kd.at_int (Kd.R_reads' HO_5.out).2.2 1 p134 q134
                            obtain rfl : ad133 = ad134 := (by injection e134)
                            (try simp only [show (1 : Int).toNat = 1 from rfl, Nat.reduceMul, Nat.reduceEqDiff, Go.Addr.add, ↓reduceIte] at hx134_0)
                            have qi134 : (1 < t118.length) = True := eq_true (by omega)
                            (try rw [show ((1 : Int)).toNat = 1 from rfl] at hx134_0)
                            replace p134 := eq_true p134
                            replace q134 := eq_true q134
                            go_wp2
                            repeat (go_quiet (fail); try go_wp2)
                            go_ret
                            exact ⟨by first | rfl | (simp [errW_none, errW_some] <;> rfl) | (simp [*, errW_none, errW_some] <;> rfl), by repeat (first | (with_reducible first | exact HB.out | apply below_alloc | apply pw_below_drewN | apply below_drew1) | exact HB.out)⟩
                          · rw [if_neg c57] at H
                            exact absurd (Option.some.inj H) (by rw [hr.out]; decide)
                        · rw [if_neg c56] at H
                          exact absurd (Option.some.inj H) (by rw [hr.out]; decide)
                      · rw [if_neg c55] at H
                        exact absurd (Option.some.inj H) (by rw [hr.out]; decide)
                    · rw [if_neg c54] at H
                      exact absurd H (by simp)
                  · rw [if_neg c53] at H
                    exact absurd H (by simp)
                · rw [if_neg c52] at H
                  exact absurd H (by simp)
              · rw [if_neg c51] at H
                exact absurd H (by simp)
          · rw [if_neg c33] at H
            exact absurd H (by simp)
        · rw [if_neg c32] at H
          have c32b0 : ((t115.length : Int) == 3) = false := beq_eq_false_iff_ne.mpr c32
          have c32b1 : ((t115.length : Int) != 3) = true := bne_iff_ne.mpr c32
          by_cases c66 : (t118.length : Int) = 3
          · rw [if_pos c66] at H
            have c66b0 : ((t118.length : Int) == 3) = true := beq_iff_eq.mpr c66
            have c66b1 : ((t118.length : Int) != 3) = false := bne_eq_false_iff_eq.mpr c66
            clear c66
            by_cases c67 : 2 < (t118.length : Int)
            · rw [if_pos c67] at H
              have c67b0 : decide (2 < (t118.length : Int)) = true := decide_eq_true c67
              have c67b1 : decide (2 < t118.length) = true := decide_eq_true (by omega)
              clear c67
              by_cases c68 : 0 < (t115.length : Int)
              · rw [if_pos c68] at H
                have c68b0 : decide (0 < (t115.length : Int)) = true := decide_eq_true c68
                have c68b1 : decide (0 < t115.length) = true := decide_eq_true (by omega)
                clear c68
                by_cases c69 : 1 < (t115.length : Int)
                · rw [if_pos c69] at H
                  have c69b0 : decide (1 < (t115.length : Int)) = true := decide_eq_true c69
                  have c69b1 : decide (1 < t115.length) = true := decide_eq_true (by omega)
                  clear c69
                  by_cases c70 : 0 < (t118.length : Int)
                  · rw [if_pos c70] at H
                    have c70b0 : decide (0 < (t118.length : Int)) = true := decide_eq_true c70
                    have c70b1 : decide (0 < t118.length) = true := decide_eq_true (by omega)
                    clear c70
                    by_cases c71 : 1 < (t118.length : Int)
                    · rw [if_pos c71] at H
                      have c71b0 : decide (1 < (t118.length : Int)) = true := decide_eq_true c71
                      have c71b1 : decide (1 < t118.length) = true := decide_eq_true (by omega)
                      clear c71
                      by_cases c72 : (wrap64 ((wrap64 ((wrap64 ((wrap64 ((wrap64 (rd t115 0)) - 4352)) * 588)) + (wrap64 ((wrap64 ((wrap64 (rd t115 1)) - 4449)) * 28)))) + 0)) = (Int.tmod (wrap64 (a0)) 11171)
                      · rw [if_pos c72] at H
                        have c72b0 : ((wrap64 ((wrap64 ((wrap64 ((wrap64 ((wrap64 (rd t115 0)) - 4352)) * 588)) + (wrap64 ((wrap64 ((wrap64 (rd t115 1)) - 4449)) * 28)))) + 0)) == (Int.tmod (wrap64 (a0)) 11171)) = true := beq_iff_eq.mpr c72
                        have c72z0 := c72b0
                        rw [Int.add_zero] at c72z0
                        have c72b1 : ((wrap64 ((wrap64 ((wrap64 ((wrap64 ((wrap64 (rd t115 0)) - 4352)) * 588)) + (wrap64 ((wrap64 ((wrap64 (rd t115 1)) - 4449)) * 28)))) + 0)) != (Int.tmod (wrap64 (a0)) 11171)) = false := bne_eq_false_iff_eq.mpr c72
                        have c72z1 := c72b1
                        rw [Int.add_zero] at c72z1
                        clear c72
                        by_cases c73 : (wrap64 ((wrap64 ((wrap64 ((wrap64 ((wrap64 (rd t118 0)) - 4352)) * 588)) + (wrap64 ((wrap64 ((wrap64 (rd t118 1)) - 4449)) * 28)))) + (wrap64 ((wrap64 (rd t118 2)) - 4519)))) = (wrap64 ((Int.tmod (wrap64 (a0)) 11171) + 1))
                        · rw [if_pos c73] at H
                          have c73b0 : ((wrap64 ((wrap64 ((wrap64 ((wrap64 ((wrap64 (rd t118 0)) - 4352)) * 588)) + (wrap64 ((wrap64 ((wrap64 (rd t118 1)) - 4449)) * 28)))) + (wrap64 ((wrap64 (rd t118 2)) - 4519)))) == (wrap64 ((Int.tmod (wrap64 (a0)) 11171) + 1))) = true := beq_iff_eq.mpr c73
                          have c73b1 : ((wrap64 ((wrap64 ((wrap64 ((wrap64 ((wrap64 (rd t118 0)) - 4352)) * 588)) + (wrap64 ((wrap64 ((wrap64 (rd t118 1)) - 4449)) * 28)))) + (wrap64 ((wrap64 (rd t118 2)) - 4519)))) != (wrap64 ((Int.tmod (wrap64 (a0)) 11171) + 1))) = false := bne_eq_false_iff_eq.mpr c73
                          clear c73
                          by_cases c74 : 0 < 28
                          · rw [if_pos c74] at H
                            have c74b0 : decide (0 < 28) = true := decide_eq_true c74
                            clear c74
                            obtain rfl := Option.some.inj H
                            obtain ⟨Ao75, co75, eo75⟩ := Kd.R_slice HO_4.out
                            subst eo75
                            obtain ⟨Ao76, co76, eo76⟩ := Kd.R_slice HO_5.out
                            subst eo76
                            have p135 : 0 ≤ (2 : Int) := (by omega)
                            have q135 : 2 < (t118.length : Int) := of_decide_eq_true (by first | (with_reducible assumption) | assumption)
                            obtain ⟨ad135, e135, hx135_0⟩ := Kd.at_int (Kd.R_reads' HO_5.out).2.2 2 p135 q135
                            cases e135
                            (try simp only [show (2 : Int).toNat = 2 from rfl, Nat.reduceMul, Nat.reduceEqDiff, Go.Addr.add, ↓reduceIte] at hx135_0)
                            have qi135 : (2 < t118.length) = True := eq_true (by omega)
                            (try rw [show ((2 : Int)).toNat = 2 from rfl] at hx135_0)
                            replace p135 := eq_true p135
                            replace q135 := eq_true q135
                            have p136 : 0 ≤ (0 : Int) := (by omega)
                            have q136 : 0 < (t115.length : Int) := of_decide_eq_true (by first | (with_reducible assumption) | assumption)
                            obtain ⟨ad136, e136, hx136_0⟩ := Kd.at_int (Kd.R_reads' HO_4.out).2.2 0 p136 q136
                            cases e136
                            have qi136 : (0 < t115.length) = True := eq_true (by omega)
                            (try rw [show ((0 : Int)).toNat = 0 from rfl] at hx136_0)
                            (try rw [Addr.add_zero'] at hx136_0)
                            replace p136 := eq_true p136
                            replace q136 := eq_true q136
                            have p137 : 0 ≤ (1 : Int) := (by omega)
                            have q137 : 1 < (t115.length : Int) := of_decide_eq_true (by first | (with_reducible assumption) | assumption)
                            obtain ⟨ad137, e137, hx137_0⟩ := Kd.at_int (Kd.R_reads' HO_4.out).2.2 1 p137 q137
                            obtain rfl : ad136 = ad137 := (by injection e137)
                            (try simp only [show (1 : Int).toNat = 1 from rfl, Nat.reduceMul, Nat.reduceEqDiff, Go.Addr.add, ↓reduceIte] at hx137_0)
                            have qi137 : (1 < t115.length) = True := eq_true (by omega)
                            (try rw [show ((1 : Int)).toNat = 1 from rfl] at hx137_0)
                            replace p137 := eq_true p137
                            replace q137 := eq_true q137
                            have p138 : 0 ≤ (0 : Int) := (by omega)
                            have q138 : 0 < (t118.length : Int) := of_decide_eq_true (by first | (with_reducible assumption) | assumption)
                            obtain ⟨ad138, e138, hx138_0⟩ := Kd.at_int (Kd.R_reads' HO_5.out).2.2 0 p138 q138
                            obtain rfl : ad135 = ad138 := (by injection e138)
                            have qi138 : (0 < t118.length) = True := eq_true (by omega)
                            (try rw [show ((0 : Int)).toNat = 0 from rfl] at hx138_0)
                            (try rw [Addr.add_zero'] at hx138_0)
                            replace p138 := eq_true p138
                            replace q138 := eq_true q138
                            have p139 : 0 ≤ (1 : Int) := (by omega)
                            have q139 : 1 < (t118.length : Int) := of_decide_eq_true (by first | (with_reducible assumption) | assumption)
                            obtain ⟨ad139, e139, hx139_0⟩ := Kd.at_int (Kd.R_reads' HO_5.out).2.2 1 p139 q139
                            obtain rfl : ad135 = ad139 := (by injection e139)
                            (try simp only [show (1 : Int).toNat = 1 from rfl, Nat.reduceMul, Nat.reduceEqDiff, Go.Addr.add, ↓reduceIte] at hx139_0)
                            have qi139 : (1 < t118.length) = True := eq_true (by omega)
                            (try rw [show ((1 : Int)).toNat = 1 from rfl] at hx139_0)
                            replace p139 := eq_true p139
                            replace q139 := eq_true q139
                            go_wp2
                            repeat (go_quiet (fail); try go_wp2)
                            go_ret
                            exact ⟨by first | rfl | (simp [errW_none, errW_some] <;> rfl) | (simp [*, errW_none, errW_some] <;> rfl), by repeat (first | (with_reducible first | exact HB.out | apply below_alloc | apply pw_below_drewN | apply below_drew1) | exact HB.out)⟩
                          · rw [if_neg c74] at H
                            exact absurd (Option.some.inj H) (by rw [hr.out]; decide)
                        · rw [if_neg c73] at H
                          exact absurd (Option.some.inj H) (by rw [hr.out]; decide)
                      · rw [if_neg c72] at H
                        exact absurd (Option.some.inj H) (by rw [hr.out]; decide)
                    · rw [if_neg c71] at H
                      exact absurd H (by simp)
                  · rw [if_neg c70] at H
                    exact absurd H (by simp)
                · rw [if_neg c69] at H
                  exact absurd H (by simp)
              · rw [if_neg c68] at H
                exact absurd H (by simp)
            · rw [if_neg c67] at H
              exact absurd H (by simp)
          · rw [if_neg c66] at H
            have c66b0 : ((t118.length : Int) == 3) = false := beq_eq_false_iff_ne.mpr c66
            have c66b1 : ((t118.length : Int) != 3) = true := bne_iff_ne.mpr c66
            by_cases c83 : 0 < (t115.length : Int)
            · rw [if_pos c83] at H
              have c83b0 : decide (0 < (t115.length : Int)) = true := decide_eq_true c83
              have c83b1 : decide (0 < t115.length) = true := decide_eq_true (by omega)
              clear c83
              by_cases c84 : 1 < (t115.length : Int)
              · rw [if_pos c84] at H
                have c84b0 : decide (1 < (t115.length : Int)) = true := decide_eq_true c84
                have c84b1 : decide (1 < t115.length) = true := decide_eq_true (by omega)
                clear c84
                by_cases c85 : 0 < (t118.length : Int)
                · rw [if_pos c85] at H
                  have c85b0 : decide (0 < (t118.length : Int)) = true := decide_eq_true c85
                  have c85b1 : decide (0 < t118.length) = true := decide_eq_true (by omega)
                  clear c85
                  by_cases c86 : 1 < (t118.length : Int)
                  · rw [if_pos c86] at H
                    have c86b0 : decide (1 < (t118.length : Int)) = true := decide_eq_true c86
                    have c86b1 : decide (1 < t118.length) = true := decide_eq_true (by omega)
                    clear c86
                    by_cases c87 : (wrap64 ((wrap64 ((wrap64 ((wrap64 ((wrap64 (rd t115 0)) - 4352)) * 588)) + (wrap64 ((wrap64 ((wrap64 (rd t115 1)) - 4449)) * 28)))) + 0)) = (Int.tmod (wrap64 (a0)) 11171)
                    · rw [if_pos c87] at H
                      have c87b0 : ((wrap64 ((wrap64 ((wrap64 ((wrap64 ((wrap64 (rd t115 0)) - 4352)) * 588)) + (wrap64 ((wrap64 ((wrap64 (rd t115 1)) - 4449)) * 28)))) + 0)) == (Int.tmod (wrap64 (a0)) 11171)) = true := beq_iff_eq.mpr c87
                      have c87z0 := c87b0
                      rw [Int.add_zero] at c87z0
                      have c87b1 : ((wrap64 ((wrap64 ((wrap64 ((wrap64 ((wrap64 (rd t115 0)) - 4352)) * 588)) + (wrap64 ((wrap64 ((wrap64 (rd t115 1)) - 4449)) * 28)))) + 0)) != (Int.tmod (wrap64 (a0)) 11171)) = false := bne_eq_false_iff_eq.mpr c87
                      have c87z1 := c87b1
                      rw [Int.add_zero] at c87z1
                      clear c87
                      by_cases c88 : (wrap64 ((wrap64 ((wrap64 ((wrap64 ((wrap64 (rd t118 0)) - 4352)) * 588)) + (wrap64 ((wrap64 ((wrap64 (rd t118 1)) - 4449)) * 28)))) + 0)) = (wrap64 ((Int.tmod (wrap64 (a0)) 11171) + 1))
                      · rw [if_pos c88] at H
                        have c88b0 : ((wrap64 ((wrap64 ((wrap64 ((wrap64 ((wrap64 (rd t118 0)) - 4352)) * 588)) + (wrap64 ((wrap64 ((wrap64 (rd t118 1)) - 4449)) * 28)))) + 0)) == (wrap64 ((Int.tmod (wrap64 (a0)) 11171) + 1))) = true := beq_iff_eq.mpr c88
                        have c88z0 := c88b0
                        rw [Int.add_zero] at c88z0
                        have c88b1 : ((wrap64 ((wrap64 ((wrap64 ((wrap64 ((wrap64 (rd t118 0)) - 4352)) * 588)) + (wrap64 ((wrap64 ((wrap64 (rd t118 1)) - 4449)) * 28)))) + 0)) != (wrap64 ((Int.tmod (wrap64 (a0)) 11171) + 1))) = false := bne_eq_false_iff_eq.mpr c88
                        have c88z1 := c88b1
                        rw [Int.add_zero] at c88z1
                        clear c88
                        by_cases c89 : 0 < 28
                        · rw [if_pos c89] at H
                          have c89b0 : decide (0 < 28) = true := decide_eq_true c89
                          clear c89
                          obtain rfl := Option.some.inj H
                          obtain ⟨Ao90, co90, eo90⟩ := Kd.R_slice HO_4.out
                          subst eo90
                          obtain ⟨Ao91, co91, eo91⟩ := Kd.R_slice HO_5.out
                          subst eo91
                          have p140 : 0 ≤ (0 : Int) := (by omega)
                          have q140 : 0 < (t115.length : Int) := of_decide_eq_true (by first | (with_reducible assumption) | assumption)
                          obtain ⟨ad140, e140, hx140_0⟩ := Kd.at_int (Kd.R_reads' HO_4.out).2.2 0 p140 q140
                          cases e140
                          have qi140 : (0 < t115.length) = True := eq_true (by omega)
                          (try rw [show ((0 : Int)).toNat = 0 from rfl] at hx140_0)
                          (try rw [Addr.add_zero'] at hx140_0)
                          replace p140 := eq_true p140
                          replace q140 := eq_true q140
                          have p141 : 0 ≤ (1 : Int) := (by omega)
                          have q141 : 1 < (t115.length : Int) := of_decide_eq_true (by first | (with_reducible assumption) | assumption)
                          obtain ⟨ad141, e141, hx141_0⟩ := Kd.at_int (Kd.R_reads' HO_4.out).2.2 1 p141 q141
                          obtain rfl : ad140 = ad141 := (by injection e141)
                          (try simp only [show (1 : Int).toNat = 1 from rfl, Nat.reduceMul, Nat.reduceEqDiff, Go.Addr.add, ↓reduceIte] at hx141_0)
                          have qi141 : (1 < t115.length) = True := eq_true (by omega)
                          (try rw [show ((1 : Int)).toNat = 1 from rfl] at hx141_0)
                          replace p141 := eq_true p141
                          replace q141 := eq_true q141
                          have p142 : 0 ≤ (0 : Int) := (by omega)
                          have q142 : 0 < (t118.length : Int) := of_decide_eq_true (by first | (with_reducible assumption) | assumption)
                          obtain ⟨ad142, e142, hx142_0⟩ := Kd.at_int (Kd.R_reads' HO_5.out).2.2 0 p142 q142
                          cases e142
                          have qi142 : (0 < t118.length) = True := eq_true (by omega)
                          (try rw [show ((0 : Int)).toNat = 0 from rfl] at hx142_0)
                          (try rw [Addr.add_zero'] at hx142_0)
                          replace p142 := eq_true p142
                          replace q142 := eq_true q142
                          have p143 : 0 ≤ (1 : Int) := (by omega)
                          have q143 : 1 < (t118.length : Int) := of_decide_eq_true (by first | (with_reducible assumption) | assumption)
                          obtain ⟨ad143, e143, hx143_0⟩ := Kd.at_int (Kd.R_reads' HO_5.out).2.2 1 p143 q143
                          obtain rfl : ad142 = ad143 := (by injection e143)
                          (try simp only [show (1 : Int).toNat = 1 from rfl, Nat.reduceMul, Nat.reduceEqDiff, Go.Addr.add, ↓reduceIte] at hx143_0)
                          have qi143 : (1 < t118.length) = True := eq_true (by omega)
                          (try rw [show ((1 : Int)).toNat = 1 from rfl] at hx143_0)
                          replace p143 := eq_true p143
                          replace q143 := eq_true q143
                          go_wp2
                          repeat (go_quiet (fail); try go_wp2)
                          go_ret
                          exact ⟨by first | rfl | (simp [errW_none, errW_some] <;> rfl) | (simp [*, errW_none, errW_some] <;> rfl), by repeat (first | (with_reducible first | exact HB.out | apply below_alloc | apply pw_below_drewN | apply below_drew1) | exact HB.out)⟩
                        · rw [if_neg c89] at H
                          exact absurd (Option.some.inj H) (by rw [hr.out]; decide)
                      · rw [if_neg c88] at H
                        exact absurd (Option.some.inj H) (by rw [hr.out]; decide)
                    · rw [if_neg c87] at H
                      exact absurd (Option.some.inj H) (by rw [hr.out]; decide)
                  · rw [if_neg c86] at H
                    exact absurd H (by simp)
                · rw [if_neg c85] at H
                  exact absurd H (by simp)
              · rw [if_neg c84] at H
                exact absurd H (by simp)
            · rw [if_neg c83] at H
              exact absurd H (by simp)

/-- THE ONE PURE STATEMENT of amanuensislaw05_HangulAll: yours. -/
def amanuensislaw05_HangulAll.Pure : Prop := ∀ (a0 : Int), (Lit.int .u16 a0).wf = true → ∃ k, amanuensislaw05_HangulAll.f k a0 = some true
theorem amanuensislaw05_HangulAll.walk (P : amanuensislaw05_HangulAll.Pure) (a0 : Int) (w : World) (w0 : (Lit.int .u16 a0).wf = true) :
    Calls Try.prog 5 #[.int .u16 a0] w fun e w' => e = .returned (.bool true) ∧ Below w.heap.size w w' := by
  obtain ⟨k, h⟩ := P a0 w0
  refine (amanuensislaw05_HangulAll.calls k a0 true rfl w h).mono ?_
  rintro e w' ⟨rfl, hd⟩
  exact ⟨rfl, hd⟩

end Go.Proofs.Ytcgnojbddclhdaa.PHangulAll
