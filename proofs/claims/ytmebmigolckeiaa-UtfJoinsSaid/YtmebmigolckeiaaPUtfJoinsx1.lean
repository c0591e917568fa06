/- The law UtfJoins: begun as a text of print.sh, over a translation in which a function has a stand-in; what the stand-in changes is proved by hand. -/
import Derived.Test.YtmebmigolckeiaaPUtfEncodesx0
import Derived.Test.YtmebmigolckeiaaPUtfEncodesx2
import Derived.Test.YtmebmigolckeiaaPUtfEncodesx3
namespace Go.Proofs.Ytmebmigolckeiaa.PUtfJoins
open Go.Proofs.Ytmebmigolckeiaa.PUtfEncodes Go.RowKit Go.Proofs.YtmebmigolckeiaaW.PrintWords Go.Proofs.YtmebmigolckeiaaW.PrintLast Go.Proofs.YtmebmigolckeiaaW.PrintMore
attribute [local go_sem] max2_int min2_int max_two min_two max_three min_three max_four min_four   -- for this text's walks alone
set_option linter.unusedVariables false
set_option linter.unusedSimpArgs false

theorem eqA27 (d : Nat) (w : World) (x0 y0 : Int) (x1 y1 : Int) :
    (Op.equalIn (d + 2) 27 (.agg #[.int .i64 x0, .int .i64 x1]) (.agg #[.int .i64 y0, .int .i64 y1])).run Try.prog w = .ok (x0 == y0 && (x1 == y1)) w := by
  refine eqA_of Try.underlying27 (by kernel_rfl) ?_
  refine eqf_cons (by rfl) (by go_simp; rfl) (by go_simp; rfl) (by go_simp) ?_
  exact eqf_last (by rfl) (by go_simp; rfl) (by go_simp; rfl) (by go_simp)
attribute [local go_sem high] eqA27
/-! ### amanuensislaw01_UtfJoins: function 4 -/
mutual
def amanuensislaw01_UtfJoins.j0 (a2 : Int) : Nat → List Int → List Int → Bool → Option (Bool)
  | 0, _, _, _ => none
  | k + 1, x0, x1, x23 => if x23 = true then ((amanuensislaw01_answers.f k).bind fun t153 => (some t153)) else ((amanuensisref01_Encode.f k x0).bind fun bt154 => ((amanuensisref01_Encode.f k x1).bind fun bt160 => (if bt154.2.1 = 0 then (amanuensislaw01_UtfJoins.j1 a2 k x0 x1 bt154.1 bt160.1 (bt160.2.1 != 0)) else (amanuensislaw01_UtfJoins.j1 a2 k x0 x1 bt154.1 bt160.1 true))))
def amanuensislaw01_UtfJoins.j1 (a2 : Int) : Nat → List Int → List Int → List Int → List Int → Bool → Option (Bool)
  | 0, _, _, _, _, _ => none
  | k + 1, x0, x1, x7, x9, x42 => if x42 = true then ((amanuensislaw01_answers.f k).bind fun t166 => (some t166)) else ((some (([] : List Int) : List Int)).bind fun y167 => (if y167.length + x7.length < 140737488355328 then ((some (y167 ++ x7 : List Int)).bind fun y170 => (if y170.length + x9.length < 140737488355328 then ((utf_Decode.f k (y170 ++ x9)).bind fun bt176 => ((amanuensislaw01_answers.f k).bind fun t182 => (if t182 = true then (if bt176.2.1 = 0 then ((some (([] : List Int) : List Int)).bind fun y183 => (if y183.length + x0.length < 35184372088832 then ((some (y183 ++ x0 : List Int)).bind fun y186 => (if y186.length + x1.length < 35184372088832 then ((amanuensisref01_Runes.f k bt176.1 (y186 ++ x1)).bind fun t192 => (amanuensislaw01_UtfJoins.j2 a2 k x1 x7 x9 (!t192))) else (none))) else (none))) else (amanuensislaw01_UtfJoins.j2 a2 k x1 x7 x9 true)) else (amanuensislaw01_UtfJoins.j2 a2 k x1 x7 x9 true)))) else (none))) else (none)))
def amanuensislaw01_UtfJoins.j2 (a2 : Int) : Nat → List Int → List Int → List Int → Bool → Option (Bool)
  | 0, _, _, _, _ => none
  | k + 1, x1, x7, x9, x69 => if x69 = true then (some false) else (if (x1.length : Int) = 0 then (amanuensislaw01_UtfJoins.j3 a2 k x1 x7 x9 true) else (if 0 < (x1.length : Int) then ((amanuensisref01_Len.f k (rd x1 0)).bind fun t194 => (amanuensislaw01_UtfJoins.j3 a2 k x1 x7 x9 (t194 == 1))) else (none)))
def amanuensislaw01_UtfJoins.j3 (a2 : Int) : Nat → List Int → List Int → List Int → Bool → Option (Bool)
  | 0, _, _, _, _ => none
  | k + 1, x1, x7, x9, x79 => if x79 = true then (some true) else (if 0 < (x1.length : Int) then ((amanuensisref01_Len.f k (rd x1 0)).bind fun t196 => (if (wrap64 (t196 - 1)) = 0 then (none) else (if 0 ≤ (wrap64 (1 + Int.tmod (wrap64 a2) (wrap64 (t196 - 1)))) then (if (wrap64 (1 + Int.tmod (wrap64 a2) (wrap64 (t196 - 1)))) ≤ (x9.length : Int) then ((some (([] : List Int) : List Int)).bind fun y197 => (if y197.length + x7.length < 140737488355328 then ((some (y197 ++ x7 : List Int)).bind fun y200 => (if y200.length + (x9.take (wrap64 (1 + Int.tmod (wrap64 a2) (wrap64 (t196 - 1)))).toNat).length < 140737488355328 then ((utf_Decode.f k (y200 ++ x9.take (wrap64 (1 + Int.tmod (wrap64 a2) (wrap64 (t196 - 1)))).toNat)).bind fun bt206 => (some (bt206.2.1 == 2 && (bt206.2.2 == (x7.length : Int))))) else (none))) else (none))) else none) else none))) else (none))
end
def amanuensislaw01_UtfJoins.f (k : Nat) (l0 : List Int) (l1 : List Int) (a2 : Int) : Option (Bool) := if (l0.length : Int) > 300 then (amanuensislaw01_UtfJoins.j0 a2 k l0 l1 true) else (amanuensislaw01_UtfJoins.j0 a2 k l0 l1 (decide ((l1.length : Int) > 300)))
theorem amanuensislaw01_UtfJoins.mono_l (a2 : Int) : ∀ k, (∀ y0 y1 y2, LeO (amanuensislaw01_UtfJoins.j0 a2 k y0 y1 y2) (amanuensislaw01_UtfJoins.j0 a2 (k + 1) y0 y1 y2)) ∧ (∀ y0 y1 y2 y3 y4, LeO (amanuensislaw01_UtfJoins.j1 a2 k y0 y1 y2 y3 y4) (amanuensislaw01_UtfJoins.j1 a2 (k + 1) y0 y1 y2 y3 y4)) ∧ (∀ y0 y1 y2 y3, LeO (amanuensislaw01_UtfJoins.j2 a2 k y0 y1 y2 y3) (amanuensislaw01_UtfJoins.j2 a2 (k + 1) y0 y1 y2 y3)) ∧ (∀ y0 y1 y2 y3, LeO (amanuensislaw01_UtfJoins.j3 a2 k y0 y1 y2 y3) (amanuensislaw01_UtfJoins.j3 a2 (k + 1) y0 y1 y2 y3))
  | 0 => ⟨fun _ _ _ r h => by simp [amanuensislaw01_UtfJoins.j0] at h, fun _ _ _ _ _ r h => by simp [amanuensislaw01_UtfJoins.j1] at h, fun _ _ _ _ r h => by simp [amanuensislaw01_UtfJoins.j2] at h, fun _ _ _ _ r h => by simp [amanuensislaw01_UtfJoins.j3] at h⟩
  | k + 1 => by
    obtain ⟨ih0, ih1, ih2, ih3⟩ := amanuensislaw01_UtfJoins.mono_l a2 k
    refine ⟨?_, ?_, ?_, ?_⟩
    · intro y0 y1 y2
      unfold amanuensislaw01_UtfJoins.j0
      repeat' first
      | (with_reducible exact ih0 _ _ _)
      | (with_reducible exact ih1 _ _ _ _ _)
      | (with_reducible exact ih2 _ _ _ _)
      | (with_reducible exact ih3 _ _ _ _)
      | (with_reducible exact amanuensislaw01_answers.mono _)
      | (with_reducible exact amanuensisref01_Encode.mono _ _)
      | (with_reducible exact amanuensisref01_Len.mono _ _)
      | (with_reducible exact amanuensisref01_Runes.mono _ _ _)
      | (with_reducible exact utf_Decode.mono _ _)
      | (with_reducible exact LeO.refl _)
      | (with_reducible exact LeO.none _)
      | (with_reducible refine LeO.ite ?_ ?_)
      | (with_reducible refine LeO.bind ?_ (fun _ => ?_))
      | exact ih0 _ _ _
      | exact ih1 _ _ _ _ _
      | exact ih2 _ _ _ _
      | exact ih3 _ _ _ _
      | exact amanuensislaw01_answers.mono _
      | exact amanuensisref01_Encode.mono _ _
      | exact amanuensisref01_Len.mono _ _
      | exact amanuensisref01_Runes.mono _ _ _
      | exact utf_Decode.mono _ _
      | exact LeO.none _
      | refine LeO.ite ?_ ?_
      | refine LeO.bind ?_ (fun _ => ?_)
    · intro y0 y1 y2 y3 y4
      unfold amanuensislaw01_UtfJoins.j1
      repeat' first
      | (with_reducible exact ih0 _ _ _)
      | (with_reducible exact ih1 _ _ _ _ _)
      | (with_reducible exact ih2 _ _ _ _)
      | (with_reducible exact ih3 _ _ _ _)
      | (with_reducible exact amanuensislaw01_answers.mono _)
      | (with_reducible exact amanuensisref01_Encode.mono _ _)
      | (with_reducible exact amanuensisref01_Len.mono _ _)
      | (with_reducible exact amanuensisref01_Runes.mono _ _ _)
      | (with_reducible exact utf_Decode.mono _ _)
      | (with_reducible exact LeO.refl _)
      | (with_reducible exact LeO.none _)
      | (with_reducible refine LeO.ite ?_ ?_)
      | (with_reducible refine LeO.bind ?_ (fun _ => ?_))
      | exact ih0 _ _ _
      | exact ih1 _ _ _ _ _
      | exact ih2 _ _ _ _
      | exact ih3 _ _ _ _
      | exact amanuensislaw01_answers.mono _
      | exact amanuensisref01_Encode.mono _ _
      | exact amanuensisref01_Len.mono _ _
      | exact amanuensisref01_Runes.mono _ _ _
      | exact utf_Decode.mono _ _
      | exact LeO.none _
      | refine LeO.ite ?_ ?_
      | refine LeO.bind ?_ (fun _ => ?_)
    · intro y0 y1 y2 y3
      unfold amanuensislaw01_UtfJoins.j2
      repeat' first
      | (with_reducible exact ih0 _ _ _)
      | (with_reducible exact ih1 _ _ _ _ _)
      | (with_reducible exact ih2 _ _ _ _)
      | (with_reducible exact ih3 _ _ _ _)
      | (with_reducible exact amanuensislaw01_answers.mono _)
      | (with_reducible exact amanuensisref01_Encode.mono _ _)
      | (with_reducible exact amanuensisref01_Len.mono _ _)
      | (with_reducible exact amanuensisref01_Runes.mono _ _ _)
      | (with_reducible exact utf_Decode.mono _ _)
      | (with_reducible exact LeO.refl _)
      | (with_reducible exact LeO.none _)
      | (with_reducible refine LeO.ite ?_ ?_)
      | (with_reducible refine LeO.bind ?_ (fun _ => ?_))
      | exact ih0 _ _ _
      | exact ih1 _ _ _ _ _
      | exact ih2 _ _ _ _
      | exact ih3 _ _ _ _
      | exact amanuensislaw01_answers.mono _
      | exact amanuensisref01_Encode.mono _ _
      | exact amanuensisref01_Len.mono _ _
      | exact amanuensisref01_Runes.mono _ _ _
      | exact utf_Decode.mono _ _
      | exact LeO.none _
      | refine LeO.ite ?_ ?_
      | refine LeO.bind ?_ (fun _ => ?_)
    · intro y0 y1 y2 y3
      unfold amanuensislaw01_UtfJoins.j3
      repeat' first
      | (with_reducible exact ih0 _ _ _)
      | (with_reducible exact ih1 _ _ _ _ _)
      | (with_reducible exact ih2 _ _ _ _)
      | (with_reducible exact ih3 _ _ _ _)
      | (with_reducible exact amanuensislaw01_answers.mono _)
      | (with_reducible exact amanuensisref01_Encode.mono _ _)
      | (with_reducible exact amanuensisref01_Len.mono _ _)
      | (with_reducible exact amanuensisref01_Runes.mono _ _ _)
      | (with_reducible exact utf_Decode.mono _ _)
      | (with_reducible exact LeO.refl _)
      | (with_reducible exact LeO.none _)
      | (with_reducible refine LeO.ite ?_ ?_)
      | (with_reducible refine LeO.bind ?_ (fun _ => ?_))
      | exact ih0 _ _ _
      | exact ih1 _ _ _ _ _
      | exact ih2 _ _ _ _
      | exact ih3 _ _ _ _
      | exact amanuensislaw01_answers.mono _
      | exact amanuensisref01_Encode.mono _ _
      | exact amanuensisref01_Len.mono _ _
      | exact amanuensisref01_Runes.mono _ _ _
      | exact utf_Decode.mono _ _
      | exact LeO.none _
      | refine LeO.ite ?_ ?_
      | refine LeO.bind ?_ (fun _ => ?_)
theorem amanuensislaw01_UtfJoins.mono : ∀ a0 a1 a2 k, LeO (amanuensislaw01_UtfJoins.f k a0 a1 a2) (amanuensislaw01_UtfJoins.f (k + 1) a0 a1 a2) := by
  intro a0 a1 a2 k
  obtain ⟨ih0, ih1, ih2, ih3⟩ := amanuensislaw01_UtfJoins.mono_l a2 k
  unfold amanuensislaw01_UtfJoins.f
  repeat' first
      | (with_reducible exact ih0 _ _ _)
      | (with_reducible exact ih1 _ _ _ _ _)
      | (with_reducible exact ih2 _ _ _ _)
      | (with_reducible exact ih3 _ _ _ _)
      | (with_reducible exact amanuensislaw01_answers.mono _)
      | (with_reducible exact amanuensisref01_Encode.mono _ _)
      | (with_reducible exact amanuensisref01_Len.mono _ _)
      | (with_reducible exact amanuensisref01_Runes.mono _ _ _)
      | (with_reducible exact utf_Decode.mono _ _)
      | (with_reducible exact LeO.refl _)
      | (with_reducible exact LeO.none _)
      | (with_reducible refine LeO.ite ?_ ?_)
      | (with_reducible refine LeO.bind ?_ (fun _ => ?_))
      | exact ih0 _ _ _
      | exact ih1 _ _ _ _ _
      | exact ih2 _ _ _ _
      | exact ih3 _ _ _ _
      | exact amanuensislaw01_answers.mono _
      | exact amanuensisref01_Encode.mono _ _
      | exact amanuensisref01_Len.mono _ _
      | exact amanuensisref01_Runes.mono _ _ _
      | exact utf_Decode.mono _ _
      | exact LeO.none _
      | refine LeO.ite ?_ ?_
      | refine LeO.bind ?_ (fun _ => ?_)
def amanuensislaw01_UtfJoins.T13 : Bool × List (List Nat × List Nat) := (true, [([], []), ([], []), ([0, 1], [0, 1]), ([], []), ([], []), ([3, 4], [3, 4]), ([2, 5, 2], [2, 5]), ([6, 6], [6]), ([7], [7]), ([8], [8]), ([8], [8]), ([], []), ([9, 7, 0, 1, 2, 3, 4, 5, 6, 7, 8, 9, 11], [9]), ([11, 10, 12, 0, 1, 2, 3, 4, 5, 6, 7, 8, 9, 10, 11, 12], [10, 11])])
def amanuensislaw01_UtfJoins.B13 : List Nat := [0, 0, 3, 0, 0, 24, 63, 127, 255, 511, 511, 0, 3071, 8191]
theorem amanuensislaw01_UtfJoins.tab13 : rtab .any (opsOf Try.f4 13) = amanuensislaw01_UtfJoins.T13 := by kernel_rfl
theorem amanuensislaw01_UtfJoins.bits13 : waitsOk amanuensislaw01_UtfJoins.T13.2 amanuensislaw01_UtfJoins.B13 = true := by kernel_rfl
set_option maxHeartbeats 8000000 in
set_option maxRecDepth 100000 in
theorem amanuensislaw01_UtfJoins.calls (k : Nat) (A0 : Option Addr) (c0 : Nat) (l0 : List Int) (A1 : Option Addr) (c1 : Nat) (l1 : List Int) (a2 : Int) (r : Bool) (w : World) (hr0 : Kd.C (Kd.int .i32) w A0 l0.length l0) (hc0 : l0.length ≤ c0) (hr1 : Kd.C (Kd.int .i32) w A1 l1.length l1) (hc1 : l1.length ≤ c1) (h : amanuensislaw01_UtfJoins.f k l0 l1 a2 = some r) :
    Calls Try.prog 4 #[.slice A0 l0.length c0, .slice A1 l1.length c1, .int .u8 a2] w fun e w' => e = .returned (.bool r) ∧ Below w.heap.size w w' := by
  have hu27 := Try.underlying27
  have HR0 := Aside0.mk hr0
  have HC0 := Aside0.mk hc0
  clear hr0 hc0
  have HR1 := Aside0.mk hr1
  have HC1 := Aside0.mk hc1
  clear hr1 hc1
  have HB := Aside0.mk (Below.refl w.heap.size w)
  have H : (if (l0.length : Int) > 300 then (amanuensislaw01_UtfJoins.j0 a2 k l0 l1 true) else (amanuensislaw01_UtfJoins.j0 a2 k l0 l1 (decide ((l1.length : Int) > 300)))) = some r := h
  clear h
  have HC4 := Aside0.mk H
  clear H
  go_enter Try.func4, Try.ntmps4
  go_upto_region 1 with (fail)
  go_cut [23] (fun v23 wc => ∃ (kq : Nat) (x23_3 : Bool), v23 = .bool x23_3 ∧ Aside0 (amanuensislaw01_UtfJoins.j0 a2 kq l0 l1 x23_3 = some r) ∧ Aside0 (kq ≤ k) ∧ Aside0 (Below w.heap.size w wc))
  case first =>
    have H := HC4.out
    clear HC4
    by_cases c5 : (l0.length : Int) > 300
    · rw [if_pos c5] at H
      have c5b0 : decide (300 < (l0.length : Int)) = true := decide_eq_true c5
      have c5b1 : decide (300 < l0.length) = true := decide_eq_true (by omega)
      clear c5
      (first | rw [c5b0] | (simp only [i64_w, i32_w]; rw [c5b0]) | skip)
      have H' := Aside0.mk H
      clear H
      go_wp2
      go_meet
      case rel => exact ⟨_, (true), (by first | rfl | (simp; done) | (simp [*]; done)), H', ⟨by first | omega | exact Nat.le_refl _⟩, ⟨by repeat (first | (with_reducible first | exact HB.out | apply below_alloc | apply pw_below_drewN | apply below_drew1) | exact HB.out)⟩⟩
    · rw [if_neg c5] at H
      have c5b0 : decide (300 < (l0.length : Int)) = false := decide_eq_false c5
      have c5b1 : decide (300 < l0.length) = false := decide_eq_false (by omega)
      clear c5
      (first | rw [c5b0] | (simp only [i64_w, i32_w]; rw [c5b0]) | skip)
      have H' := Aside0.mk H
      clear H
      go_wp2
      go_meet
      case rel => exact ⟨_, (decide ((l1.length : Int) > 300)), (by first | rfl | (simp; done) | (simp [*]; done)), H', ⟨by first | omega | exact Nat.le_refl _⟩, ⟨by repeat (first | (with_reducible first | exact HB.out | apply below_alloc | apply pw_below_drewN | apply below_drew1) | exact HB.out)⟩⟩
  case rest =>
    clear HC4
    try clear c1
    try clear p2
    try clear c4
    try clear c5
    try clear c5b0
    try clear c5b1
    obtain ⟨kq, x23_3, rfl, HA, HJ3, HB⟩ := hcut
    cases kq with
    | zero => exact absurd HA.out (by simp [amanuensislaw01_UtfJoins.j0])
    | succ kj3 =>
      have H := HA.out
      clear HA
      simp only [amanuensislaw01_UtfJoins.j0] at H
      by_cases c6 : x23_3 = true
      · subst c6
        have H1 : ((amanuensislaw01_answers.f kj3).bind fun t153 => (some t153)) = some r := by rw [if_pos rfl] at H; exact H
        clear H
        have H := H1
        clear H1
        replace H := Option.bind_eq_some_iff.mp H
        obtain ⟨t153, A70, H⟩ := H
        replace H : (some t153) = some r := H
        have A7 := Aside0.mk A70
        clear A70
        obtain rfl := Option.some.inj H
        go_wp2_with (first | ((with_reducible refine gate_callee (f := 10) rfl ?_); refine goesL_ (some 24) rfl rfl Try.func10 (by kernel_rfl) rfl #[] rfl (by (try simp only [List.map_toArray, List.map_cons, List.map_nil]); first | done | rfl | (simp only [List.length_drop, List.length_take]; rfl)) ?_; (with_reducible refine (amanuensislaw01_answers.calls kj3  t153 _ A7.out).mono ?_); rintro e w8 ⟨rfl, hb⟩; refine ⟨_, rfl, ?_⟩; have n0_ := Aside0.mk (below_step (by repeat (first | (with_reducible first | exact HB.out | apply below_alloc | apply pw_below_drewN | apply below_drew1) | exact HB.out)) hb); clear HB; have HB := n0_; clear n0_; (try clear hb); (try clear hb2); (try clear hk); (try clear hi)))
        go_ret
        exact ⟨by first | rfl | (simp [errW_none, errW_some] <;> rfl) | (simp [*, errW_none, errW_some] <;> rfl), by repeat (first | (with_reducible first | exact HB.out | apply below_alloc | apply pw_below_drewN | apply below_drew1) | exact HB.out)⟩
      · replace c6 := Bool.eq_false_iff.mpr c6
        subst c6
        have H1 : ((amanuensisref01_Encode.f kj3 l0).bind fun bt154 => ((amanuensisref01_Encode.f kj3 l1).bind fun bt160 => (if bt154.2.1 = 0 then (amanuensislaw01_UtfJoins.j1 a2 kj3 l0 l1 bt154.1 bt160.1 (bt160.2.1 != 0)) else (amanuensislaw01_UtfJoins.j1 a2 kj3 l0 l1 bt154.1 bt160.1 true)))) = some r := by rw [if_neg (show ¬ (false = true) by decide)] at H; exact H
        clear H
        have H := H1
        clear H1
        replace H := Option.bind_eq_some_iff.mp H
        obtain ⟨⟨t154, t157, t158⟩, A90, H⟩ := H
        replace H : ((amanuensisref01_Encode.f kj3 l1).bind fun bt160 => (if t157 = 0 then (amanuensislaw01_UtfJoins.j1 a2 kj3 l0 l1 t154 bt160.1 (bt160.2.1 != 0)) else (amanuensislaw01_UtfJoins.j1 a2 kj3 l0 l1 t154 bt160.1 true))) = some r := H
        have A9 := Aside0.mk A90
        clear A90
        replace H := Option.bind_eq_some_iff.mp H
        obtain ⟨⟨t160, t163, t164⟩, A100, H⟩ := H
        replace H : (if t157 = 0 then (amanuensislaw01_UtfJoins.j1 a2 kj3 l0 l1 t154 t160 (t163 != 0)) else (amanuensislaw01_UtfJoins.j1 a2 kj3 l0 l1 t154 t160 true)) = some r := H
        have A10 := Aside0.mk A100
        clear A100
        have HC11 := Aside0.mk H
        clear H
        go_upto_region 5 with (first | ((with_reducible refine gate_callee (f := 14) rfl ?_); refine goesL_ (some 27) rfl rfl Try.func14 (by kernel_rfl) rfl #[.slice A0 l0.length c0] rfl (by (try simp only [List.map_toArray, List.map_cons, List.map_nil]); first | done | rfl | (simp only [List.length_drop, List.length_take]; rfl)) ?_; (with_reducible refine (amanuensisref01_Encode.calls kj3 _ _ l0 t154 t157 t158 _ ?side1 ?side2 A9.out).mono ?_); (case side1 => repeat (first | exact (Kd.C_below HR0.out HB.out) | (with_reducible refine Kd.C_alloc ?_ _) | (with_reducible refine Kd.C_drewN ?_ _) | (with_reducible refine Kd.C_drew ?_))); (case side2 => exact HC0.out); rintro e w12 ⟨v155, rfl, ho0, hb⟩; refine ⟨_, rfl, ?_⟩; have n0_ := Aside0.mk (Kd.R_lower ho0 (below_size (by repeat (first | (with_reducible first | exact HB.out | apply below_alloc | apply pw_below_drewN | apply below_drew1) | exact HB.out)))); have n1_ := Aside0.mk (below_step (by repeat (first | (with_reducible first | exact HB.out | apply below_alloc | apply pw_below_drewN | apply below_drew1) | exact HB.out)) hb); clear HB; have HO156 := n0_; have HB := n1_; clear n0_ n1_; (try clear hb); (try clear hb2); (try clear hk); (try clear hi); (try clear ho0)) | ((with_reducible refine gate_dst (N := 8) rfl ?_); (try (refine gate_guard (by rfl) ?_; dsimp only)); refine box_event ?hg (N := 8) ?hd (cs := #[.int .i64 0, .int .i64 0]) (t := 27) ?hr ?_; (case hd => rfl); (case hg => rfl); (case hr => first | (go_simp; done) | (go_simp; rfl)); intro gb159 hg w13 hbox hb; have n0_ := Aside0.mk (Kd.R_below (by (with_reducible repeat (first | apply Kd.R_alloc | apply Kd.R_drewN | apply Kd.R_drew)); exact HO156.out) hb); have n1_ := Aside0.mk (below_step (by repeat (first | (with_reducible first | exact HB.out | apply below_alloc | apply pw_below_drewN | apply below_drew1) | exact HB.out)) hb); have n2_ := Aside0.mk (hbox); have n3_ := Aside0.mk ((by rw [hg]; exact (below_size (by repeat (first | (with_reducible first | exact HB.out | apply below_alloc | apply pw_below_drewN | apply below_drew1) | exact HB.out))) : w.heap.size ≤ gb159)); have n4_ := Aside0.mk ((by rw [hg]; exact (below_size (by repeat (first | (with_reducible first | exact HB.out | apply below_alloc | apply pw_below_drewN | apply below_drew1) | exact HB.out))) : w.heap.size ≤ gb159)); clear HO156; clear HB; have HO156 := n0_; have HB := n1_; have BK159 := n2_; have GW159 := n3_; have GE159 := n4_; clear n0_ n1_ n2_ n3_ n4_; clear hb hbox hg; have hcz14_0 : w13.cell? ⟨gb159, 0, none⟩ = some (.int .i64 0) := (blk_cell BK159.out 0).trans rfl; have hcz14_1 : w13.cell? ⟨gb159, 1, none⟩ = some (.int .i64 0) := (blk_cell BK159.out 1).trans rfl; have hfz14_0 := blk_frozen BK159.out 0; have hfz14_1 := blk_frozen BK159.out 1) | ((with_reducible refine gate_callee (f := 14) rfl ?_); refine goesL_ (some 32) rfl rfl Try.func14 (by kernel_rfl) rfl #[.slice A1 l1.length c1] rfl (by (try simp only [List.map_toArray, List.map_cons, List.map_nil]); first | done | rfl | (simp only [List.length_drop, List.length_take]; rfl)) ?_; (with_reducible refine (amanuensisref01_Encode.calls kj3 _ _ l1 t160 t163 t164 _ ?side1 ?side2 A10.out).mono ?_); (case side1 => exact Kd.C_below HR1.out (by repeat (first | (with_reducible first | exact HB.out | apply below_alloc | apply pw_below_drewN | apply below_drew1 | refine below_set ?_ GE159.out) | exact HB.out))); (case side2 => exact HC1.out); rintro e w15 ⟨v161, rfl, ho0, hb⟩; refine ⟨_, rfl, ?_⟩; have n0_ := Aside0.mk (Kd.R_elder' (by (with_reducible repeat (first | apply Kd.R_alloc | apply Kd.R_drewN | apply Kd.R_drew)); exact (Kd.R_mono (Kd.R_far (p := ⟨gb159, 1, none⟩) (Kd.R_far (p := ⟨gb159, 0, none⟩) (Kd.R_types HO156.out BK159.out (by decide)) (fun _ hk => hk.2) (.int .i64 t157)) (fun _ hk => hk.2) (.int .i64 t158)) (fun _ h_ => h_.1))) (Kd.R_base ho0) hb); have n1_ := Aside0.mk (Kd.R_lower (Kd.R_new' ho0 (Kd.R_lt (by (with_reducible repeat (first | apply Kd.R_alloc | apply Kd.R_drewN | apply Kd.R_drew)); exact (Kd.R_mono (Kd.R_far (p := ⟨gb159, 1, none⟩) (Kd.R_far (p := ⟨gb159, 0, none⟩) (Kd.R_types HO156.out BK159.out (by decide)) (fun _ hk => hk.2) (.int .i64 t157)) (fun _ hk => hk.2) (.int .i64 t158)) (fun _ h_ => h_.1))))) (below_size (by repeat (first | (with_reducible first | exact HB.out | apply below_alloc | apply pw_below_drewN | apply below_drew1 | refine below_set ?_ GE159.out) | exact HB.out)))); have n2_ := Aside0.mk (blk_below (g := gb159) (o := .cells #[.int .i64 t157, .int .i64 t158] 27 (0, 0)) (by (with_reducible repeat (first | refine blk_drewN ?_ _ | refine blk_drew ?_ | refine blk_alloc ?_ _)); refine blk_put (cs := #[.int .i64 t157, .int .i64 0]) ?_ 1 _ rfl; (with_reducible repeat (first | refine blk_drewN ?_ _ | refine blk_drew ?_ | refine blk_alloc ?_ _)); refine blk_put (cs := #[.int .i64 0, .int .i64 0]) ?_ 0 _ rfl; (with_reducible repeat (first | refine blk_drewN ?_ _ | refine blk_drew ?_ | refine blk_alloc ?_ _)); exact BK159.out) hb); have n3_ := Aside0.mk (below_step (by repeat (first | (with_reducible first | exact HB.out | apply below_alloc | apply pw_below_drewN | apply below_drew1 | refine below_set ?_ GE159.out) | exact HB.out)) hb); clear HO156; clear BK159; clear HB; have HO156 := n0_; have HO162 := n1_; have BK159 := n2_; have HB := n3_; clear n0_ n1_ n2_ n3_; (try clear hb); (try clear hb2); (try clear hk); (try clear hi); (try clear ho0)) | ((with_reducible refine gate_dst (N := 10) rfl ?_); (try (refine gate_guard (by rfl) ?_; dsimp only)); refine box_event ?hg (N := 10) ?hd (cs := #[.int .i64 0, .int .i64 0]) (t := 27) ?hr ?_; (case hd => rfl); (case hg => rfl); (case hr => first | (go_simp; done) | (go_simp; rfl)); intro gb165 hg w16 hbox hb; have n0_ := Aside0.mk (Kd.R_below (by (with_reducible repeat (first | apply Kd.R_alloc | apply Kd.R_drewN | apply Kd.R_drew)); exact HO156.out) hb); have n1_ := Aside0.mk (Kd.R_below (by (with_reducible repeat (first | apply Kd.R_alloc | apply Kd.R_drewN | apply Kd.R_drew)); exact HO162.out) hb); have n2_ := Aside0.mk (blk_below (g := gb159) (o := .cells #[.int .i64 t157, .int .i64 t158] 27 (0, 0)) (by (with_reducible repeat (first | refine blk_drewN ?_ _ | refine blk_drew ?_ | refine blk_alloc ?_ _)); exact BK159.out) hb); have n3_ := Aside0.mk (below_step (by repeat (first | (with_reducible first | exact HB.out | apply below_alloc | apply pw_below_drewN | apply below_drew1 | refine below_set ?_ GE159.out) | exact HB.out)) hb); have n4_ := Aside0.mk (hbox); have n5_ := Aside0.mk ((by rw [hg]; exact (below_size (by repeat (first | (with_reducible first | exact HB.out | apply below_alloc | apply pw_below_drewN | apply below_drew1 | refine below_set ?_ GE159.out) | exact HB.out))) : w.heap.size ≤ gb165)); have n6_ := Aside0.mk ((by rw [hg]; exact (below_size (by repeat (first | (with_reducible first | exact HB.out | apply below_alloc | apply pw_below_drewN | apply below_drew1 | refine below_set ?_ GE159.out) | exact HB.out))) : w.heap.size ≤ gb165)); have n7_ := Aside0.mk ((by rw [hg]; exact Nat.ne_of_lt (blk_lt (g := gb159) (o := .cells #[.int .i64 t157, .int .i64 t158] 27 (0, 0)) (by (with_reducible repeat (first | refine blk_drewN ?_ _ | refine blk_drew ?_ | refine blk_alloc ?_ _)); exact BK159.out)) : gb159 ≠ gb165)); have n8_ := Aside0.mk ((by rw [hg]; exact Nat.ne_of_gt (blk_lt (g := gb159) (o := .cells #[.int .i64 t157, .int .i64 t158] 27 (0, 0)) (by (with_reducible repeat (first | refine blk_drewN ?_ _ | refine blk_drew ?_ | refine blk_alloc ?_ _)); exact BK159.out)) : gb165 ≠ gb159)); clear HO156; clear HO162; clear BK159; clear HB; have HO156 := n0_; have HO162 := n1_; have BK159 := n2_; have HB := n3_; have BK165 := n4_; have GW165 := n5_; have GE165 := n6_; have NB159_165 := n7_; have NB165_159 := n8_; clear n0_ n1_ n2_ n3_ n4_ n5_ n6_ n7_ n8_; clear hb hbox hg; have hnb17 := NB165_159.out; have hnc17 := NB159_165.out; have hcz18_0 : w16.cell? ⟨gb165, 0, none⟩ = some (.int .i64 0) := (blk_cell BK165.out 0).trans rfl; have hcz18_1 : w16.cell? ⟨gb165, 1, none⟩ = some (.int .i64 0) := (blk_cell BK165.out 1).trans rfl; have hfz18_0 := blk_frozen BK165.out 0; have hfz18_1 := blk_frozen BK165.out 1))
        (try simp only [Act.put, List.setIfInBounds_toArray, List.set_cons_zero, List.set_cons_succ])
        go_cut [42] (fun v42 wc => ∃ (kq : Nat) (x42_10 : Bool), v42 = .bool x42_10 ∧ Aside0 (amanuensislaw01_UtfJoins.j1 a2 kq l0 l1 t154 t160 x42_10 = some r) ∧ Aside0 (kq ≤ kj3) ∧ Aside0 (Kd.R (Kd.int .u8) 5 wc w.heap.size (fun k_ => some k_ ≠ (v161 : Value).ownBlock) v155 t154) ∧ Aside0 (Kd.R (Kd.int .u8) 5 wc w.heap.size (fun k_ => some k_ ≠ (v155 : Value).ownBlock) v161 t160) ∧ Aside0 (wc.heap[gb159]? = some (.cells #[.int .i64 t157, .int .i64 t158] 27 (0, 0))) ∧ Aside0 (wc.heap[gb165]? = some (.cells #[.int .i64 t163, .int .i64 t164] 27 (0, 0))) ∧ Aside0 (Below w.heap.size w wc))
        case first =>
          have H := HC11.out
          clear HC11
          by_cases c19 : t157 = 0
          · rw [if_pos c19] at H
            have c19b0 : (t157 == 0) = true := beq_iff_eq.mpr c19
            have c19b1 : (t157 != 0) = false := bne_eq_false_iff_eq.mpr c19
            clear c19
            (first | rw [c19b0] | (simp only [i64_w, i32_w]; rw [c19b0]) | skip)
            have H' := Aside0.mk H
            clear H
            have hnb20 := NB159_165.out
            have hnc20 := NB165_159.out
            have hcz21_0 : w16.cell? ⟨gb159, 0, none⟩ = some (.int .i64 t157) := (blk_cell BK159.out 0).trans rfl
            have hcz21_1 : w16.cell? ⟨gb159, 1, none⟩ = some (.int .i64 t158) := (blk_cell BK159.out 1).trans rfl
            have hfz21_0 := blk_frozen BK159.out 0
            have hfz21_1 := blk_frozen BK159.out 1
            have hcz22_0 : w16.cell? ⟨gb165, 0, none⟩ = some (.int .i64 0) := (blk_cell BK165.out 0).trans rfl
            have hcz22_1 : w16.cell? ⟨gb165, 1, none⟩ = some (.int .i64 0) := (blk_cell BK165.out 1).trans rfl
            have hfz22_0 := blk_frozen BK165.out 0
            have hfz22_1 := blk_frozen BK165.out 1
            go_wp2
            go_meet
            case rel => exact ⟨_, ((t163 != 0)), (by first | rfl | (simp; done) | (simp [*]; done)), H', ⟨by have := HJ3.out; first | omega | exact Nat.le_refl _⟩, ⟨by (with_reducible repeat (first | apply Kd.R_alloc | apply Kd.R_drewN | apply Kd.R_drew)); exact Kd.R_mono (Kd.R_far (p := ⟨gb165, 1, none⟩) (Kd.R_far (p := ⟨gb165, 0, none⟩) (Kd.R_types HO156.out BK165.out (by decide)) (fun _ hk => hk.2) (.int .i64 t163)) (fun _ hk => hk.2) (.int .i64 t164)) (fun _ hk => hk.1.2)⟩, ⟨by (with_reducible repeat (first | apply Kd.R_alloc | apply Kd.R_drewN | apply Kd.R_drew)); exact Kd.R_mono (Kd.R_far (p := ⟨gb165, 1, none⟩) (Kd.R_far (p := ⟨gb165, 0, none⟩) (Kd.R_types HO162.out BK165.out (by decide)) (fun _ hk => hk.2) (.int .i64 t163)) (fun _ hk => hk.2) (.int .i64 t164)) (fun _ hk => hk.1.2)⟩, ⟨by (with_reducible repeat (first | refine blk_drewN ?_ _ | refine blk_drew ?_ | refine blk_alloc ?_ _)); refine blk_far ?_ NB159_165.out _; (with_reducible repeat (first | refine blk_drewN ?_ _ | refine blk_drew ?_ | refine blk_alloc ?_ _)); refine blk_far ?_ NB159_165.out _; (with_reducible repeat (first | refine blk_drewN ?_ _ | refine blk_drew ?_ | refine blk_alloc ?_ _)); exact BK159.out⟩, ⟨by (with_reducible repeat (first | refine blk_drewN ?_ _ | refine blk_drew ?_ | refine blk_alloc ?_ _)); refine blk_put (cs := #[.int .i64 t163, .int .i64 0]) ?_ 1 _ rfl; (with_reducible repeat (first | refine blk_drewN ?_ _ | refine blk_drew ?_ | refine blk_alloc ?_ _)); refine blk_put (cs := #[.int .i64 0, .int .i64 0]) ?_ 0 _ rfl; (with_reducible repeat (first | refine blk_drewN ?_ _ | refine blk_drew ?_ | refine blk_alloc ?_ _)); exact BK165.out⟩, ⟨by repeat (first | (with_reducible first | exact HB.out | apply below_alloc | apply pw_below_drewN | apply below_drew1 | refine below_set ?_ GE159.out | refine below_set ?_ GE165.out) | exact HB.out)⟩⟩
          · rw [if_neg c19] at H
            have c19b0 : (t157 == 0) = false := beq_eq_false_iff_ne.mpr c19
            have c19b1 : (t157 != 0) = true := bne_iff_ne.mpr c19
            (first | rw [c19b0] | (simp only [i64_w, i32_w]; rw [c19b0]) | skip)
            have H' := Aside0.mk H
            clear H
            have hnb23 := NB159_165.out
            have hnc23 := NB165_159.out
            have hcz24_0 : w16.cell? ⟨gb159, 0, none⟩ = some (.int .i64 t157) := (blk_cell BK159.out 0).trans rfl
            have hcz24_1 : w16.cell? ⟨gb159, 1, none⟩ = some (.int .i64 t158) := (blk_cell BK159.out 1).trans rfl
            have hfz24_0 := blk_frozen BK159.out 0
            have hfz24_1 := blk_frozen BK159.out 1
            go_wp2
            go_meet
            case rel => exact ⟨_, (true), (by first | rfl | (simp; done) | (simp [*]; done)), H', ⟨by have := HJ3.out; first | omega | exact Nat.le_refl _⟩, ⟨by (with_reducible repeat (first | apply Kd.R_alloc | apply Kd.R_drewN | apply Kd.R_drew)); exact Kd.R_mono (Kd.R_far (p := ⟨gb165, 1, none⟩) (Kd.R_far (p := ⟨gb165, 0, none⟩) (Kd.R_types HO156.out BK165.out (by decide)) (fun _ hk => hk.2) (.int .i64 t163)) (fun _ hk => hk.2) (.int .i64 t164)) (fun _ hk => hk.1.2)⟩, ⟨by (with_reducible repeat (first | apply Kd.R_alloc | apply Kd.R_drewN | apply Kd.R_drew)); exact Kd.R_mono (Kd.R_far (p := ⟨gb165, 1, none⟩) (Kd.R_far (p := ⟨gb165, 0, none⟩) (Kd.R_types HO162.out BK165.out (by decide)) (fun _ hk => hk.2) (.int .i64 t163)) (fun _ hk => hk.2) (.int .i64 t164)) (fun _ hk => hk.1.2)⟩, ⟨by (with_reducible repeat (first | refine blk_drewN ?_ _ | refine blk_drew ?_ | refine blk_alloc ?_ _)); refine blk_far ?_ NB159_165.out _; (with_reducible repeat (first | refine blk_drewN ?_ _ | refine blk_drew ?_ | refine blk_alloc ?_ _)); refine blk_far ?_ NB159_165.out _; (with_reducible repeat (first | refine blk_drewN ?_ _ | refine blk_drew ?_ | refine blk_alloc ?_ _)); exact BK159.out⟩, ⟨by (with_reducible repeat (first | refine blk_drewN ?_ _ | refine blk_drew ?_ | refine blk_alloc ?_ _)); refine blk_put (cs := #[.int .i64 t163, .int .i64 0]) ?_ 1 _ rfl; (with_reducible repeat (first | refine blk_drewN ?_ _ | refine blk_drew ?_ | refine blk_alloc ?_ _)); refine blk_put (cs := #[.int .i64 0, .int .i64 0]) ?_ 0 _ rfl; (with_reducible repeat (first | refine blk_drewN ?_ _ | refine blk_drew ?_ | refine blk_alloc ?_ _)); exact BK165.out⟩, ⟨by repeat (first | (with_reducible first | exact HB.out | apply below_alloc | apply pw_below_drewN | apply below_drew1 | refine below_set ?_ GE159.out | refine below_set ?_ GE165.out) | exact HB.out)⟩⟩
        case rest =>
          clear HC11
          try clear c1
          try clear c2
          try clear p2
          try clear c4
          try clear c5
          try clear c5b0
          try clear c5b1
          try clear c6
          try clear c10
          try clear c14
          try clear c17
          try clear c19
          try clear c19b0
          try clear c19b1
          try clear c20
          try clear c23
          try clear hcz14_0
          try clear hcz14_1
          try clear hcz18_0
          try clear hcz18_1
          try clear hcz21_0
          try clear hcz21_1
          try clear hcz22_0
          try clear hcz22_1
          try clear hcz24_0
          try clear hcz24_1
          try clear hfz14_0
          try clear hfz14_1
          try clear hfz18_0
          try clear hfz18_1
          try clear hfz21_0
          try clear hfz21_1
          try clear hfz22_0
          try clear hfz22_1
          try clear hfz24_0
          try clear hfz24_1
          try clear p2
          obtain ⟨kq, x42_10, rfl, HA, HJ10, HO_7, HO_9, BK159, BK165, HB⟩ := hcut
          cases kq with
          | zero => exact absurd HA.out (by simp [amanuensislaw01_UtfJoins.j1])
          | succ kj10 =>
            have H := HA.out
            clear HA
            simp only [amanuensislaw01_UtfJoins.j1] at H
            by_cases c25 : x42_10 = true
            · subst c25
              have H1 : ((amanuensislaw01_answers.f kj10).bind fun t166 => (some t166)) = some r := by rw [if_pos rfl] at H; exact H
              clear H
              have H := H1
              clear H1
              replace H := Option.bind_eq_some_iff.mp H
              obtain ⟨t166, A260, H⟩ := H
              replace H : (some t166) = some r := H
              have A26 := Aside0.mk A260
              clear A260
              obtain rfl := Option.some.inj H
              go_wp2_with (first | ((with_reducible refine gate_callee (f := 10) rfl ?_); refine goesL_ (some 43) rfl rfl Try.func10 (by kernel_rfl) rfl #[] rfl (by (try simp only [List.map_toArray, List.map_cons, List.map_nil]); first | done | rfl | (simp only [List.length_drop, List.length_take]; rfl)) ?_; (with_reducible refine (amanuensislaw01_answers.calls kj10  t166 _ A26.out).mono ?_); rintro e w27 ⟨rfl, hb⟩; refine ⟨_, rfl, ?_⟩; have n0_ := Aside0.mk (Kd.R_below (by (with_reducible repeat (first | apply Kd.R_alloc | apply Kd.R_drewN | apply Kd.R_drew)); exact HO_7.out) hb); have n1_ := Aside0.mk (Kd.R_below (by (with_reducible repeat (first | apply Kd.R_alloc | apply Kd.R_drewN | apply Kd.R_drew)); exact HO_9.out) hb); have n2_ := Aside0.mk (blk_below (g := gb159) (o := .cells #[.int .i64 t157, .int .i64 t158] 27 (0, 0)) (by (with_reducible repeat (first | refine blk_drewN ?_ _ | refine blk_drew ?_ | refine blk_alloc ?_ _)); exact BK159.out) hb); have n3_ := Aside0.mk (blk_below (g := gb165) (o := .cells #[.int .i64 t163, .int .i64 t164] 27 (0, 0)) (by (with_reducible repeat (first | refine blk_drewN ?_ _ | refine blk_drew ?_ | refine blk_alloc ?_ _)); exact BK165.out) hb); have n4_ := Aside0.mk (below_step (by repeat (first | (with_reducible first | exact HB.out | apply below_alloc | apply pw_below_drewN | apply below_drew1 | refine below_set ?_ GE159.out | refine below_set ?_ GE165.out) | exact HB.out)) hb); clear HO_7; clear HO_9; clear BK159; clear BK165; clear HB; have HO_7 := n0_; have HO_9 := n1_; have BK159 := n2_; have BK165 := n3_; have HB := n4_; clear n0_ n1_ n2_ n3_ n4_; (try clear hb); (try clear hb2); (try clear hk); (try clear hi)))
              go_ret
              exact ⟨by first | rfl | (simp [errW_none, errW_some] <;> rfl) | (simp [*, errW_none, errW_some] <;> rfl), by repeat (first | (with_reducible first | exact HB.out | apply below_alloc | apply pw_below_drewN | apply below_drew1 | refine below_set ?_ GE159.out | refine below_set ?_ GE165.out) | exact HB.out)⟩
            · replace c25 := Bool.eq_false_iff.mpr c25
              subst c25
              have H1 : ((some (([] : List Int) : List Int)).bind fun y167 => (if y167.length + t154.length < 140737488355328 then ((some (y167 ++ t154 : List Int)).bind fun y170 => (if y170.length + t160.length < 140737488355328 then ((utf_Decode.f kj10 (y170 ++ t160)).bind fun bt176 => ((amanuensislaw01_answers.f kj10).bind fun t182 => (if t182 = true then (if bt176.2.1 = 0 then ((some (([] : List Int) : List Int)).bind fun y183 => (if y183.length + l0.length < 35184372088832 then ((some (y183 ++ l0 : List Int)).bind fun y186 => (if y186.length + l1.length < 35184372088832 then ((amanuensisref01_Runes.f kj10 bt176.1 (y186 ++ l1)).bind fun t192 => (amanuensislaw01_UtfJoins.j2 a2 kj10 l1 t154 t160 (!t192))) else (none))) else (none))) else (amanuensislaw01_UtfJoins.j2 a2 kj10 l1 t154 t160 true)) else (amanuensislaw01_UtfJoins.j2 a2 kj10 l1 t154 t160 true)))) else (none))) else (none))) = some r := by rw [if_neg (show ¬ (false = true) by decide)] at H; exact H
              clear H
              have H := H1
              clear H1
              obtain ⟨y167, hy167⟩ : ∃ y_ : List Int, y_ = (([] : List Int)) := ⟨_, rfl⟩
              replace H : (if y167.length + t154.length < 140737488355328 then ((some (y167 ++ t154 : List Int)).bind fun y170 => (if y170.length + t160.length < 140737488355328 then ((utf_Decode.f kj10 (y170 ++ t160)).bind fun bt176 => ((amanuensislaw01_answers.f kj10).bind fun t182 => (if t182 = true then (if bt176.2.1 = 0 then ((some (([] : List Int) : List Int)).bind fun y183 => (if y183.length + l0.length < 35184372088832 then ((some (y183 ++ l0 : List Int)).bind fun y186 => (if y186.length + l1.length < 35184372088832 then ((amanuensisref01_Runes.f kj10 bt176.1 (y186 ++ l1)).bind fun t192 => (amanuensislaw01_UtfJoins.j2 a2 kj10 l1 t154 t160 (!t192))) else (none))) else (none))) else (amanuensislaw01_UtfJoins.j2 a2 kj10 l1 t154 t160 true)) else (amanuensislaw01_UtfJoins.j2 a2 kj10 l1 t154 t160 true)))) else (none))) else (none)) = some r := by first | (rw [hy167]; with_reducible exact H) | (have H2_ := (Option.bind_some _ _).symm.trans H; rw [hy167]; with_reducible exact H2_) | (have H2_ := (Option.bind_some _ _).symm.trans H; with_reducible exact H2_) | with_reducible exact H | (rw [hy167]; exact H) | exact H
              have Ny167 := Aside0.mk hy167
              clear hy167
              by_cases c28 : y167.length + t154.length < 140737488355328
              · rw [if_pos c28] at H
                have LMc28 := Aside0.mk c28
                clear c28
                obtain ⟨y170, hy170⟩ : ∃ y_ : List Int, y_ = (y167 ++ t154) := ⟨_, rfl⟩
                replace H : (if y170.length + t160.length < 140737488355328 then ((utf_Decode.f kj10 (y170 ++ t160)).bind fun bt176 => ((amanuensislaw01_answers.f kj10).bind fun t182 => (if t182 = true then (if bt176.2.1 = 0 then ((some (([] : List Int) : List Int)).bind fun y183 => (if y183.length + l0.length < 35184372088832 then ((some (y183 ++ l0 : List Int)).bind fun y186 => (if y186.length + l1.length < 35184372088832 then ((amanuensisref01_Runes.f kj10 bt176.1 (y186 ++ l1)).bind fun t192 => (amanuensislaw01_UtfJoins.j2 a2 kj10 l1 t154 t160 (!t192))) else (none))) else (none))) else (amanuensislaw01_UtfJoins.j2 a2 kj10 l1 t154 t160 true)) else (amanuensislaw01_UtfJoins.j2 a2 kj10 l1 t154 t160 true)))) else (none)) = some r := by first | (rw [hy170]; with_reducible exact H) | (have H2_ := (Option.bind_some _ _).symm.trans H; rw [hy170]; with_reducible exact H2_) | (have H2_ := (Option.bind_some _ _).symm.trans H; with_reducible exact H2_) | with_reducible exact H | (rw [hy170]; exact H) | exact H
                have Ny170 := Aside0.mk hy170
                clear hy170
                by_cases c29 : y170.length + t160.length < 140737488355328
                · rw [if_pos c29] at H
                  have LMc29 := Aside0.mk c29
                  clear c29
                  obtain ⟨y173, hy173⟩ : ∃ y_ : List Int, y_ = (y170 ++ t160) := ⟨_, rfl⟩
                  replace H : ((utf_Decode.f kj10 y173).bind fun bt176 => ((amanuensislaw01_answers.f kj10).bind fun t182 => (if t182 = true then (if bt176.2.1 = 0 then ((some (([] : List Int) : List Int)).bind fun y183 => (if y183.length + l0.length < 35184372088832 then ((some (y183 ++ l0 : List Int)).bind fun y186 => (if y186.length + l1.length < 35184372088832 then ((amanuensisref01_Runes.f kj10 bt176.1 (y186 ++ l1)).bind fun t192 => (amanuensislaw01_UtfJoins.j2 a2 kj10 l1 t154 t160 (!t192))) else (none))) else (none))) else (amanuensislaw01_UtfJoins.j2 a2 kj10 l1 t154 t160 true)) else (amanuensislaw01_UtfJoins.j2 a2 kj10 l1 t154 t160 true)))) = some r := by first | (rw [hy173]; with_reducible exact H) | (have H2_ := (Option.bind_some _ _).symm.trans H; rw [hy173]; with_reducible exact H2_) | (have H2_ := (Option.bind_some _ _).symm.trans H; with_reducible exact H2_) | with_reducible exact H | (rw [hy173]; exact H) | exact H
                  have Ny173 := Aside0.mk hy173
                  clear hy173
                  replace H := Option.bind_eq_some_iff.mp H
                  obtain ⟨⟨t176, t179, t180⟩, A300, H⟩ := H
                  replace H : ((amanuensislaw01_answers.f kj10).bind fun t182 => (if t182 = true then (if t179 = 0 then ((some (([] : List Int) : List Int)).bind fun y183 => (if y183.length + l0.length < 35184372088832 then ((some (y183 ++ l0 : List Int)).bind fun y186 => (if y186.length + l1.length < 35184372088832 then ((amanuensisref01_Runes.f kj10 t176 (y186 ++ l1)).bind fun t192 => (amanuensislaw01_UtfJoins.j2 a2 kj10 l1 t154 t160 (!t192))) else (none))) else (none))) else (amanuensislaw01_UtfJoins.j2 a2 kj10 l1 t154 t160 true)) else (amanuensislaw01_UtfJoins.j2 a2 kj10 l1 t154 t160 true))) = some r := H
                  have A30 := Aside0.mk A300
                  clear A300
                  have HC31 := Aside0.mk H
                  clear H
                  go_upto_region 8 with (first | ((with_reducible refine gate_dst (N := 45) rfl ?_); (try (refine gate_guard (by rfl) ?_; dsimp only)); refine Kd.R_lit (Kd.int .u8) _ 5 ?hg (N := 45) ?hd (xs := ([] : List Int)) (inner := []) (ok := fun _ => True) (okp := fun _ => True) ?hr ?hp (fun _ hk => hk) trivial (Below.refl _ _) (Nat.le_refl _) (by simp) ?_; (case hd => rfl); (case hg => rfl); (case hr => first | (go_simp; done) | (go_simp; rfl)); (case hp => exact (Reps.none _ _)); intro v168 w32 ho33 hb hg_ hnew_; clear hg_ hnew_; (first | rw [← Ny167.out] at ho33 | (simp only [Int.reduceToNat] at ho33; rw [← Ny167.out] at ho33)); have n0_ := Aside0.mk (Kd.R_elder' (by (with_reducible repeat (first | apply Kd.R_alloc | apply Kd.R_drewN | apply Kd.R_drew)); exact HO_7.out) (Kd.R_base ho33) hb); have n1_ := Aside0.mk (Kd.R_elder' (by (with_reducible repeat (first | apply Kd.R_alloc | apply Kd.R_drewN | apply Kd.R_drew)); exact HO_9.out) (Kd.R_base ho33) hb); have n2_ := Aside0.mk (Kd.R_lower (Kd.R_new' (Kd.R_new' ho33 (Kd.R_lt (by (with_reducible repeat (first | apply Kd.R_alloc | apply Kd.R_drewN | apply Kd.R_drew)); exact HO_7.out))) (Kd.R_lt (by (with_reducible repeat (first | apply Kd.R_alloc | apply Kd.R_drewN | apply Kd.R_drew)); exact HO_9.out))) (below_size (by repeat (first | (with_reducible first | exact HB.out | apply below_alloc | apply pw_below_drewN | apply below_drew1 | refine below_set ?_ GE159.out | refine below_set ?_ GE165.out) | exact HB.out)))); have n3_ := Aside0.mk (blk_below (g := gb159) (o := .cells #[.int .i64 t157, .int .i64 t158] 27 (0, 0)) (by (with_reducible repeat (first | refine blk_drewN ?_ _ | refine blk_drew ?_ | refine blk_alloc ?_ _)); exact BK159.out) hb); have n4_ := Aside0.mk (blk_below (g := gb165) (o := .cells #[.int .i64 t163, .int .i64 t164] 27 (0, 0)) (by (with_reducible repeat (first | refine blk_drewN ?_ _ | refine blk_drew ?_ | refine blk_alloc ?_ _)); exact BK165.out) hb); have n5_ := Aside0.mk (below_step (by repeat (first | (with_reducible first | exact HB.out | apply below_alloc | apply pw_below_drewN | apply below_drew1 | refine below_set ?_ GE159.out | refine below_set ?_ GE165.out) | exact HB.out)) hb); clear HO_7; clear HO_9; clear BK159; clear BK165; clear HB; have HO_7 := n0_; have HO_9 := n1_; have HO169 := n2_; have BK159 := n3_; have BK165 := n4_; have HB := n5_; clear n0_ n1_ n2_ n3_ n4_ n5_; clear hb ho33; obtain ⟨Ao35, co35, eo35⟩ := Kd.R_slice HO_7.out; subst eo35) | ((with_reducible refine gate_builtin (b := .append) (xs := #[.tmp 45, .tmp 46]) rfl ?_); (try (refine gate_guard (by rfl) ?_; dsimp only)); at_builtin; refine Kd.R_append_rows (Kd.int .u8) (w0 := w) w.heap.size rfl (.tmp 45) (.tmp 46) 22 5 (.int .u8 0) 1 rfl Try.underlying22 info5 rfl (by decide) (by omega) v168 y167 t154 _ _ _ (fun k_ => some k_ ≠ (.slice Ao35 t154.length co35 : Value).ownBlock ∧ some k_ ≠ (v161 : Value).ownBlock) (fun _ => False) rfl rfl ?aO ?aR (fun _ _ h => h) (fun _ h => h.elim) ?aF ?aB ?aS ?aL ?_; (case aR => repeat (first | exact (Kd.R_reads' HO_7.out).2.2 | (with_reducible refine Kd.C_alloc ?_ _) | (with_reducible refine Kd.C_drewN ?_ _) | (with_reducible refine Kd.C_drew ?_))); (case aB => exact (by repeat (first | (with_reducible first | exact HB.out | apply below_alloc | apply pw_below_drewN | apply below_drew1 | refine below_set ?_ GE159.out | refine below_set ?_ GE165.out) | exact HB.out))); (case aF => exact (fun k_ hk => ⟨Kd.fresh' (Kd.R_lt (by (with_reducible repeat (first | apply Kd.R_alloc | apply Kd.R_drewN | apply Kd.R_drew)); exact HO_7.out)) k_ hk, Kd.fresh' (Kd.R_lt (by (with_reducible repeat (first | apply Kd.R_alloc | apply Kd.R_drewN | apply Kd.R_drew)); exact HO_9.out)) k_ hk⟩)); (case aO => exact (by (with_reducible repeat (first | apply Kd.R_alloc | apply Kd.R_drewN | apply Kd.R_drew)); exact Kd.R_mono HO169.out (fun _ hk => ⟨hk.1.2, hk.2⟩))); (case aS => exact (below_size (by repeat (first | (with_reducible first | exact HB.out | apply below_alloc | apply pw_below_drewN | apply below_drew1 | refine below_set ?_ GE159.out | refine below_set ?_ GE165.out) | exact HB.out)))); (case aL => have := LMc28.out; omega); intro v171 w34 ho hb hg hat; rw [← Ny170.out] at ho; have n0_ := Aside0.mk (Kd.R_after (ok := (fun k_ => some k_ ≠ (v161 : Value).ownBlock)) (by (with_reducible repeat (first | apply Kd.R_alloc | apply Kd.R_drewN | apply Kd.R_drew)); exact HO_7.out) hg hat); have n1_ := Aside0.mk (Kd.R_after (ok := (fun k_ => some k_ ≠ (.slice Ao35 t154.length co35 : Value).ownBlock)) (by (with_reducible repeat (first | apply Kd.R_alloc | apply Kd.R_drewN | apply Kd.R_drew)); exact HO_9.out) hg hat); have n2_ := Aside0.mk (blk_grown (g := gb159) (o := .cells #[.int .i64 t157, .int .i64 t158] 27 (0, 0)) (by (with_reducible repeat (first | refine blk_drewN ?_ _ | refine blk_drew ?_ | refine blk_alloc ?_ _)); exact BK159.out) hg (Kd.R_ne HO169.out BK159.out (by decide))); have n3_ := Aside0.mk (blk_grown (g := gb165) (o := .cells #[.int .i64 t163, .int .i64 t164] 27 (0, 0)) (by (with_reducible repeat (first | refine blk_drewN ?_ _ | refine blk_drew ?_ | refine blk_alloc ?_ _)); exact BK165.out) hg (Kd.R_ne HO169.out BK165.out (by decide))); have n4_ := Aside0.mk (hb); have n5_ := Aside0.mk (ho); clear HO_7; clear HO_9; clear BK159; clear BK165; clear HB; clear HO169; have HO_7 := n0_; have HO_9 := n1_; have BK159 := n2_; have BK165 := n3_; have HB := n4_; have HO172 := n5_; clear n0_ n1_ n2_ n3_ n4_ n5_; clear ho hb hg hat; obtain ⟨Ao37, co37, eo37⟩ := Kd.R_slice HO_9.out; subst eo37) | ((with_reducible refine gate_builtin (b := .append) (xs := #[.tmp 47, .tmp 48]) rfl ?_); (try (refine gate_guard (by rfl) ?_; dsimp only)); at_builtin; refine Kd.R_append_rows (Kd.int .u8) (w0 := w) w.heap.size rfl (.tmp 47) (.tmp 48) 22 5 (.int .u8 0) 1 rfl Try.underlying22 info5 rfl (by decide) (by omega) v171 y170 t160 _ _ _ (fun k_ => some k_ ≠ (.slice Ao35 t154.length co35 : Value).ownBlock ∧ some k_ ≠ (.slice Ao37 t160.length co37 : Value).ownBlock) (fun _ => False) rfl rfl ?aO ?aR (fun _ _ h => h) (fun _ h => h.elim) ?aF ?aB ?aS ?aL ?_; (case aR => repeat (first | exact (Kd.R_reads' HO_9.out).2.2 | (with_reducible refine Kd.C_alloc ?_ _) | (with_reducible refine Kd.C_drewN ?_ _) | (with_reducible refine Kd.C_drew ?_))); (case aB => exact (by repeat (first | (with_reducible first | exact HB.out | apply below_alloc | apply pw_below_drewN | apply below_drew1 | refine below_set ?_ GE159.out | refine below_set ?_ GE165.out) | exact HB.out))); (case aF => exact (fun k_ hk => ⟨Kd.fresh' (Kd.R_lt (by (with_reducible repeat (first | apply Kd.R_alloc | apply Kd.R_drewN | apply Kd.R_drew)); exact HO_7.out)) k_ hk, Kd.fresh' (Kd.R_lt (by (with_reducible repeat (first | apply Kd.R_alloc | apply Kd.R_drewN | apply Kd.R_drew)); exact HO_9.out)) k_ hk⟩)); (case aO => exact (by (with_reducible repeat (first | apply Kd.R_alloc | apply Kd.R_drewN | apply Kd.R_drew)); exact HO172.out)); (case aS => exact (below_size (by repeat (first | (with_reducible first | exact HB.out | apply below_alloc | apply pw_below_drewN | apply below_drew1 | refine below_set ?_ GE159.out | refine below_set ?_ GE165.out) | exact HB.out)))); (case aL => have := LMc29.out; omega); intro v174 w36 ho hb hg hat; rw [← Ny173.out] at ho; have n0_ := Aside0.mk (Kd.R_after (ok := (fun k_ => some k_ ≠ (.slice Ao37 t160.length co37 : Value).ownBlock)) (by (with_reducible repeat (first | apply Kd.R_alloc | apply Kd.R_drewN | apply Kd.R_drew)); exact HO_7.out) hg hat); have n1_ := Aside0.mk (Kd.R_after (ok := (fun k_ => some k_ ≠ (.slice Ao35 t154.length co35 : Value).ownBlock)) (by (with_reducible repeat (first | apply Kd.R_alloc | apply Kd.R_drewN | apply Kd.R_drew)); exact HO_9.out) hg hat); have n2_ := Aside0.mk (blk_grown (g := gb159) (o := .cells #[.int .i64 t157, .int .i64 t158] 27 (0, 0)) (by (with_reducible repeat (first | refine blk_drewN ?_ _ | refine blk_drew ?_ | refine blk_alloc ?_ _)); exact BK159.out) hg (Kd.R_ne HO172.out BK159.out (by decide))); have n3_ := Aside0.mk (blk_grown (g := gb165) (o := .cells #[.int .i64 t163, .int .i64 t164] 27 (0, 0)) (by (with_reducible repeat (first | refine blk_drewN ?_ _ | refine blk_drew ?_ | refine blk_alloc ?_ _)); exact BK165.out) hg (Kd.R_ne HO172.out BK165.out (by decide))); have n4_ := Aside0.mk (hb); have n5_ := Aside0.mk (ho); clear HO_7; clear HO_9; clear BK159; clear BK165; clear HB; clear HO172; have HO_7 := n0_; have HO_9 := n1_; have BK159 := n2_; have BK165 := n3_; have HB := n4_; have HO175 := n5_; clear n0_ n1_ n2_ n3_ n4_ n5_; clear ho hb hg hat; obtain ⟨Ao38, co38, eo38⟩ := Kd.R_slice HO175.out; subst eo38) | ((with_reducible refine gate_callee (f := 11) rfl ?_); refine goesL_ (some 50) rfl rfl Try.func11 (by kernel_rfl) rfl #[.slice Ao38 y173.length co38] rfl (by (try simp only [List.map_toArray, List.map_cons, List.map_nil]); first | done | rfl | (simp only [List.length_drop, List.length_take]; rfl)) ?_; (with_reducible refine (utf_Decode.calls kj10 _ _ y173 t176 t179 t180 _ ?side1 ?side2 A30.out).mono ?_); (case side1 => repeat (first | exact (Kd.R_reads' HO175.out).2.2 | (with_reducible refine Kd.C_alloc ?_ _) | (with_reducible refine Kd.C_drewN ?_ _) | (with_reducible refine Kd.C_drew ?_))); (case side2 => exact (Kd.R_reads' HO175.out).2.1); rintro e w39 ⟨v177, rfl, ho0, hb⟩; refine ⟨_, rfl, ?_⟩; have n0_ := Aside0.mk (Kd.R_below (by (with_reducible repeat (first | apply Kd.R_alloc | apply Kd.R_drewN | apply Kd.R_drew)); exact HO_7.out) hb); have n1_ := Aside0.mk (Kd.R_below (by (with_reducible repeat (first | apply Kd.R_alloc | apply Kd.R_drewN | apply Kd.R_drew)); exact HO_9.out) hb); have n2_ := Aside0.mk (Kd.R_below (by (with_reducible repeat (first | apply Kd.R_alloc | apply Kd.R_drewN | apply Kd.R_drew)); exact HO175.out) hb); have n3_ := Aside0.mk (Kd.R_lower ho0 (below_size (by repeat (first | (with_reducible first | exact HB.out | apply below_alloc | apply pw_below_drewN | apply below_drew1 | refine below_set ?_ GE159.out | refine below_set ?_ GE165.out) | exact HB.out)))); have n4_ := Aside0.mk (blk_below (g := gb159) (o := .cells #[.int .i64 t157, .int .i64 t158] 27 (0, 0)) (by (with_reducible repeat (first | refine blk_drewN ?_ _ | refine blk_drew ?_ | refine blk_alloc ?_ _)); exact BK159.out) hb); have n5_ := Aside0.mk (blk_below (g := gb165) (o := .cells #[.int .i64 t163, .int .i64 t164] 27 (0, 0)) (by (with_reducible repeat (first | refine blk_drewN ?_ _ | refine blk_drew ?_ | refine blk_alloc ?_ _)); exact BK165.out) hb); have n6_ := Aside0.mk (below_step (by repeat (first | (with_reducible first | exact HB.out | apply below_alloc | apply pw_below_drewN | apply below_drew1 | refine below_set ?_ GE159.out | refine below_set ?_ GE165.out) | exact HB.out)) hb); clear HO_7; clear HO_9; clear HO175; clear BK159; clear BK165; clear HB; have HO_7 := n0_; have HO_9 := n1_; have HO175 := n2_; have HO178 := n3_; have BK159 := n4_; have BK165 := n5_; have HB := n6_; clear n0_ n1_ n2_ n3_ n4_ n5_ n6_; (try clear hb); (try clear hb2); (try clear hk); (try clear hi); (try clear ho0)) | ((with_reducible refine gate_dst (N := 12) rfl ?_); (try (refine gate_guard (by rfl) ?_; dsimp only)); refine box_event ?hg (N := 12) ?hd (cs := #[.int .i64 0, .int .i64 0]) (t := 27) ?hr ?_; (case hd => rfl); (case hg => rfl); (case hr => first | (go_simp; done) | (go_simp; rfl)); intro gb181 hg w40 hbox hb; have n0_ := Aside0.mk (Kd.R_below (by (with_reducible repeat (first | apply Kd.R_alloc | apply Kd.R_drewN | apply Kd.R_drew)); exact HO_7.out) hb); have n1_ := Aside0.mk (Kd.R_below (by (with_reducible repeat (first | apply Kd.R_alloc | apply Kd.R_drewN | apply Kd.R_drew)); exact HO_9.out) hb); have n2_ := Aside0.mk (Kd.R_below (by (with_reducible repeat (first | apply Kd.R_alloc | apply Kd.R_drewN | apply Kd.R_drew)); exact HO175.out) hb); have n3_ := Aside0.mk (Kd.R_below (by (with_reducible repeat (first | apply Kd.R_alloc | apply Kd.R_drewN | apply Kd.R_drew)); exact HO178.out) hb); have n4_ := Aside0.mk (blk_below (g := gb159) (o := .cells #[.int .i64 t157, .int .i64 t158] 27 (0, 0)) (by (with_reducible repeat (first | refine blk_drewN ?_ _ | refine blk_drew ?_ | refine blk_alloc ?_ _)); exact BK159.out) hb); have n5_ := Aside0.mk (blk_below (g := gb165) (o := .cells #[.int .i64 t163, .int .i64 t164] 27 (0, 0)) (by (with_reducible repeat (first | refine blk_drewN ?_ _ | refine blk_drew ?_ | refine blk_alloc ?_ _)); exact BK165.out) hb); have n6_ := Aside0.mk (below_step (by repeat (first | (with_reducible first | exact HB.out | apply below_alloc | apply pw_below_drewN | apply below_drew1 | refine below_set ?_ GE159.out | refine below_set ?_ GE165.out) | exact HB.out)) hb); have n7_ := Aside0.mk (hbox); have n8_ := Aside0.mk ((by rw [hg]; exact (below_size (by repeat (first | (with_reducible first | exact HB.out | apply below_alloc | apply pw_below_drewN | apply below_drew1 | refine below_set ?_ GE159.out | refine below_set ?_ GE165.out) | exact HB.out))) : w.heap.size ≤ gb181)); have n9_ := Aside0.mk ((by rw [hg]; exact (below_size (by repeat (first | (with_reducible first | exact HB.out | apply below_alloc | apply pw_below_drewN | apply below_drew1 | refine below_set ?_ GE159.out | refine below_set ?_ GE165.out) | exact HB.out))) : w.heap.size ≤ gb181)); have n10_ := Aside0.mk ((by rw [hg]; exact Nat.ne_of_lt (blk_lt (g := gb159) (o := .cells #[.int .i64 t157, .int .i64 t158] 27 (0, 0)) (by (with_reducible repeat (first | refine blk_drewN ?_ _ | refine blk_drew ?_ | refine blk_alloc ?_ _)); exact BK159.out)) : gb159 ≠ gb181)); have n11_ := Aside0.mk ((by rw [hg]; exact Nat.ne_of_gt (blk_lt (g := gb159) (o := .cells #[.int .i64 t157, .int .i64 t158] 27 (0, 0)) (by (with_reducible repeat (first | refine blk_drewN ?_ _ | refine blk_drew ?_ | refine blk_alloc ?_ _)); exact BK159.out)) : gb181 ≠ gb159)); have n12_ := Aside0.mk ((by rw [hg]; exact Nat.ne_of_lt (blk_lt (g := gb165) (o := .cells #[.int .i64 t163, .int .i64 t164] 27 (0, 0)) (by (with_reducible repeat (first | refine blk_drewN ?_ _ | refine blk_drew ?_ | refine blk_alloc ?_ _)); exact BK165.out)) : gb165 ≠ gb181)); have n13_ := Aside0.mk ((by rw [hg]; exact Nat.ne_of_gt (blk_lt (g := gb165) (o := .cells #[.int .i64 t163, .int .i64 t164] 27 (0, 0)) (by (with_reducible repeat (first | refine blk_drewN ?_ _ | refine blk_drew ?_ | refine blk_alloc ?_ _)); exact BK165.out)) : gb181 ≠ gb165)); clear HO_7; clear HO_9; clear HO175; clear HO178; clear BK159; clear BK165; clear HB; have HO_7 := n0_; have HO_9 := n1_; have HO175 := n2_; have HO178 := n3_; have BK159 := n4_; have BK165 := n5_; have HB := n6_; have BK181 := n7_; have GW181 := n8_; have GE181 := n9_; have NB159_181 := n10_; have NB181_159 := n11_; have NB165_181 := n12_; have NB181_165 := n13_; clear n0_ n1_ n2_ n3_ n4_ n5_ n6_ n7_ n8_ n9_ n10_ n11_ n12_ n13_; clear hb hbox hg; have hnb41 := NB181_159.out; have hnc41 := NB159_181.out; have hnb42 := NB181_165.out; have hnc42 := NB165_181.out; have hcz43_0 : w40.cell? ⟨gb181, 0, none⟩ = some (.int .i64 0) := (blk_cell BK181.out 0).trans rfl; have hcz43_1 : w40.cell? ⟨gb181, 1, none⟩ = some (.int .i64 0) := (blk_cell BK181.out 1).trans rfl; have hfz43_0 := blk_frozen BK181.out 0; have hfz43_1 := blk_frozen BK181.out 1))
                  (try simp only [Act.put, List.setIfInBounds_toArray, List.set_cons_zero, List.set_cons_succ])
                  go_cut [69] (fun v69 wc => ∃ (kq : Nat) (x69_30 : Bool), v69 = .bool x69_30 ∧ Aside0 (amanuensislaw01_UtfJoins.j2 a2 kq l1 t154 t160 x69_30 = some r) ∧ Aside0 (kq ≤ kj10) ∧ Aside0 (Kd.R (Kd.int .u8) 5 wc w.heap.size (fun k_ => some k_ ≠ ((.slice Ao37 t160.length co37) : Value).ownBlock) (.slice Ao35 t154.length co35) t154) ∧ Aside0 (Kd.R (Kd.int .u8) 5 wc w.heap.size (fun k_ => some k_ ≠ ((.slice Ao35 t154.length co35) : Value).ownBlock) (.slice Ao37 t160.length co37) t160) ∧ Aside0 (wc.heap[gb159]? = some (.cells #[.int .i64 t157, .int .i64 t158] 27 (0, 0))) ∧ Aside0 (wc.heap[gb165]? = some (.cells #[.int .i64 t163, .int .i64 t164] 27 (0, 0))) ∧ Aside0 (wc.heap[gb181]? = some (.cells #[.int .i64 t179, .int .i64 t180] 27 (0, 0))) ∧ Aside0 (Below w.heap.size w wc))
                  case first =>
                    have H := HC31.out
                    clear HC31
                    replace H := Option.bind_eq_some_iff.mp H
                    obtain ⟨t182, A440, H⟩ := H
                    replace H : (if t182 = true then (if t179 = 0 then ((some (([] : List Int) : List Int)).bind fun y183 => (if y183.length + l0.length < 35184372088832 then ((some (y183 ++ l0 : List Int)).bind fun y186 => (if y186.length + l1.length < 35184372088832 then ((amanuensisref01_Runes.f kj10 t176 (y186 ++ l1)).bind fun t192 => (amanuensislaw01_UtfJoins.j2 a2 kj10 l1 t154 t160 (!t192))) else (none))) else (none))) else (amanuensislaw01_UtfJoins.j2 a2 kj10 l1 t154 t160 true)) else (amanuensislaw01_UtfJoins.j2 a2 kj10 l1 t154 t160 true)) = some r := H
                    have A44 := Aside0.mk A440
                    clear A440
                    by_cases c45 : t182 = true
                    · subst c45
                      have H1 : (if t179 = 0 then ((some (([] : List Int) : List Int)).bind fun y183 => (if y183.length + l0.length < 35184372088832 then ((some (y183 ++ l0 : List Int)).bind fun y186 => (if y186.length + l1.length < 35184372088832 then ((amanuensisref01_Runes.f kj10 t176 (y186 ++ l1)).bind fun t192 => (amanuensislaw01_UtfJoins.j2 a2 kj10 l1 t154 t160 (!t192))) else (none))) else (none))) else (amanuensislaw01_UtfJoins.j2 a2 kj10 l1 t154 t160 true)) = some r := by rw [if_pos rfl] at H; exact H
                      clear H
                      have H := H1
                      clear H1
                      by_cases c46 : t179 = 0
                      · rw [if_pos c46] at H
                        have c46b0 : (t179 == 0) = true := beq_iff_eq.mpr c46
                        have c46b1 : (t179 != 0) = false := bne_eq_false_iff_eq.mpr c46
                        clear c46
                        (first | rw [c46b0] | (simp only [i64_w, i32_w]; rw [c46b0]) | skip)
                        obtain ⟨y183, hy183⟩ : ∃ y_ : List Int, y_ = (([] : List Int)) := ⟨_, rfl⟩
                        replace H : (if y183.length + l0.length < 35184372088832 then ((some (y183 ++ l0 : List Int)).bind fun y186 => (if y186.length + l1.length < 35184372088832 then ((amanuensisref01_Runes.f kj10 t176 (y186 ++ l1)).bind fun t192 => (amanuensislaw01_UtfJoins.j2 a2 kj10 l1 t154 t160 (!t192))) else (none))) else (none)) = some r := by first | (rw [hy183]; with_reducible exact H) | (have H2_ := (Option.bind_some _ _).symm.trans H; rw [hy183]; with_reducible exact H2_) | (have H2_ := (Option.bind_some _ _).symm.trans H; with_reducible exact H2_) | with_reducible exact H | (rw [hy183]; exact H) | exact H
                        have Ny183 := Aside0.mk hy183
                        clear hy183
                        by_cases c47 : y183.length + l0.length < 35184372088832
                        · rw [if_pos c47] at H
                          have LMc47 := Aside0.mk c47
                          clear c47
                          obtain ⟨y186, hy186⟩ : ∃ y_ : List Int, y_ = (y183 ++ l0) := ⟨_, rfl⟩
                          replace H : (if y186.length + l1.length < 35184372088832 then ((amanuensisref01_Runes.f kj10 t176 (y186 ++ l1)).bind fun t192 => (amanuensislaw01_UtfJoins.j2 a2 kj10 l1 t154 t160 (!t192))) else (none)) = some r := by first | (rw [hy186]; with_reducible exact H) | (have H2_ := (Option.bind_some _ _).symm.trans H; rw [hy186]; with_reducible exact H2_) | (have H2_ := (Option.bind_some _ _).symm.trans H; with_reducible exact H2_) | with_reducible exact H | (rw [hy186]; exact H) | exact H
                          have Ny186 := Aside0.mk hy186
                          clear hy186
                          by_cases c48 : y186.length + l1.length < 35184372088832
                          · rw [if_pos c48] at H
                            have LMc48 := Aside0.mk c48
                            clear c48
                            obtain ⟨y189, hy189⟩ : ∃ y_ : List Int, y_ = (y186 ++ l1) := ⟨_, rfl⟩
                            replace H : ((amanuensisref01_Runes.f kj10 t176 y189).bind fun t192 => (amanuensislaw01_UtfJoins.j2 a2 kj10 l1 t154 t160 (!t192))) = some r := by first | (rw [hy189]; with_reducible exact H) | (have H2_ := (Option.bind_some _ _).symm.trans H; rw [hy189]; with_reducible exact H2_) | (have H2_ := (Option.bind_some _ _).symm.trans H; with_reducible exact H2_) | with_reducible exact H | (rw [hy189]; exact H) | exact H
                            have Ny189 := Aside0.mk hy189
                            clear hy189
                            replace H := Option.bind_eq_some_iff.mp H
                            obtain ⟨t192, A490, H⟩ := H
                            replace H : (amanuensislaw01_UtfJoins.j2 a2 kj10 l1 t154 t160 (!t192)) = some r := H
                            have A49 := Aside0.mk A490
                            clear A490
                            have H' := Aside0.mk H
                            clear H
                            go_wp2_with (first | ((with_reducible refine gate_callee (f := 10) rfl ?_); refine goesL_ (some 53) rfl rfl Try.func10 (by kernel_rfl) rfl #[] rfl (by (try simp only [List.map_toArray, List.map_cons, List.map_nil]); first | done | rfl | (simp only [List.length_drop, List.length_take]; rfl)) ?_; (with_reducible refine (amanuensislaw01_answers.calls kj10  true _ A44.out).mono ?_); rintro e w50 ⟨rfl, hb⟩; refine ⟨_, rfl, ?_⟩; have n0_ := Aside0.mk (Kd.R_below (by (with_reducible repeat (first | apply Kd.R_alloc | apply Kd.R_drewN | apply Kd.R_drew)); exact (Kd.R_mono (Kd.R_far (p := ⟨gb181, 1, none⟩) (Kd.R_far (p := ⟨gb181, 0, none⟩) (Kd.R_types HO_7.out BK181.out (by decide)) (fun _ hk => hk.2) (.int .i64 t179)) (fun _ hk => hk.2) (.int .i64 t180)) (fun _ h_ => h_.1))) hb); have n1_ := Aside0.mk (Kd.R_below (by (with_reducible repeat (first | apply Kd.R_alloc | apply Kd.R_drewN | apply Kd.R_drew)); exact (Kd.R_mono (Kd.R_far (p := ⟨gb181, 1, none⟩) (Kd.R_far (p := ⟨gb181, 0, none⟩) (Kd.R_types HO_9.out BK181.out (by decide)) (fun _ hk => hk.2) (.int .i64 t179)) (fun _ hk => hk.2) (.int .i64 t180)) (fun _ h_ => h_.1))) hb); have n2_ := Aside0.mk (Kd.R_below (by (with_reducible repeat (first | apply Kd.R_alloc | apply Kd.R_drewN | apply Kd.R_drew)); exact (Kd.R_mono (Kd.R_far (p := ⟨gb181, 1, none⟩) (Kd.R_far (p := ⟨gb181, 0, none⟩) (Kd.R_types HO175.out BK181.out (by decide)) (fun _ hk => hk.2) (.int .i64 t179)) (fun _ hk => hk.2) (.int .i64 t180)) (fun _ h_ => h_.1))) hb); have n3_ := Aside0.mk (Kd.R_below (by (with_reducible repeat (first | apply Kd.R_alloc | apply Kd.R_drewN | apply Kd.R_drew)); exact (Kd.R_mono (Kd.R_far (p := ⟨gb181, 1, none⟩) (Kd.R_far (p := ⟨gb181, 0, none⟩) (Kd.R_types HO178.out BK181.out (by decide)) (fun _ hk => hk.2) (.int .i64 t179)) (fun _ hk => hk.2) (.int .i64 t180)) (fun _ h_ => h_.1))) hb); have n4_ := Aside0.mk (blk_below (g := gb159) (o := .cells #[.int .i64 t157, .int .i64 t158] 27 (0, 0)) (by (with_reducible repeat (first | refine blk_drewN ?_ _ | refine blk_drew ?_ | refine blk_alloc ?_ _)); refine blk_far ?_ NB159_181.out _; (with_reducible repeat (first | refine blk_drewN ?_ _ | refine blk_drew ?_ | refine blk_alloc ?_ _)); refine blk_far ?_ NB159_181.out _; (with_reducible repeat (first | refine blk_drewN ?_ _ | refine blk_drew ?_ | refine blk_alloc ?_ _)); exact BK159.out) hb); have n5_ := Aside0.mk (blk_below (g := gb165) (o := .cells #[.int .i64 t163, .int .i64 t164] 27 (0, 0)) (by (with_reducible repeat (first | refine blk_drewN ?_ _ | refine blk_drew ?_ | refine blk_alloc ?_ _)); refine blk_far ?_ NB165_181.out _; (with_reducible repeat (first | refine blk_drewN ?_ _ | refine blk_drew ?_ | refine blk_alloc ?_ _)); refine blk_far ?_ NB165_181.out _; (with_reducible repeat (first | refine blk_drewN ?_ _ | refine blk_drew ?_ | refine blk_alloc ?_ _)); exact BK165.out) hb); have n6_ := Aside0.mk (blk_below (g := gb181) (o := .cells #[.int .i64 t179, .int .i64 t180] 27 (0, 0)) (by (with_reducible repeat (first | refine blk_drewN ?_ _ | refine blk_drew ?_ | refine blk_alloc ?_ _)); refine blk_put (cs := #[.int .i64 t179, .int .i64 0]) ?_ 1 _ rfl; (with_reducible repeat (first | refine blk_drewN ?_ _ | refine blk_drew ?_ | refine blk_alloc ?_ _)); refine blk_put (cs := #[.int .i64 0, .int .i64 0]) ?_ 0 _ rfl; (with_reducible repeat (first | refine blk_drewN ?_ _ | refine blk_drew ?_ | refine blk_alloc ?_ _)); exact BK181.out) hb); have n7_ := Aside0.mk (below_step (by repeat (first | (with_reducible first | exact HB.out | apply below_alloc | apply pw_below_drewN | apply below_drew1 | refine below_set ?_ GE159.out | refine below_set ?_ GE165.out | refine below_set ?_ GE181.out) | exact HB.out)) hb); clear HO_7; clear HO_9; clear HO175; clear HO178; clear BK159; clear BK165; clear BK181; clear HB; have HO_7 := n0_; have HO_9 := n1_; have HO175 := n2_; have HO178 := n3_; have BK159 := n4_; have BK165 := n5_; have BK181 := n6_; have HB := n7_; clear n0_ n1_ n2_ n3_ n4_ n5_ n6_ n7_; (try clear hb); (try clear hb2); (try clear hk); (try clear hi); have hnb51 := NB181_159.out; have hnc51 := NB159_181.out; have hnb52 := NB181_165.out; have hnc52 := NB165_181.out; have hcz53_0 : w50.cell? ⟨gb181, 0, none⟩ = some (.int .i64 t179) := (blk_cell BK181.out 0).trans rfl; have hcz53_1 : w50.cell? ⟨gb181, 1, none⟩ = some (.int .i64 t180) := (blk_cell BK181.out 1).trans rfl; have hfz53_0 := blk_frozen BK181.out 0; have hfz53_1 := blk_frozen BK181.out 1) | ((with_reducible refine gate_dst (N := 62) rfl ?_); (try (refine gate_guard (by rfl) ?_; dsimp only)); refine Kd.R_lit (Kd.int .i32) _ 21 ?hg (N := 62) ?hd (xs := ([] : List Int)) (inner := []) (ok := fun _ => True) (okp := fun _ => True) ?hr ?hp (fun _ hk => hk) trivial (Below.refl _ _) (Nat.le_refl _) (by simp) ?_; (case hd => rfl); (case hg => rfl); (case hr => first | (go_simp; done) | (go_simp; rfl)); (case hp => exact (Reps.none _ _)); intro v184 w54 ho55 hb hg_ hnew_; clear hg_ hnew_; (first | rw [← Ny183.out] at ho55 | (simp only [Int.reduceToNat] at ho55; rw [← Ny183.out] at ho55)); have n0_ := Aside0.mk (Kd.R_below (by (with_reducible repeat (first | apply Kd.R_alloc | apply Kd.R_drewN | apply Kd.R_drew)); exact HO_7.out) hb); have n1_ := Aside0.mk (Kd.R_below (by (with_reducible repeat (first | apply Kd.R_alloc | apply Kd.R_drewN | apply Kd.R_drew)); exact HO_9.out) hb); have n2_ := Aside0.mk (Kd.R_below (by (with_reducible repeat (first | apply Kd.R_alloc | apply Kd.R_drewN | apply Kd.R_drew)); exact HO175.out) hb); have n3_ := Aside0.mk (Kd.R_elder' (by (with_reducible repeat (first | apply Kd.R_alloc | apply Kd.R_drewN | apply Kd.R_drew)); exact HO178.out) (Kd.R_base ho55) hb); have n4_ := Aside0.mk (Kd.R_lower (Kd.R_new' ho55 (Kd.R_lt (by (with_reducible repeat (first | apply Kd.R_alloc | apply Kd.R_drewN | apply Kd.R_drew)); exact HO178.out))) (below_size (by repeat (first | (with_reducible first | exact HB.out | apply below_alloc | apply pw_below_drewN | apply below_drew1 | refine below_set ?_ GE159.out | refine below_set ?_ GE165.out | refine below_set ?_ GE181.out) | exact HB.out)))); have n5_ := Aside0.mk (blk_below (g := gb159) (o := .cells #[.int .i64 t157, .int .i64 t158] 27 (0, 0)) (by (with_reducible repeat (first | refine blk_drewN ?_ _ | refine blk_drew ?_ | refine blk_alloc ?_ _)); exact BK159.out) hb); have n6_ := Aside0.mk (blk_below (g := gb165) (o := .cells #[.int .i64 t163, .int .i64 t164] 27 (0, 0)) (by (with_reducible repeat (first | refine blk_drewN ?_ _ | refine blk_drew ?_ | refine blk_alloc ?_ _)); exact BK165.out) hb); have n7_ := Aside0.mk (blk_below (g := gb181) (o := .cells #[.int .i64 t179, .int .i64 t180] 27 (0, 0)) (by (with_reducible repeat (first | refine blk_drewN ?_ _ | refine blk_drew ?_ | refine blk_alloc ?_ _)); exact BK181.out) hb); have n8_ := Aside0.mk (below_step (by repeat (first | (with_reducible first | exact HB.out | apply below_alloc | apply pw_below_drewN | apply below_drew1 | refine below_set ?_ GE159.out | refine below_set ?_ GE165.out | refine below_set ?_ GE181.out) | exact HB.out)) hb); clear HO_7; clear HO_9; clear HO175; clear HO178; clear BK159; clear BK165; clear BK181; clear HB; have HO_7 := n0_; have HO_9 := n1_; have HO175 := n2_; have HO178 := n3_; have HO185 := n4_; have BK159 := n5_; have BK165 := n6_; have BK181 := n7_; have HB := n8_; clear n0_ n1_ n2_ n3_ n4_ n5_ n6_ n7_ n8_; clear hb ho55) | ((with_reducible refine gate_builtin (b := .append) (xs := #[.tmp 62, .tmp 63]) rfl ?_); (try (refine gate_guard (by rfl) ?_; dsimp only)); at_builtin; refine Kd.R_append_rows (Kd.int .i32) (w0 := w) w.heap.size rfl (.tmp 62) (.tmp 63) 24 21 (.int .i32 0) 4 rfl Try.underlying24 info21 rfl (by decide) (by omega) v184 y183 l0 _ _ _ (fun k_ => some k_ ≠ (v177 : Value).ownBlock) (fun _ => False) rfl rfl ?aO ?aR (fun _ _ h => h) (fun _ h => h.elim) ?aF ?aB ?aS ?aL ?_; (case aR => repeat (first | exact (Kd.C_below HR0.out HB.out) | (with_reducible refine Kd.C_alloc ?_ _) | (with_reducible refine Kd.C_drewN ?_ _) | (with_reducible refine Kd.C_drew ?_))); (case aB => exact (by repeat (first | (with_reducible first | exact HB.out | apply below_alloc | apply pw_below_drewN | apply below_drew1 | refine below_set ?_ GE159.out | refine below_set ?_ GE165.out | refine below_set ?_ GE181.out) | exact HB.out))); (case aF => exact (fun k_ hk => Kd.fresh' (Kd.R_lt (by (with_reducible repeat (first | apply Kd.R_alloc | apply Kd.R_drewN | apply Kd.R_drew)); exact HO178.out)) k_ hk)); (case aO => exact (by (with_reducible repeat (first | apply Kd.R_alloc | apply Kd.R_drewN | apply Kd.R_drew)); exact Kd.R_mono HO185.out (fun _ hk => hk.2))); (case aS => exact (below_size (by repeat (first | (with_reducible first | exact HB.out | apply below_alloc | apply pw_below_drewN | apply below_drew1 | refine below_set ?_ GE159.out | refine below_set ?_ GE165.out | refine below_set ?_ GE181.out) | exact HB.out)))); (case aL => have := LMc47.out; omega); intro v187 w56 ho hb hg hat; rw [← Ny186.out] at ho; have n0_ := Aside0.mk (Kd.R_over' (by (with_reducible repeat (first | apply Kd.R_alloc | apply Kd.R_drewN | apply Kd.R_drew)); exact HO_7.out) (Kd.R_typed (by (with_reducible repeat (first | apply Kd.R_alloc | apply Kd.R_drewN | apply Kd.R_drew)); exact HO185.out)) (by decide) hg); have n1_ := Aside0.mk (Kd.R_over' (by (with_reducible repeat (first | apply Kd.R_alloc | apply Kd.R_drewN | apply Kd.R_drew)); exact HO_9.out) (Kd.R_typed (by (with_reducible repeat (first | apply Kd.R_alloc | apply Kd.R_drewN | apply Kd.R_drew)); exact HO185.out)) (by decide) hg); have n2_ := Aside0.mk (blk_grown (g := gb159) (o := .cells #[.int .i64 t157, .int .i64 t158] 27 (0, 0)) (by (with_reducible repeat (first | refine blk_drewN ?_ _ | refine blk_drew ?_ | refine blk_alloc ?_ _)); exact BK159.out) hg (Kd.R_ne HO185.out BK159.out (by decide))); have n3_ := Aside0.mk (blk_grown (g := gb165) (o := .cells #[.int .i64 t163, .int .i64 t164] 27 (0, 0)) (by (with_reducible repeat (first | refine blk_drewN ?_ _ | refine blk_drew ?_ | refine blk_alloc ?_ _)); exact BK165.out) hg (Kd.R_ne HO185.out BK165.out (by decide))); have n4_ := Aside0.mk (Kd.R_over' (by (with_reducible repeat (first | apply Kd.R_alloc | apply Kd.R_drewN | apply Kd.R_drew)); exact HO175.out) (Kd.R_typed (by (with_reducible repeat (first | apply Kd.R_alloc | apply Kd.R_drewN | apply Kd.R_drew)); exact HO185.out)) (by decide) hg); have n5_ := Aside0.mk (Kd.R_after (ok := (fun _ => True)) (by (with_reducible repeat (first | apply Kd.R_alloc | apply Kd.R_drewN | apply Kd.R_drew)); exact HO178.out) hg hat); have n6_ := Aside0.mk (blk_grown (g := gb181) (o := .cells #[.int .i64 t179, .int .i64 t180] 27 (0, 0)) (by (with_reducible repeat (first | refine blk_drewN ?_ _ | refine blk_drew ?_ | refine blk_alloc ?_ _)); exact BK181.out) hg (Kd.R_ne HO185.out BK181.out (by decide))); have n7_ := Aside0.mk (hb); have n8_ := Aside0.mk (ho); clear HO_7; clear HO_9; clear BK159; clear BK165; clear HO175; clear HO178; clear BK181; clear HB; clear HO185; have HO_7 := n0_; have HO_9 := n1_; have BK159 := n2_; have BK165 := n3_; have HO175 := n4_; have HO178 := n5_; have BK181 := n6_; have HB := n7_; have HO188 := n8_; clear n0_ n1_ n2_ n3_ n4_ n5_ n6_ n7_ n8_; clear ho hb hg hat) | ((with_reducible refine gate_builtin (b := .append) (xs := #[.tmp 64, .tmp 65]) rfl ?_); (try (refine gate_guard (by rfl) ?_; dsimp only)); at_builtin; refine Kd.R_append_rows (Kd.int .i32) (w0 := w) w.heap.size rfl (.tmp 64) (.tmp 65) 24 21 (.int .i32 0) 4 rfl Try.underlying24 info21 rfl (by decide) (by omega) v187 y186 l1 _ _ _ (fun k_ => some k_ ≠ (v177 : Value).ownBlock) (fun _ => False) rfl rfl ?aO ?aR (fun _ _ h => h) (fun _ h => h.elim) ?aF ?aB ?aS ?aL ?_; (case aR => repeat (first | exact (Kd.C_below HR1.out HB.out) | (with_reducible refine Kd.C_alloc ?_ _) | (with_reducible refine Kd.C_drewN ?_ _) | (with_reducible refine Kd.C_drew ?_))); (case aB => exact (by repeat (first | (with_reducible first | exact HB.out | apply below_alloc | apply pw_below_drewN | apply below_drew1 | refine below_set ?_ GE159.out | refine below_set ?_ GE165.out | refine below_set ?_ GE181.out) | exact HB.out))); (case aF => exact (fun k_ hk => Kd.fresh' (Kd.R_lt (by (with_reducible repeat (first | apply Kd.R_alloc | apply Kd.R_drewN | apply Kd.R_drew)); exact HO178.out)) k_ hk)); (case aO => exact (by (with_reducible repeat (first | apply Kd.R_alloc | apply Kd.R_drewN | apply Kd.R_drew)); exact HO188.out)); (case aS => exact (below_size (by repeat (first | (with_reducible first | exact HB.out | apply below_alloc | apply pw_below_drewN | apply below_drew1 | refine below_set ?_ GE159.out | refine below_set ?_ GE165.out | refine below_set ?_ GE181.out) | exact HB.out)))); (case aL => have := LMc48.out; omega); intro v190 w57 ho hb hg hat; rw [← Ny189.out] at ho; have n0_ := Aside0.mk (Kd.R_over' (by (with_reducible repeat (first | apply Kd.R_alloc | apply Kd.R_drewN | apply Kd.R_drew)); exact HO_7.out) (Kd.R_typed (by (with_reducible repeat (first | apply Kd.R_alloc | apply Kd.R_drewN | apply Kd.R_drew)); exact HO188.out)) (by decide) hg); have n1_ := Aside0.mk (Kd.R_over' (by (with_reducible repeat (first | apply Kd.R_alloc | apply Kd.R_drewN | apply Kd.R_drew)); exact HO_9.out) (Kd.R_typed (by (with_reducible repeat (first | apply Kd.R_alloc | apply Kd.R_drewN | apply Kd.R_drew)); exact HO188.out)) (by decide) hg); have n2_ := Aside0.mk (blk_grown (g := gb159) (o := .cells #[.int .i64 t157, .int .i64 t158] 27 (0, 0)) (by (with_reducible repeat (first | refine blk_drewN ?_ _ | refine blk_drew ?_ | refine blk_alloc ?_ _)); exact BK159.out) hg (Kd.R_ne HO188.out BK159.out (by decide))); have n3_ := Aside0.mk (blk_grown (g := gb165) (o := .cells #[.int .i64 t163, .int .i64 t164] 27 (0, 0)) (by (with_reducible repeat (first | refine blk_drewN ?_ _ | refine blk_drew ?_ | refine blk_alloc ?_ _)); exact BK165.out) hg (Kd.R_ne HO188.out BK165.out (by decide))); have n4_ := Aside0.mk (Kd.R_over' (by (with_reducible repeat (first | apply Kd.R_alloc | apply Kd.R_drewN | apply Kd.R_drew)); exact HO175.out) (Kd.R_typed (by (with_reducible repeat (first | apply Kd.R_alloc | apply Kd.R_drewN | apply Kd.R_drew)); exact HO188.out)) (by decide) hg); have n5_ := Aside0.mk (Kd.R_after (ok := (fun _ => True)) (by (with_reducible repeat (first | apply Kd.R_alloc | apply Kd.R_drewN | apply Kd.R_drew)); exact HO178.out) hg hat); have n6_ := Aside0.mk (blk_grown (g := gb181) (o := .cells #[.int .i64 t179, .int .i64 t180] 27 (0, 0)) (by (with_reducible repeat (first | refine blk_drewN ?_ _ | refine blk_drew ?_ | refine blk_alloc ?_ _)); exact BK181.out) hg (Kd.R_ne HO188.out BK181.out (by decide))); have n7_ := Aside0.mk (hb); have n8_ := Aside0.mk (ho); clear HO_7; clear HO_9; clear BK159; clear BK165; clear HO175; clear HO178; clear BK181; clear HB; clear HO188; have HO_7 := n0_; have HO_9 := n1_; have BK159 := n2_; have BK165 := n3_; have HO175 := n4_; have HO178 := n5_; have BK181 := n6_; have HB := n7_; have HO191 := n8_; clear n0_ n1_ n2_ n3_ n4_ n5_ n6_ n7_ n8_; clear ho hb hg hat; obtain ⟨Ao58, co58, eo58⟩ := Kd.R_slice HO178.out; subst eo58; obtain ⟨Ao59, co59, eo59⟩ := Kd.R_slice HO191.out; subst eo59) | (go_at_call 13; (with_reducible refine (amanuensisref01_Runes.calls kj10 _ _ t176 _ _ y189 t192 _ ?side1 ?side2 ?side3 ?side4 A49.out).mono ?_); (case side1 => repeat (first | exact (Kd.R_reads' HO178.out).2.2 | (with_reducible refine Kd.C_alloc ?_ _) | (with_reducible refine Kd.C_drewN ?_ _) | (with_reducible refine Kd.C_drew ?_))); (case side2 => exact (Kd.R_reads' HO178.out).2.1); (case side3 => repeat (first | exact (Kd.R_reads' HO191.out).2.2 | (with_reducible refine Kd.C_alloc ?_ _) | (with_reducible refine Kd.C_drewN ?_ _) | (with_reducible refine Kd.C_drew ?_))); (case side4 => exact (Kd.R_reads' HO191.out).2.1); rintro e w' ⟨rfl, ⟨nd, rfl⟩⟩))
                            go_meet
                            case rel => exact ⟨_, (!t192), (by first | rfl | (simp; done) | (simp [*]; done)), H', ⟨by have := HJ3.out; have := HJ10.out; first | omega | exact Nat.le_refl _⟩, ⟨by (with_reducible repeat (first | apply Kd.R_alloc | apply Kd.R_drewN | apply Kd.R_drew)); exact Kd.R_mono HO_7.out (fun _ hk => hk.1)⟩, ⟨by (with_reducible repeat (first | apply Kd.R_alloc | apply Kd.R_drewN | apply Kd.R_drew)); exact Kd.R_mono HO_9.out (fun _ hk => hk.1)⟩, ⟨by (with_reducible repeat (first | refine blk_drewN ?_ _ | refine blk_drew ?_ | refine blk_alloc ?_ _)); exact BK159.out⟩, ⟨by (with_reducible repeat (first | refine blk_drewN ?_ _ | refine blk_drew ?_ | refine blk_alloc ?_ _)); exact BK165.out⟩, ⟨by (with_reducible repeat (first | refine blk_drewN ?_ _ | refine blk_drew ?_ | refine blk_alloc ?_ _)); exact BK181.out⟩, ⟨by repeat (first | (with_reducible first | exact HB.out | apply below_alloc | apply pw_below_drewN | apply below_drew1 | refine below_set ?_ GE159.out | refine below_set ?_ GE165.out | refine below_set ?_ GE181.out) | exact HB.out)⟩⟩
                          · rw [if_neg c48] at H
                            exact absurd H (by simp)
                        · rw [if_neg c47] at H
                          exact absurd H (by simp)
                      · rw [if_neg c46] at H
                        have c46b0 : (t179 == 0) = false := beq_eq_false_iff_ne.mpr c46
                        have c46b1 : (t179 != 0) = true := bne_iff_ne.mpr c46
                        (first | rw [c46b0] | (simp only [i64_w, i32_w]; rw [c46b0]) | skip)
                        have H' := Aside0.mk H
                        clear H
                        go_wp2_with (first | ((with_reducible refine gate_callee (f := 10) rfl ?_); refine goesL_ (some 53) rfl rfl Try.func10 (by kernel_rfl) rfl #[] rfl (by (try simp only [List.map_toArray, List.map_cons, List.map_nil]); first | done | rfl | (simp only [List.length_drop, List.length_take]; rfl)) ?_; (with_reducible refine (amanuensislaw01_answers.calls kj10  true _ A44.out).mono ?_); rintro e w60 ⟨rfl, hb⟩; refine ⟨_, rfl, ?_⟩; have n0_ := Aside0.mk (Kd.R_below (by (with_reducible repeat (first | apply Kd.R_alloc | apply Kd.R_drewN | apply Kd.R_drew)); exact (Kd.R_mono (Kd.R_far (p := ⟨gb181, 1, none⟩) (Kd.R_far (p := ⟨gb181, 0, none⟩) (Kd.R_types HO_7.out BK181.out (by decide)) (fun _ hk => hk.2) (.int .i64 t179)) (fun _ hk => hk.2) (.int .i64 t180)) (fun _ h_ => h_.1))) hb); have n1_ := Aside0.mk (Kd.R_below (by (with_reducible repeat (first | apply Kd.R_alloc | apply Kd.R_drewN | apply Kd.R_drew)); exact (Kd.R_mono (Kd.R_far (p := ⟨gb181, 1, none⟩) (Kd.R_far (p := ⟨gb181, 0, none⟩) (Kd.R_types HO_9.out BK181.out (by decide)) (fun _ hk => hk.2) (.int .i64 t179)) (fun _ hk => hk.2) (.int .i64 t180)) (fun _ h_ => h_.1))) hb); have n2_ := Aside0.mk (Kd.R_below (by (with_reducible repeat (first | apply Kd.R_alloc | apply Kd.R_drewN | apply Kd.R_drew)); exact (Kd.R_mono (Kd.R_far (p := ⟨gb181, 1, none⟩) (Kd.R_far (p := ⟨gb181, 0, none⟩) (Kd.R_types HO175.out BK181.out (by decide)) (fun _ hk => hk.2) (.int .i64 t179)) (fun _ hk => hk.2) (.int .i64 t180)) (fun _ h_ => h_.1))) hb); have n3_ := Aside0.mk (Kd.R_below (by (with_reducible repeat (first | apply Kd.R_alloc | apply Kd.R_drewN | apply Kd.R_drew)); exact (Kd.R_mono (Kd.R_far (p := ⟨gb181, 1, none⟩) (Kd.R_far (p := ⟨gb181, 0, none⟩) (Kd.R_types HO178.out BK181.out (by decide)) (fun _ hk => hk.2) (.int .i64 t179)) (fun _ hk => hk.2) (.int .i64 t180)) (fun _ h_ => h_.1))) hb); have n4_ := Aside0.mk (blk_below (g := gb159) (o := .cells #[.int .i64 t157, .int .i64 t158] 27 (0, 0)) (by (with_reducible repeat (first | refine blk_drewN ?_ _ | refine blk_drew ?_ | refine blk_alloc ?_ _)); refine blk_far ?_ NB159_181.out _; (with_reducible repeat (first | refine blk_drewN ?_ _ | refine blk_drew ?_ | refine blk_alloc ?_ _)); refine blk_far ?_ NB159_181.out _; (with_reducible repeat (first | refine blk_drewN ?_ _ | refine blk_drew ?_ | refine blk_alloc ?_ _)); exact BK159.out) hb); have n5_ := Aside0.mk (blk_below (g := gb165) (o := .cells #[.int .i64 t163, .int .i64 t164] 27 (0, 0)) (by (with_reducible repeat (first | refine blk_drewN ?_ _ | refine blk_drew ?_ | refine blk_alloc ?_ _)); refine blk_far ?_ NB165_181.out _; (with_reducible repeat (first | refine blk_drewN ?_ _ | refine blk_drew ?_ | refine blk_alloc ?_ _)); refine blk_far ?_ NB165_181.out _; (with_reducible repeat (first | refine blk_drewN ?_ _ | refine blk_drew ?_ | refine blk_alloc ?_ _)); exact BK165.out) hb); have n6_ := Aside0.mk (blk_below (g := gb181) (o := .cells #[.int .i64 t179, .int .i64 t180] 27 (0, 0)) (by (with_reducible repeat (first | refine blk_drewN ?_ _ | refine blk_drew ?_ | refine blk_alloc ?_ _)); refine blk_put (cs := #[.int .i64 t179, .int .i64 0]) ?_ 1 _ rfl; (with_reducible repeat (first | refine blk_drewN ?_ _ | refine blk_drew ?_ | refine blk_alloc ?_ _)); refine blk_put (cs := #[.int .i64 0, .int .i64 0]) ?_ 0 _ rfl; (with_reducible repeat (first | refine blk_drewN ?_ _ | refine blk_drew ?_ | refine blk_alloc ?_ _)); exact BK181.out) hb); have n7_ := Aside0.mk (below_step (by repeat (first | (with_reducible first | exact HB.out | apply below_alloc | apply pw_below_drewN | apply below_drew1 | refine below_set ?_ GE159.out | refine below_set ?_ GE165.out | refine below_set ?_ GE181.out) | exact HB.out)) hb); clear HO_7; clear HO_9; clear HO175; clear HO178; clear BK159; clear BK165; clear BK181; clear HB; have HO_7 := n0_; have HO_9 := n1_; have HO175 := n2_; have HO178 := n3_; have BK159 := n4_; have BK165 := n5_; have BK181 := n6_; have HB := n7_; clear n0_ n1_ n2_ n3_ n4_ n5_ n6_ n7_; (try clear hb); (try clear hb2); (try clear hk); (try clear hi); have hnb61 := NB181_159.out; have hnc61 := NB159_181.out; have hnb62 := NB181_165.out; have hnc62 := NB165_181.out; have hcz63_0 : w60.cell? ⟨gb181, 0, none⟩ = some (.int .i64 t179) := (blk_cell BK181.out 0).trans rfl; have hcz63_1 : w60.cell? ⟨gb181, 1, none⟩ = some (.int .i64 t180) := (blk_cell BK181.out 1).trans rfl; have hfz63_0 := blk_frozen BK181.out 0; have hfz63_1 := blk_frozen BK181.out 1))
                        go_meet
                        case rel => exact ⟨_, (true), (by first | rfl | (simp; done) | (simp [*]; done)), H', ⟨by have := HJ3.out; have := HJ10.out; first | omega | exact Nat.le_refl _⟩, ⟨by (with_reducible repeat (first | apply Kd.R_alloc | apply Kd.R_drewN | apply Kd.R_drew)); exact Kd.R_mono HO_7.out (fun _ hk => hk.1)⟩, ⟨by (with_reducible repeat (first | apply Kd.R_alloc | apply Kd.R_drewN | apply Kd.R_drew)); exact Kd.R_mono HO_9.out (fun _ hk => hk.1)⟩, ⟨by (with_reducible repeat (first | refine blk_drewN ?_ _ | refine blk_drew ?_ | refine blk_alloc ?_ _)); exact BK159.out⟩, ⟨by (with_reducible repeat (first | refine blk_drewN ?_ _ | refine blk_drew ?_ | refine blk_alloc ?_ _)); exact BK165.out⟩, ⟨by (with_reducible repeat (first | refine blk_drewN ?_ _ | refine blk_drew ?_ | refine blk_alloc ?_ _)); exact BK181.out⟩, ⟨by repeat (first | (with_reducible first | exact HB.out | apply below_alloc | apply pw_below_drewN | apply below_drew1 | refine below_set ?_ GE159.out | refine below_set ?_ GE165.out | refine below_set ?_ GE181.out) | exact HB.out)⟩⟩
                    · replace c45 := Bool.eq_false_iff.mpr c45
                      subst c45
                      have H1 : (amanuensislaw01_UtfJoins.j2 a2 kj10 l1 t154 t160 true) = some r := by rw [if_neg (show ¬ (false = true) by decide)] at H; exact H
                      clear H
                      have H := H1
                      clear H1
                      have H' := Aside0.mk H
                      clear H
                      go_wp2_with (first | ((with_reducible refine gate_callee (f := 10) rfl ?_); refine goesL_ (some 53) rfl rfl Try.func10 (by kernel_rfl) rfl #[] rfl (by (try simp only [List.map_toArray, List.map_cons, List.map_nil]); first | done | rfl | (simp only [List.length_drop, List.length_take]; rfl)) ?_; (with_reducible refine (amanuensislaw01_answers.calls kj10  false _ A44.out).mono ?_); rintro e w64 ⟨rfl, hb⟩; refine ⟨_, rfl, ?_⟩; have n0_ := Aside0.mk (Kd.R_below (by (with_reducible repeat (first | apply Kd.R_alloc | apply Kd.R_drewN | apply Kd.R_drew)); exact (Kd.R_mono (Kd.R_far (p := ⟨gb181, 1, none⟩) (Kd.R_far (p := ⟨gb181, 0, none⟩) (Kd.R_types HO_7.out BK181.out (by decide)) (fun _ hk => hk.2) (.int .i64 t179)) (fun _ hk => hk.2) (.int .i64 t180)) (fun _ h_ => h_.1))) hb); have n1_ := Aside0.mk (Kd.R_below (by (with_reducible repeat (first | apply Kd.R_alloc | apply Kd.R_drewN | apply Kd.R_drew)); exact (Kd.R_mono (Kd.R_far (p := ⟨gb181, 1, none⟩) (Kd.R_far (p := ⟨gb181, 0, none⟩) (Kd.R_types HO_9.out BK181.out (by decide)) (fun _ hk => hk.2) (.int .i64 t179)) (fun _ hk => hk.2) (.int .i64 t180)) (fun _ h_ => h_.1))) hb); have n2_ := Aside0.mk (Kd.R_below (by (with_reducible repeat (first | apply Kd.R_alloc | apply Kd.R_drewN | apply Kd.R_drew)); exact (Kd.R_mono (Kd.R_far (p := ⟨gb181, 1, none⟩) (Kd.R_far (p := ⟨gb181, 0, none⟩) (Kd.R_types HO175.out BK181.out (by decide)) (fun _ hk => hk.2) (.int .i64 t179)) (fun _ hk => hk.2) (.int .i64 t180)) (fun _ h_ => h_.1))) hb); have n3_ := Aside0.mk (Kd.R_below (by (with_reducible repeat (first | apply Kd.R_alloc | apply Kd.R_drewN | apply Kd.R_drew)); exact (Kd.R_mono (Kd.R_far (p := ⟨gb181, 1, none⟩) (Kd.R_far (p := ⟨gb181, 0, none⟩) (Kd.R_types HO178.out BK181.out (by decide)) (fun _ hk => hk.2) (.int .i64 t179)) (fun _ hk => hk.2) (.int .i64 t180)) (fun _ h_ => h_.1))) hb); have n4_ := Aside0.mk (blk_below (g := gb159) (o := .cells #[.int .i64 t157, .int .i64 t158] 27 (0, 0)) (by (with_reducible repeat (first | refine blk_drewN ?_ _ | refine blk_drew ?_ | refine blk_alloc ?_ _)); refine blk_far ?_ NB159_181.out _; (with_reducible repeat (first | refine blk_drewN ?_ _ | refine blk_drew ?_ | refine blk_alloc ?_ _)); refine blk_far ?_ NB159_181.out _; (with_reducible repeat (first | refine blk_drewN ?_ _ | refine blk_drew ?_ | refine blk_alloc ?_ _)); exact BK159.out) hb); have n5_ := Aside0.mk (blk_below (g := gb165) (o := .cells #[.int .i64 t163, .int .i64 t164] 27 (0, 0)) (by (with_reducible repeat (first | refine blk_drewN ?_ _ | refine blk_drew ?_ | refine blk_alloc ?_ _)); refine blk_far ?_ NB165_181.out _; (with_reducible repeat (first | refine blk_drewN ?_ _ | refine blk_drew ?_ | refine blk_alloc ?_ _)); refine blk_far ?_ NB165_181.out _; (with_reducible repeat (first | refine blk_drewN ?_ _ | refine blk_drew ?_ | refine blk_alloc ?_ _)); exact BK165.out) hb); have n6_ := Aside0.mk (blk_below (g := gb181) (o := .cells #[.int .i64 t179, .int .i64 t180] 27 (0, 0)) (by (with_reducible repeat (first | refine blk_drewN ?_ _ | refine blk_drew ?_ | refine blk_alloc ?_ _)); refine blk_put (cs := #[.int .i64 t179, .int .i64 0]) ?_ 1 _ rfl; (with_reducible repeat (first | refine blk_drewN ?_ _ | refine blk_drew ?_ | refine blk_alloc ?_ _)); refine blk_put (cs := #[.int .i64 0, .int .i64 0]) ?_ 0 _ rfl; (with_reducible repeat (first | refine blk_drewN ?_ _ | refine blk_drew ?_ | refine blk_alloc ?_ _)); exact BK181.out) hb); have n7_ := Aside0.mk (below_step (by repeat (first | (with_reducible first | exact HB.out | apply below_alloc | apply pw_below_drewN | apply below_drew1 | refine below_set ?_ GE159.out | refine below_set ?_ GE165.out | refine below_set ?_ GE181.out) | exact HB.out)) hb); clear HO_7; clear HO_9; clear HO175; clear HO178; clear BK159; clear BK165; clear BK181; clear HB; have HO_7 := n0_; have HO_9 := n1_; have HO175 := n2_; have HO178 := n3_; have BK159 := n4_; have BK165 := n5_; have BK181 := n6_; have HB := n7_; clear n0_ n1_ n2_ n3_ n4_ n5_ n6_ n7_; (try clear hb); (try clear hb2); (try clear hk); (try clear hi)))
                      go_meet
                      case rel => exact ⟨_, (true), (by first | rfl | (simp; done) | (simp [*]; done)), H', ⟨by have := HJ3.out; have := HJ10.out; first | omega | exact Nat.le_refl _⟩, ⟨by (with_reducible repeat (first | apply Kd.R_alloc | apply Kd.R_drewN | apply Kd.R_drew)); exact Kd.R_mono HO_7.out (fun _ hk => hk.1)⟩, ⟨by (with_reducible repeat (first | apply Kd.R_alloc | apply Kd.R_drewN | apply Kd.R_drew)); exact Kd.R_mono HO_9.out (fun _ hk => hk.1)⟩, ⟨by (with_reducible repeat (first | refine blk_drewN ?_ _ | refine blk_drew ?_ | refine blk_alloc ?_ _)); exact BK159.out⟩, ⟨by (with_reducible repeat (first | refine blk_drewN ?_ _ | refine blk_drew ?_ | refine blk_alloc ?_ _)); exact BK165.out⟩, ⟨by (with_reducible repeat (first | refine blk_drewN ?_ _ | refine blk_drew ?_ | refine blk_alloc ?_ _)); exact BK181.out⟩, ⟨by repeat (first | (with_reducible first | exact HB.out | apply below_alloc | apply pw_below_drewN | apply below_drew1 | refine below_set ?_ GE159.out | refine below_set ?_ GE165.out | refine below_set ?_ GE181.out) | exact HB.out)⟩⟩
                  case rest =>
                    clear HC31
                    try clear c1
                    try clear c2
                    try clear p2
                    try clear c4
                    try clear c5
                    try clear c5b0
                    try clear c5b1
                    try clear c6
                    try clear c10
                    try clear c11
                    try clear c14
                    try clear c17
                    try clear c19
                    try clear c19b0
                    try clear c19b1
                    try clear c20
                    try clear c23
                    try clear c25
                    try clear c28
                    try clear c29
                    try clear c41
                    try clear c42
                    try clear c45
                    try clear c46
                    try clear c46b0
                    try clear c46b1
                    try clear c47
                    try clear c48
                    try clear c51
                    try clear c52
                    try clear c61
                    try clear c62
                    try clear hcz14_0
                    try clear hcz14_1
                    try clear hcz18_0
                    try clear hcz18_1
                    try clear hcz21_0
                    try clear hcz21_1
                    try clear hcz22_0
                    try clear hcz22_1
                    try clear hcz24_0
                    try clear hcz24_1
                    try clear hcz43_0
                    try clear hcz43_1
                    try clear hcz53_0
                    try clear hcz53_1
                    try clear hcz63_0
                    try clear hcz63_1
                    try clear hfz14_0
                    try clear hfz14_1
                    try clear hfz18_0
                    try clear hfz18_1
                    try clear hfz21_0
                    try clear hfz21_1
                    try clear hfz22_0
                    try clear hfz22_1
                    try clear hfz24_0
                    try clear hfz24_1
                    try clear hfz43_0
                    try clear hfz43_1
                    try clear hfz53_0
                    try clear hfz53_1
                    try clear hfz63_0
                    try clear hfz63_1
                    try clear p2
                    obtain ⟨kq, x69_30, rfl, HA, HJ30, HO_7, HO_9, BK159, BK165, BK181, HB⟩ := hcut
                    cases kq with
                    | zero => exact absurd HA.out (by simp [amanuensislaw01_UtfJoins.j2])
                    | succ kj30 =>
                      have H := HA.out
                      clear HA
                      simp only [amanuensislaw01_UtfJoins.j2] at H
                      by_cases c65 : x69_30 = true
                      · subst c65
                        have H1 : (some false) = some r := by rw [if_pos rfl] at H; exact H
                        clear H
                        have H := H1
                        clear H1
                        obtain rfl := Option.some.inj H
                        go_wp2
                        go_ret
                        exact ⟨by first | rfl | (simp [errW_none, errW_some] <;> rfl) | (simp [*, errW_none, errW_some] <;> rfl), by repeat (first | (with_reducible first | exact HB.out | apply below_alloc | apply pw_below_drewN | apply below_drew1 | refine below_set ?_ GE159.out | refine below_set ?_ GE165.out | refine below_set ?_ GE181.out) | exact HB.out)⟩
                      · replace c65 := Bool.eq_false_iff.mpr c65
                        subst c65
                        have H1 : (if (l1.length : Int) = 0 then (amanuensislaw01_UtfJoins.j3 a2 kj30 l1 t154 t160 true) else (if 0 < (l1.length : Int) then ((amanuensisref01_Len.f kj30 (rd l1 0)).bind fun t194 => (amanuensislaw01_UtfJoins.j3 a2 kj30 l1 t154 t160 (t194 == 1))) else (none))) = some r := by rw [if_neg (show ¬ (false = true) by decide)] at H; exact H
                        clear H
                        have H := H1
                        clear H1
                        have HC66 := Aside0.mk H
                        clear H
                        go_upto_region 10 with (fail)
                        go_cut [79] (fun v79 wc => ∃ (kq : Nat) (x79_65 : Bool), v79 = .bool x79_65 ∧ Aside0 (amanuensislaw01_UtfJoins.j3 a2 kq l1 t154 t160 x79_65 = some r) ∧ Aside0 (kq ≤ kj30) ∧ Aside0 (Kd.R (Kd.int .u8) 5 wc w.heap.size (fun k_ => some k_ ≠ ((.slice Ao37 t160.length co37) : Value).ownBlock) (.slice Ao35 t154.length co35) t154) ∧ Aside0 (Kd.R (Kd.int .u8) 5 wc w.heap.size (fun k_ => some k_ ≠ ((.slice Ao35 t154.length co35) : Value).ownBlock) (.slice Ao37 t160.length co37) t160) ∧ Aside0 (wc.heap[gb159]? = some (.cells #[.int .i64 t157, .int .i64 t158] 27 (0, 0))) ∧ Aside0 (wc.heap[gb165]? = some (.cells #[.int .i64 t163, .int .i64 t164] 27 (0, 0))) ∧ Aside0 (wc.heap[gb181]? = some (.cells #[.int .i64 t179, .int .i64 t180] 27 (0, 0))) ∧ Aside0 (Below w.heap.size w wc))
                        case first =>
                          have H := HC66.out
                          clear HC66
                          by_cases c67 : (l1.length : Int) = 0
                          · rw [if_pos c67] at H
                            have c67b0 : ((l1.length : Int) == 0) = true := beq_iff_eq.mpr c67
                            have c67b1 : ((l1.length : Int) != 0) = false := bne_eq_false_iff_eq.mpr c67
                            clear c67
                            (first | rw [c67b0] | (simp only [i64_w, i32_w]; rw [c67b0]) | skip)
                            have H' := Aside0.mk H
                            clear H
                            go_wp2
                            go_meet
                            case rel => exact ⟨_, (true), (by first | rfl | (simp; done) | (simp [*]; done)), H', ⟨by have := HJ3.out; have := HJ10.out; have := HJ30.out; first | omega | exact Nat.le_refl _⟩, ⟨by (with_reducible repeat (first | apply Kd.R_alloc | apply Kd.R_drewN | apply Kd.R_drew)); exact HO_7.out⟩, ⟨by (with_reducible repeat (first | apply Kd.R_alloc | apply Kd.R_drewN | apply Kd.R_drew)); exact HO_9.out⟩, ⟨by (with_reducible repeat (first | refine blk_drewN ?_ _ | refine blk_drew ?_ | refine blk_alloc ?_ _)); exact BK159.out⟩, ⟨by (with_reducible repeat (first | refine blk_drewN ?_ _ | refine blk_drew ?_ | refine blk_alloc ?_ _)); exact BK165.out⟩, ⟨by (with_reducible repeat (first | refine blk_drewN ?_ _ | refine blk_drew ?_ | refine blk_alloc ?_ _)); exact BK181.out⟩, ⟨by repeat (first | (with_reducible first | exact HB.out | apply below_alloc | apply pw_below_drewN | apply below_drew1 | refine below_set ?_ GE159.out | refine below_set ?_ GE165.out | refine below_set ?_ GE181.out) | exact HB.out)⟩⟩
                          · rw [if_neg c67] at H
                            have c67b0 : ((l1.length : Int) == 0) = false := beq_eq_false_iff_ne.mpr c67
                            have c67b1 : ((l1.length : Int) != 0) = true := bne_iff_ne.mpr c67
                            have c67b2 : ¬ (l1 = []) := fun h_ => c67 (by rw [h_]; rfl)
                            (first | rw [c67b0] | (simp only [i64_w, i32_w]; rw [c67b0]) | skip)
                            by_cases c68 : 0 < (l1.length : Int)
                            · rw [if_pos c68] at H
                              have c68b0 : decide (0 < (l1.length : Int)) = true := decide_eq_true c68
                              have c68b1 : decide (0 < l1.length) = true := decide_eq_true (by omega)
                              clear c68
                              replace H := Option.bind_eq_some_iff.mp H
                              obtain ⟨t194, A690, H⟩ := H
                              replace H : (amanuensislaw01_UtfJoins.j3 a2 kj30 l1 t154 t160 (t194 == 1)) = some r := H
                              have A69 := Aside0.mk A690
                              clear A690
                              have H' := Aside0.mk H
                              clear H
                              have p193 : 0 ≤ (0 : Int) := (by omega)
                              have q193 : 0 < (l1.length : Int) := of_decide_eq_true (by first | (with_reducible assumption) | assumption)
                              obtain ⟨ad193, e193, hx193_0⟩ := Kd.at_int HR1.out 0 p193 q193
                              cases e193
                              have qi193 : (0 < l1.length) = True := eq_true (by omega)
                              (try rw [show ((0 : Int)).toNat = 0 from rfl] at hx193_0)
                              (try rw [Addr.add_zero'] at hx193_0)
                              replace hx193_0 := (HB.out.cell (World.block_lt_of_cell? w _ hx193_0)).trans hx193_0
                              replace p193 := eq_true p193
                              replace q193 := eq_true q193
                              go_wp2_with (first | (go_at_call 15; (with_reducible refine (amanuensisref01_Len.calls kj30 (rd l1 0) t194 _ A69.out).mono ?_); rintro e w' ⟨rfl, ⟨nd, rfl⟩⟩))
                              go_meet
                              case rel => exact ⟨_, ((t194 == 1)), (by first | rfl | (simp; done) | (simp [*]; done)), H', ⟨by have := HJ3.out; have := HJ10.out; have := HJ30.out; first | omega | exact Nat.le_refl _⟩, ⟨by (with_reducible repeat (first | apply Kd.R_alloc | apply Kd.R_drewN | apply Kd.R_drew)); exact HO_7.out⟩, ⟨by (with_reducible repeat (first | apply Kd.R_alloc | apply Kd.R_drewN | apply Kd.R_drew)); exact HO_9.out⟩, ⟨by (with_reducible repeat (first | refine blk_drewN ?_ _ | refine blk_drew ?_ | refine blk_alloc ?_ _)); exact BK159.out⟩, ⟨by (with_reducible repeat (first | refine blk_drewN ?_ _ | refine blk_drew ?_ | refine blk_alloc ?_ _)); exact BK165.out⟩, ⟨by (with_reducible repeat (first | refine blk_drewN ?_ _ | refine blk_drew ?_ | refine blk_alloc ?_ _)); exact BK181.out⟩, ⟨by repeat (first | (with_reducible first | exact HB.out | apply below_alloc | apply pw_below_drewN | apply below_drew1 | refine below_set ?_ GE159.out | refine below_set ?_ GE165.out | refine below_set ?_ GE181.out) | exact HB.out)⟩⟩
                            · rw [if_neg c68] at H
                              exact absurd H (by simp)
                        case rest =>
                          clear HC66
                          try clear c1
                          try clear p1
                          try clear q1
                          try clear hx1
                          try clear qi1
                          try clear c2
                          try clear p2
                          try clear c4
                          try clear c5
                          try clear c5b0
                          try clear c5b1
                          try clear c6
                          try clear c10
                          try clear c11
                          try clear c14
                          try clear c17
                          try clear c19
                          try clear c19b0
                          try clear c19b1
                          try clear p19
                          try clear q19
                          try clear hx19
                          try clear qi19
                          try clear c20
                          try clear c23
                          try clear c25
                          try clear c28
                          try clear c29
                          try clear c41
                          try clear c42
                          try clear c45
                          try clear c46
                          try clear c46b0
                          try clear c46b1
                          try clear c47
                          try clear c48
                          try clear c51
                          try clear c52
                          try clear c61
                          try clear c62
                          try clear c65
                          try clear c67
                          try clear c67b0
                          try clear c67b1
                          try clear c67b2
                          try clear c68
                          try clear c68b0
                          try clear c68b1
                          try clear hcz14_0
                          try clear hcz14_1
                          try clear hcz18_0
                          try clear hcz18_1
                          try clear hcz21_0
                          try clear hcz21_1
                          try clear hcz22_0
                          try clear hcz22_1
                          try clear hcz24_0
                          try clear hcz24_1
                          try clear hcz43_0
                          try clear hcz43_1
                          try clear hcz53_0
                          try clear hcz53_1
                          try clear hcz63_0
                          try clear hcz63_1
                          try clear hfz14_0
                          try clear hfz14_1
                          try clear hfz18_0
                          try clear hfz18_1
                          try clear hfz21_0
                          try clear hfz21_1
                          try clear hfz22_0
                          try clear hfz22_1
                          try clear hfz24_0
                          try clear hfz24_1
                          try clear hfz43_0
                          try clear hfz43_1
                          try clear hfz53_0
                          try clear hfz53_1
                          try clear hfz63_0
                          try clear hfz63_1
                          try clear hx193_0
                          try clear p193
                          try clear p2
                          try clear q193
                          obtain ⟨kq, x79_65, rfl, HA, HJ65, HO_7, HO_9, BK159, BK165, BK181, HB⟩ := hcut
                          cases kq with
                          | zero => exact absurd HA.out (by simp [amanuensislaw01_UtfJoins.j3])
                          | succ kj65 =>
                            have H := HA.out
                            clear HA
                            simp only [amanuensislaw01_UtfJoins.j3] at H
                            by_cases c70 : x79_65 = true
                            · subst c70
                              have H1 : (some true) = some r := by rw [if_pos rfl] at H; exact H
                              clear H
                              have H := H1
                              clear H1
                              obtain rfl := Option.some.inj H
                              go_wp2
                              go_ret
                              exact ⟨by first | rfl | (simp [errW_none, errW_some] <;> rfl) | (simp [*, errW_none, errW_some] <;> rfl), by repeat (first | (with_reducible first | exact HB.out | apply below_alloc | apply pw_below_drewN | apply below_drew1 | refine below_set ?_ GE159.out | refine below_set ?_ GE165.out | refine below_set ?_ GE181.out) | exact HB.out)⟩
                            · replace c70 := Bool.eq_false_iff.mpr c70
                              subst c70
                              have H1 : (if 0 < (l1.length : Int) then ((amanuensisref01_Len.f kj65 (rd l1 0)).bind fun t196 => (if (wrap64 (t196 - 1)) = 0 then (none) else (if 0 ≤ (wrap64 (1 + Int.tmod (wrap64 a2) (wrap64 (t196 - 1)))) then (if (wrap64 (1 + Int.tmod (wrap64 a2) (wrap64 (t196 - 1)))) ≤ (t160.length : Int) then ((some (([] : List Int) : List Int)).bind fun y197 => (if y197.length + t154.length < 140737488355328 then ((some (y197 ++ t154 : List Int)).bind fun y200 => (if y200.length + (t160.take (wrap64 (1 + Int.tmod (wrap64 a2) (wrap64 (t196 - 1)))).toNat).length < 140737488355328 then ((utf_Decode.f kj65 (y200 ++ t160.take (wrap64 (1 + Int.tmod (wrap64 a2) (wrap64 (t196 - 1)))).toNat)).bind fun bt206 => (some (bt206.2.1 == 2 && (bt206.2.2 == (t154.length : Int))))) else (none))) else (none))) else none) else none))) else (none)) = some r := by rw [if_neg (show ¬ (false = true) by decide)] at H; exact H
                              clear H
                              have H := H1
                              clear H1
                              by_cases c71 : 0 < (l1.length : Int)
                              · rw [if_pos c71] at H
                                have c71b0 : decide (0 < (l1.length : Int)) = true := decide_eq_true c71
                                have c71b1 : decide (0 < l1.length) = true := decide_eq_true (by omega)
                                clear c71
                                replace H := Option.bind_eq_some_iff.mp H
                                obtain ⟨t196, A720, H⟩ := H
                                replace H : (if (wrap64 (t196 - 1)) = 0 then (none) else (if 0 ≤ (wrap64 (1 + Int.tmod (wrap64 a2) (wrap64 (t196 - 1)))) then (if (wrap64 (1 + Int.tmod (wrap64 a2) (wrap64 (t196 - 1)))) ≤ (t160.length : Int) then ((some (([] : List Int) : List Int)).bind fun y197 => (if y197.length + t154.length < 140737488355328 then ((some (y197 ++ t154 : List Int)).bind fun y200 => (if y200.length + (t160.take (wrap64 (1 + Int.tmod (wrap64 a2) (wrap64 (t196 - 1)))).toNat).length < 140737488355328 then ((utf_Decode.f kj65 (y200 ++ t160.take (wrap64 (1 + Int.tmod (wrap64 a2) (wrap64 (t196 - 1)))).toNat)).bind fun bt206 => (some (bt206.2.1 == 2 && (bt206.2.2 == (t154.length : Int))))) else (none))) else (none))) else none) else none)) = some r := H
                                have A72 := Aside0.mk A720
                                clear A720
                                by_cases c73 : (wrap64 (t196 - 1)) = 0
                                · rw [if_pos c73] at H
                                  exact absurd H (by simp)
                                · rw [if_neg c73] at H
                                  have c73b0 : ((wrap64 (t196 - 1)) == 0) = false := beq_eq_false_iff_ne.mpr c73
                                  have c73b1 : ((wrap64 (t196 - 1)) != 0) = true := bne_iff_ne.mpr c73
                                  by_cases cN0 : 0 ≤ (wrap64 (1 + Int.tmod (wrap64 a2) (wrap64 (t196 - 1))))
                                  case neg => rw [if_neg cN0] at H; exact absurd H (by simp)
                                  rw [if_pos cN0] at H
                                  by_cases cN1 : (wrap64 (1 + Int.tmod (wrap64 a2) (wrap64 (t196 - 1)))) ≤ (t160.length : Int)
                                  case neg => rw [if_neg cN1] at H; exact absurd H (by simp)
                                  rw [if_pos cN1] at H
                                  obtain ⟨yT, hyT⟩ : ∃ y_ : List Int, y_ = t160.take (wrap64 (1 + Int.tmod (wrap64 a2) (wrap64 (t196 - 1)))).toNat := ⟨_, rfl⟩
                                  rw [← hyT] at H
                                  have NyT := Aside0.mk hyT
                                  have HN0 := Aside0.mk cN0
                                  have HN1 := Aside0.mk cN1
                                  have hyl : yT.length = (wrap64 (1 + Int.tmod (wrap64 a2) (wrap64 (t196 - 1)))).toNat := by rw [hyT, List.length_take]; omega
                                  have NyL := Aside0.mk hyl
                                  clear hyT cN0 cN1 hyl
                                  obtain ⟨y197, hy197⟩ : ∃ y_ : List Int, y_ = (([] : List Int)) := ⟨_, rfl⟩
                                  replace H : (if y197.length + t154.length < 140737488355328 then ((some (y197 ++ t154 : List Int)).bind fun y200 => (if y200.length + yT.length < 140737488355328 then ((utf_Decode.f kj65 (y200 ++ yT)).bind fun bt206 => (some (bt206.2.1 == 2 && (bt206.2.2 == (t154.length : Int))))) else (none))) else (none)) = some r := by first | (rw [hy197]; with_reducible exact H) | (have H2_ := (Option.bind_some _ _).symm.trans H; rw [hy197]; with_reducible exact H2_) | (have H2_ := (Option.bind_some _ _).symm.trans H; with_reducible exact H2_) | with_reducible exact H | (rw [hy197]; exact H) | exact H
                                  have Ny197 := Aside0.mk hy197
                                  clear hy197
                                  by_cases c74 : y197.length + t154.length < 140737488355328
                                  · rw [if_pos c74] at H
                                    have LMc74 := Aside0.mk c74
                                    clear c74
                                    obtain ⟨y200, hy200⟩ : ∃ y_ : List Int, y_ = (y197 ++ t154) := ⟨_, rfl⟩
                                    replace H : (if y200.length + yT.length < 140737488355328 then ((utf_Decode.f kj65 (y200 ++ yT)).bind fun bt206 => (some (bt206.2.1 == 2 && (bt206.2.2 == (t154.length : Int))))) else (none)) = some r := by first | (rw [hy200]; with_reducible exact H) | (have H2_ := (Option.bind_some _ _).symm.trans H; rw [hy200]; with_reducible exact H2_) | (have H2_ := (Option.bind_some _ _).symm.trans H; with_reducible exact H2_) | with_reducible exact H | (rw [hy200]; exact H) | exact H
                                    have Ny200 := Aside0.mk hy200
                                    clear hy200
                                    by_cases c75 : y200.length + yT.length < 140737488355328
                                    · rw [if_pos c75] at H
                                      have LMc75 := Aside0.mk c75
                                      clear c75
                                      obtain ⟨y203, hy203⟩ : ∃ y_ : List Int, y_ = (y200 ++ yT) := ⟨_, rfl⟩
                                      replace H : ((utf_Decode.f kj65 y203).bind fun bt206 => (some (bt206.2.1 == 2 && (bt206.2.2 == (t154.length : Int))))) = some r := by first | (rw [hy203]; with_reducible exact H) | (have H2_ := (Option.bind_some _ _).symm.trans H; rw [hy203]; with_reducible exact H2_) | (have H2_ := (Option.bind_some _ _).symm.trans H; with_reducible exact H2_) | with_reducible exact H | (rw [hy203]; exact H) | exact H
                                      have Ny203 := Aside0.mk hy203
                                      clear hy203
                                      replace H := Option.bind_eq_some_iff.mp H
                                      obtain ⟨⟨t206, t209, t210⟩, A760, H⟩ := H
                                      replace H : (some (t209 == 2 && (t210 == (t154.length : Int)))) = some r := H
                                      have A76 := Aside0.mk A760
                                      clear A760
                                      obtain rfl := Option.some.inj H
                                      have p195 : 0 ≤ (0 : Int) := (by omega)
                                      have q195 : 0 < (l1.length : Int) := of_decide_eq_true (by first | (with_reducible assumption) | assumption)
                                      obtain ⟨ad195, e195, hx195_0⟩ := Kd.at_int HR1.out 0 p195 q195
                                      cases e195
                                      have qi195 : (0 < l1.length) = True := eq_true (by omega)
                                      (try rw [show ((0 : Int)).toNat = 0 from rfl] at hx195_0)
                                      (try rw [Addr.add_zero'] at hx195_0)
                                      replace hx195_0 := (HB.out.cell (World.block_lt_of_cell? w _ hx195_0)).trans hx195_0
                                      replace p195 := eq_true p195
                                      replace q195 := eq_true q195
                                      try go_wp2_with (first | ((with_reducible refine gate_callee (f := 15) rfl ?_); refine goesL_ (some 85) rfl rfl Try.func15 (by kernel_rfl) rfl #[.int .i32 (rd l1 0)] rfl (by (try simp only [List.map_toArray, List.map_cons, List.map_nil]); first | done | rfl | (simp only [List.length_drop, List.length_take]; rfl)) ?_; (with_reducible refine (amanuensisref01_Len.calls kj65 (rd l1 0) t196 _ A72.out).mono ?_); rintro e w' ⟨rfl, ⟨nd, rfl⟩⟩; refine ⟨_, rfl, ?_⟩; (try (rw [drewN_self wc]; generalize hq_ : World.drewN wc _ = wc; have n0_ : Aside0 (Kd.R (Kd.int .u8) 5 wc w.heap.size (fun k_ => some k_ ≠ (.slice Ao37 t160.length co37 : Value).ownBlock) (.slice Ao35 t154.length co35) t154) := ⟨by rw [← hq_]; exact (by (with_reducible repeat (first | apply Kd.R_alloc | apply Kd.R_drewN | apply Kd.R_drew)); exact HO_7.out)⟩; have n1_ : Aside0 (Kd.R (Kd.int .u8) 5 wc w.heap.size (fun k_ => some k_ ≠ (.slice Ao35 t154.length co35 : Value).ownBlock) (.slice Ao37 t160.length co37) t160) := ⟨by rw [← hq_]; exact (by (with_reducible repeat (first | apply Kd.R_alloc | apply Kd.R_drewN | apply Kd.R_drew)); exact HO_9.out)⟩; have n2_ : Aside0 (wc.heap[gb159]? = some (.cells #[.int .i64 t157, .int .i64 t158] 27 (0, 0))) := ⟨by rw [← hq_]; exact (by (with_reducible repeat (first | refine blk_drewN ?_ _ | refine blk_drew ?_ | refine blk_alloc ?_ _)); exact BK159.out)⟩; have n3_ : Aside0 (wc.heap[gb165]? = some (.cells #[.int .i64 t163, .int .i64 t164] 27 (0, 0))) := ⟨by rw [← hq_]; exact (by (with_reducible repeat (first | refine blk_drewN ?_ _ | refine blk_drew ?_ | refine blk_alloc ?_ _)); exact BK165.out)⟩; have n4_ : Aside0 (wc.heap[gb181]? = some (.cells #[.int .i64 t179, .int .i64 t180] 27 (0, 0))) := ⟨by rw [← hq_]; exact (by (with_reducible repeat (first | refine blk_drewN ?_ _ | refine blk_drew ?_ | refine blk_alloc ?_ _)); exact BK181.out)⟩; have n5_ : Aside0 (Below w.heap.size w wc) := ⟨by rw [← hq_]; exact (by repeat (first | (with_reducible first | exact HB.out | apply below_alloc | apply pw_below_drewN | apply below_drew1 | refine below_set ?_ GE159.out | refine below_set ?_ GE165.out | refine below_set ?_ GE181.out) | exact HB.out))⟩; clear HO_7 HO_9 BK159 BK165 BK181 HB hq_; have HO_7 := n0_; have HO_9 := n1_; have BK159 := n2_; have BK165 := n3_; have BK181 := n4_; have HB := n5_; clear n0_ n1_ n2_ n3_ n4_ n5_))))
                                      have n0_ := Aside0.mk (Kd.R_drew HO_7.out)
                                      have n1_ := Aside0.mk (Kd.R_drew HO_9.out)
                                      have n2_ := Aside0.mk (blk_drew BK159.out)
                                      have n3_ := Aside0.mk (blk_drew BK165.out)
                                      have n4_ := Aside0.mk (blk_drew BK181.out)
                                      have n5_ := Aside0.mk (below_drew1 HB.out)
                                      clear HO_7
                                      clear HO_9
                                      clear BK159
                                      clear BK165
                                      clear BK181
                                      clear HB
                                      have HO_7 := n0_
                                      have HO_9 := n1_
                                      have BK159 := n2_
                                      have BK165 := n3_
                                      have BK181 := n4_
                                      have HB := n5_
                                      clear n0_ n1_ n2_ n3_ n4_ n5_
                                      obtain ⟨i0N, hi0N, _, _, _⟩ := info_parts info5
                                      have hroomN : t160.length ≤ co37 := (Kd.R_reads' HO_9.out).2.1
                                      have hcutN : ∀ W : World, (Instr.slice 22 (.slice Ao37 t160.length co37) none (some (.int .i64 (wrap64 (1 + Int.tmod (wrap64 a2) (wrap64 (t196 - 1)))))) none).run Try.prog W = .ok (.slice Ao37 yT.length co37) W := by
                                        rw [NyL.out]
                                        exact cut_to (P := Try.prog) 22 5 .i64 Try.underlying22 hi0N Ao37 t160.length co37 (wrap64 (1 + Int.tmod (wrap64 a2) (wrap64 (t196 - 1)))) HN0.out HN1.out hroomN
                                      have HNm : Aside0 ((wrap64 (1 + Int.tmod (wrap64 a2) (wrap64 (t196 - 1)))).toNat ≤ t160.length) := ⟨by have h1_ := HN1.out; omega⟩
                                      clear hi0N hroomN
                                      refine start_ (n := 14) (S := fun w' => True) (ds := []) #[false, false, false, false, false, false, false, false, false, false, false, false, false, false] (by kernel_rfl) rfl rfl trivial (fun hHeld => ?_); refine with_tabW amanuensislaw01_UtfJoins.tab13 amanuensislaw01_UtfJoins.bits13 (fun HT_ HW_ => ?_)
                                      generalize wc.drew = w77 at HO_7 HO_9 BK159 BK165 BK181 HB hHeld ⊢
                                      refine pure_ (i := 1) (N := some 91) (v := ?_) (a' := ?_) #[false, true, false, false, false, false, false, false, false, false, false, false, false, false] rfl rfl (any_of HT_.out (by kernel_rfl)) (fun _ _ _ h => h) (Or.inl ⟨by rfl, ?_⟩) ?_ ?_
                                      rotate_left
                                      · intro w'
                                        go_simp
                                        with_reducible rfl
                                      rotate_left
                                      · simp only [Act.put, List.setIfInBounds_toArray, List.set_cons_zero, List.set_cons_succ, i64_w, i32_w]
                                        rfl
                                      refine pure_ (i := 3) (N := some 93) (v := ?_) (a' := ?_) #[false, true, false, true, false, false, false, false, false, false, false, false, false, false] rfl rfl (any_of HT_.out (by kernel_rfl)) (fun _ _ _ h => h) (Or.inl ⟨by rfl, ?_⟩) ?_ ?_
                                      rotate_left
                                      · intro w'
                                        go_simp
                                        with_reducible rfl
                                      rotate_left
                                      · simp only [Act.put, List.setIfInBounds_toArray, List.set_cons_zero, List.set_cons_succ, i64_w, i32_w]
                                        rfl
                                      refine pure_ (i := 4) (N := some 94) (v := ?_) (a' := ?_) #[false, true, false, true, true, false, false, false, false, false, false, false, false, false] rfl rfl (any_of HT_.out (by kernel_rfl)) (fun _ _ _ h => h) (Or.inl ⟨by rfl, ?_⟩) ?_ ?_
                                      rotate_left
                                      · intro w'
                                        go_simp
                                        with_reducible rfl
                                      rotate_left
                                      · simp only [Act.put, List.setIfInBounds_toArray, List.set_cons_zero, List.set_cons_succ, i64_w, i32_w]
                                        rfl
                                      refine pure_ (i := 5) (N := some 95) (v := ?_) (a' := ?_) #[false, true, false, true, true, true, false, false, false, false, false, false, false, false] rfl rfl (any_of HT_.out (by kernel_rfl)) (fun _ _ _ h => h) (Or.inl ⟨by rfl, ?_⟩) ?_ ?_
                                      rotate_left
                                      · intro w'
                                        go_simp
                                        with_reducible rfl
                                      rotate_left
                                      · simp only [Act.put, List.setIfInBounds_toArray, List.set_cons_zero, List.set_cons_succ, i64_w, i32_w]
                                        rfl
                                      refine join_ (σ := Value × Value × Value × Value × Nat) 2 #[true, true, true, true, true, true, true, true, true, true, true, true, false, false] (fun s_ => [(90, s_.1), (92, s_.2.1), (96, s_.2.2.1), (97, .tuple #[s_.2.2.2.1, .agg #[.int .i64 t209, .int .i64 t210]]), (15, .pointer (some ⟨s_.2.2.2.2, 0, none⟩)), (89, .tuple #[s_.2.2.2.1, .agg #[.int .i64 t209, .int .i64 t210]]), (98, s_.2.2.2.1), (99, .agg #[.int .i64 t209, .int .i64 t210])]) (fun s_ w' => (Kd.R (Kd.int .u8) 5 w' w.heap.size (fun k_ => some k_ ≠ (.slice Ao35 t154.length co35 : Value).ownBlock ∧ some k_ ≠ (.slice Ao37 t160.length co37 : Value).ownBlock) s_.2.2.1 y203) ∧ (Kd.R (Kd.int .i32) 21 w' w.heap.size (fun _ => True) s_.2.2.2.1 t206) ∧ (Kd.R (Kd.int .u8) 5 w' w.heap.size (fun k_ => some k_ ≠ (s_.2.2.1 : Value).ownBlock ∧ some k_ ≠ (.slice Ao37 t160.length co37 : Value).ownBlock) (.slice Ao35 t154.length co35) t154) ∧ (Kd.R (Kd.int .u8) 5 w' w.heap.size (fun k_ => some k_ ≠ (s_.2.2.1 : Value).ownBlock ∧ some k_ ≠ (.slice Ao35 t154.length co35 : Value).ownBlock) (.slice Ao37 t160.length co37) t160) ∧ (w'.heap[gb159]? = some (.cells #[.int .i64 t157, .int .i64 t158] 27 (0, 0))) ∧ (w'.heap[gb165]? = some (.cells #[.int .i64 t163, .int .i64 t164] 27 (0, 0))) ∧ (w'.heap[gb181]? = some (.cells #[.int .i64 t179, .int .i64 t180] 27 (0, 0))) ∧ (w'.heap[s_.2.2.2.2]? = some (.cells #[.int .i64 0, .int .i64 0] 27 (0, 0))) ∧ (w.heap.size ≤ s_.2.2.2.2) ∧ (w.heap.size ≤ s_.2.2.2.2) ∧ (gb159 ≠ s_.2.2.2.2) ∧ (s_.2.2.2.2 ≠ gb159) ∧ (gb165 ≠ s_.2.2.2.2) ∧ (s_.2.2.2.2 ≠ gb165) ∧ (gb181 ≠ s_.2.2.2.2) ∧ (s_.2.2.2.2 ≠ gb181) ∧ (Below w.heap.size w w')) ?_ ?_
                                      rotate_left
                                      · intro hJ0_2_6_7_11
                                        refine join_ (σ := Value × Value × Value × Value) 3 #[true, true, true, true, true, true, true, true, true, true, true, false, false, false] (fun s_ => [(90, s_.1), (92, s_.2.1), (96, s_.2.2.1), (97, .tuple #[s_.2.2.2, .agg #[.int .i64 t209, .int .i64 t210]]), (89, .tuple #[s_.2.2.2, .agg #[.int .i64 t209, .int .i64 t210]]), (98, s_.2.2.2), (99, .agg #[.int .i64 t209, .int .i64 t210])]) (fun s_ w' => (Kd.R (Kd.int .u8) 5 w' w.heap.size (fun k_ => some k_ ≠ (.slice Ao35 t154.length co35 : Value).ownBlock ∧ some k_ ≠ (.slice Ao37 t160.length co37 : Value).ownBlock) s_.2.2.1 y203) ∧ (Kd.R (Kd.int .i32) 21 w' w.heap.size (fun _ => True) s_.2.2.2 t206) ∧ (Kd.R (Kd.int .u8) 5 w' w.heap.size (fun k_ => some k_ ≠ (s_.2.2.1 : Value).ownBlock ∧ some k_ ≠ (.slice Ao37 t160.length co37 : Value).ownBlock) (.slice Ao35 t154.length co35) t154) ∧ (Kd.R (Kd.int .u8) 5 w' w.heap.size (fun k_ => some k_ ≠ (s_.2.2.1 : Value).ownBlock ∧ some k_ ≠ (.slice Ao35 t154.length co35 : Value).ownBlock) (.slice Ao37 t160.length co37) t160) ∧ (w'.heap[gb159]? = some (.cells #[.int .i64 t157, .int .i64 t158] 27 (0, 0))) ∧ (w'.heap[gb165]? = some (.cells #[.int .i64 t163, .int .i64 t164] 27 (0, 0))) ∧ (w'.heap[gb181]? = some (.cells #[.int .i64 t179, .int .i64 t180] 27 (0, 0))) ∧ (Below w.heap.size w w')) ?_ ?_
                                        rotate_left
                                        · intro hJ0_2_6_7
                                          refine join_ (σ := Value × Value × Value × Nat) 6 #[true, true, true, true, true, true, true, false, false, false, false, true, false, false] (fun s_ => [(90, s_.1), (92, s_.2.1), (96, s_.2.2.1), (15, .pointer (some ⟨s_.2.2.2, 0, none⟩))]) (fun s_ w' => (Kd.R (Kd.int .u8) 5 w' w.heap.size (fun k_ => some k_ ≠ (.slice Ao35 t154.length co35 : Value).ownBlock ∧ some k_ ≠ (.slice Ao37 t160.length co37 : Value).ownBlock) s_.2.2.1 y203) ∧ (Kd.R (Kd.int .u8) 5 w' w.heap.size (fun k_ => some k_ ≠ (s_.2.2.1 : Value).ownBlock ∧ some k_ ≠ (.slice Ao37 t160.length co37 : Value).ownBlock) (.slice Ao35 t154.length co35) t154) ∧ (Kd.R (Kd.int .u8) 5 w' w.heap.size (fun k_ => some k_ ≠ (s_.2.2.1 : Value).ownBlock ∧ some k_ ≠ (.slice Ao35 t154.length co35 : Value).ownBlock) (.slice Ao37 t160.length co37) t160) ∧ (w'.heap[gb159]? = some (.cells #[.int .i64 t157, .int .i64 t158] 27 (0, 0))) ∧ (w'.heap[gb165]? = some (.cells #[.int .i64 t163, .int .i64 t164] 27 (0, 0))) ∧ (w'.heap[gb181]? = some (.cells #[.int .i64 t179, .int .i64 t180] 27 (0, 0))) ∧ (w'.heap[s_.2.2.2]? = some (.cells #[.int .i64 0, .int .i64 0] 27 (0, 0))) ∧ (w.heap.size ≤ s_.2.2.2) ∧ (w.heap.size ≤ s_.2.2.2) ∧ (gb159 ≠ s_.2.2.2) ∧ (s_.2.2.2 ≠ gb159) ∧ (gb165 ≠ s_.2.2.2) ∧ (s_.2.2.2 ≠ gb165) ∧ (gb181 ≠ s_.2.2.2) ∧ (s_.2.2.2 ≠ gb181) ∧ (Below w.heap.size w w')) ?_ ?_
                                          rotate_left
                                          · intro hJ0_2_6_11
                                            refine join_ (σ := Value × Value × Value) 7 #[true, true, true, true, true, true, true, false, false, false, false, false, false, false] (fun s_ => [(90, s_.1), (92, s_.2.1), (96, s_.2.2)]) (fun s_ w' => (Kd.R (Kd.int .u8) 5 w' w.heap.size (fun k_ => some k_ ≠ (.slice Ao35 t154.length co35 : Value).ownBlock ∧ some k_ ≠ (.slice Ao37 t160.length co37 : Value).ownBlock) s_.2.2 y203) ∧ (Kd.R (Kd.int .u8) 5 w' w.heap.size (fun k_ => some k_ ≠ (s_.2.2 : Value).ownBlock ∧ some k_ ≠ (.slice Ao37 t160.length co37 : Value).ownBlock) (.slice Ao35 t154.length co35) t154) ∧ (Kd.R (Kd.int .u8) 5 w' w.heap.size (fun k_ => some k_ ≠ (s_.2.2 : Value).ownBlock ∧ some k_ ≠ (.slice Ao35 t154.length co35 : Value).ownBlock) (.slice Ao37 t160.length co37) t160) ∧ (w'.heap[gb159]? = some (.cells #[.int .i64 t157, .int .i64 t158] 27 (0, 0))) ∧ (w'.heap[gb165]? = some (.cells #[.int .i64 t163, .int .i64 t164] 27 (0, 0))) ∧ (w'.heap[gb181]? = some (.cells #[.int .i64 t179, .int .i64 t180] 27 (0, 0))) ∧ (Below w.heap.size w w')) ?_ ?_
                                            rotate_left
                                            · intro hJ0_2_6
                                              refine join_ (σ := Value × Value × Nat) 7 #[true, true, true, true, true, true, false, false, false, false, false, true, false, false] (fun s_ => [(90, s_.1), (92, s_.2.1), (15, .pointer (some ⟨s_.2.2, 0, none⟩))]) (fun s_ w' => (Kd.R (Kd.int .u8) 5 w' w.heap.size (fun k_ => some k_ ≠ (.slice Ao35 t154.length co35 : Value).ownBlock ∧ some k_ ≠ (.slice Ao37 t160.length co37 : Value).ownBlock) s_.2.1 y200) ∧ (Kd.R (Kd.int .u8) 5 w' w.heap.size (fun k_ => some k_ ≠ (s_.2.1 : Value).ownBlock ∧ some k_ ≠ (.slice Ao37 t160.length co37 : Value).ownBlock) (.slice Ao35 t154.length co35) t154) ∧ (Kd.R (Kd.int .u8) 5 w' w.heap.size (fun k_ => some k_ ≠ (s_.2.1 : Value).ownBlock ∧ some k_ ≠ (.slice Ao35 t154.length co35 : Value).ownBlock) (.slice Ao37 t160.length co37) t160) ∧ (w'.heap[gb159]? = some (.cells #[.int .i64 t157, .int .i64 t158] 27 (0, 0))) ∧ (w'.heap[gb165]? = some (.cells #[.int .i64 t163, .int .i64 t164] 27 (0, 0))) ∧ (w'.heap[gb181]? = some (.cells #[.int .i64 t179, .int .i64 t180] 27 (0, 0))) ∧ (w'.heap[s_.2.2]? = some (.cells #[.int .i64 0, .int .i64 0] 27 (0, 0))) ∧ (w.heap.size ≤ s_.2.2) ∧ (w.heap.size ≤ s_.2.2) ∧ (gb159 ≠ s_.2.2) ∧ (s_.2.2 ≠ gb159) ∧ (gb165 ≠ s_.2.2) ∧ (s_.2.2 ≠ gb165) ∧ (gb181 ≠ s_.2.2) ∧ (s_.2.2 ≠ gb181) ∧ (Below w.heap.size w w')) ?_ ?_
                                              rotate_left
                                              · intro hJ0_2_11
                                                refine join_ (σ := Value × Value) 8 #[true, true, true, true, true, true, false, false, false, false, false, false, false, false] (fun s_ => [(90, s_.1), (92, s_.2)]) (fun s_ w' => (Kd.R (Kd.int .u8) 5 w' w.heap.size (fun k_ => some k_ ≠ (.slice Ao35 t154.length co35 : Value).ownBlock ∧ some k_ ≠ (.slice Ao37 t160.length co37 : Value).ownBlock) s_.2 y200) ∧ (Kd.R (Kd.int .u8) 5 w' w.heap.size (fun k_ => some k_ ≠ (s_.2 : Value).ownBlock ∧ some k_ ≠ (.slice Ao37 t160.length co37 : Value).ownBlock) (.slice Ao35 t154.length co35) t154) ∧ (Kd.R (Kd.int .u8) 5 w' w.heap.size (fun k_ => some k_ ≠ (s_.2 : Value).ownBlock ∧ some k_ ≠ (.slice Ao35 t154.length co35 : Value).ownBlock) (.slice Ao37 t160.length co37) t160) ∧ (w'.heap[gb159]? = some (.cells #[.int .i64 t157, .int .i64 t158] 27 (0, 0))) ∧ (w'.heap[gb165]? = some (.cells #[.int .i64 t163, .int .i64 t164] 27 (0, 0))) ∧ (w'.heap[gb181]? = some (.cells #[.int .i64 t179, .int .i64 t180] 27 (0, 0))) ∧ (Below w.heap.size w w')) ?_ ?_
                                                rotate_left
                                                · intro hJ0_2
                                                  refine join_ (σ := Value × Nat) 8 #[true, true, false, true, true, true, false, false, false, false, false, true, false, false] (fun s_ => [(90, s_.1), (15, .pointer (some ⟨s_.2, 0, none⟩))]) (fun s_ w' => (Kd.R (Kd.int .u8) 5 w' w.heap.size (fun k_ => some k_ ≠ (.slice Ao35 t154.length co35 : Value).ownBlock ∧ some k_ ≠ (.slice Ao37 t160.length co37 : Value).ownBlock) s_.1 y197) ∧ (Kd.R (Kd.int .u8) 5 w' w.heap.size (fun k_ => some k_ ≠ (s_.1 : Value).ownBlock ∧ some k_ ≠ (.slice Ao37 t160.length co37 : Value).ownBlock) (.slice Ao35 t154.length co35) t154) ∧ (Kd.R (Kd.int .u8) 5 w' w.heap.size (fun k_ => some k_ ≠ (s_.1 : Value).ownBlock ∧ some k_ ≠ (.slice Ao35 t154.length co35 : Value).ownBlock) (.slice Ao37 t160.length co37) t160) ∧ (w'.heap[gb159]? = some (.cells #[.int .i64 t157, .int .i64 t158] 27 (0, 0))) ∧ (w'.heap[gb165]? = some (.cells #[.int .i64 t163, .int .i64 t164] 27 (0, 0))) ∧ (w'.heap[gb181]? = some (.cells #[.int .i64 t179, .int .i64 t180] 27 (0, 0))) ∧ (w'.heap[s_.2]? = some (.cells #[.int .i64 0, .int .i64 0] 27 (0, 0))) ∧ (w.heap.size ≤ s_.2) ∧ (w.heap.size ≤ s_.2) ∧ (gb159 ≠ s_.2) ∧ (s_.2 ≠ gb159) ∧ (gb165 ≠ s_.2) ∧ (s_.2 ≠ gb165) ∧ (gb181 ≠ s_.2) ∧ (s_.2 ≠ gb181) ∧ (Below w.heap.size w w')) ?_ ?_
                                                  rotate_left
                                                  · intro hJ0_11
                                                    refine join_ (σ := Value) 9 #[true, true, false, true, true, true, false, false, false, false, false, false, false, false] (fun s_ => [(90, s_)]) (fun s_ w' => (Kd.R (Kd.int .u8) 5 w' w.heap.size (fun k_ => some k_ ≠ (.slice Ao35 t154.length co35 : Value).ownBlock ∧ some k_ ≠ (.slice Ao37 t160.length co37 : Value).ownBlock) s_ y197) ∧ (Kd.R (Kd.int .u8) 5 w' w.heap.size (fun k_ => some k_ ≠ (s_ : Value).ownBlock ∧ some k_ ≠ (.slice Ao37 t160.length co37 : Value).ownBlock) (.slice Ao35 t154.length co35) t154) ∧ (Kd.R (Kd.int .u8) 5 w' w.heap.size (fun k_ => some k_ ≠ (s_ : Value).ownBlock ∧ some k_ ≠ (.slice Ao35 t154.length co35 : Value).ownBlock) (.slice Ao37 t160.length co37) t160) ∧ (w'.heap[gb159]? = some (.cells #[.int .i64 t157, .int .i64 t158] 27 (0, 0))) ∧ (w'.heap[gb165]? = some (.cells #[.int .i64 t163, .int .i64 t164] 27 (0, 0))) ∧ (w'.heap[gb181]? = some (.cells #[.int .i64 t179, .int .i64 t180] 27 (0, 0))) ∧ (Below w.heap.size w w')) ?_ ?_
                                                    rotate_left
                                                    · intro hJ0
                                                      refine join_ (σ := Nat) 9 #[false, true, false, true, true, true, false, false, false, false, false, true, false, false] (fun s_ => [(15, .pointer (some ⟨s_, 0, none⟩))]) (fun s_ w' => (Kd.R (Kd.int .u8) 5 w' w.heap.size (fun k_ => some k_ ≠ (.slice Ao37 t160.length co37 : Value).ownBlock) (.slice Ao35 t154.length co35) t154) ∧ (Kd.R (Kd.int .u8) 5 w' w.heap.size (fun k_ => some k_ ≠ (.slice Ao35 t154.length co35 : Value).ownBlock) (.slice Ao37 t160.length co37) t160) ∧ (w'.heap[gb159]? = some (.cells #[.int .i64 t157, .int .i64 t158] 27 (0, 0))) ∧ (w'.heap[gb165]? = some (.cells #[.int .i64 t163, .int .i64 t164] 27 (0, 0))) ∧ (w'.heap[gb181]? = some (.cells #[.int .i64 t179, .int .i64 t180] 27 (0, 0))) ∧ (w'.heap[s_]? = some (.cells #[.int .i64 0, .int .i64 0] 27 (0, 0))) ∧ (w.heap.size ≤ s_) ∧ (w.heap.size ≤ s_) ∧ (gb159 ≠ s_) ∧ (s_ ≠ gb159) ∧ (gb165 ≠ s_) ∧ (s_ ≠ gb165) ∧ (gb181 ≠ s_) ∧ (s_ ≠ gb181) ∧ (Below w.heap.size w w')) ?_ ?_
                                                      rotate_left
                                                      · intro hJ11
                                                        refine two_ (i := 0) (j := 11) (Ni := some 90) (Nj := some 15) #[true, true, false, true, true, true, false, false, false, false, false, false, false, false] #[false, true, false, true, true, true, false, false, false, false, false, true, false, false] rfl rfl rfl rfl (two_of HT_.out (by kernel_rfl)) (by decide) (by decide) (fun K hK => ?_) (fun K hK => ?_)
                                                        · skip
                                                          refine Kd.R_lit_step (Kd.int .u8) _ 5 ?hg (N := 90) ?hd (xs := ([] : List Int)) (inner := []) (ok := fun _ => True) (okp := fun _ => True) ?hr ?hp (fun _ hk => hk) trivial (Below.refl _ _) (Nat.le_refl _) (by simp) ?_; (case hd => rfl); (case hg => rfl); (case hr => first | (go_simp; done) | (go_simp; rfl)); (case hp => exact (Reps.none _ _))
                                                          intro v198 w78 ho79 hb hg_ hnew_
                                                          clear hg_ hnew_
                                                          (first | rw [← Ny197.out] at ho79 | (simp only [Int.reduceToNat] at ho79; rw [← Ny197.out] at ho79))
                                                          have n0_ := Aside0.mk (Kd.R_elder' (by (with_reducible repeat (first | apply Kd.R_alloc | apply Kd.R_drewN | apply Kd.R_drew)); exact HO_7.out) (Kd.R_base ho79) hb)
                                                          have n1_ := Aside0.mk (Kd.R_elder' (by (with_reducible repeat (first | apply Kd.R_alloc | apply Kd.R_drewN | apply Kd.R_drew)); exact HO_9.out) (Kd.R_base ho79) hb)
                                                          have n2_ := Aside0.mk (Kd.R_lower (Kd.R_new' (Kd.R_new' ho79 (Kd.R_lt (by (with_reducible repeat (first | apply Kd.R_alloc | apply Kd.R_drewN | apply Kd.R_drew)); exact HO_7.out))) (Kd.R_lt (by (with_reducible repeat (first | apply Kd.R_alloc | apply Kd.R_drewN | apply Kd.R_drew)); exact HO_9.out))) (below_size (by repeat (first | (with_reducible first | exact HB.out | apply below_alloc | apply pw_below_drewN | apply below_drew1 | refine below_set ?_ GE159.out | refine below_set ?_ GE165.out | refine below_set ?_ GE181.out) | exact HB.out))))
                                                          have n3_ := Aside0.mk (blk_below (g := gb159) (o := .cells #[.int .i64 t157, .int .i64 t158] 27 (0, 0)) (by (with_reducible repeat (first | refine blk_drewN ?_ _ | refine blk_drew ?_ | refine blk_alloc ?_ _)); exact BK159.out) hb)
                                                          have n4_ := Aside0.mk (blk_below (g := gb165) (o := .cells #[.int .i64 t163, .int .i64 t164] 27 (0, 0)) (by (with_reducible repeat (first | refine blk_drewN ?_ _ | refine blk_drew ?_ | refine blk_alloc ?_ _)); exact BK165.out) hb)
                                                          have n5_ := Aside0.mk (blk_below (g := gb181) (o := .cells #[.int .i64 t179, .int .i64 t180] 27 (0, 0)) (by (with_reducible repeat (first | refine blk_drewN ?_ _ | refine blk_drew ?_ | refine blk_alloc ?_ _)); exact BK181.out) hb)
                                                          have n6_ := Aside0.mk (below_step (by repeat (first | (with_reducible first | exact HB.out | apply below_alloc | apply pw_below_drewN | apply below_drew1 | refine below_set ?_ GE159.out | refine below_set ?_ GE165.out | refine below_set ?_ GE181.out) | exact HB.out)) hb)
                                                          clear HO_7
                                                          clear HO_9
                                                          clear BK159
                                                          clear BK165
                                                          clear BK181
                                                          clear HB
                                                          have HO_7 := n0_
                                                          have HO_9 := n1_
                                                          have HO199 := n2_
                                                          have BK159 := n3_
                                                          have BK165 := n4_
                                                          have BK181 := n5_
                                                          have HB := n6_
                                                          clear n0_ n1_ n2_ n3_ n4_ n5_ n6_
                                                          clear hb ho79
                                                          refine hK.out _ _ trivial (fun hHeld => ?_)
                                                          clear hK K
                                                          refine norm_ (a' := ?_) ?_ ?_
                                                          rotate_left
                                                          · show Act.put _ (some 90) _ = _
                                                            simp only [Act.put, List.setIfInBounds_toArray, List.set_cons_zero, List.set_cons_succ, i64_w, i32_w]
                                                            rfl
                                                          exact norm_ (by first | (simp only [putAll, Act.put, List.setIfInBounds_toArray, List.set_cons_zero, List.set_cons_succ]; done) | (simp only [putAll, Act.put, List.setIfInBounds_toArray, List.set_cons_zero, List.set_cons_succ]; rfl)) (hJ0 (v198) _ ⟨(by (with_reducible repeat (first | apply Kd.R_alloc | apply Kd.R_drewN | apply Kd.R_drew)); exact Kd.R_mono HO199.out (fun _ hk => ⟨hk.1.2, hk.2⟩)), (by (with_reducible repeat (first | apply Kd.R_alloc | apply Kd.R_drewN | apply Kd.R_drew)); exact Kd.R_mono HO_7.out (fun _ hk => ⟨hk.2, hk.1⟩)), (by (with_reducible repeat (first | apply Kd.R_alloc | apply Kd.R_drewN | apply Kd.R_drew)); exact Kd.R_mono HO_9.out (fun _ hk => ⟨hk.2, hk.1⟩)), (by (with_reducible repeat (first | refine blk_drewN ?_ _ | refine blk_drew ?_ | refine blk_alloc ?_ _)); exact BK159.out), (by (with_reducible repeat (first | refine blk_drewN ?_ _ | refine blk_drew ?_ | refine blk_alloc ?_ _)); exact BK165.out), (by (with_reducible repeat (first | refine blk_drewN ?_ _ | refine blk_drew ?_ | refine blk_alloc ?_ _)); exact BK181.out), (by repeat (first | (with_reducible first | exact HB.out | apply below_alloc | apply pw_below_drewN | apply below_drew1 | refine below_set ?_ GE159.out | refine below_set ?_ GE165.out | refine below_set ?_ GE181.out) | exact HB.out))⟩)
                                                        · skip
                                                          refine box_step ?hg (N := 15) ?hd (cs := #[.int .i64 0, .int .i64 0]) (t := 27) ?hr ?_; (case hd => rfl); (case hg => rfl); (case hr => first | (go_simp; done) | (go_simp; rfl))
                                                          intro gb211 hg w78 hbox hb
                                                          have n0_ := Aside0.mk (Kd.R_below (by (with_reducible repeat (first | apply Kd.R_alloc | apply Kd.R_drewN | apply Kd.R_drew)); exact HO_7.out) hb)
                                                          have n1_ := Aside0.mk (Kd.R_below (by (with_reducible repeat (first | apply Kd.R_alloc | apply Kd.R_drewN | apply Kd.R_drew)); exact HO_9.out) hb)
                                                          have n2_ := Aside0.mk (blk_below (g := gb159) (o := .cells #[.int .i64 t157, .int .i64 t158] 27 (0, 0)) (by (with_reducible repeat (first | refine blk_drewN ?_ _ | refine blk_drew ?_ | refine blk_alloc ?_ _)); exact BK159.out) hb)
                                                          have n3_ := Aside0.mk (blk_below (g := gb165) (o := .cells #[.int .i64 t163, .int .i64 t164] 27 (0, 0)) (by (with_reducible repeat (first | refine blk_drewN ?_ _ | refine blk_drew ?_ | refine blk_alloc ?_ _)); exact BK165.out) hb)
                                                          have n4_ := Aside0.mk (blk_below (g := gb181) (o := .cells #[.int .i64 t179, .int .i64 t180] 27 (0, 0)) (by (with_reducible repeat (first | refine blk_drewN ?_ _ | refine blk_drew ?_ | refine blk_alloc ?_ _)); exact BK181.out) hb)
                                                          have n5_ := Aside0.mk (below_step (by repeat (first | (with_reducible first | exact HB.out | apply below_alloc | apply pw_below_drewN | apply below_drew1 | refine below_set ?_ GE159.out | refine below_set ?_ GE165.out | refine below_set ?_ GE181.out) | exact HB.out)) hb)
                                                          have n6_ := Aside0.mk (hbox)
                                                          have n7_ := Aside0.mk ((by rw [hg]; exact (below_size (by repeat (first | (with_reducible first | exact HB.out | apply below_alloc | apply pw_below_drewN | apply below_drew1 | refine below_set ?_ GE159.out | refine below_set ?_ GE165.out | refine below_set ?_ GE181.out) | exact HB.out))) : w.heap.size ≤ gb211))
                                                          have n8_ := Aside0.mk ((by rw [hg]; exact (below_size (by repeat (first | (with_reducible first | exact HB.out | apply below_alloc | apply pw_below_drewN | apply below_drew1 | refine below_set ?_ GE159.out | refine below_set ?_ GE165.out | refine below_set ?_ GE181.out) | exact HB.out))) : w.heap.size ≤ gb211))
                                                          have n9_ := Aside0.mk ((by rw [hg]; exact Nat.ne_of_lt (blk_lt (g := gb159) (o := .cells #[.int .i64 t157, .int .i64 t158] 27 (0, 0)) (by (with_reducible repeat (first | refine blk_drewN ?_ _ | refine blk_drew ?_ | refine blk_alloc ?_ _)); exact BK159.out)) : gb159 ≠ gb211))
                                                          have n10_ := Aside0.mk ((by rw [hg]; exact Nat.ne_of_gt (blk_lt (g := gb159) (o := .cells #[.int .i64 t157, .int .i64 t158] 27 (0, 0)) (by (with_reducible repeat (first | refine blk_drewN ?_ _ | refine blk_drew ?_ | refine blk_alloc ?_ _)); exact BK159.out)) : gb211 ≠ gb159))
                                                          have n11_ := Aside0.mk ((by rw [hg]; exact Nat.ne_of_lt (blk_lt (g := gb165) (o := .cells #[.int .i64 t163, .int .i64 t164] 27 (0, 0)) (by (with_reducible repeat (first | refine blk_drewN ?_ _ | refine blk_drew ?_ | refine blk_alloc ?_ _)); exact BK165.out)) : gb165 ≠ gb211))
                                                          have n12_ := Aside0.mk ((by rw [hg]; exact Nat.ne_of_gt (blk_lt (g := gb165) (o := .cells #[.int .i64 t163, .int .i64 t164] 27 (0, 0)) (by (with_reducible repeat (first | refine blk_drewN ?_ _ | refine blk_drew ?_ | refine blk_alloc ?_ _)); exact BK165.out)) : gb211 ≠ gb165))
                                                          have n13_ := Aside0.mk ((by rw [hg]; exact Nat.ne_of_lt (blk_lt (g := gb181) (o := .cells #[.int .i64 t179, .int .i64 t180] 27 (0, 0)) (by (with_reducible repeat (first | refine blk_drewN ?_ _ | refine blk_drew ?_ | refine blk_alloc ?_ _)); exact BK181.out)) : gb181 ≠ gb211))
                                                          have n14_ := Aside0.mk ((by rw [hg]; exact Nat.ne_of_gt (blk_lt (g := gb181) (o := .cells #[.int .i64 t179, .int .i64 t180] 27 (0, 0)) (by (with_reducible repeat (first | refine blk_drewN ?_ _ | refine blk_drew ?_ | refine blk_alloc ?_ _)); exact BK181.out)) : gb211 ≠ gb181))
                                                          clear HO_7
                                                          clear HO_9
                                                          clear BK159
                                                          clear BK165
                                                          clear BK181
                                                          clear HB
                                                          have HO_7 := n0_
                                                          have HO_9 := n1_
                                                          have BK159 := n2_
                                                          have BK165 := n3_
                                                          have BK181 := n4_
                                                          have HB := n5_
                                                          have BK211 := n6_
                                                          have GW211 := n7_
                                                          have GE211 := n8_
                                                          have NB159_211 := n9_
                                                          have NB211_159 := n10_
                                                          have NB165_211 := n11_
                                                          have NB211_165 := n12_
                                                          have NB181_211 := n13_
                                                          have NB211_181 := n14_
                                                          clear n0_ n1_ n2_ n3_ n4_ n5_ n6_ n7_ n8_ n9_ n10_ n11_ n12_ n13_ n14_
                                                          clear hb hbox hg
                                                          refine hK.out _ _ trivial (fun hHeld => ?_)
                                                          clear hK K
                                                          refine norm_ (a' := ?_) ?_ ?_
                                                          rotate_left
                                                          · show Act.put _ (some 15) _ = _
                                                            simp only [Act.put, List.setIfInBounds_toArray, List.set_cons_zero, List.set_cons_succ, i64_w, i32_w]
                                                            rfl
                                                          exact norm_ (by first | (simp only [putAll, Act.put, List.setIfInBounds_toArray, List.set_cons_zero, List.set_cons_succ]; done) | (simp only [putAll, Act.put, List.setIfInBounds_toArray, List.set_cons_zero, List.set_cons_succ]; rfl)) (hJ11 (gb211) _ ⟨(by (with_reducible repeat (first | apply Kd.R_alloc | apply Kd.R_drewN | apply Kd.R_drew)); exact HO_7.out), (by (with_reducible repeat (first | apply Kd.R_alloc | apply Kd.R_drewN | apply Kd.R_drew)); exact HO_9.out), (by (with_reducible repeat (first | refine blk_drewN ?_ _ | refine blk_drew ?_ | refine blk_alloc ?_ _)); exact BK159.out), (by (with_reducible repeat (first | refine blk_drewN ?_ _ | refine blk_drew ?_ | refine blk_alloc ?_ _)); exact BK165.out), (by (with_reducible repeat (first | refine blk_drewN ?_ _ | refine blk_drew ?_ | refine blk_alloc ?_ _)); exact BK181.out), (by (with_reducible repeat (first | refine blk_drewN ?_ _ | refine blk_drew ?_ | refine blk_alloc ?_ _)); exact BK211.out), GW211.out, GE211.out, NB159_211.out, NB211_159.out, NB165_211.out, NB211_165.out, NB181_211.out, NB211_181.out, (by repeat (first | (with_reducible first | exact HB.out | apply below_alloc | apply pw_below_drewN | apply below_drew1 | refine below_set ?_ GE159.out | refine below_set ?_ GE165.out | refine below_set ?_ GE181.out | refine below_set ?_ GE211.out) | exact HB.out))⟩)
                                                      · skip
                                                        rintro gb211 w79 ⟨h0_, h1_, h2_, h3_, h4_, h5_, h6_, h7_, h8_, h9_, h10_, h11_, h12_, h13_, h14_⟩
                                                        have n0_ : Aside0 (Kd.R (Kd.int .u8) 5 w79 w.heap.size (fun k_ => some k_ ≠ (.slice Ao37 t160.length co37 : Value).ownBlock) (.slice Ao35 t154.length co35) t154) := ⟨h0_⟩
                                                        have n1_ : Aside0 (Kd.R (Kd.int .u8) 5 w79 w.heap.size (fun k_ => some k_ ≠ (.slice Ao35 t154.length co35 : Value).ownBlock) (.slice Ao37 t160.length co37) t160) := ⟨h1_⟩
                                                        have n2_ : Aside0 (w79.heap[gb159]? = some (.cells #[.int .i64 t157, .int .i64 t158] 27 (0, 0))) := ⟨h2_⟩
                                                        have n3_ : Aside0 (w79.heap[gb165]? = some (.cells #[.int .i64 t163, .int .i64 t164] 27 (0, 0))) := ⟨h3_⟩
                                                        have n4_ : Aside0 (w79.heap[gb181]? = some (.cells #[.int .i64 t179, .int .i64 t180] 27 (0, 0))) := ⟨h4_⟩
                                                        have n5_ : Aside0 (w79.heap[gb211]? = some (.cells #[.int .i64 0, .int .i64 0] 27 (0, 0))) := ⟨h5_⟩
                                                        have n6_ : Aside0 (w.heap.size ≤ gb211) := ⟨h6_⟩
                                                        have n7_ : Aside0 (w.heap.size ≤ gb211) := ⟨h7_⟩
                                                        have n8_ : Aside0 (gb159 ≠ gb211) := ⟨h8_⟩
                                                        have n9_ : Aside0 (gb211 ≠ gb159) := ⟨h9_⟩
                                                        have n10_ : Aside0 (gb165 ≠ gb211) := ⟨h10_⟩
                                                        have n11_ : Aside0 (gb211 ≠ gb165) := ⟨h11_⟩
                                                        have n12_ : Aside0 (gb181 ≠ gb211) := ⟨h12_⟩
                                                        have n13_ : Aside0 (gb211 ≠ gb181) := ⟨h13_⟩
                                                        have n14_ : Aside0 (Below w.heap.size w w79) := ⟨h14_⟩
                                                        clear HO_7
                                                        clear HO_9
                                                        clear BK159
                                                        clear BK165
                                                        clear BK181
                                                        clear HB
                                                        clear h0_ h1_ h2_ h3_ h4_ h5_ h6_ h7_ h8_ h9_ h10_ h11_ h12_ h13_ h14_
                                                        have HO_7 := n0_
                                                        have HO_9 := n1_
                                                        have BK159 := n2_
                                                        have BK165 := n3_
                                                        have BK181 := n4_
                                                        have BK211 := n5_
                                                        have GW211 := n6_
                                                        have GE211 := n7_
                                                        have NB159_211 := n8_
                                                        have NB211_159 := n9_
                                                        have NB165_211 := n10_
                                                        have NB211_165 := n11_
                                                        have NB181_211 := n12_
                                                        have NB211_181 := n13_
                                                        have HB := n14_
                                                        clear n0_ n1_ n2_ n3_ n4_ n5_ n6_ n7_ n8_ n9_ n10_ n11_ n12_ n13_ n14_
                                                        have hHeld := trivial
                                                        refine norm_ (a' := ?_) ?_ ?_
                                                        rotate_left
                                                        · simp only [putAll, Act.put, List.setIfInBounds_toArray, List.set_cons_zero, List.set_cons_succ]
                                                          rfl
                                                        refine one_ (i := 0) (N := some 90) #[true, true, false, true, true, true, false, false, false, false, false, true, false, false] rfl rfl (one_of HT_.out (by kernel_rfl)) (by decide) (fun K hK => ?_)
                                                        refine Kd.R_lit_step (Kd.int .u8) _ 5 ?hg (N := 90) ?hd (xs := ([] : List Int)) (inner := []) (ok := fun _ => True) (okp := fun _ => True) ?hr ?hp (fun _ hk => hk) trivial (Below.refl _ _) (Nat.le_refl _) (by simp) ?_; (case hd => rfl); (case hg => rfl); (case hr => first | (go_simp; done) | (go_simp; rfl)); (case hp => exact (Reps.none _ _))
                                                        intro v198 w80 ho81 hb hg_ hnew_
                                                        clear hg_ hnew_
                                                        (first | rw [← Ny197.out] at ho81 | (simp only [Int.reduceToNat] at ho81; rw [← Ny197.out] at ho81))
                                                        have n0_ := Aside0.mk (Kd.R_elder' (by (with_reducible repeat (first | apply Kd.R_alloc | apply Kd.R_drewN | apply Kd.R_drew)); exact HO_7.out) (Kd.R_base ho81) hb)
                                                        have n1_ := Aside0.mk (Kd.R_elder' (by (with_reducible repeat (first | apply Kd.R_alloc | apply Kd.R_drewN | apply Kd.R_drew)); exact HO_9.out) (Kd.R_base ho81) hb)
                                                        have n2_ := Aside0.mk (Kd.R_lower (Kd.R_new' (Kd.R_new' ho81 (Kd.R_lt (by (with_reducible repeat (first | apply Kd.R_alloc | apply Kd.R_drewN | apply Kd.R_drew)); exact HO_7.out))) (Kd.R_lt (by (with_reducible repeat (first | apply Kd.R_alloc | apply Kd.R_drewN | apply Kd.R_drew)); exact HO_9.out))) (below_size (by repeat (first | (with_reducible first | exact HB.out | apply below_alloc | apply pw_below_drewN | apply below_drew1 | refine below_set ?_ GE159.out | refine below_set ?_ GE165.out | refine below_set ?_ GE181.out | refine below_set ?_ GE211.out) | exact HB.out))))
                                                        have n3_ := Aside0.mk (blk_below (g := gb159) (o := .cells #[.int .i64 t157, .int .i64 t158] 27 (0, 0)) (by (with_reducible repeat (first | refine blk_drewN ?_ _ | refine blk_drew ?_ | refine blk_alloc ?_ _)); exact BK159.out) hb)
                                                        have n4_ := Aside0.mk (blk_below (g := gb165) (o := .cells #[.int .i64 t163, .int .i64 t164] 27 (0, 0)) (by (with_reducible repeat (first | refine blk_drewN ?_ _ | refine blk_drew ?_ | refine blk_alloc ?_ _)); exact BK165.out) hb)
                                                        have n5_ := Aside0.mk (blk_below (g := gb181) (o := .cells #[.int .i64 t179, .int .i64 t180] 27 (0, 0)) (by (with_reducible repeat (first | refine blk_drewN ?_ _ | refine blk_drew ?_ | refine blk_alloc ?_ _)); exact BK181.out) hb)
                                                        have n6_ := Aside0.mk (blk_below (g := gb211) (o := .cells #[.int .i64 0, .int .i64 0] 27 (0, 0)) (by (with_reducible repeat (first | refine blk_drewN ?_ _ | refine blk_drew ?_ | refine blk_alloc ?_ _)); exact BK211.out) hb)
                                                        have n7_ := Aside0.mk (below_step (by repeat (first | (with_reducible first | exact HB.out | apply below_alloc | apply pw_below_drewN | apply below_drew1 | refine below_set ?_ GE159.out | refine below_set ?_ GE165.out | refine below_set ?_ GE181.out | refine below_set ?_ GE211.out) | exact HB.out)) hb)
                                                        clear HO_7
                                                        clear HO_9
                                                        clear BK159
                                                        clear BK165
                                                        clear BK181
                                                        clear BK211
                                                        clear HB
                                                        have HO_7 := n0_
                                                        have HO_9 := n1_
                                                        have HO199 := n2_
                                                        have BK159 := n3_
                                                        have BK165 := n4_
                                                        have BK181 := n5_
                                                        have BK211 := n6_
                                                        have HB := n7_
                                                        clear n0_ n1_ n2_ n3_ n4_ n5_ n6_ n7_
                                                        clear hb ho81
                                                        refine hK.out _ _ trivial (fun hHeld => ?_)
                                                        clear hK K
                                                        refine norm_ (a' := ?_) ?_ ?_
                                                        rotate_left
                                                        · show Act.put _ (some 90) _ = _
                                                          simp only [Act.put, List.setIfInBounds_toArray, List.set_cons_zero, List.set_cons_succ, i64_w, i32_w]
                                                          rfl
                                                        exact norm_ (by first | (simp only [putAll, Act.put, List.setIfInBounds_toArray, List.set_cons_zero, List.set_cons_succ]; done) | (simp only [putAll, Act.put, List.setIfInBounds_toArray, List.set_cons_zero, List.set_cons_succ]; rfl)) (hJ0_11 (v198, gb211) _ ⟨(by (with_reducible repeat (first | apply Kd.R_alloc | apply Kd.R_drewN | apply Kd.R_drew)); exact Kd.R_mono HO199.out (fun _ hk => ⟨hk.1.2, hk.2⟩)), (by (with_reducible repeat (first | apply Kd.R_alloc | apply Kd.R_drewN | apply Kd.R_drew)); exact Kd.R_mono HO_7.out (fun _ hk => ⟨hk.2, hk.1⟩)), (by (with_reducible repeat (first | apply Kd.R_alloc | apply Kd.R_drewN | apply Kd.R_drew)); exact Kd.R_mono HO_9.out (fun _ hk => ⟨hk.2, hk.1⟩)), (by (with_reducible repeat (first | refine blk_drewN ?_ _ | refine blk_drew ?_ | refine blk_alloc ?_ _)); exact BK159.out), (by (with_reducible repeat (first | refine blk_drewN ?_ _ | refine blk_drew ?_ | refine blk_alloc ?_ _)); exact BK165.out), (by (with_reducible repeat (first | refine blk_drewN ?_ _ | refine blk_drew ?_ | refine blk_alloc ?_ _)); exact BK181.out), (by (with_reducible repeat (first | refine blk_drewN ?_ _ | refine blk_drew ?_ | refine blk_alloc ?_ _)); exact BK211.out), GW211.out, GE211.out, NB159_211.out, NB211_159.out, NB165_211.out, NB211_165.out, NB181_211.out, NB211_181.out, (by repeat (first | (with_reducible first | exact HB.out | apply below_alloc | apply pw_below_drewN | apply below_drew1 | refine below_set ?_ GE159.out | refine below_set ?_ GE165.out | refine below_set ?_ GE181.out | refine below_set ?_ GE211.out) | exact HB.out))⟩)
                                                    · skip
                                                      rintro v198 w80 ⟨h0_, h1_, h2_, h3_, h4_, h5_, h6_⟩
                                                      have n0_ : Aside0 (Kd.R (Kd.int .u8) 5 w80 w.heap.size (fun k_ => some k_ ≠ (.slice Ao35 t154.length co35 : Value).ownBlock ∧ some k_ ≠ (.slice Ao37 t160.length co37 : Value).ownBlock) v198 y197) := ⟨h0_⟩
                                                      have n1_ : Aside0 (Kd.R (Kd.int .u8) 5 w80 w.heap.size (fun k_ => some k_ ≠ (v198 : Value).ownBlock ∧ some k_ ≠ (.slice Ao37 t160.length co37 : Value).ownBlock) (.slice Ao35 t154.length co35) t154) := ⟨h1_⟩
                                                      have n2_ : Aside0 (Kd.R (Kd.int .u8) 5 w80 w.heap.size (fun k_ => some k_ ≠ (v198 : Value).ownBlock ∧ some k_ ≠ (.slice Ao35 t154.length co35 : Value).ownBlock) (.slice Ao37 t160.length co37) t160) := ⟨h2_⟩
                                                      have n3_ : Aside0 (w80.heap[gb159]? = some (.cells #[.int .i64 t157, .int .i64 t158] 27 (0, 0))) := ⟨h3_⟩
                                                      have n4_ : Aside0 (w80.heap[gb165]? = some (.cells #[.int .i64 t163, .int .i64 t164] 27 (0, 0))) := ⟨h4_⟩
                                                      have n5_ : Aside0 (w80.heap[gb181]? = some (.cells #[.int .i64 t179, .int .i64 t180] 27 (0, 0))) := ⟨h5_⟩
                                                      have n6_ : Aside0 (Below w.heap.size w w80) := ⟨h6_⟩
                                                      clear HO_7
                                                      clear HO_9
                                                      clear BK159
                                                      clear BK165
                                                      clear BK181
                                                      clear HB
                                                      clear h0_ h1_ h2_ h3_ h4_ h5_ h6_
                                                      have HO199 := n0_
                                                      have HO_7 := n1_
                                                      have HO_9 := n2_
                                                      have BK159 := n3_
                                                      have BK165 := n4_
                                                      have BK181 := n5_
                                                      have HB := n6_
                                                      clear n0_ n1_ n2_ n3_ n4_ n5_ n6_
                                                      have hHeld := trivial
                                                      refine norm_ (a' := ?_) ?_ ?_
                                                      rotate_left
                                                      · simp only [putAll, Act.put, List.setIfInBounds_toArray, List.set_cons_zero, List.set_cons_succ]
                                                        rfl
                                                      refine two_ (i := 2) (j := 11) (Ni := some 92) (Nj := some 15) #[true, true, true, true, true, true, false, false, false, false, false, false, false, false] #[true, true, false, true, true, true, false, false, false, false, false, true, false, false] rfl rfl rfl rfl (two_of HT_.out (by kernel_rfl)) (by decide) (by decide) (fun K hK => ?_) (fun K hK => ?_)
                                                      · skip
                                                        refine Kd.R_append_rows_step (Kd.int .u8) (w0 := w) w.heap.size (by rfl) (.tmp 90) (.tmp 91) 22 5 (.int .u8 0) 1 rfl Try.underlying22 info5 rfl (by decide) (by omega) v198 y197 t154 _ _ _ (fun k_ => some k_ ≠ (.slice Ao35 t154.length co35 : Value).ownBlock ∧ some k_ ≠ (.slice Ao37 t160.length co37 : Value).ownBlock) (fun _ => False) rfl rfl ?aO ?aR (fun _ _ h => h) (fun _ h => h.elim) ?aF ?aB ?aS ?aL ?_
                                                        (case aR => repeat (first | exact (Kd.R_reads' HO_7.out).2.2 | (with_reducible refine Kd.C_alloc ?_ _) | (with_reducible refine Kd.C_drewN ?_ _) | (with_reducible refine Kd.C_drew ?_)))
                                                        (case aB => exact (by repeat (first | (with_reducible first | exact HB.out | apply below_alloc | apply pw_below_drewN | apply below_drew1 | refine below_set ?_ GE159.out | refine below_set ?_ GE165.out | refine below_set ?_ GE181.out) | exact HB.out)))
                                                        (case aF => exact (fun k_ hk => ⟨Kd.fresh' (Kd.R_lt (by (with_reducible repeat (first | apply Kd.R_alloc | apply Kd.R_drewN | apply Kd.R_drew)); exact HO_7.out)) k_ hk, Kd.fresh' (Kd.R_lt (by (with_reducible repeat (first | apply Kd.R_alloc | apply Kd.R_drewN | apply Kd.R_drew)); exact HO_9.out)) k_ hk⟩))
                                                        (case aO => exact (by (with_reducible repeat (first | apply Kd.R_alloc | apply Kd.R_drewN | apply Kd.R_drew)); exact HO199.out))
                                                        (case aS => exact (below_size (by repeat (first | (with_reducible first | exact HB.out | apply below_alloc | apply pw_below_drewN | apply below_drew1 | refine below_set ?_ GE159.out | refine below_set ?_ GE165.out | refine below_set ?_ GE181.out) | exact HB.out))))
                                                        (case aL => have := LMc74.out; omega)
                                                        intro v201 w81 ho hb hg hat
                                                        rw [← Ny200.out] at ho
                                                        have n0_ := Aside0.mk (Kd.R_after (ok := (fun k_ => some k_ ≠ (.slice Ao37 t160.length co37 : Value).ownBlock)) (by (with_reducible repeat (first | apply Kd.R_alloc | apply Kd.R_drewN | apply Kd.R_drew)); exact Kd.R_mono HO_7.out (fun _ hk => ⟨hk.2, hk.1⟩)) hg hat)
                                                        have n1_ := Aside0.mk (Kd.R_after (ok := (fun k_ => some k_ ≠ (.slice Ao35 t154.length co35 : Value).ownBlock)) (by (with_reducible repeat (first | apply Kd.R_alloc | apply Kd.R_drewN | apply Kd.R_drew)); exact Kd.R_mono HO_9.out (fun _ hk => ⟨hk.2, hk.1⟩)) hg hat)
                                                        have n2_ := Aside0.mk (blk_grown (g := gb159) (o := .cells #[.int .i64 t157, .int .i64 t158] 27 (0, 0)) (by (with_reducible repeat (first | refine blk_drewN ?_ _ | refine blk_drew ?_ | refine blk_alloc ?_ _)); exact BK159.out) hg (Kd.R_ne HO199.out BK159.out (by decide)))
                                                        have n3_ := Aside0.mk (blk_grown (g := gb165) (o := .cells #[.int .i64 t163, .int .i64 t164] 27 (0, 0)) (by (with_reducible repeat (first | refine blk_drewN ?_ _ | refine blk_drew ?_ | refine blk_alloc ?_ _)); exact BK165.out) hg (Kd.R_ne HO199.out BK165.out (by decide)))
                                                        have n4_ := Aside0.mk (blk_grown (g := gb181) (o := .cells #[.int .i64 t179, .int .i64 t180] 27 (0, 0)) (by (with_reducible repeat (first | refine blk_drewN ?_ _ | refine blk_drew ?_ | refine blk_alloc ?_ _)); exact BK181.out) hg (Kd.R_ne HO199.out BK181.out (by decide)))
                                                        have n5_ := Aside0.mk (hb)
                                                        have n6_ := Aside0.mk (ho)
                                                        clear HO_7
                                                        clear HO_9
                                                        clear BK159
                                                        clear BK165
                                                        clear BK181
                                                        clear HB
                                                        clear HO199
                                                        have HO_7 := n0_
                                                        have HO_9 := n1_
                                                        have BK159 := n2_
                                                        have BK165 := n3_
                                                        have BK181 := n4_
                                                        have HB := n5_
                                                        have HO202 := n6_
                                                        clear n0_ n1_ n2_ n3_ n4_ n5_ n6_
                                                        clear ho hb hg hat
                                                        refine hK.out _ _ trivial (fun hHeld => ?_)
                                                        clear hK K
                                                        refine norm_ (a' := ?_) ?_ ?_
                                                        rotate_left
                                                        · show Act.put _ (some 92) _ = _
                                                          simp only [Act.put, List.setIfInBounds_toArray, List.set_cons_zero, List.set_cons_succ, i64_w, i32_w]
                                                          rfl
                                                        exact norm_ (by first | (simp only [putAll, Act.put, List.setIfInBounds_toArray, List.set_cons_zero, List.set_cons_succ]; done) | (simp only [putAll, Act.put, List.setIfInBounds_toArray, List.set_cons_zero, List.set_cons_succ]; rfl)) (hJ0_2 (v198, v201) _ ⟨(by (with_reducible repeat (first | apply Kd.R_alloc | apply Kd.R_drewN | apply Kd.R_drew)); exact HO202.out), (by (with_reducible repeat (first | apply Kd.R_alloc | apply Kd.R_drewN | apply Kd.R_drew)); exact Kd.R_mono HO_7.out (fun _ hk => ⟨hk.2, hk.1⟩)), (by (with_reducible repeat (first | apply Kd.R_alloc | apply Kd.R_drewN | apply Kd.R_drew)); exact Kd.R_mono HO_9.out (fun _ hk => ⟨hk.2, hk.1⟩)), (by (with_reducible repeat (first | refine blk_drewN ?_ _ | refine blk_drew ?_ | refine blk_alloc ?_ _)); exact BK159.out), (by (with_reducible repeat (first | refine blk_drewN ?_ _ | refine blk_drew ?_ | refine blk_alloc ?_ _)); exact BK165.out), (by (with_reducible repeat (first | refine blk_drewN ?_ _ | refine blk_drew ?_ | refine blk_alloc ?_ _)); exact BK181.out), (by repeat (first | (with_reducible first | exact HB.out | apply below_alloc | apply pw_below_drewN | apply below_drew1 | refine below_set ?_ GE159.out | refine below_set ?_ GE165.out | refine below_set ?_ GE181.out) | exact HB.out))⟩)
                                                      · skip
                                                        refine box_step ?hg (N := 15) ?hd (cs := #[.int .i64 0, .int .i64 0]) (t := 27) ?hr ?_; (case hd => rfl); (case hg => rfl); (case hr => first | (go_simp; done) | (go_simp; rfl))
                                                        intro gb211 hg w81 hbox hb
                                                        have n0_ := Aside0.mk (Kd.R_below (by (with_reducible repeat (first | apply Kd.R_alloc | apply Kd.R_drewN | apply Kd.R_drew)); exact HO_7.out) hb)
                                                        have n1_ := Aside0.mk (Kd.R_below (by (with_reducible repeat (first | apply Kd.R_alloc | apply Kd.R_drewN | apply Kd.R_drew)); exact HO_9.out) hb)
                                                        have n2_ := Aside0.mk (Kd.R_below (by (with_reducible repeat (first | apply Kd.R_alloc | apply Kd.R_drewN | apply Kd.R_drew)); exact HO199.out) hb)
                                                        have n3_ := Aside0.mk (blk_below (g := gb159) (o := .cells #[.int .i64 t157, .int .i64 t158] 27 (0, 0)) (by (with_reducible repeat (first | refine blk_drewN ?_ _ | refine blk_drew ?_ | refine blk_alloc ?_ _)); exact BK159.out) hb)
                                                        have n4_ := Aside0.mk (blk_below (g := gb165) (o := .cells #[.int .i64 t163, .int .i64 t164] 27 (0, 0)) (by (with_reducible repeat (first | refine blk_drewN ?_ _ | refine blk_drew ?_ | refine blk_alloc ?_ _)); exact BK165.out) hb)
                                                        have n5_ := Aside0.mk (blk_below (g := gb181) (o := .cells #[.int .i64 t179, .int .i64 t180] 27 (0, 0)) (by (with_reducible repeat (first | refine blk_drewN ?_ _ | refine blk_drew ?_ | refine blk_alloc ?_ _)); exact BK181.out) hb)
                                                        have n6_ := Aside0.mk (below_step (by repeat (first | (with_reducible first | exact HB.out | apply below_alloc | apply pw_below_drewN | apply below_drew1 | refine below_set ?_ GE159.out | refine below_set ?_ GE165.out | refine below_set ?_ GE181.out) | exact HB.out)) hb)
                                                        have n7_ := Aside0.mk (hbox)
                                                        have n8_ := Aside0.mk ((by rw [hg]; exact (below_size (by repeat (first | (with_reducible first | exact HB.out | apply below_alloc | apply pw_below_drewN | apply below_drew1 | refine below_set ?_ GE159.out | refine below_set ?_ GE165.out | refine below_set ?_ GE181.out) | exact HB.out))) : w.heap.size ≤ gb211))
                                                        have n9_ := Aside0.mk ((by rw [hg]; exact (below_size (by repeat (first | (with_reducible first | exact HB.out | apply below_alloc | apply pw_below_drewN | apply below_drew1 | refine below_set ?_ GE159.out | refine below_set ?_ GE165.out | refine below_set ?_ GE181.out) | exact HB.out))) : w.heap.size ≤ gb211))
                                                        have n10_ := Aside0.mk ((by rw [hg]; exact Nat.ne_of_lt (blk_lt (g := gb159) (o := .cells #[.int .i64 t157, .int .i64 t158] 27 (0, 0)) (by (with_reducible repeat (first | refine blk_drewN ?_ _ | refine blk_drew ?_ | refine blk_alloc ?_ _)); exact BK159.out)) : gb159 ≠ gb211))
                                                        have n11_ := Aside0.mk ((by rw [hg]; exact Nat.ne_of_gt (blk_lt (g := gb159) (o := .cells #[.int .i64 t157, .int .i64 t158] 27 (0, 0)) (by (with_reducible repeat (first | refine blk_drewN ?_ _ | refine blk_drew ?_ | refine blk_alloc ?_ _)); exact BK159.out)) : gb211 ≠ gb159))
                                                        have n12_ := Aside0.mk ((by rw [hg]; exact Nat.ne_of_lt (blk_lt (g := gb165) (o := .cells #[.int .i64 t163, .int .i64 t164] 27 (0, 0)) (by (with_reducible repeat (first | refine blk_drewN ?_ _ | refine blk_drew ?_ | refine blk_alloc ?_ _)); exact BK165.out)) : gb165 ≠ gb211))
                                                        have n13_ := Aside0.mk ((by rw [hg]; exact Nat.ne_of_gt (blk_lt (g := gb165) (o := .cells #[.int .i64 t163, .int .i64 t164] 27 (0, 0)) (by (with_reducible repeat (first | refine blk_drewN ?_ _ | refine blk_drew ?_ | refine blk_alloc ?_ _)); exact BK165.out)) : gb211 ≠ gb165))
                                                        have n14_ := Aside0.mk ((by rw [hg]; exact Nat.ne_of_lt (blk_lt (g := gb181) (o := .cells #[.int .i64 t179, .int .i64 t180] 27 (0, 0)) (by (with_reducible repeat (first | refine blk_drewN ?_ _ | refine blk_drew ?_ | refine blk_alloc ?_ _)); exact BK181.out)) : gb181 ≠ gb211))
                                                        have n15_ := Aside0.mk ((by rw [hg]; exact Nat.ne_of_gt (blk_lt (g := gb181) (o := .cells #[.int .i64 t179, .int .i64 t180] 27 (0, 0)) (by (with_reducible repeat (first | refine blk_drewN ?_ _ | refine blk_drew ?_ | refine blk_alloc ?_ _)); exact BK181.out)) : gb211 ≠ gb181))
                                                        clear HO_7
                                                        clear HO_9
                                                        clear HO199
                                                        clear BK159
                                                        clear BK165
                                                        clear BK181
                                                        clear HB
                                                        have HO_7 := n0_
                                                        have HO_9 := n1_
                                                        have HO199 := n2_
                                                        have BK159 := n3_
                                                        have BK165 := n4_
                                                        have BK181 := n5_
                                                        have HB := n6_
                                                        have BK211 := n7_
                                                        have GW211 := n8_
                                                        have GE211 := n9_
                                                        have NB159_211 := n10_
                                                        have NB211_159 := n11_
                                                        have NB165_211 := n12_
                                                        have NB211_165 := n13_
                                                        have NB181_211 := n14_
                                                        have NB211_181 := n15_
                                                        clear n0_ n1_ n2_ n3_ n4_ n5_ n6_ n7_ n8_ n9_ n10_ n11_ n12_ n13_ n14_ n15_
                                                        clear hb hbox hg
                                                        refine hK.out _ _ trivial (fun hHeld => ?_)
                                                        clear hK K
                                                        refine norm_ (a' := ?_) ?_ ?_
                                                        rotate_left
                                                        · show Act.put _ (some 15) _ = _
                                                          simp only [Act.put, List.setIfInBounds_toArray, List.set_cons_zero, List.set_cons_succ, i64_w, i32_w]
                                                          rfl
                                                        exact norm_ (by first | (simp only [putAll, Act.put, List.setIfInBounds_toArray, List.set_cons_zero, List.set_cons_succ]; done) | (simp only [putAll, Act.put, List.setIfInBounds_toArray, List.set_cons_zero, List.set_cons_succ]; rfl)) (hJ0_11 (v198, gb211) _ ⟨(by (with_reducible repeat (first | apply Kd.R_alloc | apply Kd.R_drewN | apply Kd.R_drew)); exact HO199.out), (by (with_reducible repeat (first | apply Kd.R_alloc | apply Kd.R_drewN | apply Kd.R_drew)); exact HO_7.out), (by (with_reducible repeat (first | apply Kd.R_alloc | apply Kd.R_drewN | apply Kd.R_drew)); exact HO_9.out), (by (with_reducible repeat (first | refine blk_drewN ?_ _ | refine blk_drew ?_ | refine blk_alloc ?_ _)); exact BK159.out), (by (with_reducible repeat (first | refine blk_drewN ?_ _ | refine blk_drew ?_ | refine blk_alloc ?_ _)); exact BK165.out), (by (with_reducible repeat (first | refine blk_drewN ?_ _ | refine blk_drew ?_ | refine blk_alloc ?_ _)); exact BK181.out), (by (with_reducible repeat (first | refine blk_drewN ?_ _ | refine blk_drew ?_ | refine blk_alloc ?_ _)); exact BK211.out), GW211.out, GE211.out, NB159_211.out, NB211_159.out, NB165_211.out, NB211_165.out, NB181_211.out, NB211_181.out, (by repeat (first | (with_reducible first | exact HB.out | apply below_alloc | apply pw_below_drewN | apply below_drew1 | refine below_set ?_ GE159.out | refine below_set ?_ GE165.out | refine below_set ?_ GE181.out | refine below_set ?_ GE211.out) | exact HB.out))⟩)
                                                  · skip
                                                    rintro ⟨v198, gb211⟩ w81 ⟨h0_, h1_, h2_, h3_, h4_, h5_, h6_, h7_, h8_, h9_, h10_, h11_, h12_, h13_, h14_, h15_⟩
                                                    have n0_ : Aside0 (Kd.R (Kd.int .u8) 5 w81 w.heap.size (fun k_ => some k_ ≠ (.slice Ao35 t154.length co35 : Value).ownBlock ∧ some k_ ≠ (.slice Ao37 t160.length co37 : Value).ownBlock) v198 y197) := ⟨h0_⟩
                                                    have n1_ : Aside0 (Kd.R (Kd.int .u8) 5 w81 w.heap.size (fun k_ => some k_ ≠ (v198 : Value).ownBlock ∧ some k_ ≠ (.slice Ao37 t160.length co37 : Value).ownBlock) (.slice Ao35 t154.length co35) t154) := ⟨h1_⟩
                                                    have n2_ : Aside0 (Kd.R (Kd.int .u8) 5 w81 w.heap.size (fun k_ => some k_ ≠ (v198 : Value).ownBlock ∧ some k_ ≠ (.slice Ao35 t154.length co35 : Value).ownBlock) (.slice Ao37 t160.length co37) t160) := ⟨h2_⟩
                                                    have n3_ : Aside0 (w81.heap[gb159]? = some (.cells #[.int .i64 t157, .int .i64 t158] 27 (0, 0))) := ⟨h3_⟩
                                                    have n4_ : Aside0 (w81.heap[gb165]? = some (.cells #[.int .i64 t163, .int .i64 t164] 27 (0, 0))) := ⟨h4_⟩
                                                    have n5_ : Aside0 (w81.heap[gb181]? = some (.cells #[.int .i64 t179, .int .i64 t180] 27 (0, 0))) := ⟨h5_⟩
                                                    have n6_ : Aside0 (w81.heap[gb211]? = some (.cells #[.int .i64 0, .int .i64 0] 27 (0, 0))) := ⟨h6_⟩
                                                    have n7_ : Aside0 (w.heap.size ≤ gb211) := ⟨h7_⟩
                                                    have n8_ : Aside0 (w.heap.size ≤ gb211) := ⟨h8_⟩
                                                    have n9_ : Aside0 (gb159 ≠ gb211) := ⟨h9_⟩
                                                    have n10_ : Aside0 (gb211 ≠ gb159) := ⟨h10_⟩
                                                    have n11_ : Aside0 (gb165 ≠ gb211) := ⟨h11_⟩
                                                    have n12_ : Aside0 (gb211 ≠ gb165) := ⟨h12_⟩
                                                    have n13_ : Aside0 (gb181 ≠ gb211) := ⟨h13_⟩
                                                    have n14_ : Aside0 (gb211 ≠ gb181) := ⟨h14_⟩
                                                    have n15_ : Aside0 (Below w.heap.size w w81) := ⟨h15_⟩
                                                    clear HO_7
                                                    clear HO_9
                                                    clear BK159
                                                    clear BK165
                                                    clear BK181
                                                    clear HB
                                                    clear h0_ h1_ h2_ h3_ h4_ h5_ h6_ h7_ h8_ h9_ h10_ h11_ h12_ h13_ h14_ h15_
                                                    have HO199 := n0_
                                                    have HO_7 := n1_
                                                    have HO_9 := n2_
                                                    have BK159 := n3_
                                                    have BK165 := n4_
                                                    have BK181 := n5_
                                                    have BK211 := n6_
                                                    have GW211 := n7_
                                                    have GE211 := n8_
                                                    have NB159_211 := n9_
                                                    have NB211_159 := n10_
                                                    have NB165_211 := n11_
                                                    have NB211_165 := n12_
                                                    have NB181_211 := n13_
                                                    have NB211_181 := n14_
                                                    have HB := n15_
                                                    clear n0_ n1_ n2_ n3_ n4_ n5_ n6_ n7_ n8_ n9_ n10_ n11_ n12_ n13_ n14_ n15_
                                                    have hHeld := trivial
                                                    refine norm_ (a' := ?_) ?_ ?_
                                                    rotate_left
                                                    · simp only [putAll, Act.put, List.setIfInBounds_toArray, List.set_cons_zero, List.set_cons_succ]
                                                      rfl
                                                    refine one_ (i := 2) (N := some 92) #[true, true, true, true, true, true, false, false, false, false, false, true, false, false] rfl rfl (one_of HT_.out (by kernel_rfl)) (by decide) (fun K hK => ?_)
                                                    refine Kd.R_append_rows_step (Kd.int .u8) (w0 := w) w.heap.size (by rfl) (.tmp 90) (.tmp 91) 22 5 (.int .u8 0) 1 rfl Try.underlying22 info5 rfl (by decide) (by omega) v198 y197 t154 _ _ _ (fun k_ => some k_ ≠ (.slice Ao35 t154.length co35 : Value).ownBlock ∧ some k_ ≠ (.slice Ao37 t160.length co37 : Value).ownBlock) (fun _ => False) rfl rfl ?aO ?aR (fun _ _ h => h) (fun _ h => h.elim) ?aF ?aB ?aS ?aL ?_
                                                    (case aR => repeat (first | exact (Kd.R_reads' HO_7.out).2.2 | (with_reducible refine Kd.C_alloc ?_ _) | (with_reducible refine Kd.C_drewN ?_ _) | (with_reducible refine Kd.C_drew ?_)))
                                                    (case aB => exact (by repeat (first | (with_reducible first | exact HB.out | apply below_alloc | apply pw_below_drewN | apply below_drew1 | refine below_set ?_ GE159.out | refine below_set ?_ GE165.out | refine below_set ?_ GE181.out | refine below_set ?_ GE211.out) | exact HB.out)))
                                                    (case aF => exact (fun k_ hk => ⟨Kd.fresh' (Kd.R_lt (by (with_reducible repeat (first | apply Kd.R_alloc | apply Kd.R_drewN | apply Kd.R_drew)); exact HO_7.out)) k_ hk, Kd.fresh' (Kd.R_lt (by (with_reducible repeat (first | apply Kd.R_alloc | apply Kd.R_drewN | apply Kd.R_drew)); exact HO_9.out)) k_ hk⟩))
                                                    (case aO => exact (by (with_reducible repeat (first | apply Kd.R_alloc | apply Kd.R_drewN | apply Kd.R_drew)); exact HO199.out))
                                                    (case aS => exact (below_size (by repeat (first | (with_reducible first | exact HB.out | apply below_alloc | apply pw_below_drewN | apply below_drew1 | refine below_set ?_ GE159.out | refine below_set ?_ GE165.out | refine below_set ?_ GE181.out | refine below_set ?_ GE211.out) | exact HB.out))))
                                                    (case aL => have := LMc74.out; omega)
                                                    intro v201 w82 ho hb hg hat
                                                    rw [← Ny200.out] at ho
                                                    have n0_ := Aside0.mk (Kd.R_after (ok := (fun k_ => some k_ ≠ (.slice Ao37 t160.length co37 : Value).ownBlock)) (by (with_reducible repeat (first | apply Kd.R_alloc | apply Kd.R_drewN | apply Kd.R_drew)); exact Kd.R_mono HO_7.out (fun _ hk => ⟨hk.2, hk.1⟩)) hg hat)
                                                    have n1_ := Aside0.mk (Kd.R_after (ok := (fun k_ => some k_ ≠ (.slice Ao35 t154.length co35 : Value).ownBlock)) (by (with_reducible repeat (first | apply Kd.R_alloc | apply Kd.R_drewN | apply Kd.R_drew)); exact Kd.R_mono HO_9.out (fun _ hk => ⟨hk.2, hk.1⟩)) hg hat)
                                                    have n2_ := Aside0.mk (blk_grown (g := gb159) (o := .cells #[.int .i64 t157, .int .i64 t158] 27 (0, 0)) (by (with_reducible repeat (first | refine blk_drewN ?_ _ | refine blk_drew ?_ | refine blk_alloc ?_ _)); exact BK159.out) hg (Kd.R_ne HO199.out BK159.out (by decide)))
                                                    have n3_ := Aside0.mk (blk_grown (g := gb165) (o := .cells #[.int .i64 t163, .int .i64 t164] 27 (0, 0)) (by (with_reducible repeat (first | refine blk_drewN ?_ _ | refine blk_drew ?_ | refine blk_alloc ?_ _)); exact BK165.out) hg (Kd.R_ne HO199.out BK165.out (by decide)))
                                                    have n4_ := Aside0.mk (blk_grown (g := gb181) (o := .cells #[.int .i64 t179, .int .i64 t180] 27 (0, 0)) (by (with_reducible repeat (first | refine blk_drewN ?_ _ | refine blk_drew ?_ | refine blk_alloc ?_ _)); exact BK181.out) hg (Kd.R_ne HO199.out BK181.out (by decide)))
                                                    have n5_ := Aside0.mk (blk_grown (g := gb211) (o := .cells #[.int .i64 0, .int .i64 0] 27 (0, 0)) (by (with_reducible repeat (first | refine blk_drewN ?_ _ | refine blk_drew ?_ | refine blk_alloc ?_ _)); exact BK211.out) hg (Kd.R_ne HO199.out BK211.out (by decide)))
                                                    have n6_ := Aside0.mk (hb)
                                                    have n7_ := Aside0.mk (ho)
                                                    clear HO_7
                                                    clear HO_9
                                                    clear BK159
                                                    clear BK165
                                                    clear BK181
                                                    clear BK211
                                                    clear HB
                                                    clear HO199
                                                    have HO_7 := n0_
                                                    have HO_9 := n1_
                                                    have BK159 := n2_
                                                    have BK165 := n3_
                                                    have BK181 := n4_
                                                    have BK211 := n5_
                                                    have HB := n6_
                                                    have HO202 := n7_
                                                    clear n0_ n1_ n2_ n3_ n4_ n5_ n6_ n7_
                                                    clear ho hb hg hat
                                                    refine hK.out _ _ trivial (fun hHeld => ?_)
                                                    clear hK K
                                                    refine norm_ (a' := ?_) ?_ ?_
                                                    rotate_left
                                                    · show Act.put _ (some 92) _ = _
                                                      simp only [Act.put, List.setIfInBounds_toArray, List.set_cons_zero, List.set_cons_succ, i64_w, i32_w]
                                                      rfl
                                                    exact norm_ (by first | (simp only [putAll, Act.put, List.setIfInBounds_toArray, List.set_cons_zero, List.set_cons_succ]; done) | (simp only [putAll, Act.put, List.setIfInBounds_toArray, List.set_cons_zero, List.set_cons_succ]; rfl)) (hJ0_2_11 (v198, v201, gb211) _ ⟨(by (with_reducible repeat (first | apply Kd.R_alloc | apply Kd.R_drewN | apply Kd.R_drew)); exact HO202.out), (by (with_reducible repeat (first | apply Kd.R_alloc | apply Kd.R_drewN | apply Kd.R_drew)); exact Kd.R_mono HO_7.out (fun _ hk => ⟨hk.2, hk.1⟩)), (by (with_reducible repeat (first | apply Kd.R_alloc | apply Kd.R_drewN | apply Kd.R_drew)); exact Kd.R_mono HO_9.out (fun _ hk => ⟨hk.2, hk.1⟩)), (by (with_reducible repeat (first | refine blk_drewN ?_ _ | refine blk_drew ?_ | refine blk_alloc ?_ _)); exact BK159.out), (by (with_reducible repeat (first | refine blk_drewN ?_ _ | refine blk_drew ?_ | refine blk_alloc ?_ _)); exact BK165.out), (by (with_reducible repeat (first | refine blk_drewN ?_ _ | refine blk_drew ?_ | refine blk_alloc ?_ _)); exact BK181.out), (by (with_reducible repeat (first | refine blk_drewN ?_ _ | refine blk_drew ?_ | refine blk_alloc ?_ _)); exact BK211.out), GW211.out, GE211.out, NB159_211.out, NB211_159.out, NB165_211.out, NB211_165.out, NB181_211.out, NB211_181.out, (by repeat (first | (with_reducible first | exact HB.out | apply below_alloc | apply pw_below_drewN | apply below_drew1 | refine below_set ?_ GE159.out | refine below_set ?_ GE165.out | refine below_set ?_ GE181.out | refine below_set ?_ GE211.out) | exact HB.out))⟩)
                                                · skip
                                                  rintro ⟨v198, v201⟩ w81 ⟨h0_, h1_, h2_, h3_, h4_, h5_, h6_⟩
                                                  have n0_ : Aside0 (Kd.R (Kd.int .u8) 5 w81 w.heap.size (fun k_ => some k_ ≠ (.slice Ao35 t154.length co35 : Value).ownBlock ∧ some k_ ≠ (.slice Ao37 t160.length co37 : Value).ownBlock) v201 y200) := ⟨h0_⟩
                                                  have n1_ : Aside0 (Kd.R (Kd.int .u8) 5 w81 w.heap.size (fun k_ => some k_ ≠ (v201 : Value).ownBlock ∧ some k_ ≠ (.slice Ao37 t160.length co37 : Value).ownBlock) (.slice Ao35 t154.length co35) t154) := ⟨h1_⟩
                                                  have n2_ : Aside0 (Kd.R (Kd.int .u8) 5 w81 w.heap.size (fun k_ => some k_ ≠ (v201 : Value).ownBlock ∧ some k_ ≠ (.slice Ao35 t154.length co35 : Value).ownBlock) (.slice Ao37 t160.length co37) t160) := ⟨h2_⟩
                                                  have n3_ : Aside0 (w81.heap[gb159]? = some (.cells #[.int .i64 t157, .int .i64 t158] 27 (0, 0))) := ⟨h3_⟩
                                                  have n4_ : Aside0 (w81.heap[gb165]? = some (.cells #[.int .i64 t163, .int .i64 t164] 27 (0, 0))) := ⟨h4_⟩
                                                  have n5_ : Aside0 (w81.heap[gb181]? = some (.cells #[.int .i64 t179, .int .i64 t180] 27 (0, 0))) := ⟨h5_⟩
                                                  have n6_ : Aside0 (Below w.heap.size w w81) := ⟨h6_⟩
                                                  clear HO_7
                                                  clear HO_9
                                                  clear BK159
                                                  clear BK165
                                                  clear BK181
                                                  clear HB
                                                  clear h0_ h1_ h2_ h3_ h4_ h5_ h6_
                                                  have HO202 := n0_
                                                  have HO_7 := n1_
                                                  have HO_9 := n2_
                                                  have BK159 := n3_
                                                  have BK165 := n4_
                                                  have BK181 := n5_
                                                  have HB := n6_
                                                  clear n0_ n1_ n2_ n3_ n4_ n5_ n6_
                                                  have hHeld := trivial
                                                  refine norm_ (a' := ?_) ?_ ?_
                                                  rotate_left
                                                  · simp only [putAll, Act.put, List.setIfInBounds_toArray, List.set_cons_zero, List.set_cons_succ]
                                                    rfl
                                                  refine two_ (i := 6) (j := 11) (Ni := some 96) (Nj := some 15) #[true, true, true, true, true, true, true, false, false, false, false, false, false, false] #[true, true, true, true, true, true, false, false, false, false, false, true, false, false] rfl rfl rfl rfl (two_of HT_.out (by kernel_rfl)) (by decide) (by decide) (fun K hK => ?_) (fun K hK => ?_)
                                                  · skip
                                                    refine Kd.R_append_rows_step (Kd.int .u8) (w0 := w) w.heap.size (by rfl) (.tmp 92) (.tmp 95) 22 5 (.int .u8 0) 1 rfl Try.underlying22 info5 rfl (by decide) (by omega) v201 y200 yT _ _ _ (fun k_ => some k_ ≠ (.slice Ao35 t154.length co35 : Value).ownBlock ∧ some k_ ≠ (.slice Ao37 t160.length co37 : Value).ownBlock) (fun _ => False) rfl rfl ?aO ?aR (fun _ _ h => h) (fun _ h => h.elim) ?aF ?aB ?aS ?aL ?_
                                                    (case aR => exact (show Kd.C (Kd.int .u8) _ Ao37 yT.length yT from by rw [NyT.out]; exact Kd.C_take (Kd.R_reads' HO_9.out).2.2 HNm.out))
                                                    (case aB => exact (by repeat (first | (with_reducible first | exact HB.out | apply below_alloc | apply pw_below_drewN | apply below_drew1 | refine below_set ?_ GE159.out | refine below_set ?_ GE165.out | refine below_set ?_ GE181.out) | exact HB.out)))
                                                    (case aF => exact (fun k_ hk => ⟨Kd.fresh' (Kd.R_lt (by (with_reducible repeat (first | apply Kd.R_alloc | apply Kd.R_drewN | apply Kd.R_drew)); exact HO_7.out)) k_ hk, Kd.fresh' (Kd.R_lt (by (with_reducible repeat (first | apply Kd.R_alloc | apply Kd.R_drewN | apply Kd.R_drew)); exact HO_9.out)) k_ hk⟩))
                                                    (case aO => exact (by (with_reducible repeat (first | apply Kd.R_alloc | apply Kd.R_drewN | apply Kd.R_drew)); exact HO202.out))
                                                    (case aS => exact (below_size (by repeat (first | (with_reducible first | exact HB.out | apply below_alloc | apply pw_below_drewN | apply below_drew1 | refine below_set ?_ GE159.out | refine below_set ?_ GE165.out | refine below_set ?_ GE181.out) | exact HB.out))))
                                                    (case aL => have := LMc75.out; omega)
                                                    intro v204 w82 ho hb hg hat
                                                    rw [← Ny203.out] at ho
                                                    have n0_ := Aside0.mk (Kd.R_after (ok := (fun k_ => some k_ ≠ (.slice Ao37 t160.length co37 : Value).ownBlock)) (by (with_reducible repeat (first | apply Kd.R_alloc | apply Kd.R_drewN | apply Kd.R_drew)); exact Kd.R_mono HO_7.out (fun _ hk => ⟨hk.2, hk.1⟩)) hg hat)
                                                    have n1_ := Aside0.mk (Kd.R_after (ok := (fun k_ => some k_ ≠ (.slice Ao35 t154.length co35 : Value).ownBlock)) (by (with_reducible repeat (first | apply Kd.R_alloc | apply Kd.R_drewN | apply Kd.R_drew)); exact Kd.R_mono HO_9.out (fun _ hk => ⟨hk.2, hk.1⟩)) hg hat)
                                                    have n2_ := Aside0.mk (blk_grown (g := gb159) (o := .cells #[.int .i64 t157, .int .i64 t158] 27 (0, 0)) (by (with_reducible repeat (first | refine blk_drewN ?_ _ | refine blk_drew ?_ | refine blk_alloc ?_ _)); exact BK159.out) hg (Kd.R_ne HO202.out BK159.out (by decide)))
                                                    have n3_ := Aside0.mk (blk_grown (g := gb165) (o := .cells #[.int .i64 t163, .int .i64 t164] 27 (0, 0)) (by (with_reducible repeat (first | refine blk_drewN ?_ _ | refine blk_drew ?_ | refine blk_alloc ?_ _)); exact BK165.out) hg (Kd.R_ne HO202.out BK165.out (by decide)))
                                                    have n4_ := Aside0.mk (blk_grown (g := gb181) (o := .cells #[.int .i64 t179, .int .i64 t180] 27 (0, 0)) (by (with_reducible repeat (first | refine blk_drewN ?_ _ | refine blk_drew ?_ | refine blk_alloc ?_ _)); exact BK181.out) hg (Kd.R_ne HO202.out BK181.out (by decide)))
                                                    have n5_ := Aside0.mk (hb)
                                                    have n6_ := Aside0.mk (ho)
                                                    clear HO_7
                                                    clear HO_9
                                                    clear BK159
                                                    clear BK165
                                                    clear BK181
                                                    clear HB
                                                    clear HO202
                                                    have HO_7 := n0_
                                                    have HO_9 := n1_
                                                    have BK159 := n2_
                                                    have BK165 := n3_
                                                    have BK181 := n4_
                                                    have HB := n5_
                                                    have HO205 := n6_
                                                    clear n0_ n1_ n2_ n3_ n4_ n5_ n6_
                                                    clear ho hb hg hat
                                                    refine hK.out _ _ trivial (fun hHeld => ?_)
                                                    clear hK K
                                                    refine norm_ (a' := ?_) ?_ ?_
                                                    rotate_left
                                                    · show Act.put _ (some 96) _ = _
                                                      simp only [Act.put, List.setIfInBounds_toArray, List.set_cons_zero, List.set_cons_succ, i64_w, i32_w]
                                                      rfl
                                                    exact norm_ (by first | (simp only [putAll, Act.put, List.setIfInBounds_toArray, List.set_cons_zero, List.set_cons_succ]; done) | (simp only [putAll, Act.put, List.setIfInBounds_toArray, List.set_cons_zero, List.set_cons_succ]; rfl)) (hJ0_2_6 (v198, v201, v204) _ ⟨(by (with_reducible repeat (first | apply Kd.R_alloc | apply Kd.R_drewN | apply Kd.R_drew)); exact HO205.out), (by (with_reducible repeat (first | apply Kd.R_alloc | apply Kd.R_drewN | apply Kd.R_drew)); exact Kd.R_mono HO_7.out (fun _ hk => ⟨hk.2, hk.1⟩)), (by (with_reducible repeat (first | apply Kd.R_alloc | apply Kd.R_drewN | apply Kd.R_drew)); exact Kd.R_mono HO_9.out (fun _ hk => ⟨hk.2, hk.1⟩)), (by (with_reducible repeat (first | refine blk_drewN ?_ _ | refine blk_drew ?_ | refine blk_alloc ?_ _)); exact BK159.out), (by (with_reducible repeat (first | refine blk_drewN ?_ _ | refine blk_drew ?_ | refine blk_alloc ?_ _)); exact BK165.out), (by (with_reducible repeat (first | refine blk_drewN ?_ _ | refine blk_drew ?_ | refine blk_alloc ?_ _)); exact BK181.out), (by repeat (first | (with_reducible first | exact HB.out | apply below_alloc | apply pw_below_drewN | apply below_drew1 | refine below_set ?_ GE159.out | refine below_set ?_ GE165.out | refine below_set ?_ GE181.out) | exact HB.out))⟩)
                                                  · skip
                                                    refine box_step ?hg (N := 15) ?hd (cs := #[.int .i64 0, .int .i64 0]) (t := 27) ?hr ?_; (case hd => rfl); (case hg => rfl); (case hr => first | (go_simp; done) | (go_simp; rfl))
                                                    intro gb211 hg w82 hbox hb
                                                    have n0_ := Aside0.mk (Kd.R_below (by (with_reducible repeat (first | apply Kd.R_alloc | apply Kd.R_drewN | apply Kd.R_drew)); exact HO_7.out) hb)
                                                    have n1_ := Aside0.mk (Kd.R_below (by (with_reducible repeat (first | apply Kd.R_alloc | apply Kd.R_drewN | apply Kd.R_drew)); exact HO_9.out) hb)
                                                    have n2_ := Aside0.mk (Kd.R_below (by (with_reducible repeat (first | apply Kd.R_alloc | apply Kd.R_drewN | apply Kd.R_drew)); exact HO202.out) hb)
                                                    have n3_ := Aside0.mk (blk_below (g := gb159) (o := .cells #[.int .i64 t157, .int .i64 t158] 27 (0, 0)) (by (with_reducible repeat (first | refine blk_drewN ?_ _ | refine blk_drew ?_ | refine blk_alloc ?_ _)); exact BK159.out) hb)
                                                    have n4_ := Aside0.mk (blk_below (g := gb165) (o := .cells #[.int .i64 t163, .int .i64 t164] 27 (0, 0)) (by (with_reducible repeat (first | refine blk_drewN ?_ _ | refine blk_drew ?_ | refine blk_alloc ?_ _)); exact BK165.out) hb)
                                                    have n5_ := Aside0.mk (blk_below (g := gb181) (o := .cells #[.int .i64 t179, .int .i64 t180] 27 (0, 0)) (by (with_reducible repeat (first | refine blk_drewN ?_ _ | refine blk_drew ?_ | refine blk_alloc ?_ _)); exact BK181.out) hb)
                                                    have n6_ := Aside0.mk (below_step (by repeat (first | (with_reducible first | exact HB.out | apply below_alloc | apply pw_below_drewN | apply below_drew1 | refine below_set ?_ GE159.out | refine below_set ?_ GE165.out | refine below_set ?_ GE181.out) | exact HB.out)) hb)
                                                    have n7_ := Aside0.mk (hbox)
                                                    have n8_ := Aside0.mk ((by rw [hg]; exact (below_size (by repeat (first | (with_reducible first | exact HB.out | apply below_alloc | apply pw_below_drewN | apply below_drew1 | refine below_set ?_ GE159.out | refine below_set ?_ GE165.out | refine below_set ?_ GE181.out) | exact HB.out))) : w.heap.size ≤ gb211))
                                                    have n9_ := Aside0.mk ((by rw [hg]; exact (below_size (by repeat (first | (with_reducible first | exact HB.out | apply below_alloc | apply pw_below_drewN | apply below_drew1 | refine below_set ?_ GE159.out | refine below_set ?_ GE165.out | refine below_set ?_ GE181.out) | exact HB.out))) : w.heap.size ≤ gb211))
                                                    have n10_ := Aside0.mk ((by rw [hg]; exact Nat.ne_of_lt (blk_lt (g := gb159) (o := .cells #[.int .i64 t157, .int .i64 t158] 27 (0, 0)) (by (with_reducible repeat (first | refine blk_drewN ?_ _ | refine blk_drew ?_ | refine blk_alloc ?_ _)); exact BK159.out)) : gb159 ≠ gb211))
                                                    have n11_ := Aside0.mk ((by rw [hg]; exact Nat.ne_of_gt (blk_lt (g := gb159) (o := .cells #[.int .i64 t157, .int .i64 t158] 27 (0, 0)) (by (with_reducible repeat (first | refine blk_drewN ?_ _ | refine blk_drew ?_ | refine blk_alloc ?_ _)); exact BK159.out)) : gb211 ≠ gb159))
                                                    have n12_ := Aside0.mk ((by rw [hg]; exact Nat.ne_of_lt (blk_lt (g := gb165) (o := .cells #[.int .i64 t163, .int .i64 t164] 27 (0, 0)) (by (with_reducible repeat (first | refine blk_drewN ?_ _ | refine blk_drew ?_ | refine blk_alloc ?_ _)); exact BK165.out)) : gb165 ≠ gb211))
                                                    have n13_ := Aside0.mk ((by rw [hg]; exact Nat.ne_of_gt (blk_lt (g := gb165) (o := .cells #[.int .i64 t163, .int .i64 t164] 27 (0, 0)) (by (with_reducible repeat (first | refine blk_drewN ?_ _ | refine blk_drew ?_ | refine blk_alloc ?_ _)); exact BK165.out)) : gb211 ≠ gb165))
                                                    have n14_ := Aside0.mk ((by rw [hg]; exact Nat.ne_of_lt (blk_lt (g := gb181) (o := .cells #[.int .i64 t179, .int .i64 t180] 27 (0, 0)) (by (with_reducible repeat (first | refine blk_drewN ?_ _ | refine blk_drew ?_ | refine blk_alloc ?_ _)); exact BK181.out)) : gb181 ≠ gb211))
                                                    have n15_ := Aside0.mk ((by rw [hg]; exact Nat.ne_of_gt (blk_lt (g := gb181) (o := .cells #[.int .i64 t179, .int .i64 t180] 27 (0, 0)) (by (with_reducible repeat (first | refine blk_drewN ?_ _ | refine blk_drew ?_ | refine blk_alloc ?_ _)); exact BK181.out)) : gb211 ≠ gb181))
                                                    clear HO_7
                                                    clear HO_9
                                                    clear HO202
                                                    clear BK159
                                                    clear BK165
                                                    clear BK181
                                                    clear HB
                                                    have HO_7 := n0_
                                                    have HO_9 := n1_
                                                    have HO202 := n2_
                                                    have BK159 := n3_
                                                    have BK165 := n4_
                                                    have BK181 := n5_
                                                    have HB := n6_
                                                    have BK211 := n7_
                                                    have GW211 := n8_
                                                    have GE211 := n9_
                                                    have NB159_211 := n10_
                                                    have NB211_159 := n11_
                                                    have NB165_211 := n12_
                                                    have NB211_165 := n13_
                                                    have NB181_211 := n14_
                                                    have NB211_181 := n15_
                                                    clear n0_ n1_ n2_ n3_ n4_ n5_ n6_ n7_ n8_ n9_ n10_ n11_ n12_ n13_ n14_ n15_
                                                    clear hb hbox hg
                                                    refine hK.out _ _ trivial (fun hHeld => ?_)
                                                    clear hK K
                                                    refine norm_ (a' := ?_) ?_ ?_
                                                    rotate_left
                                                    · show Act.put _ (some 15) _ = _
                                                      simp only [Act.put, List.setIfInBounds_toArray, List.set_cons_zero, List.set_cons_succ, i64_w, i32_w]
                                                      rfl
                                                    exact norm_ (by first | (simp only [putAll, Act.put, List.setIfInBounds_toArray, List.set_cons_zero, List.set_cons_succ]; done) | (simp only [putAll, Act.put, List.setIfInBounds_toArray, List.set_cons_zero, List.set_cons_succ]; rfl)) (hJ0_2_11 (v198, v201, gb211) _ ⟨(by (with_reducible repeat (first | apply Kd.R_alloc | apply Kd.R_drewN | apply Kd.R_drew)); exact HO202.out), (by (with_reducible repeat (first | apply Kd.R_alloc | apply Kd.R_drewN | apply Kd.R_drew)); exact HO_7.out), (by (with_reducible repeat (first | apply Kd.R_alloc | apply Kd.R_drewN | apply Kd.R_drew)); exact HO_9.out), (by (with_reducible repeat (first | refine blk_drewN ?_ _ | refine blk_drew ?_ | refine blk_alloc ?_ _)); exact BK159.out), (by (with_reducible repeat (first | refine blk_drewN ?_ _ | refine blk_drew ?_ | refine blk_alloc ?_ _)); exact BK165.out), (by (with_reducible repeat (first | refine blk_drewN ?_ _ | refine blk_drew ?_ | refine blk_alloc ?_ _)); exact BK181.out), (by (with_reducible repeat (first | refine blk_drewN ?_ _ | refine blk_drew ?_ | refine blk_alloc ?_ _)); exact BK211.out), GW211.out, GE211.out, NB159_211.out, NB211_159.out, NB165_211.out, NB211_165.out, NB181_211.out, NB211_181.out, (by repeat (first | (with_reducible first | exact HB.out | apply below_alloc | apply pw_below_drewN | apply below_drew1 | refine below_set ?_ GE159.out | refine below_set ?_ GE165.out | refine below_set ?_ GE181.out | refine below_set ?_ GE211.out) | exact HB.out))⟩)
                                              · skip
                                                rintro ⟨v198, v201, gb211⟩ w82 ⟨h0_, h1_, h2_, h3_, h4_, h5_, h6_, h7_, h8_, h9_, h10_, h11_, h12_, h13_, h14_, h15_⟩
                                                have n0_ : Aside0 (Kd.R (Kd.int .u8) 5 w82 w.heap.size (fun k_ => some k_ ≠ (.slice Ao35 t154.length co35 : Value).ownBlock ∧ some k_ ≠ (.slice Ao37 t160.length co37 : Value).ownBlock) v201 y200) := ⟨h0_⟩
                                                have n1_ : Aside0 (Kd.R (Kd.int .u8) 5 w82 w.heap.size (fun k_ => some k_ ≠ (v201 : Value).ownBlock ∧ some k_ ≠ (.slice Ao37 t160.length co37 : Value).ownBlock) (.slice Ao35 t154.length co35) t154) := ⟨h1_⟩
                                                have n2_ : Aside0 (Kd.R (Kd.int .u8) 5 w82 w.heap.size (fun k_ => some k_ ≠ (v201 : Value).ownBlock ∧ some k_ ≠ (.slice Ao35 t154.length co35 : Value).ownBlock) (.slice Ao37 t160.length co37) t160) := ⟨h2_⟩
                                                have n3_ : Aside0 (w82.heap[gb159]? = some (.cells #[.int .i64 t157, .int .i64 t158] 27 (0, 0))) := ⟨h3_⟩
                                                have n4_ : Aside0 (w82.heap[gb165]? = some (.cells #[.int .i64 t163, .int .i64 t164] 27 (0, 0))) := ⟨h4_⟩
                                                have n5_ : Aside0 (w82.heap[gb181]? = some (.cells #[.int .i64 t179, .int .i64 t180] 27 (0, 0))) := ⟨h5_⟩
                                                have n6_ : Aside0 (w82.heap[gb211]? = some (.cells #[.int .i64 0, .int .i64 0] 27 (0, 0))) := ⟨h6_⟩
                                                have n7_ : Aside0 (w.heap.size ≤ gb211) := ⟨h7_⟩
                                                have n8_ : Aside0 (w.heap.size ≤ gb211) := ⟨h8_⟩
                                                have n9_ : Aside0 (gb159 ≠ gb211) := ⟨h9_⟩
                                                have n10_ : Aside0 (gb211 ≠ gb159) := ⟨h10_⟩
                                                have n11_ : Aside0 (gb165 ≠ gb211) := ⟨h11_⟩
                                                have n12_ : Aside0 (gb211 ≠ gb165) := ⟨h12_⟩
                                                have n13_ : Aside0 (gb181 ≠ gb211) := ⟨h13_⟩
                                                have n14_ : Aside0 (gb211 ≠ gb181) := ⟨h14_⟩
                                                have n15_ : Aside0 (Below w.heap.size w w82) := ⟨h15_⟩
                                                clear HO_7
                                                clear HO_9
                                                clear BK159
                                                clear BK165
                                                clear BK181
                                                clear HB
                                                clear h0_ h1_ h2_ h3_ h4_ h5_ h6_ h7_ h8_ h9_ h10_ h11_ h12_ h13_ h14_ h15_
                                                have HO202 := n0_
                                                have HO_7 := n1_
                                                have HO_9 := n2_
                                                have BK159 := n3_
                                                have BK165 := n4_
                                                have BK181 := n5_
                                                have BK211 := n6_
                                                have GW211 := n7_
                                                have GE211 := n8_
                                                have NB159_211 := n9_
                                                have NB211_159 := n10_
                                                have NB165_211 := n11_
                                                have NB211_165 := n12_
                                                have NB181_211 := n13_
                                                have NB211_181 := n14_
                                                have HB := n15_
                                                clear n0_ n1_ n2_ n3_ n4_ n5_ n6_ n7_ n8_ n9_ n10_ n11_ n12_ n13_ n14_ n15_
                                                have hHeld := trivial
                                                refine norm_ (a' := ?_) ?_ ?_
                                                rotate_left
                                                · simp only [putAll, Act.put, List.setIfInBounds_toArray, List.set_cons_zero, List.set_cons_succ]
                                                  rfl
                                                refine one_ (i := 6) (N := some 96) #[true, true, true, true, true, true, true, false, false, false, false, true, false, false] rfl rfl (one_of HT_.out (by kernel_rfl)) (by decide) (fun K hK => ?_)
                                                refine Kd.R_append_rows_step (Kd.int .u8) (w0 := w) w.heap.size (by rfl) (.tmp 92) (.tmp 95) 22 5 (.int .u8 0) 1 rfl Try.underlying22 info5 rfl (by decide) (by omega) v201 y200 yT _ _ _ (fun k_ => some k_ ≠ (.slice Ao35 t154.length co35 : Value).ownBlock ∧ some k_ ≠ (.slice Ao37 t160.length co37 : Value).ownBlock) (fun _ => False) rfl rfl ?aO ?aR (fun _ _ h => h) (fun _ h => h.elim) ?aF ?aB ?aS ?aL ?_
                                                (case aR => exact (show Kd.C (Kd.int .u8) _ Ao37 yT.length yT from by rw [NyT.out]; exact Kd.C_take (Kd.R_reads' HO_9.out).2.2 HNm.out))
                                                (case aB => exact (by repeat (first | (with_reducible first | exact HB.out | apply below_alloc | apply pw_below_drewN | apply below_drew1 | refine below_set ?_ GE159.out | refine below_set ?_ GE165.out | refine below_set ?_ GE181.out | refine below_set ?_ GE211.out) | exact HB.out)))
                                                (case aF => exact (fun k_ hk => ⟨Kd.fresh' (Kd.R_lt (by (with_reducible repeat (first | apply Kd.R_alloc | apply Kd.R_drewN | apply Kd.R_drew)); exact HO_7.out)) k_ hk, Kd.fresh' (Kd.R_lt (by (with_reducible repeat (first | apply Kd.R_alloc | apply Kd.R_drewN | apply Kd.R_drew)); exact HO_9.out)) k_ hk⟩))
                                                (case aO => exact (by (with_reducible repeat (first | apply Kd.R_alloc | apply Kd.R_drewN | apply Kd.R_drew)); exact HO202.out))
                                                (case aS => exact (below_size (by repeat (first | (with_reducible first | exact HB.out | apply below_alloc | apply pw_below_drewN | apply below_drew1 | refine below_set ?_ GE159.out | refine below_set ?_ GE165.out | refine below_set ?_ GE181.out | refine below_set ?_ GE211.out) | exact HB.out))))
                                                (case aL => have := LMc75.out; omega)
                                                intro v204 w83 ho hb hg hat
                                                rw [← Ny203.out] at ho
                                                have n0_ := Aside0.mk (Kd.R_after (ok := (fun k_ => some k_ ≠ (.slice Ao37 t160.length co37 : Value).ownBlock)) (by (with_reducible repeat (first | apply Kd.R_alloc | apply Kd.R_drewN | apply Kd.R_drew)); exact Kd.R_mono HO_7.out (fun _ hk => ⟨hk.2, hk.1⟩)) hg hat)
                                                have n1_ := Aside0.mk (Kd.R_after (ok := (fun k_ => some k_ ≠ (.slice Ao35 t154.length co35 : Value).ownBlock)) (by (with_reducible repeat (first | apply Kd.R_alloc | apply Kd.R_drewN | apply Kd.R_drew)); exact Kd.R_mono HO_9.out (fun _ hk => ⟨hk.2, hk.1⟩)) hg hat)
                                                have n2_ := Aside0.mk (blk_grown (g := gb159) (o := .cells #[.int .i64 t157, .int .i64 t158] 27 (0, 0)) (by (with_reducible repeat (first | refine blk_drewN ?_ _ | refine blk_drew ?_ | refine blk_alloc ?_ _)); exact BK159.out) hg (Kd.R_ne HO202.out BK159.out (by decide)))
                                                have n3_ := Aside0.mk (blk_grown (g := gb165) (o := .cells #[.int .i64 t163, .int .i64 t164] 27 (0, 0)) (by (with_reducible repeat (first | refine blk_drewN ?_ _ | refine blk_drew ?_ | refine blk_alloc ?_ _)); exact BK165.out) hg (Kd.R_ne HO202.out BK165.out (by decide)))
                                                have n4_ := Aside0.mk (blk_grown (g := gb181) (o := .cells #[.int .i64 t179, .int .i64 t180] 27 (0, 0)) (by (with_reducible repeat (first | refine blk_drewN ?_ _ | refine blk_drew ?_ | refine blk_alloc ?_ _)); exact BK181.out) hg (Kd.R_ne HO202.out BK181.out (by decide)))
                                                have n5_ := Aside0.mk (blk_grown (g := gb211) (o := .cells #[.int .i64 0, .int .i64 0] 27 (0, 0)) (by (with_reducible repeat (first | refine blk_drewN ?_ _ | refine blk_drew ?_ | refine blk_alloc ?_ _)); exact BK211.out) hg (Kd.R_ne HO202.out BK211.out (by decide)))
                                                have n6_ := Aside0.mk (hb)
                                                have n7_ := Aside0.mk (ho)
                                                clear HO_7
                                                clear HO_9
                                                clear BK159
                                                clear BK165
                                                clear BK181
                                                clear BK211
                                                clear HB
                                                clear HO202
                                                have HO_7 := n0_
                                                have HO_9 := n1_
                                                have BK159 := n2_
                                                have BK165 := n3_
                                                have BK181 := n4_
                                                have BK211 := n5_
                                                have HB := n6_
                                                have HO205 := n7_
                                                clear n0_ n1_ n2_ n3_ n4_ n5_ n6_ n7_
                                                clear ho hb hg hat
                                                refine hK.out _ _ trivial (fun hHeld => ?_)
                                                clear hK K
                                                refine norm_ (a' := ?_) ?_ ?_
                                                rotate_left
                                                · show Act.put _ (some 96) _ = _
                                                  simp only [Act.put, List.setIfInBounds_toArray, List.set_cons_zero, List.set_cons_succ, i64_w, i32_w]
                                                  rfl
                                                exact norm_ (by first | (simp only [putAll, Act.put, List.setIfInBounds_toArray, List.set_cons_zero, List.set_cons_succ]; done) | (simp only [putAll, Act.put, List.setIfInBounds_toArray, List.set_cons_zero, List.set_cons_succ]; rfl)) (hJ0_2_6_11 (v198, v201, v204, gb211) _ ⟨(by (with_reducible repeat (first | apply Kd.R_alloc | apply Kd.R_drewN | apply Kd.R_drew)); exact HO205.out), (by (with_reducible repeat (first | apply Kd.R_alloc | apply Kd.R_drewN | apply Kd.R_drew)); exact Kd.R_mono HO_7.out (fun _ hk => ⟨hk.2, hk.1⟩)), (by (with_reducible repeat (first | apply Kd.R_alloc | apply Kd.R_drewN | apply Kd.R_drew)); exact Kd.R_mono HO_9.out (fun _ hk => ⟨hk.2, hk.1⟩)), (by (with_reducible repeat (first | refine blk_drewN ?_ _ | refine blk_drew ?_ | refine blk_alloc ?_ _)); exact BK159.out), (by (with_reducible repeat (first | refine blk_drewN ?_ _ | refine blk_drew ?_ | refine blk_alloc ?_ _)); exact BK165.out), (by (with_reducible repeat (first | refine blk_drewN ?_ _ | refine blk_drew ?_ | refine blk_alloc ?_ _)); exact BK181.out), (by (with_reducible repeat (first | refine blk_drewN ?_ _ | refine blk_drew ?_ | refine blk_alloc ?_ _)); exact BK211.out), GW211.out, GE211.out, NB159_211.out, NB211_159.out, NB165_211.out, NB211_165.out, NB181_211.out, NB211_181.out, (by repeat (first | (with_reducible first | exact HB.out | apply below_alloc | apply pw_below_drewN | apply below_drew1 | refine below_set ?_ GE159.out | refine below_set ?_ GE165.out | refine below_set ?_ GE181.out | refine below_set ?_ GE211.out) | exact HB.out))⟩)
                                            · skip
                                              rintro ⟨v198, v201, v204⟩ w82 ⟨h0_, h1_, h2_, h3_, h4_, h5_, h6_⟩
                                              have n0_ : Aside0 (Kd.R (Kd.int .u8) 5 w82 w.heap.size (fun k_ => some k_ ≠ (.slice Ao35 t154.length co35 : Value).ownBlock ∧ some k_ ≠ (.slice Ao37 t160.length co37 : Value).ownBlock) v204 y203) := ⟨h0_⟩
                                              have n1_ : Aside0 (Kd.R (Kd.int .u8) 5 w82 w.heap.size (fun k_ => some k_ ≠ (v204 : Value).ownBlock ∧ some k_ ≠ (.slice Ao37 t160.length co37 : Value).ownBlock) (.slice Ao35 t154.length co35) t154) := ⟨h1_⟩
                                              have n2_ : Aside0 (Kd.R (Kd.int .u8) 5 w82 w.heap.size (fun k_ => some k_ ≠ (v204 : Value).ownBlock ∧ some k_ ≠ (.slice Ao35 t154.length co35 : Value).ownBlock) (.slice Ao37 t160.length co37) t160) := ⟨h2_⟩
                                              have n3_ : Aside0 (w82.heap[gb159]? = some (.cells #[.int .i64 t157, .int .i64 t158] 27 (0, 0))) := ⟨h3_⟩
                                              have n4_ : Aside0 (w82.heap[gb165]? = some (.cells #[.int .i64 t163, .int .i64 t164] 27 (0, 0))) := ⟨h4_⟩
                                              have n5_ : Aside0 (w82.heap[gb181]? = some (.cells #[.int .i64 t179, .int .i64 t180] 27 (0, 0))) := ⟨h5_⟩
                                              have n6_ : Aside0 (Below w.heap.size w w82) := ⟨h6_⟩
                                              clear HO_7
                                              clear HO_9
                                              clear BK159
                                              clear BK165
                                              clear BK181
                                              clear HB
                                              clear h0_ h1_ h2_ h3_ h4_ h5_ h6_
                                              have HO205 := n0_
                                              have HO_7 := n1_
                                              have HO_9 := n2_
                                              have BK159 := n3_
                                              have BK165 := n4_
                                              have BK181 := n5_
                                              have HB := n6_
                                              clear n0_ n1_ n2_ n3_ n4_ n5_ n6_
                                              have hHeld := trivial
                                              obtain ⟨Ao83, co83, eo83⟩ := Kd.R_slice HO205.out
                                              (first | subst eo83 | (injection eo83 with f1_ f2_ f3_; have f4_ := f1_.symm; have f5_ := f3_.symm; clear f1_ f2_ f3_; subst f4_; subst f5_))
                                              refine norm_ (a' := ?_) ?_ ?_
                                              rotate_left
                                              · simp only [putAll, Act.put, List.setIfInBounds_toArray, List.set_cons_zero, List.set_cons_succ]
                                                rfl
                                              refine two_ (i := 7) (j := 11) (Ni := some 97) (Nj := some 15) #[true, true, true, true, true, true, true, true, false, false, false, false, false, false] #[true, true, true, true, true, true, true, false, false, false, false, true, false, false] rfl rfl rfl rfl (two_of HT_.out (by kernel_rfl)) (by decide) (by decide) (fun K hK => ?_) (fun K hK => ?_)
                                              · skip
                                                refine goes_ Try.func11 (by kernel_rfl) rfl #[.slice Ao83 y203.length co83] (by rfl) rfl rfl (by (try simp only [List.map_toArray, List.map_cons, List.map_nil]); first | done | rfl | (simp only [List.length_drop, List.length_take]; rfl)) ?_
                                                with_reducible refine (utf_Decode.calls kj65 _ _ y203 t206 t209 t210 _ ?side1 ?side2 A76.out).mono ?_
                                                (case side1 => repeat (first | exact (Kd.R_reads' HO205.out).2.2 | (with_reducible refine Kd.C_alloc ?_ _) | (with_reducible refine Kd.C_drewN ?_ _) | (with_reducible refine Kd.C_drew ?_)))
                                                (case side2 => exact (Kd.R_reads' HO205.out).2.1)
                                                rintro e w84 ⟨v207, rfl, ho0, hb⟩
                                                refine ⟨_, rfl, ?_⟩
                                                have n0_ := Aside0.mk (Kd.R_below (by (with_reducible repeat (first | apply Kd.R_alloc | apply Kd.R_drewN | apply Kd.R_drew)); exact HO_7.out) hb)
                                                have n1_ := Aside0.mk (Kd.R_below (by (with_reducible repeat (first | apply Kd.R_alloc | apply Kd.R_drewN | apply Kd.R_drew)); exact HO_9.out) hb)
                                                have n2_ := Aside0.mk (Kd.R_below (by (with_reducible repeat (first | apply Kd.R_alloc | apply Kd.R_drewN | apply Kd.R_drew)); exact HO205.out) hb)
                                                have n3_ := Aside0.mk (Kd.R_lower ho0 (below_size (by repeat (first | (with_reducible first | exact HB.out | apply below_alloc | apply pw_below_drewN | apply below_drew1 | refine below_set ?_ GE159.out | refine below_set ?_ GE165.out | refine below_set ?_ GE181.out) | exact HB.out))))
                                                have n4_ := Aside0.mk (blk_below (g := gb159) (o := .cells #[.int .i64 t157, .int .i64 t158] 27 (0, 0)) (by (with_reducible repeat (first | refine blk_drewN ?_ _ | refine blk_drew ?_ | refine blk_alloc ?_ _)); exact BK159.out) hb)
                                                have n5_ := Aside0.mk (blk_below (g := gb165) (o := .cells #[.int .i64 t163, .int .i64 t164] 27 (0, 0)) (by (with_reducible repeat (first | refine blk_drewN ?_ _ | refine blk_drew ?_ | refine blk_alloc ?_ _)); exact BK165.out) hb)
                                                have n6_ := Aside0.mk (blk_below (g := gb181) (o := .cells #[.int .i64 t179, .int .i64 t180] 27 (0, 0)) (by (with_reducible repeat (first | refine blk_drewN ?_ _ | refine blk_drew ?_ | refine blk_alloc ?_ _)); exact BK181.out) hb)
                                                have n7_ := Aside0.mk (below_step (by repeat (first | (with_reducible first | exact HB.out | apply below_alloc | apply pw_below_drewN | apply below_drew1 | refine below_set ?_ GE159.out | refine below_set ?_ GE165.out | refine below_set ?_ GE181.out) | exact HB.out)) hb)
                                                clear HO_7
                                                clear HO_9
                                                clear HO205
                                                clear BK159
                                                clear BK165
                                                clear BK181
                                                clear HB
                                                have HO_7 := n0_
                                                have HO_9 := n1_
                                                have HO205 := n2_
                                                have HO208 := n3_
                                                have BK159 := n4_
                                                have BK165 := n5_
                                                have BK181 := n6_
                                                have HB := n7_
                                                clear n0_ n1_ n2_ n3_ n4_ n5_ n6_ n7_
                                                (try clear hb)
                                                (try clear hb2)
                                                (try clear hk)
                                                (try clear hi)
                                                (try clear ho0)
                                                refine hK.out _ _ trivial (fun hHeld => ?_)
                                                clear hK K
                                                refine norm_ (a' := ?_) ?_ ?_
                                                rotate_left
                                                · show Act.put _ (some 97) _ = _
                                                  simp only [Act.put, List.setIfInBounds_toArray, List.set_cons_zero, List.set_cons_succ, i64_w, i32_w]
                                                  rfl
                                                refine pure_ (i := 8) (N := some 89) (v := ?_) (a' := ?_) #[true, true, true, true, true, true, true, true, true, false, false, false, false, false] rfl rfl (any_of HT_.out (by kernel_rfl)) (fun _ _ _ h => h) (Or.inl ⟨by rfl, ?_⟩) ?_ ?_
                                                rotate_left
                                                · intro w'
                                                  go_simp
                                                  with_reducible rfl
                                                rotate_left
                                                · simp only [Act.put, List.setIfInBounds_toArray, List.set_cons_zero, List.set_cons_succ, i64_w, i32_w]
                                                  rfl
                                                refine pure_ (i := 9) (N := some 98) (v := ?_) (a' := ?_) #[true, true, true, true, true, true, true, true, true, true, false, false, false, false] rfl rfl (any_of HT_.out (by kernel_rfl)) (fun _ _ _ h => h) (Or.inl ⟨by rfl, ?_⟩) ?_ ?_
                                                rotate_left
                                                · intro w'
                                                  go_simp
                                                  with_reducible rfl
                                                rotate_left
                                                · simp only [Act.put, List.setIfInBounds_toArray, List.set_cons_zero, List.set_cons_succ, i64_w, i32_w]
                                                  rfl
                                                refine pure_ (i := 10) (N := some 99) (v := ?_) (a' := ?_) #[true, true, true, true, true, true, true, true, true, true, true, false, false, false] rfl rfl (any_of HT_.out (by kernel_rfl)) (fun _ _ _ h => h) (Or.inl ⟨by rfl, ?_⟩) ?_ ?_
                                                rotate_left
                                                · intro w'
                                                  go_simp
                                                  with_reducible rfl
                                                rotate_left
                                                · simp only [Act.put, List.setIfInBounds_toArray, List.set_cons_zero, List.set_cons_succ, i64_w, i32_w]
                                                  rfl
                                                exact norm_ (by first | (simp only [putAll, Act.put, List.setIfInBounds_toArray, List.set_cons_zero, List.set_cons_succ]; done) | (simp only [putAll, Act.put, List.setIfInBounds_toArray, List.set_cons_zero, List.set_cons_succ]; rfl)) (hJ0_2_6_7 (v198, v201, .slice Ao83 y203.length co83, v207) _ ⟨(by (with_reducible repeat (first | apply Kd.R_alloc | apply Kd.R_drewN | apply Kd.R_drew)); exact HO205.out), (by (with_reducible repeat (first | apply Kd.R_alloc | apply Kd.R_drewN | apply Kd.R_drew)); exact HO208.out), (by (with_reducible repeat (first | apply Kd.R_alloc | apply Kd.R_drewN | apply Kd.R_drew)); exact HO_7.out), (by (with_reducible repeat (first | apply Kd.R_alloc | apply Kd.R_drewN | apply Kd.R_drew)); exact HO_9.out), (by (with_reducible repeat (first | refine blk_drewN ?_ _ | refine blk_drew ?_ | refine blk_alloc ?_ _)); exact BK159.out), (by (with_reducible repeat (first | refine blk_drewN ?_ _ | refine blk_drew ?_ | refine blk_alloc ?_ _)); exact BK165.out), (by (with_reducible repeat (first | refine blk_drewN ?_ _ | refine blk_drew ?_ | refine blk_alloc ?_ _)); exact BK181.out), (by repeat (first | (with_reducible first | exact HB.out | apply below_alloc | apply pw_below_drewN | apply below_drew1 | refine below_set ?_ GE159.out | refine below_set ?_ GE165.out | refine below_set ?_ GE181.out) | exact HB.out))⟩)
                                              · skip
                                                refine box_step ?hg (N := 15) ?hd (cs := #[.int .i64 0, .int .i64 0]) (t := 27) ?hr ?_; (case hd => rfl); (case hg => rfl); (case hr => first | (go_simp; done) | (go_simp; rfl))
                                                intro gb211 hg w83 hbox hb
                                                have n0_ := Aside0.mk (Kd.R_below (by (with_reducible repeat (first | apply Kd.R_alloc | apply Kd.R_drewN | apply Kd.R_drew)); exact HO_7.out) hb)
                                                have n1_ := Aside0.mk (Kd.R_below (by (with_reducible repeat (first | apply Kd.R_alloc | apply Kd.R_drewN | apply Kd.R_drew)); exact HO_9.out) hb)
                                                have n2_ := Aside0.mk (Kd.R_below (by (with_reducible repeat (first | apply Kd.R_alloc | apply Kd.R_drewN | apply Kd.R_drew)); exact HO205.out) hb)
                                                have n3_ := Aside0.mk (blk_below (g := gb159) (o := .cells #[.int .i64 t157, .int .i64 t158] 27 (0, 0)) (by (with_reducible repeat (first | refine blk_drewN ?_ _ | refine blk_drew ?_ | refine blk_alloc ?_ _)); exact BK159.out) hb)
                                                have n4_ := Aside0.mk (blk_below (g := gb165) (o := .cells #[.int .i64 t163, .int .i64 t164] 27 (0, 0)) (by (with_reducible repeat (first | refine blk_drewN ?_ _ | refine blk_drew ?_ | refine blk_alloc ?_ _)); exact BK165.out) hb)
                                                have n5_ := Aside0.mk (blk_below (g := gb181) (o := .cells #[.int .i64 t179, .int .i64 t180] 27 (0, 0)) (by (with_reducible repeat (first | refine blk_drewN ?_ _ | refine blk_drew ?_ | refine blk_alloc ?_ _)); exact BK181.out) hb)
                                                have n6_ := Aside0.mk (below_step (by repeat (first | (with_reducible first | exact HB.out | apply below_alloc | apply pw_below_drewN | apply below_drew1 | refine below_set ?_ GE159.out | refine below_set ?_ GE165.out | refine below_set ?_ GE181.out) | exact HB.out)) hb)
                                                have n7_ := Aside0.mk (hbox)
                                                have n8_ := Aside0.mk ((by rw [hg]; exact (below_size (by repeat (first | (with_reducible first | exact HB.out | apply below_alloc | apply pw_below_drewN | apply below_drew1 | refine below_set ?_ GE159.out | refine below_set ?_ GE165.out | refine below_set ?_ GE181.out) | exact HB.out))) : w.heap.size ≤ gb211))
                                                have n9_ := Aside0.mk ((by rw [hg]; exact (below_size (by repeat (first | (with_reducible first | exact HB.out | apply below_alloc | apply pw_below_drewN | apply below_drew1 | refine below_set ?_ GE159.out | refine below_set ?_ GE165.out | refine below_set ?_ GE181.out) | exact HB.out))) : w.heap.size ≤ gb211))
                                                have n10_ := Aside0.mk ((by rw [hg]; exact Nat.ne_of_lt (blk_lt (g := gb159) (o := .cells #[.int .i64 t157, .int .i64 t158] 27 (0, 0)) (by (with_reducible repeat (first | refine blk_drewN ?_ _ | refine blk_drew ?_ | refine blk_alloc ?_ _)); exact BK159.out)) : gb159 ≠ gb211))
                                                have n11_ := Aside0.mk ((by rw [hg]; exact Nat.ne_of_gt (blk_lt (g := gb159) (o := .cells #[.int .i64 t157, .int .i64 t158] 27 (0, 0)) (by (with_reducible repeat (first | refine blk_drewN ?_ _ | refine blk_drew ?_ | refine blk_alloc ?_ _)); exact BK159.out)) : gb211 ≠ gb159))
                                                have n12_ := Aside0.mk ((by rw [hg]; exact Nat.ne_of_lt (blk_lt (g := gb165) (o := .cells #[.int .i64 t163, .int .i64 t164] 27 (0, 0)) (by (with_reducible repeat (first | refine blk_drewN ?_ _ | refine blk_drew ?_ | refine blk_alloc ?_ _)); exact BK165.out)) : gb165 ≠ gb211))
                                                have n13_ := Aside0.mk ((by rw [hg]; exact Nat.ne_of_gt (blk_lt (g := gb165) (o := .cells #[.int .i64 t163, .int .i64 t164] 27 (0, 0)) (by (with_reducible repeat (first | refine blk_drewN ?_ _ | refine blk_drew ?_ | refine blk_alloc ?_ _)); exact BK165.out)) : gb211 ≠ gb165))
                                                have n14_ := Aside0.mk ((by rw [hg]; exact Nat.ne_of_lt (blk_lt (g := gb181) (o := .cells #[.int .i64 t179, .int .i64 t180] 27 (0, 0)) (by (with_reducible repeat (first | refine blk_drewN ?_ _ | refine blk_drew ?_ | refine blk_alloc ?_ _)); exact BK181.out)) : gb181 ≠ gb211))
                                                have n15_ := Aside0.mk ((by rw [hg]; exact Nat.ne_of_gt (blk_lt (g := gb181) (o := .cells #[.int .i64 t179, .int .i64 t180] 27 (0, 0)) (by (with_reducible repeat (first | refine blk_drewN ?_ _ | refine blk_drew ?_ | refine blk_alloc ?_ _)); exact BK181.out)) : gb211 ≠ gb181))
                                                clear HO_7
                                                clear HO_9
                                                clear HO205
                                                clear BK159
                                                clear BK165
                                                clear BK181
                                                clear HB
                                                have HO_7 := n0_
                                                have HO_9 := n1_
                                                have HO205 := n2_
                                                have BK159 := n3_
                                                have BK165 := n4_
                                                have BK181 := n5_
                                                have HB := n6_
                                                have BK211 := n7_
                                                have GW211 := n8_
                                                have GE211 := n9_
                                                have NB159_211 := n10_
                                                have NB211_159 := n11_
                                                have NB165_211 := n12_
                                                have NB211_165 := n13_
                                                have NB181_211 := n14_
                                                have NB211_181 := n15_
                                                clear n0_ n1_ n2_ n3_ n4_ n5_ n6_ n7_ n8_ n9_ n10_ n11_ n12_ n13_ n14_ n15_
                                                clear hb hbox hg
                                                refine hK.out _ _ trivial (fun hHeld => ?_)
                                                clear hK K
                                                refine norm_ (a' := ?_) ?_ ?_
                                                rotate_left
                                                · show Act.put _ (some 15) _ = _
                                                  simp only [Act.put, List.setIfInBounds_toArray, List.set_cons_zero, List.set_cons_succ, i64_w, i32_w]
                                                  rfl
                                                exact norm_ (by first | (simp only [putAll, Act.put, List.setIfInBounds_toArray, List.set_cons_zero, List.set_cons_succ]; done) | (simp only [putAll, Act.put, List.setIfInBounds_toArray, List.set_cons_zero, List.set_cons_succ]; rfl)) (hJ0_2_6_11 (v198, v201, .slice Ao83 y203.length co83, gb211) _ ⟨(by (with_reducible repeat (first | apply Kd.R_alloc | apply Kd.R_drewN | apply Kd.R_drew)); exact HO205.out), (by (with_reducible repeat (first | apply Kd.R_alloc | apply Kd.R_drewN | apply Kd.R_drew)); exact HO_7.out), (by (with_reducible repeat (first | apply Kd.R_alloc | apply Kd.R_drewN | apply Kd.R_drew)); exact HO_9.out), (by (with_reducible repeat (first | refine blk_drewN ?_ _ | refine blk_drew ?_ | refine blk_alloc ?_ _)); exact BK159.out), (by (with_reducible repeat (first | refine blk_drewN ?_ _ | refine blk_drew ?_ | refine blk_alloc ?_ _)); exact BK165.out), (by (with_reducible repeat (first | refine blk_drewN ?_ _ | refine blk_drew ?_ | refine blk_alloc ?_ _)); exact BK181.out), (by (with_reducible repeat (first | refine blk_drewN ?_ _ | refine blk_drew ?_ | refine blk_alloc ?_ _)); exact BK211.out), GW211.out, GE211.out, NB159_211.out, NB211_159.out, NB165_211.out, NB211_165.out, NB181_211.out, NB211_181.out, (by repeat (first | (with_reducible first | exact HB.out | apply below_alloc | apply pw_below_drewN | apply below_drew1 | refine below_set ?_ GE159.out | refine below_set ?_ GE165.out | refine below_set ?_ GE181.out | refine below_set ?_ GE211.out) | exact HB.out))⟩)
                                          · skip
                                            rintro ⟨v198, v201, v204, gb211⟩ w83 ⟨h0_, h1_, h2_, h3_, h4_, h5_, h6_, h7_, h8_, h9_, h10_, h11_, h12_, h13_, h14_, h15_⟩
                                            have n0_ : Aside0 (Kd.R (Kd.int .u8) 5 w83 w.heap.size (fun k_ => some k_ ≠ (.slice Ao35 t154.length co35 : Value).ownBlock ∧ some k_ ≠ (.slice Ao37 t160.length co37 : Value).ownBlock) v204 y203) := ⟨h0_⟩
                                            have n1_ : Aside0 (Kd.R (Kd.int .u8) 5 w83 w.heap.size (fun k_ => some k_ ≠ (v204 : Value).ownBlock ∧ some k_ ≠ (.slice Ao37 t160.length co37 : Value).ownBlock) (.slice Ao35 t154.length co35) t154) := ⟨h1_⟩
                                            have n2_ : Aside0 (Kd.R (Kd.int .u8) 5 w83 w.heap.size (fun k_ => some k_ ≠ (v204 : Value).ownBlock ∧ some k_ ≠ (.slice Ao35 t154.length co35 : Value).ownBlock) (.slice Ao37 t160.length co37) t160) := ⟨h2_⟩
                                            have n3_ : Aside0 (w83.heap[gb159]? = some (.cells #[.int .i64 t157, .int .i64 t158] 27 (0, 0))) := ⟨h3_⟩
                                            have n4_ : Aside0 (w83.heap[gb165]? = some (.cells #[.int .i64 t163, .int .i64 t164] 27 (0, 0))) := ⟨h4_⟩
                                            have n5_ : Aside0 (w83.heap[gb181]? = some (.cells #[.int .i64 t179, .int .i64 t180] 27 (0, 0))) := ⟨h5_⟩
                                            have n6_ : Aside0 (w83.heap[gb211]? = some (.cells #[.int .i64 0, .int .i64 0] 27 (0, 0))) := ⟨h6_⟩
                                            have n7_ : Aside0 (w.heap.size ≤ gb211) := ⟨h7_⟩
                                            have n8_ : Aside0 (w.heap.size ≤ gb211) := ⟨h8_⟩
                                            have n9_ : Aside0 (gb159 ≠ gb211) := ⟨h9_⟩
                                            have n10_ : Aside0 (gb211 ≠ gb159) := ⟨h10_⟩
                                            have n11_ : Aside0 (gb165 ≠ gb211) := ⟨h11_⟩
                                            have n12_ : Aside0 (gb211 ≠ gb165) := ⟨h12_⟩
                                            have n13_ : Aside0 (gb181 ≠ gb211) := ⟨h13_⟩
                                            have n14_ : Aside0 (gb211 ≠ gb181) := ⟨h14_⟩
                                            have n15_ : Aside0 (Below w.heap.size w w83) := ⟨h15_⟩
                                            clear HO_7
                                            clear HO_9
                                            clear BK159
                                            clear BK165
                                            clear BK181
                                            clear HB
                                            clear h0_ h1_ h2_ h3_ h4_ h5_ h6_ h7_ h8_ h9_ h10_ h11_ h12_ h13_ h14_ h15_
                                            have HO205 := n0_
                                            have HO_7 := n1_
                                            have HO_9 := n2_
                                            have BK159 := n3_
                                            have BK165 := n4_
                                            have BK181 := n5_
                                            have BK211 := n6_
                                            have GW211 := n7_
                                            have GE211 := n8_
                                            have NB159_211 := n9_
                                            have NB211_159 := n10_
                                            have NB165_211 := n11_
                                            have NB211_165 := n12_
                                            have NB181_211 := n13_
                                            have NB211_181 := n14_
                                            have HB := n15_
                                            clear n0_ n1_ n2_ n3_ n4_ n5_ n6_ n7_ n8_ n9_ n10_ n11_ n12_ n13_ n14_ n15_
                                            have hHeld := trivial
                                            obtain ⟨Ao84, co84, eo84⟩ := Kd.R_slice HO205.out
                                            (first | subst eo84 | (injection eo84 with f1_ f2_ f3_; have f4_ := f1_.symm; have f5_ := f3_.symm; clear f1_ f2_ f3_; subst f4_; subst f5_))
                                            refine norm_ (a' := ?_) ?_ ?_
                                            rotate_left
                                            · simp only [putAll, Act.put, List.setIfInBounds_toArray, List.set_cons_zero, List.set_cons_succ]
                                              rfl
                                            refine one_ (i := 7) (N := some 97) #[true, true, true, true, true, true, true, true, false, false, false, true, false, false] rfl rfl (one_of HT_.out (by kernel_rfl)) (by decide) (fun K hK => ?_)
                                            refine goes_ Try.func11 (by kernel_rfl) rfl #[.slice Ao84 y203.length co84] (by rfl) rfl rfl (by (try simp only [List.map_toArray, List.map_cons, List.map_nil]); first | done | rfl | (simp only [List.length_drop, List.length_take]; rfl)) ?_
                                            with_reducible refine (utf_Decode.calls kj65 _ _ y203 t206 t209 t210 _ ?side1 ?side2 A76.out).mono ?_
                                            (case side1 => repeat (first | exact (Kd.R_reads' HO205.out).2.2 | (with_reducible refine Kd.C_alloc ?_ _) | (with_reducible refine Kd.C_drewN ?_ _) | (with_reducible refine Kd.C_drew ?_)))
                                            (case side2 => exact (Kd.R_reads' HO205.out).2.1)
                                            rintro e w85 ⟨v207, rfl, ho0, hb⟩
                                            refine ⟨_, rfl, ?_⟩
                                            have n0_ := Aside0.mk (Kd.R_below (by (with_reducible repeat (first | apply Kd.R_alloc | apply Kd.R_drewN | apply Kd.R_drew)); exact HO_7.out) hb)
                                            have n1_ := Aside0.mk (Kd.R_below (by (with_reducible repeat (first | apply Kd.R_alloc | apply Kd.R_drewN | apply Kd.R_drew)); exact HO_9.out) hb)
                                            have n2_ := Aside0.mk (Kd.R_below (by (with_reducible repeat (first | apply Kd.R_alloc | apply Kd.R_drewN | apply Kd.R_drew)); exact HO205.out) hb)
                                            have n3_ := Aside0.mk (Kd.R_lower ho0 (below_size (by repeat (first | (with_reducible first | exact HB.out | apply below_alloc | apply pw_below_drewN | apply below_drew1 | refine below_set ?_ GE159.out | refine below_set ?_ GE165.out | refine below_set ?_ GE181.out | refine below_set ?_ GE211.out) | exact HB.out))))
                                            have n4_ := Aside0.mk (blk_below (g := gb159) (o := .cells #[.int .i64 t157, .int .i64 t158] 27 (0, 0)) (by (with_reducible repeat (first | refine blk_drewN ?_ _ | refine blk_drew ?_ | refine blk_alloc ?_ _)); exact BK159.out) hb)
                                            have n5_ := Aside0.mk (blk_below (g := gb165) (o := .cells #[.int .i64 t163, .int .i64 t164] 27 (0, 0)) (by (with_reducible repeat (first | refine blk_drewN ?_ _ | refine blk_drew ?_ | refine blk_alloc ?_ _)); exact BK165.out) hb)
                                            have n6_ := Aside0.mk (blk_below (g := gb181) (o := .cells #[.int .i64 t179, .int .i64 t180] 27 (0, 0)) (by (with_reducible repeat (first | refine blk_drewN ?_ _ | refine blk_drew ?_ | refine blk_alloc ?_ _)); exact BK181.out) hb)
                                            have n7_ := Aside0.mk (blk_below (g := gb211) (o := .cells #[.int .i64 0, .int .i64 0] 27 (0, 0)) (by (with_reducible repeat (first | refine blk_drewN ?_ _ | refine blk_drew ?_ | refine blk_alloc ?_ _)); exact BK211.out) hb)
                                            have n8_ := Aside0.mk (below_step (by repeat (first | (with_reducible first | exact HB.out | apply below_alloc | apply pw_below_drewN | apply below_drew1 | refine below_set ?_ GE159.out | refine below_set ?_ GE165.out | refine below_set ?_ GE181.out | refine below_set ?_ GE211.out) | exact HB.out)) hb)
                                            clear HO_7
                                            clear HO_9
                                            clear HO205
                                            clear BK159
                                            clear BK165
                                            clear BK181
                                            clear BK211
                                            clear HB
                                            have HO_7 := n0_
                                            have HO_9 := n1_
                                            have HO205 := n2_
                                            have HO208 := n3_
                                            have BK159 := n4_
                                            have BK165 := n5_
                                            have BK181 := n6_
                                            have BK211 := n7_
                                            have HB := n8_
                                            clear n0_ n1_ n2_ n3_ n4_ n5_ n6_ n7_ n8_
                                            (try clear hb)
                                            (try clear hb2)
                                            (try clear hk)
                                            (try clear hi)
                                            (try clear ho0)
                                            refine hK.out _ _ trivial (fun hHeld => ?_)
                                            clear hK K
                                            refine norm_ (a' := ?_) ?_ ?_
                                            rotate_left
                                            · show Act.put _ (some 97) _ = _
                                              simp only [Act.put, List.setIfInBounds_toArray, List.set_cons_zero, List.set_cons_succ, i64_w, i32_w]
                                              rfl
                                            refine pure_ (i := 8) (N := some 89) (v := ?_) (a' := ?_) #[true, true, true, true, true, true, true, true, true, false, false, true, false, false] rfl rfl (any_of HT_.out (by kernel_rfl)) (fun _ _ _ h => h) (Or.inl ⟨by rfl, ?_⟩) ?_ ?_
                                            rotate_left
                                            · intro w'
                                              go_simp
                                              with_reducible rfl
                                            rotate_left
                                            · simp only [Act.put, List.setIfInBounds_toArray, List.set_cons_zero, List.set_cons_succ, i64_w, i32_w]
                                              rfl
                                            refine pure_ (i := 9) (N := some 98) (v := ?_) (a' := ?_) #[true, true, true, true, true, true, true, true, true, true, false, true, false, false] rfl rfl (any_of HT_.out (by kernel_rfl)) (fun _ _ _ h => h) (Or.inl ⟨by rfl, ?_⟩) ?_ ?_
                                            rotate_left
                                            · intro w'
                                              go_simp
                                              with_reducible rfl
                                            rotate_left
                                            · simp only [Act.put, List.setIfInBounds_toArray, List.set_cons_zero, List.set_cons_succ, i64_w, i32_w]
                                              rfl
                                            refine pure_ (i := 10) (N := some 99) (v := ?_) (a' := ?_) #[true, true, true, true, true, true, true, true, true, true, true, true, false, false] rfl rfl (any_of HT_.out (by kernel_rfl)) (fun _ _ _ h => h) (Or.inl ⟨by rfl, ?_⟩) ?_ ?_
                                            rotate_left
                                            · intro w'
                                              go_simp
                                              with_reducible rfl
                                            rotate_left
                                            · simp only [Act.put, List.setIfInBounds_toArray, List.set_cons_zero, List.set_cons_succ, i64_w, i32_w]
                                              rfl
                                            exact norm_ (by first | (simp only [putAll, Act.put, List.setIfInBounds_toArray, List.set_cons_zero, List.set_cons_succ]; done) | (simp only [putAll, Act.put, List.setIfInBounds_toArray, List.set_cons_zero, List.set_cons_succ]; rfl)) (hJ0_2_6_7_11 (v198, v201, .slice Ao84 y203.length co84, v207, gb211) _ ⟨(by (with_reducible repeat (first | apply Kd.R_alloc | apply Kd.R_drewN | apply Kd.R_drew)); exact HO205.out), (by (with_reducible repeat (first | apply Kd.R_alloc | apply Kd.R_drewN | apply Kd.R_drew)); exact HO208.out), (by (with_reducible repeat (first | apply Kd.R_alloc | apply Kd.R_drewN | apply Kd.R_drew)); exact HO_7.out), (by (with_reducible repeat (first | apply Kd.R_alloc | apply Kd.R_drewN | apply Kd.R_drew)); exact HO_9.out), (by (with_reducible repeat (first | refine blk_drewN ?_ _ | refine blk_drew ?_ | refine blk_alloc ?_ _)); exact BK159.out), (by (with_reducible repeat (first | refine blk_drewN ?_ _ | refine blk_drew ?_ | refine blk_alloc ?_ _)); exact BK165.out), (by (with_reducible repeat (first | refine blk_drewN ?_ _ | refine blk_drew ?_ | refine blk_alloc ?_ _)); exact BK181.out), (by (with_reducible repeat (first | refine blk_drewN ?_ _ | refine blk_drew ?_ | refine blk_alloc ?_ _)); exact BK211.out), GW211.out, GE211.out, NB159_211.out, NB211_159.out, NB165_211.out, NB211_165.out, NB181_211.out, NB211_181.out, (by repeat (first | (with_reducible first | exact HB.out | apply below_alloc | apply pw_below_drewN | apply below_drew1 | refine below_set ?_ GE159.out | refine below_set ?_ GE165.out | refine below_set ?_ GE181.out | refine below_set ?_ GE211.out) | exact HB.out))⟩)
                                        · skip
                                          rintro ⟨v198, v201, v204, v207⟩ w84 ⟨h0_, h1_, h2_, h3_, h4_, h5_, h6_, h7_⟩
                                          have n0_ : Aside0 (Kd.R (Kd.int .u8) 5 w84 w.heap.size (fun k_ => some k_ ≠ (.slice Ao35 t154.length co35 : Value).ownBlock ∧ some k_ ≠ (.slice Ao37 t160.length co37 : Value).ownBlock) v204 y203) := ⟨h0_⟩
                                          have n1_ : Aside0 (Kd.R (Kd.int .i32) 21 w84 w.heap.size (fun _ => True) v207 t206) := ⟨h1_⟩
                                          have n2_ : Aside0 (Kd.R (Kd.int .u8) 5 w84 w.heap.size (fun k_ => some k_ ≠ (v204 : Value).ownBlock ∧ some k_ ≠ (.slice Ao37 t160.length co37 : Value).ownBlock) (.slice Ao35 t154.length co35) t154) := ⟨h2_⟩
                                          have n3_ : Aside0 (Kd.R (Kd.int .u8) 5 w84 w.heap.size (fun k_ => some k_ ≠ (v204 : Value).ownBlock ∧ some k_ ≠ (.slice Ao35 t154.length co35 : Value).ownBlock) (.slice Ao37 t160.length co37) t160) := ⟨h3_⟩
                                          have n4_ : Aside0 (w84.heap[gb159]? = some (.cells #[.int .i64 t157, .int .i64 t158] 27 (0, 0))) := ⟨h4_⟩
                                          have n5_ : Aside0 (w84.heap[gb165]? = some (.cells #[.int .i64 t163, .int .i64 t164] 27 (0, 0))) := ⟨h5_⟩
                                          have n6_ : Aside0 (w84.heap[gb181]? = some (.cells #[.int .i64 t179, .int .i64 t180] 27 (0, 0))) := ⟨h6_⟩
                                          have n7_ : Aside0 (Below w.heap.size w w84) := ⟨h7_⟩
                                          clear HO_7
                                          clear HO_9
                                          clear BK159
                                          clear BK165
                                          clear BK181
                                          clear HB
                                          clear h0_ h1_ h2_ h3_ h4_ h5_ h6_ h7_
                                          have HO205 := n0_
                                          have HO208 := n1_
                                          have HO_7 := n2_
                                          have HO_9 := n3_
                                          have BK159 := n4_
                                          have BK165 := n5_
                                          have BK181 := n6_
                                          have HB := n7_
                                          clear n0_ n1_ n2_ n3_ n4_ n5_ n6_ n7_
                                          have hHeld := trivial
                                          refine norm_ (a' := ?_) ?_ ?_
                                          rotate_left
                                          · simp only [putAll, Act.put, List.setIfInBounds_toArray, List.set_cons_zero, List.set_cons_succ]
                                            rfl
                                          refine one_ (i := 11) (N := some 15) #[true, true, true, true, true, true, true, true, true, true, true, true, false, false] rfl rfl (one_of HT_.out (by kernel_rfl)) (by decide) (fun K hK => ?_)
                                          refine box_step ?hg (N := 15) ?hd (cs := #[.int .i64 0, .int .i64 0]) (t := 27) ?hr ?_; (case hd => rfl); (case hg => rfl); (case hr => first | (go_simp; done) | (go_simp; rfl))
                                          intro gb211 hg w85 hbox hb
                                          have n0_ := Aside0.mk (Kd.R_below (by (with_reducible repeat (first | apply Kd.R_alloc | apply Kd.R_drewN | apply Kd.R_drew)); exact HO_7.out) hb)
                                          have n1_ := Aside0.mk (Kd.R_below (by (with_reducible repeat (first | apply Kd.R_alloc | apply Kd.R_drewN | apply Kd.R_drew)); exact HO_9.out) hb)
                                          have n2_ := Aside0.mk (Kd.R_below (by (with_reducible repeat (first | apply Kd.R_alloc | apply Kd.R_drewN | apply Kd.R_drew)); exact HO205.out) hb)
                                          have n3_ := Aside0.mk (Kd.R_below (by (with_reducible repeat (first | apply Kd.R_alloc | apply Kd.R_drewN | apply Kd.R_drew)); exact HO208.out) hb)
                                          have n4_ := Aside0.mk (blk_below (g := gb159) (o := .cells #[.int .i64 t157, .int .i64 t158] 27 (0, 0)) (by (with_reducible repeat (first | refine blk_drewN ?_ _ | refine blk_drew ?_ | refine blk_alloc ?_ _)); exact BK159.out) hb)
                                          have n5_ := Aside0.mk (blk_below (g := gb165) (o := .cells #[.int .i64 t163, .int .i64 t164] 27 (0, 0)) (by (with_reducible repeat (first | refine blk_drewN ?_ _ | refine blk_drew ?_ | refine blk_alloc ?_ _)); exact BK165.out) hb)
                                          have n6_ := Aside0.mk (blk_below (g := gb181) (o := .cells #[.int .i64 t179, .int .i64 t180] 27 (0, 0)) (by (with_reducible repeat (first | refine blk_drewN ?_ _ | refine blk_drew ?_ | refine blk_alloc ?_ _)); exact BK181.out) hb)
                                          have n7_ := Aside0.mk (below_step (by repeat (first | (with_reducible first | exact HB.out | apply below_alloc | apply pw_below_drewN | apply below_drew1 | refine below_set ?_ GE159.out | refine below_set ?_ GE165.out | refine below_set ?_ GE181.out) | exact HB.out)) hb)
                                          have n8_ := Aside0.mk (hbox)
                                          have n9_ := Aside0.mk ((by rw [hg]; exact (below_size (by repeat (first | (with_reducible first | exact HB.out | apply below_alloc | apply pw_below_drewN | apply below_drew1 | refine below_set ?_ GE159.out | refine below_set ?_ GE165.out | refine below_set ?_ GE181.out) | exact HB.out))) : w.heap.size ≤ gb211))
                                          have n10_ := Aside0.mk ((by rw [hg]; exact (below_size (by repeat (first | (with_reducible first | exact HB.out | apply below_alloc | apply pw_below_drewN | apply below_drew1 | refine below_set ?_ GE159.out | refine below_set ?_ GE165.out | refine below_set ?_ GE181.out) | exact HB.out))) : w.heap.size ≤ gb211))
                                          have n11_ := Aside0.mk ((by rw [hg]; exact Nat.ne_of_lt (blk_lt (g := gb159) (o := .cells #[.int .i64 t157, .int .i64 t158] 27 (0, 0)) (by (with_reducible repeat (first | refine blk_drewN ?_ _ | refine blk_drew ?_ | refine blk_alloc ?_ _)); exact BK159.out)) : gb159 ≠ gb211))
                                          have n12_ := Aside0.mk ((by rw [hg]; exact Nat.ne_of_gt (blk_lt (g := gb159) (o := .cells #[.int .i64 t157, .int .i64 t158] 27 (0, 0)) (by (with_reducible repeat (first | refine blk_drewN ?_ _ | refine blk_drew ?_ | refine blk_alloc ?_ _)); exact BK159.out)) : gb211 ≠ gb159))
                                          have n13_ := Aside0.mk ((by rw [hg]; exact Nat.ne_of_lt (blk_lt (g := gb165) (o := .cells #[.int .i64 t163, .int .i64 t164] 27 (0, 0)) (by (with_reducible repeat (first | refine blk_drewN ?_ _ | refine blk_drew ?_ | refine blk_alloc ?_ _)); exact BK165.out)) : gb165 ≠ gb211))
                                          have n14_ := Aside0.mk ((by rw [hg]; exact Nat.ne_of_gt (blk_lt (g := gb165) (o := .cells #[.int .i64 t163, .int .i64 t164] 27 (0, 0)) (by (with_reducible repeat (first | refine blk_drewN ?_ _ | refine blk_drew ?_ | refine blk_alloc ?_ _)); exact BK165.out)) : gb211 ≠ gb165))
                                          have n15_ := Aside0.mk ((by rw [hg]; exact Nat.ne_of_lt (blk_lt (g := gb181) (o := .cells #[.int .i64 t179, .int .i64 t180] 27 (0, 0)) (by (with_reducible repeat (first | refine blk_drewN ?_ _ | refine blk_drew ?_ | refine blk_alloc ?_ _)); exact BK181.out)) : gb181 ≠ gb211))
                                          have n16_ := Aside0.mk ((by rw [hg]; exact Nat.ne_of_gt (blk_lt (g := gb181) (o := .cells #[.int .i64 t179, .int .i64 t180] 27 (0, 0)) (by (with_reducible repeat (first | refine blk_drewN ?_ _ | refine blk_drew ?_ | refine blk_alloc ?_ _)); exact BK181.out)) : gb211 ≠ gb181))
                                          clear HO_7
                                          clear HO_9
                                          clear HO205
                                          clear HO208
                                          clear BK159
                                          clear BK165
                                          clear BK181
                                          clear HB
                                          have HO_7 := n0_
                                          have HO_9 := n1_
                                          have HO205 := n2_
                                          have HO208 := n3_
                                          have BK159 := n4_
                                          have BK165 := n5_
                                          have BK181 := n6_
                                          have HB := n7_
                                          have BK211 := n8_
                                          have GW211 := n9_
                                          have GE211 := n10_
                                          have NB159_211 := n11_
                                          have NB211_159 := n12_
                                          have NB165_211 := n13_
                                          have NB211_165 := n14_
                                          have NB181_211 := n15_
                                          have NB211_181 := n16_
                                          clear n0_ n1_ n2_ n3_ n4_ n5_ n6_ n7_ n8_ n9_ n10_ n11_ n12_ n13_ n14_ n15_ n16_
                                          clear hb hbox hg
                                          refine hK.out _ _ trivial (fun hHeld => ?_)
                                          clear hK K
                                          refine norm_ (a' := ?_) ?_ ?_
                                          rotate_left
                                          · show Act.put _ (some 15) _ = _
                                            simp only [Act.put, List.setIfInBounds_toArray, List.set_cons_zero, List.set_cons_succ, i64_w, i32_w]
                                            rfl
                                          exact norm_ (by first | (simp only [putAll, Act.put, List.setIfInBounds_toArray, List.set_cons_zero, List.set_cons_succ]; done) | (simp only [putAll, Act.put, List.setIfInBounds_toArray, List.set_cons_zero, List.set_cons_succ]; rfl)) (hJ0_2_6_7_11 (v198, v201, v204, v207, gb211) _ ⟨(by (with_reducible repeat (first | apply Kd.R_alloc | apply Kd.R_drewN | apply Kd.R_drew)); exact HO205.out), (by (with_reducible repeat (first | apply Kd.R_alloc | apply Kd.R_drewN | apply Kd.R_drew)); exact HO208.out), (by (with_reducible repeat (first | apply Kd.R_alloc | apply Kd.R_drewN | apply Kd.R_drew)); exact HO_7.out), (by (with_reducible repeat (first | apply Kd.R_alloc | apply Kd.R_drewN | apply Kd.R_drew)); exact HO_9.out), (by (with_reducible repeat (first | refine blk_drewN ?_ _ | refine blk_drew ?_ | refine blk_alloc ?_ _)); exact BK159.out), (by (with_reducible repeat (first | refine blk_drewN ?_ _ | refine blk_drew ?_ | refine blk_alloc ?_ _)); exact BK165.out), (by (with_reducible repeat (first | refine blk_drewN ?_ _ | refine blk_drew ?_ | refine blk_alloc ?_ _)); exact BK181.out), (by (with_reducible repeat (first | refine blk_drewN ?_ _ | refine blk_drew ?_ | refine blk_alloc ?_ _)); exact BK211.out), GW211.out, GE211.out, NB159_211.out, NB211_159.out, NB165_211.out, NB211_165.out, NB181_211.out, NB211_181.out, (by repeat (first | (with_reducible first | exact HB.out | apply below_alloc | apply pw_below_drewN | apply below_drew1 | refine below_set ?_ GE159.out | refine below_set ?_ GE165.out | refine below_set ?_ GE181.out | refine below_set ?_ GE211.out) | exact HB.out))⟩)
                                      rintro ⟨v198, v201, v204, v207, gb211⟩ w85 ⟨h0_, h1_, h2_, h3_, h4_, h5_, h6_, h7_, h8_, h9_, h10_, h11_, h12_, h13_, h14_, h15_, h16_⟩
                                      have n0_ : Aside0 (Kd.R (Kd.int .u8) 5 w85 w.heap.size (fun k_ => some k_ ≠ (.slice Ao35 t154.length co35 : Value).ownBlock ∧ some k_ ≠ (.slice Ao37 t160.length co37 : Value).ownBlock) v204 y203) := ⟨h0_⟩
                                      have n1_ : Aside0 (Kd.R (Kd.int .i32) 21 w85 w.heap.size (fun _ => True) v207 t206) := ⟨h1_⟩
                                      have n2_ : Aside0 (Kd.R (Kd.int .u8) 5 w85 w.heap.size (fun k_ => some k_ ≠ (v204 : Value).ownBlock ∧ some k_ ≠ (.slice Ao37 t160.length co37 : Value).ownBlock) (.slice Ao35 t154.length co35) t154) := ⟨h2_⟩
                                      have n3_ : Aside0 (Kd.R (Kd.int .u8) 5 w85 w.heap.size (fun k_ => some k_ ≠ (v204 : Value).ownBlock ∧ some k_ ≠ (.slice Ao35 t154.length co35 : Value).ownBlock) (.slice Ao37 t160.length co37) t160) := ⟨h3_⟩
                                      have n4_ : Aside0 (w85.heap[gb159]? = some (.cells #[.int .i64 t157, .int .i64 t158] 27 (0, 0))) := ⟨h4_⟩
                                      have n5_ : Aside0 (w85.heap[gb165]? = some (.cells #[.int .i64 t163, .int .i64 t164] 27 (0, 0))) := ⟨h5_⟩
                                      have n6_ : Aside0 (w85.heap[gb181]? = some (.cells #[.int .i64 t179, .int .i64 t180] 27 (0, 0))) := ⟨h6_⟩
                                      have n7_ : Aside0 (w85.heap[gb211]? = some (.cells #[.int .i64 0, .int .i64 0] 27 (0, 0))) := ⟨h7_⟩
                                      have n8_ : Aside0 (w.heap.size ≤ gb211) := ⟨h8_⟩
                                      have n9_ : Aside0 (w.heap.size ≤ gb211) := ⟨h9_⟩
                                      have n10_ : Aside0 (gb159 ≠ gb211) := ⟨h10_⟩
                                      have n11_ : Aside0 (gb211 ≠ gb159) := ⟨h11_⟩
                                      have n12_ : Aside0 (gb165 ≠ gb211) := ⟨h12_⟩
                                      have n13_ : Aside0 (gb211 ≠ gb165) := ⟨h13_⟩
                                      have n14_ : Aside0 (gb181 ≠ gb211) := ⟨h14_⟩
                                      have n15_ : Aside0 (gb211 ≠ gb181) := ⟨h15_⟩
                                      have n16_ : Aside0 (Below w.heap.size w w85) := ⟨h16_⟩
                                      clear HO_7
                                      clear HO_9
                                      clear BK159
                                      clear BK165
                                      clear BK181
                                      clear HB
                                      clear h0_ h1_ h2_ h3_ h4_ h5_ h6_ h7_ h8_ h9_ h10_ h11_ h12_ h13_ h14_ h15_ h16_
                                      have HO205 := n0_
                                      have HO208 := n1_
                                      have HO_7 := n2_
                                      have HO_9 := n3_
                                      have BK159 := n4_
                                      have BK165 := n5_
                                      have BK181 := n6_
                                      have BK211 := n7_
                                      have GW211 := n8_
                                      have GE211 := n9_
                                      have NB159_211 := n10_
                                      have NB211_159 := n11_
                                      have NB165_211 := n12_
                                      have NB211_165 := n13_
                                      have NB181_211 := n14_
                                      have NB211_181 := n15_
                                      have HB := n16_
                                      clear n0_ n1_ n2_ n3_ n4_ n5_ n6_ n7_ n8_ n9_ n10_ n11_ n12_ n13_ n14_ n15_ n16_
                                      have hHeld := trivial
                                      refine norm_ (a' := ?_) ?_ ?_
                                      rotate_left
                                      · simp only [putAll, Act.put, List.setIfInBounds_toArray, List.set_cons_zero, List.set_cons_succ]
                                        rfl
                                      refine pure_ (i := 12) (N := some 14) (v := ?_) (a' := ?_) #[true, true, true, true, true, true, true, true, true, true, true, true, true, false] rfl rfl (any_of HT_.out (by kernel_rfl)) (fun _ _ _ h => h) (Or.inl ⟨by rfl, ?_⟩) ?_ ?_
                                      rotate_left
                                      · intro w'
                                        go_simp
                                        with_reducible rfl
                                      rotate_left
                                      · simp only [Act.put, List.setIfInBounds_toArray, List.set_cons_zero, List.set_cons_succ, i64_w, i32_w]
                                        rfl
                                      refine one_ (i := 13) (N := none) #[true, true, true, true, true, true, true, true, true, true, true, true, true, true] rfl rfl (one_of HT_.out (by kernel_rfl)) (by decide) (fun K hK => ?_)
                                      have hs86 : w85.cell? ⟨gb211, 0, none⟩ = some (.int .i64 0) := (blk_cell BK211.out 0).trans rfl
                                      have hfs86 := blk_frozen BK211.out 0
                                      have hns86_0 := NB159_211.out
                                      have hns86_1 := NB165_211.out
                                      have hns86_2 := NB181_211.out
                                      have hms86_0 := NB211_159.out
                                      have hms86_1 := NB211_165.out
                                      have hms86_2 := NB211_181.out
                                      have hs87 : w85.cell? ⟨gb211, 1, none⟩ = some (.int .i64 0) := (blk_cell BK211.out 1).trans rfl
                                      have hfs87 := blk_frozen BK211.out 1
                                      have hns87_0 := NB159_211.out
                                      have hns87_1 := NB165_211.out
                                      have hns87_2 := NB181_211.out
                                      have hms87_0 := NB211_159.out
                                      have hms87_1 := NB211_165.out
                                      have hms87_2 := NB211_181.out
                                      refine skip_ (w1 := ?_) (by rfl) rfl ?_ ?_
                                      rotate_left
                                      · go_simp
                                        rfl
                                      refine hK.out _ _ trivial (fun hHeld => ?_)
                                      clear hK K
                                      refine done_ (done_of HT_.out (by kernel_rfl)) ?_
                                      have hnb88 := NB211_159.out
                                      have hnc88 := NB159_211.out
                                      have hnb89 := NB211_165.out
                                      have hnc89 := NB165_211.out
                                      have hnb90 := NB211_181.out
                                      have hnc90 := NB181_211.out
                                      have hcz91_0 : w85.cell? ⟨gb211, 0, none⟩ = some (.int .i64 0) := (blk_cell BK211.out 0).trans rfl
                                      have hcz91_1 : w85.cell? ⟨gb211, 1, none⟩ = some (.int .i64 0) := (blk_cell BK211.out 1).trans rfl
                                      have hfz91_0 := blk_frozen BK211.out 0
                                      have hfz91_1 := blk_frozen BK211.out 1
                                      try go_wp2
                                      go_ret
                                      exact ⟨by first | rfl | (simp [errW_none, errW_some] <;> rfl) | (simp [*, errW_none, errW_some] <;> rfl), by repeat (first | (with_reducible first | exact HB.out | apply below_alloc | apply pw_below_drewN | apply below_drew1 | refine below_set ?_ GE159.out | refine below_set ?_ GE165.out | refine below_set ?_ GE181.out | refine below_set ?_ GE211.out) | exact HB.out)⟩
                                    · rw [if_neg c75] at H
                                      exact absurd H (by simp)
                                  · rw [if_neg c74] at H
                                    exact absurd H (by simp)
                              · rw [if_neg c71] at H
                                exact absurd H (by simp)
                · rw [if_neg c29] at H
                  exact absurd H (by simp)
              · rw [if_neg c28] at H
                exact absurd H (by simp)

/-- THE ONE PURE STATEMENT of amanuensislaw01_UtfJoins: yours. -/
def amanuensislaw01_UtfJoins.Pure : Prop := ∀ (l0 : List Int) (l1 : List Int) (a2 : Int), l0.length ≤ maxLen → l0.length * 4 ≤ 140737488351232 → (∀ x ∈ l0, (Lit.int .i32 x).wf = true) → l1.length ≤ maxLen → l1.length * 4 ≤ 140737488351232 → (∀ x ∈ l1, (Lit.int .i32 x).wf = true) → (Lit.int .u8 a2).wf = true → ∃ k, amanuensislaw01_UtfJoins.f k l0 l1 a2 = some true
theorem amanuensislaw01_UtfJoins.walk (P : amanuensislaw01_UtfJoins.Pure) (a0 : Option Addr) (len0 cap0 : Nat) (z0 : List Int) (a1 : Option Addr) (len1 cap1 : Nat) (z1 : List Int) (a2 : Int) (w : World) (w0 : (a0 = none ∧ len0 = 0 ∧ cap0 = 0 ∧ z0 = []) ∨ ∃ x, a0 = some x ∧ len0 ≤ cap0 ∧ cap0 ≤ maxLen ∧ z0.length = cap0 ∧ (∀ i, i < z0.length → w.cell? (x.add i) = some (.int .i32 (z0.getD i 0))) ∧ ∀ n ∈ z0, (Lit.int .i32 n).wf = true) (y0 : len0 * 4 ≤ 140737488351232) (w1 : (a1 = none ∧ len1 = 0 ∧ cap1 = 0 ∧ z1 = []) ∨ ∃ x, a1 = some x ∧ len1 ≤ cap1 ∧ cap1 ≤ maxLen ∧ z1.length = cap1 ∧ (∀ i, i < z1.length → w.cell? (x.add i) = some (.int .i32 (z1.getD i 0))) ∧ ∀ n ∈ z1, (Lit.int .i32 n).wf = true) (y1 : len1 * 4 ≤ 140737488351232) (w2 : (Lit.int .u8 a2).wf = true) :
    Calls Try.prog 4 #[.slice a0 len0 cap0, .slice a1 len1 cap1, .int .u8 a2] w fun e w' => e = .returned (.bool true) ∧ Below w.heap.size w w' := by
  obtain ⟨l0, rfl, hr0, hm0, hw0, hc0⟩ := ReadsInt.ofRowC w0
  obtain ⟨l1, rfl, hr1, hm1, hw1, hc1⟩ := ReadsInt.ofRowC w1
  obtain ⟨k, h⟩ := P l0 l1 a2 hm0 y0 hw0 hm1 y1 hw1 w2
  refine (amanuensislaw01_UtfJoins.calls k _ _ l0 _ _ l1 a2 true w (Kd.C_of_reads (d := (0 : Int)) (h1 := fun _ => rfl) hr0) hc0 (Kd.C_of_reads (d := (0 : Int)) (h1 := fun _ => rfl) hr1) hc1 h).mono ?_
  rintro e w' ⟨rfl, hd⟩
  exact ⟨rfl, hd⟩

end Go.Proofs.Ytmebmigolckeiaa.PUtfJoins
