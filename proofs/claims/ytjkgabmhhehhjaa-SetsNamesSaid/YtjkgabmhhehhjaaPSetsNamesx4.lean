/- Begun as a text of print.sh, over a translation in which a function has a stand-in; what the stand-in changes is proved by hand. -/
import Derived.Test.YtjkgabmhhehhjaaPSetsNamesx3
namespace Go.Proofs.Ytjkgabmhhehhjaa.PSetsNames
open Go.Proofs.Ytjkgabmhhehhjaa.PSetsApart Go.RowKit Go.Proofs.YtjkgabmhhehhjaaW.PrintWords Go.Proofs.YtjkgabmhhehhjaaW.PrintLast Go.Proofs.YtjkgabmhhehhjaaW.PrintMore
attribute [local go_sem] max2_int min2_int max_two min_two max_three min_three max_four min_four   -- for this text's walks alone
set_option linter.unusedVariables false
set_option linter.unusedSimpArgs false

/-! ### amanuensislaw08_SetsNames: function 5 -/
mutual
def amanuensislaw08_SetsNames.j0 : Nat → Int → Int → List Int → Bool → List Int → Bool → Int → Bool → Bool → Option (Bool)
  | 0, _, _, _, _, _, _, _, _, _ => none
  | k + 1, x0, x1, x5, x6, x7, x8, x9, x10, x11 => (sets_Sides.f k x1).bind fun t192 => (if x11 = true then (amanuensislaw08_SetsNames.j1 k x0 x1 x5 x6 x7 x8 x9 x10 x11 (t192.length : Int) 1) else (amanuensislaw08_SetsNames.j1 k x0 x1 x5 x6 x7 x8 x9 x10 x11 (t192.length : Int) 0))
def amanuensislaw08_SetsNames.j1 : Nat → Int → Int → List Int → Bool → List Int → Bool → Int → Bool → Bool → Int → Int → Option (Bool)
  | 0, _, _, _, _, _, _, _, _, _, _, _ => none
  | k + 1, x0, x1, x5, x6, x7, x8, x9, x10, x11, x12, x13 => if x11 = true then (amanuensislaw08_SetsNames.j2 k x0 x1 x5 x6 x7 x8 x9 x10 x11 x12 x13 (decide (x1 < 10))) else (amanuensislaw08_SetsNames.j2 k x0 x1 x5 x6 x7 x8 x9 x10 x11 x12 x13 false)
def amanuensislaw08_SetsNames.j2 : Nat → Int → Int → List Int → Bool → List Int → Bool → Int → Bool → Bool → Int → Int → Bool → Option (Bool)
  | 0, _, _, _, _, _, _, _, _, _, _, _, _ => none
  | k + 1, x0, x1, x5, x6, x7, x8, x9, x10, x11, x12, x13, x45 => if x45 = true then ((amanuensislaw08_answers.f k).bind fun t195 => (if t195 = true then (if (x6 == x8) = true then ((amanuensisref01_Same.f k x5 x7).bind fun t196 => (if t196 = true then (if (x10 == x11) = true then (if x12 = 2 then (if x6 = true then (if 0 ≤ (wrap64 ((x5.length : Int) - 1)) then (if (wrap64 ((x5.length : Int) - 1)) < (x5.length : Int) then (if (rd x5 (wrap64 ((x5.length : Int) - 1))) = x9 then (some true) else (if x1 = 1 then (some (x0 == 0)) else (some false))) else (none)) else (none)) else (some true)) else (some false)) else (some false)) else (some false))) else (some false)) else (some false))) else ((amanuensislaw08_answers.f k).bind fun t198 => (if t198 = true then (if (x6 == x8) = true then ((amanuensisref01_Same.f k x5 x7).bind fun t199 => (if t199 = true then (if (x10 == x11) = true then (if x12 = x13 then (if x6 = true then (if 0 ≤ (wrap64 ((x5.length : Int) - 1)) then (if (wrap64 ((x5.length : Int) - 1)) < (x5.length : Int) then (if (rd x5 (wrap64 ((x5.length : Int) - 1))) = x9 then (some true) else (if x1 = 1 then (some (x0 == 0)) else (some false))) else (none)) else (none)) else (some true)) else (some false)) else (some false)) else (some false))) else (some false)) else (some false)))
end
def amanuensislaw08_SetsNames.f (k : Nat) (a0 : Int) (a1 : Int) : Option (Bool) := (sets_Designate.f k a0 a1).bind fun bt182 => ((amanuensisref08_Designate.f k a0 a1).bind fun bt186 => ((sets_Final.f a1).bind fun bt190 => (if a1 ≥ 1 then (amanuensislaw08_SetsNames.j0 k a0 a1 bt182.1 bt182.2 bt186.1 bt186.2 bt190.1 bt190.2 (decide (a1 ≤ 12))) else (amanuensislaw08_SetsNames.j0 k a0 a1 bt182.1 bt182.2 bt186.1 bt186.2 bt190.1 bt190.2 false))))
theorem amanuensislaw08_SetsNames.mono_l : ∀ k, (∀ y0 y1 y2 y3 y4 y5 y6 y7 y8, LeO (amanuensislaw08_SetsNames.j0 k y0 y1 y2 y3 y4 y5 y6 y7 y8) (amanuensislaw08_SetsNames.j0 (k + 1) y0 y1 y2 y3 y4 y5 y6 y7 y8)) ∧ (∀ y0 y1 y2 y3 y4 y5 y6 y7 y8 y9 y10, LeO (amanuensislaw08_SetsNames.j1 k y0 y1 y2 y3 y4 y5 y6 y7 y8 y9 y10) (amanuensislaw08_SetsNames.j1 (k + 1) y0 y1 y2 y3 y4 y5 y6 y7 y8 y9 y10)) ∧ (∀ y0 y1 y2 y3 y4 y5 y6 y7 y8 y9 y10 y11, LeO (amanuensislaw08_SetsNames.j2 k y0 y1 y2 y3 y4 y5 y6 y7 y8 y9 y10 y11) (amanuensislaw08_SetsNames.j2 (k + 1) y0 y1 y2 y3 y4 y5 y6 y7 y8 y9 y10 y11))
  | 0 => ⟨fun _ _ _ _ _ _ _ _ _ r h => by simp [amanuensislaw08_SetsNames.j0] at h, fun _ _ _ _ _ _ _ _ _ _ _ r h => by simp [amanuensislaw08_SetsNames.j1] at h, fun _ _ _ _ _ _ _ _ _ _ _ _ r h => by simp [amanuensislaw08_SetsNames.j2] at h⟩
  | k + 1 => by
    obtain ⟨ih0, ih1, ih2⟩ := amanuensislaw08_SetsNames.mono_l k
    refine ⟨?_, ?_, ?_⟩
    · intro y0 y1 y2 y3 y4 y5 y6 y7 y8
      unfold amanuensislaw08_SetsNames.j0
      repeat' first
      | (with_reducible exact ih0 _ _ _ _ _ _ _ _ _)
      | (with_reducible exact ih1 _ _ _ _ _ _ _ _ _ _ _)
      | (with_reducible exact ih2 _ _ _ _ _ _ _ _ _ _ _ _)
      | (with_reducible exact amanuensislaw08_answers.mono _)
      | (with_reducible exact amanuensisref01_Same.mono _ _ _)
      | (with_reducible exact amanuensisref08_Designate.mono _ _ _)
      | (with_reducible exact sets_Designate.mono _ _ _)
      | (with_reducible exact sets_Sides.mono _ _)
      | (with_reducible exact LeO.refl _)
      | (with_reducible exact LeO.none _)
      | (with_reducible refine LeO.ite ?_ ?_)
      | (with_reducible refine LeO.bind ?_ (fun _ => ?_))
      | exact ih0 _ _ _ _ _ _ _ _ _
      | exact ih1 _ _ _ _ _ _ _ _ _ _ _
      | exact ih2 _ _ _ _ _ _ _ _ _ _ _ _
      | exact amanuensislaw08_answers.mono _
      | exact amanuensisref01_Same.mono _ _ _
      | exact amanuensisref08_Designate.mono _ _ _
      | exact sets_Designate.mono _ _ _
      | exact sets_Sides.mono _ _
      | exact LeO.none _
      | refine LeO.ite ?_ ?_
      | refine LeO.bind ?_ (fun _ => ?_)
    · intro y0 y1 y2 y3 y4 y5 y6 y7 y8 y9 y10
      unfold amanuensislaw08_SetsNames.j1
      repeat' first
      | (with_reducible exact ih0 _ _ _ _ _ _ _ _ _)
      | (with_reducible exact ih1 _ _ _ _ _ _ _ _ _ _ _)
      | (with_reducible exact ih2 _ _ _ _ _ _ _ _ _ _ _ _)
      | (with_reducible exact amanuensislaw08_answers.mono _)
      | (with_reducible exact amanuensisref01_Same.mono _ _ _)
      | (with_reducible exact amanuensisref08_Designate.mono _ _ _)
      | (with_reducible exact sets_Designate.mono _ _ _)
      | (with_reducible exact sets_Sides.mono _ _)
      | (with_reducible exact LeO.refl _)
      | (with_reducible exact LeO.none _)
      | (with_reducible refine LeO.ite ?_ ?_)
      | (with_reducible refine LeO.bind ?_ (fun _ => ?_))
      | exact ih0 _ _ _ _ _ _ _ _ _
      | exact ih1 _ _ _ _ _ _ _ _ _ _ _
      | exact ih2 _ _ _ _ _ _ _ _ _ _ _ _
      | exact amanuensislaw08_answers.mono _
      | exact amanuensisref01_Same.mono _ _ _
      | exact amanuensisref08_Designate.mono _ _ _
      | exact sets_Designate.mono _ _ _
      | exact sets_Sides.mono _ _
      | exact LeO.none _
      | refine LeO.ite ?_ ?_
      | refine LeO.bind ?_ (fun _ => ?_)
    · intro y0 y1 y2 y3 y4 y5 y6 y7 y8 y9 y10 y11
      unfold amanuensislaw08_SetsNames.j2
      repeat' first
      | (with_reducible exact ih0 _ _ _ _ _ _ _ _ _)
      | (with_reducible exact ih1 _ _ _ _ _ _ _ _ _ _ _)
      | (with_reducible exact ih2 _ _ _ _ _ _ _ _ _ _ _ _)
      | (with_reducible exact amanuensislaw08_answers.mono _)
      | (with_reducible exact amanuensisref01_Same.mono _ _ _)
      | (with_reducible exact amanuensisref08_Designate.mono _ _ _)
      | (with_reducible exact sets_Designate.mono _ _ _)
      | (with_reducible exact sets_Sides.mono _ _)
      | (with_reducible exact LeO.refl _)
      | (with_reducible exact LeO.none _)
      | (with_reducible refine LeO.ite ?_ ?_)
      | (with_reducible refine LeO.bind ?_ (fun _ => ?_))
      | exact ih0 _ _ _ _ _ _ _ _ _
      | exact ih1 _ _ _ _ _ _ _ _ _ _ _
      | exact ih2 _ _ _ _ _ _ _ _ _ _ _ _
      | exact amanuensislaw08_answers.mono _
      | exact amanuensisref01_Same.mono _ _ _
      | exact amanuensisref08_Designate.mono _ _ _
      | exact sets_Designate.mono _ _ _
      | exact sets_Sides.mono _ _
      | exact LeO.none _
      | refine LeO.ite ?_ ?_
      | refine LeO.bind ?_ (fun _ => ?_)
theorem amanuensislaw08_SetsNames.mono : ∀ a0 a1 k, LeO (amanuensislaw08_SetsNames.f k a0 a1) (amanuensislaw08_SetsNames.f (k + 1) a0 a1) := by
  intro a0 a1 k
  obtain ⟨ih0, ih1, ih2⟩ := amanuensislaw08_SetsNames.mono_l k
  unfold amanuensislaw08_SetsNames.f
  repeat' first
      | (with_reducible exact ih0 _ _ _ _ _ _ _ _ _)
      | (with_reducible exact ih1 _ _ _ _ _ _ _ _ _ _ _)
      | (with_reducible exact ih2 _ _ _ _ _ _ _ _ _ _ _ _)
      | (with_reducible exact amanuensislaw08_answers.mono _)
      | (with_reducible exact amanuensisref01_Same.mono _ _ _)
      | (with_reducible exact amanuensisref08_Designate.mono _ _ _)
      | (with_reducible exact sets_Designate.mono _ _ _)
      | (with_reducible exact sets_Sides.mono _ _)
      | (with_reducible exact LeO.refl _)
      | (with_reducible exact LeO.none _)
      | (with_reducible refine LeO.ite ?_ ?_)
      | (with_reducible refine LeO.bind ?_ (fun _ => ?_))
      | exact ih0 _ _ _ _ _ _ _ _ _
      | exact ih1 _ _ _ _ _ _ _ _ _ _ _
      | exact ih2 _ _ _ _ _ _ _ _ _ _ _ _
      | exact amanuensislaw08_answers.mono _
      | exact amanuensisref01_Same.mono _ _ _
      | exact amanuensisref08_Designate.mono _ _ _
      | exact sets_Designate.mono _ _ _
      | exact sets_Sides.mono _ _
      | exact LeO.none _
      | refine LeO.ite ?_ ?_
      | refine LeO.bind ?_ (fun _ => ?_)
set_option maxHeartbeats 8000000 in
set_option maxRecDepth 100000 in
theorem amanuensislaw08_SetsNames.calls (k : Nat) (a0 : Int) (a1 : Int) (r : Bool) (w : World) (h : amanuensislaw08_SetsNames.f k a0 a1 = some r) :
    Calls Try.prog 5 #[.int .i64 a0, .int .i64 a1] w fun e w' => e = .returned (.bool r) ∧ Below w.heap.size w w' := by
  have HB := Aside0.mk (Below.refl w.heap.size w)
  have H : ((sets_Designate.f k a0 a1).bind fun bt182 => ((amanuensisref08_Designate.f k a0 a1).bind fun bt186 => ((sets_Final.f a1).bind fun bt190 => (if a1 ≥ 1 then (amanuensislaw08_SetsNames.j0 k a0 a1 bt182.1 bt182.2 bt186.1 bt186.2 bt190.1 bt190.2 (decide (a1 ≤ 12))) else (amanuensislaw08_SetsNames.j0 k a0 a1 bt182.1 bt182.2 bt186.1 bt186.2 bt190.1 bt190.2 false))))) = some r := h
  clear h
  replace H := Option.bind_eq_some_iff.mp H
  obtain ⟨⟨t182, t183⟩, A30, H⟩ := H
  replace H : ((amanuensisref08_Designate.f k a0 a1).bind fun bt186 => ((sets_Final.f a1).bind fun bt190 => (if a1 ≥ 1 then (amanuensislaw08_SetsNames.j0 k a0 a1 t182 t183 bt186.1 bt186.2 bt190.1 bt190.2 (decide (a1 ≤ 12))) else (amanuensislaw08_SetsNames.j0 k a0 a1 t182 t183 bt186.1 bt186.2 bt190.1 bt190.2 false)))) = some r := H
  have A3 := Aside0.mk A30
  clear A30
  replace H := Option.bind_eq_some_iff.mp H
  obtain ⟨⟨t186, t187⟩, A40, H⟩ := H
  replace H : ((sets_Final.f a1).bind fun bt190 => (if a1 ≥ 1 then (amanuensislaw08_SetsNames.j0 k a0 a1 t182 t183 t186 t187 bt190.1 bt190.2 (decide (a1 ≤ 12))) else (amanuensislaw08_SetsNames.j0 k a0 a1 t182 t183 t186 t187 bt190.1 bt190.2 false))) = some r := H
  have A4 := Aside0.mk A40
  clear A40
  replace H := Option.bind_eq_some_iff.mp H
  obtain ⟨⟨t190, t191⟩, A50, H⟩ := H
  replace H : (if a1 ≥ 1 then (amanuensislaw08_SetsNames.j0 k a0 a1 t182 t183 t186 t187 t190 t191 (decide (a1 ≤ 12))) else (amanuensislaw08_SetsNames.j0 k a0 a1 t182 t183 t186 t187 t190 t191 false)) = some r := H
  have A5 := Aside0.mk A50
  clear A50
  have HC6 := Aside0.mk H
  clear H
  go_enter Try.func5, Try.ntmps5
  go_upto_region 4 with (first | ((with_reducible refine gate_callee (f := 11) rfl ?_); refine goesL_ (some 17) rfl rfl Try.func11 (by kernel_rfl) rfl #[.int .i64 a0, .int .i64 a1] rfl (by (try simp only [List.map_toArray, List.map_cons, List.map_nil]); first | done | rfl | (simp only [List.length_drop, List.length_take]; rfl)) ?_; (with_reducible refine (sets_Designate.calls k a0 a1 t182 t183 _ A3.out).mono ?_); rintro e w7 ⟨v184, rfl, ho0, hb⟩; refine ⟨_, rfl, ?_⟩; have n0_ := Aside0.mk (Kd.R_lower ho0 (below_size (by repeat (first | (with_reducible first | exact HB.out | apply below_alloc | apply pw_below_drewN | apply below_drew1) | exact HB.out)))); have n1_ := Aside0.mk (below_step (by repeat (first | (with_reducible first | exact HB.out | apply below_alloc | apply pw_below_drewN | apply below_drew1) | exact HB.out)) hb); clear HB; have HO185 := n0_; have HB := n1_; clear n0_ n1_; (try clear hb); (try clear hb2); (try clear hk); (try clear hi); (try clear ho0)) | ((with_reducible refine gate_callee (f := 17) rfl ?_); refine goesL_ (some 23) rfl rfl Try.func17 (by kernel_rfl) rfl #[.int .i64 a0, .int .i64 a1] rfl (by (try simp only [List.map_toArray, List.map_cons, List.map_nil]); first | done | rfl | (simp only [List.length_drop, List.length_take]; rfl)) ?_; (with_reducible refine (amanuensisref08_Designate.calls k a0 a1 t186 t187 _ A4.out).mono ?_); rintro e w8 ⟨v188, rfl, hn0, hb⟩; refine ⟨_, rfl, ?_⟩; have n0_ := Aside0.mk (Kd.R_elder' (by (with_reducible repeat (first | apply Kd.R_alloc | apply Kd.R_drewN | apply Kd.R_drew)); exact HO185.out) (NR.R_base hn0) hb); have n1_ := Aside0.mk (NR.R_lower (NR.R_new' hn0 (Kd.R_lt (by (with_reducible repeat (first | apply Kd.R_alloc | apply Kd.R_drewN | apply Kd.R_drew)); exact HO185.out))) (below_size (by repeat (first | (with_reducible first | exact HB.out | apply below_alloc | apply pw_below_drewN | apply below_drew1) | exact HB.out)))); have n2_ := Aside0.mk (below_step (by repeat (first | (with_reducible first | exact HB.out | apply below_alloc | apply pw_below_drewN | apply below_drew1) | exact HB.out)) hb); clear HO185; clear HB; have HO185 := n0_; have HO189 := n1_; have HB := n2_; clear n0_ n1_ n2_; (try clear hb); (try clear hb2); (try clear hk); (try clear hi); (try clear hn0)) | ((with_reducible refine gate_callee (f := 18) rfl ?_); refine goesL_ (some 28) rfl rfl Try.func18 (by kernel_rfl) rfl #[.int .i64 a1] rfl (by (try simp only [List.map_toArray, List.map_cons, List.map_nil]); first | done | rfl | (simp only [List.length_drop, List.length_take]; rfl)) ?_; (with_reducible refine (sets_Final.calls a1 t190 t191 _ A5.out).mono ?_); rintro e w9 ⟨rfl, hb⟩; refine ⟨_, rfl, ?_⟩; have n0_ := Aside0.mk (Kd.R_below (by (with_reducible repeat (first | apply Kd.R_alloc | apply Kd.R_drewN | apply Kd.R_drew)); exact HO185.out) hb); have n1_ := Aside0.mk (NR.R_below (by (with_reducible repeat (first | apply NR.R_alloc | apply NR.R_drewN | apply NR.R_drew)); exact HO189.out) hb); have n2_ := Aside0.mk (below_step (by repeat (first | (with_reducible first | exact HB.out | apply below_alloc | apply pw_below_drewN | apply below_drew1) | exact HB.out)) hb); clear HO185; clear HO189; clear HB; have HO185 := n0_; have HO189 := n1_; have HB := n2_; clear n0_ n1_ n2_; (try clear hb); (try clear hb2); (try clear hk); (try clear hi)))
  (try simp only [Act.put, List.setIfInBounds_toArray, List.set_cons_zero, List.set_cons_succ])
  go_cut [11] (fun v11 wc => ∃ (kq : Nat) (x11_5 : Bool), v11 = .bool x11_5 ∧ Aside0 (amanuensislaw08_SetsNames.j0 kq a0 a1 t182 t183 t186 t187 t190 t191 x11_5 = some r) ∧ Aside0 (kq ≤ k) ∧ Aside0 (Kd.R (Kd.int .u8) 5 wc w.heap.size (fun k_ => some k_ ≠ (v188 : Value).ownBlock) v184 t182) ∧ Aside0 (NR 5 wc w.heap.size (fun k_ => some k_ ≠ (v184 : Value).ownBlock) v188 t186) ∧ Aside0 (Below w.heap.size w wc))
  case first =>
    have H := HC6.out
    clear HC6
    by_cases c10 : a1 ≥ 1
    · rw [if_pos c10] at H
      have c10b0 : decide (1 ≤ a1) = true := decide_eq_true c10
      clear c10
      (first | rw [c10b0] | (simp only [i64_w, i32_w]; rw [c10b0]) | skip)
      have H' := Aside0.mk H
      clear H
      go_wp2
      go_meet
      case rel => exact ⟨_, (decide (a1 ≤ 12)), (by first | rfl | (simp; done) | (simp [*]; done)), H', ⟨by first | omega | exact Nat.le_refl _⟩, ⟨by (with_reducible repeat (first | apply Kd.R_alloc | apply Kd.R_drewN | apply Kd.R_drew)); exact Kd.R_mono HO185.out (fun _ hk => hk.2)⟩, ⟨by (with_reducible repeat (first | apply NR.R_alloc | apply NR.R_drewN | apply NR.R_drew)); exact NR.R_mono HO189.out (fun _ hk => hk.2)⟩, ⟨by repeat (first | (with_reducible first | exact HB.out | apply below_alloc | apply pw_below_drewN | apply below_drew1) | exact HB.out)⟩⟩
    · rw [if_neg c10] at H
      have c10b0 : decide (1 ≤ a1) = false := decide_eq_false c10
      clear c10
      (first | rw [c10b0] | (simp only [i64_w, i32_w]; rw [c10b0]) | skip)
      have H' := Aside0.mk H
      clear H
      go_wp2
      go_meet
      case rel => exact ⟨_, (false), (by first | rfl | (simp; done) | (simp [*]; done)), H', ⟨by first | omega | exact Nat.le_refl _⟩, ⟨by (with_reducible repeat (first | apply Kd.R_alloc | apply Kd.R_drewN | apply Kd.R_drew)); exact Kd.R_mono HO185.out (fun _ hk => hk.2)⟩, ⟨by (with_reducible repeat (first | apply NR.R_alloc | apply NR.R_drewN | apply NR.R_drew)); exact NR.R_mono HO189.out (fun _ hk => hk.2)⟩, ⟨by repeat (first | (with_reducible first | exact HB.out | apply below_alloc | apply pw_below_drewN | apply below_drew1) | exact HB.out)⟩⟩
  case rest =>
    clear HC6
    try clear c1
    try clear p2
    try clear c5
    try clear c10
    try clear c10b0
    obtain ⟨kq, x11_5, rfl, HA, HJ5, HO_5, HO_7, HB⟩ := hcut
    cases kq with
    | zero => exact absurd HA.out (by simp [amanuensislaw08_SetsNames.j0])
    | succ kj5 =>
      have H := HA.out
      clear HA
      simp only [amanuensislaw08_SetsNames.j0] at H
      replace H := Option.bind_eq_some_iff.mp H
      obtain ⟨t192, A110, H⟩ := H
      replace H : (if x11_5 = true then (amanuensislaw08_SetsNames.j1 kj5 a0 a1 t182 t183 t186 t187 t190 t191 x11_5 (t192.length : Int) 1) else (amanuensislaw08_SetsNames.j1 kj5 a0 a1 t182 t183 t186 t187 t190 t191 x11_5 (t192.length : Int) 0)) = some r := H
      have A11 := Aside0.mk A110
      clear A110
      have HC12 := Aside0.mk H
      clear H
      go_upto_if 40 with (first | ((with_reducible refine gate_callee (f := 19) rfl ?_); refine goesL_ (some 38) rfl rfl Try.func19 (by kernel_rfl) rfl #[.int .i64 a1] rfl (by (try simp only [List.map_toArray, List.map_cons, List.map_nil]); first | done | rfl | (simp only [List.length_drop, List.length_take]; rfl)) ?_; (with_reducible refine (sets_Sides.calls kj5 a1 t192 _ A11.out).mono ?_); rintro e w13 ⟨v193, rfl, ho0, hb⟩; refine ⟨_, rfl, ?_⟩; have n0_ := Aside0.mk (Kd.R_below (by (with_reducible repeat (first | apply Kd.R_alloc | apply Kd.R_drewN | apply Kd.R_drew)); exact HO_5.out) hb); have n1_ := Aside0.mk (NR.R_below (by (with_reducible repeat (first | apply NR.R_alloc | apply NR.R_drewN | apply NR.R_drew)); exact HO_7.out) hb); have n2_ := Aside0.mk (Kd.R_lower ho0 (below_size (by repeat (first | (with_reducible first | exact HB.out | apply below_alloc | apply pw_below_drewN | apply below_drew1) | exact HB.out)))); have n3_ := Aside0.mk (below_step (by repeat (first | (with_reducible first | exact HB.out | apply below_alloc | apply pw_below_drewN | apply below_drew1) | exact HB.out)) hb); clear HO_5; clear HO_7; clear HB; have HO_5 := n0_; have HO_7 := n1_; have HO194 := n2_; have HB := n3_; clear n0_ n1_ n2_ n3_; (try clear hb); (try clear hb2); (try clear hk); (try clear hi); (try clear ho0); obtain ⟨Ao14, co14, eo14⟩ := Kd.R_slice HO194.out; subst eo14))
      (try simp only [Act.put, List.setIfInBounds_toArray, List.set_cons_zero, List.set_cons_succ])
      go_cut [13] (fun v13 wc => ∃ (kq : Nat) (x13_11 : Int), v13 = .int .i64 x13_11 ∧ Aside0 (amanuensislaw08_SetsNames.j1 kq a0 a1 t182 t183 t186 t187 t190 t191 x11_5 (t192.length : Int) x13_11 = some r) ∧ Aside0 (kq ≤ kj5) ∧ Aside0 (Kd.R (Kd.int .u8) 5 wc w.heap.size (fun k_ => some k_ ≠ (v188 : Value).ownBlock) v184 t182) ∧ Aside0 (NR 5 wc w.heap.size (fun k_ => some k_ ≠ (v184 : Value).ownBlock) v188 t186) ∧ Aside0 (Below w.heap.size w wc))
      case first =>
        have H := HC12.out
        clear HC12
        by_cases c15 : x11_5 = true
        · subst c15
          have H1 : (amanuensislaw08_SetsNames.j1 kj5 a0 a1 t182 t183 t186 t187 t190 t191 true (t192.length : Int) 1) = some r := by rw [if_pos rfl] at H; exact H
          clear H
          have H := H1
          clear H1
          have H' := Aside0.mk H
          clear H
          go_wp2
          go_meet
          case rel => exact ⟨_, (1), (by first | rfl | (simp; done) | (simp [*]; done)), H', ⟨by have := HJ5.out; first | omega | exact Nat.le_refl _⟩, ⟨by (with_reducible repeat (first | apply Kd.R_alloc | apply Kd.R_drewN | apply Kd.R_drew)); exact HO_5.out⟩, ⟨by (with_reducible repeat (first | apply NR.R_alloc | apply NR.R_drewN | apply NR.R_drew)); exact HO_7.out⟩, ⟨by repeat (first | (with_reducible first | exact HB.out | apply below_alloc | apply pw_below_drewN | apply below_drew1) | exact HB.out)⟩⟩
        · replace c15 := Bool.eq_false_iff.mpr c15
          subst c15
          have H1 : (amanuensislaw08_SetsNames.j1 kj5 a0 a1 t182 t183 t186 t187 t190 t191 false (t192.length : Int) 0) = some r := by rw [if_neg (show ¬ (false = true) by decide)] at H; exact H
          clear H
          have H := H1
          clear H1
          have H' := Aside0.mk H
          clear H
          go_wp2
          go_meet
          case rel => exact ⟨_, (0), (by first | rfl | (simp; done) | (simp [*]; done)), H', ⟨by have := HJ5.out; first | omega | exact Nat.le_refl _⟩, ⟨by (with_reducible repeat (first | apply Kd.R_alloc | apply Kd.R_drewN | apply Kd.R_drew)); exact HO_5.out⟩, ⟨by (with_reducible repeat (first | apply NR.R_alloc | apply NR.R_drewN | apply NR.R_drew)); exact HO_7.out⟩, ⟨by repeat (first | (with_reducible first | exact HB.out | apply below_alloc | apply pw_below_drewN | apply below_drew1) | exact HB.out)⟩⟩
      case rest =>
        clear HC12
        try clear c1
        try clear p2
        try clear c5
        try clear c10
        try clear c10b0
        try clear c11
        try clear c15
        try clear p2
        obtain ⟨kq, x13_11, rfl, HA, HJ11, HO_5, HO_7, HB⟩ := hcut
        cases kq with
        | zero => exact absurd HA.out (by simp [amanuensislaw08_SetsNames.j1])
        | succ kj11 =>
          have H := HA.out
          clear HA
          simp only [amanuensislaw08_SetsNames.j1] at H
          have HC16 := Aside0.mk H
          clear H
          go_upto_region 9 with (fail)
          go_cut [45] (fun v45 wc => ∃ (kq : Nat) (x45_15 : Bool), v45 = .bool x45_15 ∧ Aside0 (amanuensislaw08_SetsNames.j2 kq a0 a1 t182 t183 t186 t187 t190 t191 x11_5 (t192.length : Int) x13_11 x45_15 = some r) ∧ Aside0 (kq ≤ kj11) ∧ Aside0 (Kd.R (Kd.int .u8) 5 wc w.heap.size (fun k_ => some k_ ≠ (v188 : Value).ownBlock) v184 t182) ∧ Aside0 (NR 5 wc w.heap.size (fun k_ => some k_ ≠ (v184 : Value).ownBlock) v188 t186) ∧ Aside0 (Below w.heap.size w wc))
          case first =>
            have H := HC16.out
            clear HC16
            by_cases c17 : x11_5 = true
            · subst c17
              have H1 : (amanuensislaw08_SetsNames.j2 kj11 a0 a1 t182 t183 t186 t187 t190 t191 true (t192.length : Int) x13_11 (decide (a1 < 10))) = some r := by rw [if_pos rfl] at H; exact H
              clear H
              have H := H1
              clear H1
              have H' := Aside0.mk H
              clear H
              go_wp2
              go_meet
              case rel => exact ⟨_, (decide (a1 < 10)), (by first | rfl | (simp; done) | (simp [*]; done)), H', ⟨by have := HJ5.out; have := HJ11.out; first | omega | exact Nat.le_refl _⟩, ⟨by (with_reducible repeat (first | apply Kd.R_alloc | apply Kd.R_drewN | apply Kd.R_drew)); exact HO_5.out⟩, ⟨by (with_reducible repeat (first | apply NR.R_alloc | apply NR.R_drewN | apply NR.R_drew)); exact HO_7.out⟩, ⟨by repeat (first | (with_reducible first | exact HB.out | apply below_alloc | apply pw_below_drewN | apply below_drew1) | exact HB.out)⟩⟩
            · replace c17 := Bool.eq_false_iff.mpr c17
              subst c17
              have H1 : (amanuensislaw08_SetsNames.j2 kj11 a0 a1 t182 t183 t186 t187 t190 t191 false (t192.length : Int) x13_11 false) = some r := by rw [if_neg (show ¬ (false = true) by decide)] at H; exact H
              clear H
              have H := H1
              clear H1
              have H' := Aside0.mk H
              clear H
              go_wp2
              go_meet
              case rel => exact ⟨_, (false), (by first | rfl | (simp; done) | (simp [*]; done)), H', ⟨by have := HJ5.out; have := HJ11.out; first | omega | exact Nat.le_refl _⟩, ⟨by (with_reducible repeat (first | apply Kd.R_alloc | apply Kd.R_drewN | apply Kd.R_drew)); exact HO_5.out⟩, ⟨by (with_reducible repeat (first | apply NR.R_alloc | apply NR.R_drewN | apply NR.R_drew)); exact HO_7.out⟩, ⟨by repeat (first | (with_reducible first | exact HB.out | apply below_alloc | apply pw_below_drewN | apply below_drew1) | exact HB.out)⟩⟩
          case rest =>
            clear HC16
            try clear c1
            try clear p2
            try clear c5
            try clear c10
            try clear c10b0
            try clear c11
            try clear c15
            try clear c17
            try clear p2
            obtain ⟨kq, x45_15, rfl, HA, HJ15, HO_5, HO_7, HB⟩ := hcut
            cases kq with
            | zero => exact absurd HA.out (by simp [amanuensislaw08_SetsNames.j2])
            | succ kj15 =>
              have H := HA.out
              clear HA
              simp only [amanuensislaw08_SetsNames.j2] at H
              by_cases c18 : x45_15 = true
              · subst c18
                have H1 : ((amanuensislaw08_answers.f kj15).bind fun t195 => (if t195 = true then (if (t183 == t187) = true then ((amanuensisref01_Same.f kj15 t182 t186).bind fun t196 => (if t196 = true then (if (t191 == x11_5) = true then (if (t192.length : Int) = 2 then (if t183 = true then (if 0 ≤ (wrap64 ((t182.length : Int) - 1)) then (if (wrap64 ((t182.length : Int) - 1)) < (t182.length : Int) then (if (rd t182 (wrap64 ((t182.length : Int) - 1))) = t190 then (some true) else (if a1 = 1 then (some (a0 == 0)) else (some false))) else (none)) else (none)) else (some true)) else (some false)) else (some false)) else (some false))) else (some false)) else (some false))) = some r := by rw [if_pos rfl] at H; exact H
                clear H
                have H := H1
                clear H1
                replace H := Option.bind_eq_some_iff.mp H
                obtain ⟨t195, A190, H⟩ := H
                replace H : (if t195 = true then (if (t183 == t187) = true then ((amanuensisref01_Same.f kj15 t182 t186).bind fun t196 => (if t196 = true then (if (t191 == x11_5) = true then (if (t192.length : Int) = 2 then (if t183 = true then (if 0 ≤ (wrap64 ((t182.length : Int) - 1)) then (if (wrap64 ((t182.length : Int) - 1)) < (t182.length : Int) then (if (rd t182 (wrap64 ((t182.length : Int) - 1))) = t190 then (some true) else (if a1 = 1 then (some (a0 == 0)) else (some false))) else (none)) else (none)) else (some true)) else (some false)) else (some false)) else (some false))) else (some false)) else (some false)) = some r := H
                have A19 := Aside0.mk A190
                clear A190
                by_cases c20 : t195 = true
                · subst c20
                  have H1 : (if (t183 == t187) = true then ((amanuensisref01_Same.f kj15 t182 t186).bind fun t196 => (if t196 = true then (if (t191 == x11_5) = true then (if (t192.length : Int) = 2 then (if t183 = true then (if 0 ≤ (wrap64 ((t182.length : Int) - 1)) then (if (wrap64 ((t182.length : Int) - 1)) < (t182.length : Int) then (if (rd t182 (wrap64 ((t182.length : Int) - 1))) = t190 then (some true) else (if a1 = 1 then (some (a0 == 0)) else (some false))) else (none)) else (none)) else (some true)) else (some false)) else (some false)) else (some false))) else (some false)) = some r := by rw [if_pos rfl] at H; exact H
                  clear H
                  have H := H1
                  clear H1
                  by_cases c21 : (t183 == t187) = true
                  · rw [if_pos c21] at H
                    have c21b0 : (t183 == t187) = true := c21
                    (try (have c21b1 : decide (t183 = t187) = true := by simpa using c21))
                    (try (have c21b2 : (t183 == t187) = true := by simpa using c21))
                    clear c21
                    replace H := Option.bind_eq_some_iff.mp H
                    obtain ⟨t196, A220, H⟩ := H
                    replace H : (if t196 = true then (if (t191 == x11_5) = true then (if (t192.length : Int) = 2 then (if t183 = true then (if 0 ≤ (wrap64 ((t182.length : Int) - 1)) then (if (wrap64 ((t182.length : Int) - 1)) < (t182.length : Int) then (if (rd t182 (wrap64 ((t182.length : Int) - 1))) = t190 then (some true) else (if a1 = 1 then (some (a0 == 0)) else (some false))) else (none)) else (none)) else (some true)) else (some false)) else (some false)) else (some false)) = some r := H
                    have A22 := Aside0.mk A220
                    clear A220
                    by_cases c23 : t196 = true
                    · subst c23
                      have H1 : (if (t191 == x11_5) = true then (if (t192.length : Int) = 2 then (if t183 = true then (if 0 ≤ (wrap64 ((t182.length : Int) - 1)) then (if (wrap64 ((t182.length : Int) - 1)) < (t182.length : Int) then (if (rd t182 (wrap64 ((t182.length : Int) - 1))) = t190 then (some true) else (if a1 = 1 then (some (a0 == 0)) else (some false))) else (none)) else (none)) else (some true)) else (some false)) else (some false)) = some r := by rw [if_pos rfl] at H; exact H
                      clear H
                      have H := H1
                      clear H1
                      by_cases c24 : (t191 == x11_5) = true
                      · rw [if_pos c24] at H
                        have c24b0 : (t191 == x11_5) = true := c24
                        (try (have c24b1 : decide (t191 = x11_5) = true := by simpa using c24))
                        (try (have c24b2 : (t191 == x11_5) = true := by simpa using c24))
                        clear c24
                        by_cases c25 : (t192.length : Int) = 2
                        · rw [if_pos c25] at H
                          have c25b0 : ((t192.length : Int) == 2) = true := beq_iff_eq.mpr c25
                          have c25b1 : ((t192.length : Int) != 2) = false := bne_eq_false_iff_eq.mpr c25
                          clear c25
                          by_cases c26 : t183 = true
                          · subst c26
                            have H1 : (if 0 ≤ (wrap64 ((t182.length : Int) - 1)) then (if (wrap64 ((t182.length : Int) - 1)) < (t182.length : Int) then (if (rd t182 (wrap64 ((t182.length : Int) - 1))) = t190 then (some true) else (if a1 = 1 then (some (a0 == 0)) else (some false))) else (none)) else (none)) = some r := by rw [if_pos rfl] at H; exact H
                            clear H
                            have H := H1
                            clear H1
                            obtain ⟨ji27, hji27⟩ : ∃ j_ : Int, (wrap64 ((t182.length : Int) - 1)) = j_ := ⟨_, rfl⟩
                            replace H : (if 0 ≤ (ji27) then (if (ji27) < (t182.length : Int) then (if (rd t182 (ji27)) = t190 then (some true) else (if a1 = 1 then (some (a0 == 0)) else (some false))) else (none)) else (none)) = some r := by first | (rw [hji27] at H; exact H) | (simp only [hji27] at H ⊢; exact H)
                            (try rw [hji27] at A19)
                            (try rw [hji27] at A22)
                            have hji27w : (IntKind.i64.wrap ((t182.length : Int) - 1)) = ji27 := (i64_w _).trans hji27
                            by_cases c28 : 0 ≤ (ji27)
                            · rw [if_pos c28] at H
                              have c28b0 : decide (0 ≤ (ji27)) = true := decide_eq_true c28
                              clear c28
                              by_cases c29 : (ji27) < (t182.length : Int)
                              · rw [if_pos c29] at H
                                have c29b0 : decide ((ji27) < (t182.length : Int)) = true := decide_eq_true c29
                                clear c29
                                by_cases c30 : (rd t182 (ji27)) = t190
                                · rw [if_pos c30] at H
                                  have c30b0 : ((rd t182 (ji27)) == t190) = true := beq_iff_eq.mpr c30
                                  have c30b1 : ((rd t182 (ji27)) != t190) = false := bne_eq_false_iff_eq.mpr c30
                                  clear c30
                                  obtain rfl := Option.some.inj H
                                  go_wp2_with (first | ((with_reducible refine gate_callee (f := 12) rfl ?_); refine goesL_ (some 46) rfl rfl Try.func12 (by kernel_rfl) rfl #[] rfl (by (try simp only [List.map_toArray, List.map_cons, List.map_nil]); first | done | rfl | (simp only [List.length_drop, List.length_take]; rfl)) ?_; (with_reducible refine (amanuensislaw08_answers.calls kj15  true _ A19.out).mono ?_); rintro e w31 ⟨rfl, hb⟩; refine ⟨_, rfl, ?_⟩; have n0_ := Aside0.mk (Kd.R_below (by (with_reducible repeat (first | apply Kd.R_alloc | apply Kd.R_drewN | apply Kd.R_drew)); exact HO_5.out) hb); have n1_ := Aside0.mk (NR.R_below (by (with_reducible repeat (first | apply NR.R_alloc | apply NR.R_drewN | apply NR.R_drew)); exact HO_7.out) hb); have n2_ := Aside0.mk (below_step (by repeat (first | (with_reducible first | exact HB.out | apply below_alloc | apply pw_below_drewN | apply below_drew1) | exact HB.out)) hb); clear HO_5; clear HO_7; clear HB; have HO_5 := n0_; have HO_7 := n1_; have HB := n2_; clear n0_ n1_ n2_; (try clear hb); (try clear hb2); (try clear hk); (try clear hi); obtain ⟨Ao32, co32, eo32⟩ := Kd.R_slice HO_5.out; subst eo32; obtain ⟨Ao33, co33, eo33⟩ := NR.R_slice HO_7.out; subst eo33) | (go_at_call 14; (with_reducible refine (amanuensisref01_Same.calls kj15 _ _ t182 _ _ t186 true _ ?side1 ?side2 ?side3 ?side4 A22.out).mono ?_); (case side1 => repeat (first | exact (Kd.R_reads' HO_5.out).2.2 | (with_reducible refine Kd.C_alloc ?_ _) | (with_reducible refine Kd.C_drewN ?_ _) | (with_reducible refine Kd.C_drew ?_))); (case side2 => exact (Kd.R_reads' HO_5.out).2.1); (case side3 => repeat (first | exact (NR.R_reads' HO_7.out).2.2 | (with_reducible refine Kd.C_alloc ?_ _) | (with_reducible refine Kd.C_drewN ?_ _) | (with_reducible refine Kd.C_drew ?_))); (case side4 => exact (NR.R_reads' HO_7.out).2.1); rintro e w' ⟨rfl, ⟨nd, rfl⟩⟩; have p197 : 0 ≤ ((ji27) : Int) := of_decide_eq_true (by first | (with_reducible assumption) | assumption); have q197 : (ji27) < (t182.length : Int) := of_decide_eq_true (by first | (with_reducible assumption) | assumption); obtain ⟨ad197, e197, hx197_0⟩ := Kd.at_int (Kd.R_reads' HO_5.out).2.2 (ji27) p197 q197; cases e197; replace p197 := eq_true p197; replace q197 := eq_true q197))
                                  go_ret
                                  exact ⟨by first | rfl | (simp [errW_none, errW_some] <;> rfl) | (simp only [← hji27]; first | rfl | (simp [errW_none, errW_some] <;> rfl)) | (simp [*, errW_none, errW_some] <;> rfl), by repeat (first | (with_reducible first | exact HB.out | apply below_alloc | apply pw_below_drewN | apply below_drew1) | exact HB.out)⟩
                                · rw [if_neg c30] at H
                                  have c30b0 : ((rd t182 (ji27)) == t190) = false := beq_eq_false_iff_ne.mpr c30
                                  have c30b1 : ((rd t182 (ji27)) != t190) = true := bne_iff_ne.mpr c30
                                  by_cases c34 : a1 = 1
                                  · rw [if_pos c34] at H
                                    have c34b0 : (a1 == 1) = true := beq_iff_eq.mpr c34
                                    have c34b1 : (a1 != 1) = false := bne_eq_false_iff_eq.mpr c34
                                    clear c34
                                    obtain rfl := Option.some.inj H
                                    go_wp2_with (first | ((with_reducible refine gate_callee (f := 12) rfl ?_); refine goesL_ (some 46) rfl rfl Try.func12 (by kernel_rfl) rfl #[] rfl (by (try simp only [List.map_toArray, List.map_cons, List.map_nil]); first | done | rfl | (simp only [List.length_drop, List.length_take]; rfl)) ?_; (with_reducible refine (amanuensislaw08_answers.calls kj15  true _ A19.out).mono ?_); rintro e w35 ⟨rfl, hb⟩; refine ⟨_, rfl, ?_⟩; have n0_ := Aside0.mk (Kd.R_below (by (with_reducible repeat (first | apply Kd.R_alloc | apply Kd.R_drewN | apply Kd.R_drew)); exact HO_5.out) hb); have n1_ := Aside0.mk (NR.R_below (by (with_reducible repeat (first | apply NR.R_alloc | apply NR.R_drewN | apply NR.R_drew)); exact HO_7.out) hb); have n2_ := Aside0.mk (below_step (by repeat (first | (with_reducible first | exact HB.out | apply below_alloc | apply pw_below_drewN | apply below_drew1) | exact HB.out)) hb); clear HO_5; clear HO_7; clear HB; have HO_5 := n0_; have HO_7 := n1_; have HB := n2_; clear n0_ n1_ n2_; (try clear hb); (try clear hb2); (try clear hk); (try clear hi); obtain ⟨Ao36, co36, eo36⟩ := Kd.R_slice HO_5.out; subst eo36; obtain ⟨Ao37, co37, eo37⟩ := NR.R_slice HO_7.out; subst eo37) | (go_at_call 14; (with_reducible refine (amanuensisref01_Same.calls kj15 _ _ t182 _ _ t186 true _ ?side1 ?side2 ?side3 ?side4 A22.out).mono ?_); (case side1 => repeat (first | exact (Kd.R_reads' HO_5.out).2.2 | (with_reducible refine Kd.C_alloc ?_ _) | (with_reducible refine Kd.C_drewN ?_ _) | (with_reducible refine Kd.C_drew ?_))); (case side2 => exact (Kd.R_reads' HO_5.out).2.1); (case side3 => repeat (first | exact (NR.R_reads' HO_7.out).2.2 | (with_reducible refine Kd.C_alloc ?_ _) | (with_reducible refine Kd.C_drewN ?_ _) | (with_reducible refine Kd.C_drew ?_))); (case side4 => exact (NR.R_reads' HO_7.out).2.1); rintro e w' ⟨rfl, ⟨nd, rfl⟩⟩; have p197 : 0 ≤ ((ji27) : Int) := of_decide_eq_true (by first | (with_reducible assumption) | assumption); have q197 : (ji27) < (t182.length : Int) := of_decide_eq_true (by first | (with_reducible assumption) | assumption); obtain ⟨ad197, e197, hx197_0⟩ := Kd.at_int (Kd.R_reads' HO_5.out).2.2 (ji27) p197 q197; cases e197; replace p197 := eq_true p197; replace q197 := eq_true q197))
                                    go_ret
                                    exact ⟨by first | rfl | (simp [errW_none, errW_some] <;> rfl) | (simp only [← hji27]; first | rfl | (simp [errW_none, errW_some] <;> rfl)) | (simp [*, errW_none, errW_some] <;> rfl), by repeat (first | (with_reducible first | exact HB.out | apply below_alloc | apply pw_below_drewN | apply below_drew1) | exact HB.out)⟩
                                  · rw [if_neg c34] at H
                                    have c34b0 : (a1 == 1) = false := beq_eq_false_iff_ne.mpr c34
                                    have c34b1 : (a1 != 1) = true := bne_iff_ne.mpr c34
                                    obtain rfl := Option.some.inj H
                                    go_wp2_with (first | ((with_reducible refine gate_callee (f := 12) rfl ?_); refine goesL_ (some 46) rfl rfl Try.func12 (by kernel_rfl) rfl #[] rfl (by (try simp only [List.map_toArray, List.map_cons, List.map_nil]); first | done | rfl | (simp only [List.length_drop, List.length_take]; rfl)) ?_; (with_reducible refine (amanuensislaw08_answers.calls kj15  true _ A19.out).mono ?_); rintro e w38 ⟨rfl, hb⟩; refine ⟨_, rfl, ?_⟩; have n0_ := Aside0.mk (Kd.R_below (by (with_reducible repeat (first | apply Kd.R_alloc | apply Kd.R_drewN | apply Kd.R_drew)); exact HO_5.out) hb); have n1_ := Aside0.mk (NR.R_below (by (with_reducible repeat (first | apply NR.R_alloc | apply NR.R_drewN | apply NR.R_drew)); exact HO_7.out) hb); have n2_ := Aside0.mk (below_step (by repeat (first | (with_reducible first | exact HB.out | apply below_alloc | apply pw_below_drewN | apply below_drew1) | exact HB.out)) hb); clear HO_5; clear HO_7; clear HB; have HO_5 := n0_; have HO_7 := n1_; have HB := n2_; clear n0_ n1_ n2_; (try clear hb); (try clear hb2); (try clear hk); (try clear hi); obtain ⟨Ao39, co39, eo39⟩ := Kd.R_slice HO_5.out; subst eo39; obtain ⟨Ao40, co40, eo40⟩ := NR.R_slice HO_7.out; subst eo40) | (go_at_call 14; (with_reducible refine (amanuensisref01_Same.calls kj15 _ _ t182 _ _ t186 true _ ?side1 ?side2 ?side3 ?side4 A22.out).mono ?_); (case side1 => repeat (first | exact (Kd.R_reads' HO_5.out).2.2 | (with_reducible refine Kd.C_alloc ?_ _) | (with_reducible refine Kd.C_drewN ?_ _) | (with_reducible refine Kd.C_drew ?_))); (case side2 => exact (Kd.R_reads' HO_5.out).2.1); (case side3 => repeat (first | exact (NR.R_reads' HO_7.out).2.2 | (with_reducible refine Kd.C_alloc ?_ _) | (with_reducible refine Kd.C_drewN ?_ _) | (with_reducible refine Kd.C_drew ?_))); (case side4 => exact (NR.R_reads' HO_7.out).2.1); rintro e w' ⟨rfl, ⟨nd, rfl⟩⟩; have p197 : 0 ≤ ((ji27) : Int) := of_decide_eq_true (by first | (with_reducible assumption) | assumption); have q197 : (ji27) < (t182.length : Int) := of_decide_eq_true (by first | (with_reducible assumption) | assumption); obtain ⟨ad197, e197, hx197_0⟩ := Kd.at_int (Kd.R_reads' HO_5.out).2.2 (ji27) p197 q197; cases e197; replace p197 := eq_true p197; replace q197 := eq_true q197))
                                    go_ret
                                    exact ⟨by first | rfl | (simp [errW_none, errW_some] <;> rfl) | (simp only [← hji27]; first | rfl | (simp [errW_none, errW_some] <;> rfl)) | (simp [*, errW_none, errW_some] <;> rfl), by repeat (first | (with_reducible first | exact HB.out | apply below_alloc | apply pw_below_drewN | apply below_drew1) | exact HB.out)⟩
                              · rw [if_neg c29] at H
                                exact absurd H (by simp)
                            · rw [if_neg c28] at H
                              exact absurd H (by simp)
                          · replace c26 := Bool.eq_false_iff.mpr c26
                            subst c26
                            have H1 : (some true) = some r := by rw [if_neg (show ¬ (false = true) by decide)] at H; exact H
                            clear H
                            have H := H1
                            clear H1
                            obtain rfl := Option.some.inj H
                            go_wp2_with (first | ((with_reducible refine gate_callee (f := 12) rfl ?_); refine goesL_ (some 46) rfl rfl Try.func12 (by kernel_rfl) rfl #[] rfl (by (try simp only [List.map_toArray, List.map_cons, List.map_nil]); first | done | rfl | (simp only [List.length_drop, List.length_take]; rfl)) ?_; (with_reducible refine (amanuensislaw08_answers.calls kj15  true _ A19.out).mono ?_); rintro e w41 ⟨rfl, hb⟩; refine ⟨_, rfl, ?_⟩; have n0_ := Aside0.mk (Kd.R_below (by (with_reducible repeat (first | apply Kd.R_alloc | apply Kd.R_drewN | apply Kd.R_drew)); exact HO_5.out) hb); have n1_ := Aside0.mk (NR.R_below (by (with_reducible repeat (first | apply NR.R_alloc | apply NR.R_drewN | apply NR.R_drew)); exact HO_7.out) hb); have n2_ := Aside0.mk (below_step (by repeat (first | (with_reducible first | exact HB.out | apply below_alloc | apply pw_below_drewN | apply below_drew1) | exact HB.out)) hb); clear HO_5; clear HO_7; clear HB; have HO_5 := n0_; have HO_7 := n1_; have HB := n2_; clear n0_ n1_ n2_; (try clear hb); (try clear hb2); (try clear hk); (try clear hi); obtain ⟨Ao42, co42, eo42⟩ := Kd.R_slice HO_5.out; subst eo42; obtain ⟨Ao43, co43, eo43⟩ := NR.R_slice HO_7.out; subst eo43) | (go_at_call 14; (with_reducible refine (amanuensisref01_Same.calls kj15 _ _ t182 _ _ t186 true _ ?side1 ?side2 ?side3 ?side4 A22.out).mono ?_); (case side1 => repeat (first | exact (Kd.R_reads' HO_5.out).2.2 | (with_reducible refine Kd.C_alloc ?_ _) | (with_reducible refine Kd.C_drewN ?_ _) | (with_reducible refine Kd.C_drew ?_))); (case side2 => exact (Kd.R_reads' HO_5.out).2.1); (case side3 => repeat (first | exact (NR.R_reads' HO_7.out).2.2 | (with_reducible refine Kd.C_alloc ?_ _) | (with_reducible refine Kd.C_drewN ?_ _) | (with_reducible refine Kd.C_drew ?_))); (case side4 => exact (NR.R_reads' HO_7.out).2.1); rintro e w' ⟨rfl, ⟨nd, rfl⟩⟩))
                            go_ret
                            exact ⟨by first | rfl | (simp [errW_none, errW_some] <;> rfl) | (simp [*, errW_none, errW_some] <;> rfl), by repeat (first | (with_reducible first | exact HB.out | apply below_alloc | apply pw_below_drewN | apply below_drew1) | exact HB.out)⟩
                        · rw [if_neg c25] at H
                          have c25b0 : ((t192.length : Int) == 2) = false := beq_eq_false_iff_ne.mpr c25
                          have c25b1 : ((t192.length : Int) != 2) = true := bne_iff_ne.mpr c25
                          obtain rfl := Option.some.inj H
                          go_wp2_with (first | ((with_reducible refine gate_callee (f := 12) rfl ?_); refine goesL_ (some 46) rfl rfl Try.func12 (by kernel_rfl) rfl #[] rfl (by (try simp only [List.map_toArray, List.map_cons, List.map_nil]); first | done | rfl | (simp only [List.length_drop, List.length_take]; rfl)) ?_; (with_reducible refine (amanuensislaw08_answers.calls kj15  true _ A19.out).mono ?_); rintro e w44 ⟨rfl, hb⟩; refine ⟨_, rfl, ?_⟩; have n0_ := Aside0.mk (Kd.R_below (by (with_reducible repeat (first | apply Kd.R_alloc | apply Kd.R_drewN | apply Kd.R_drew)); exact HO_5.out) hb); have n1_ := Aside0.mk (NR.R_below (by (with_reducible repeat (first | apply NR.R_alloc | apply NR.R_drewN | apply NR.R_drew)); exact HO_7.out) hb); have n2_ := Aside0.mk (below_step (by repeat (first | (with_reducible first | exact HB.out | apply below_alloc | apply pw_below_drewN | apply below_drew1) | exact HB.out)) hb); clear HO_5; clear HO_7; clear HB; have HO_5 := n0_; have HO_7 := n1_; have HB := n2_; clear n0_ n1_ n2_; (try clear hb); (try clear hb2); (try clear hk); (try clear hi); obtain ⟨Ao45, co45, eo45⟩ := Kd.R_slice HO_5.out; subst eo45; obtain ⟨Ao46, co46, eo46⟩ := NR.R_slice HO_7.out; subst eo46) | (go_at_call 14; (with_reducible refine (amanuensisref01_Same.calls kj15 _ _ t182 _ _ t186 true _ ?side1 ?side2 ?side3 ?side4 A22.out).mono ?_); (case side1 => repeat (first | exact (Kd.R_reads' HO_5.out).2.2 | (with_reducible refine Kd.C_alloc ?_ _) | (with_reducible refine Kd.C_drewN ?_ _) | (with_reducible refine Kd.C_drew ?_))); (case side2 => exact (Kd.R_reads' HO_5.out).2.1); (case side3 => repeat (first | exact (NR.R_reads' HO_7.out).2.2 | (with_reducible refine Kd.C_alloc ?_ _) | (with_reducible refine Kd.C_drewN ?_ _) | (with_reducible refine Kd.C_drew ?_))); (case side4 => exact (NR.R_reads' HO_7.out).2.1); rintro e w' ⟨rfl, ⟨nd, rfl⟩⟩))
                          go_ret
                          exact ⟨by first | rfl | (simp [errW_none, errW_some] <;> rfl) | (simp [*, errW_none, errW_some] <;> rfl), by repeat (first | (with_reducible first | exact HB.out | apply below_alloc | apply pw_below_drewN | apply below_drew1) | exact HB.out)⟩
                      · rw [if_neg c24] at H
                        have c24b0 : (t191 == x11_5) = false := by simpa using c24
                        (try (have c24b1 : decide (t191 = x11_5) = false := by simpa using c24))
                        (try (have c24b2 : (t191 == x11_5) = false := by simpa using c24))
                        (try (have c24b3 : ¬ (t191 = x11_5) := by simpa using c24))
                        clear c24
                        obtain rfl := Option.some.inj H
                        go_wp2_with (first | ((with_reducible refine gate_callee (f := 12) rfl ?_); refine goesL_ (some 46) rfl rfl Try.func12 (by kernel_rfl) rfl #[] rfl (by (try simp only [List.map_toArray, List.map_cons, List.map_nil]); first | done | rfl | (simp only [List.length_drop, List.length_take]; rfl)) ?_; (with_reducible refine (amanuensislaw08_answers.calls kj15  true _ A19.out).mono ?_); rintro e w47 ⟨rfl, hb⟩; refine ⟨_, rfl, ?_⟩; have n0_ := Aside0.mk (Kd.R_below (by (with_reducible repeat (first | apply Kd.R_alloc | apply Kd.R_drewN | apply Kd.R_drew)); exact HO_5.out) hb); have n1_ := Aside0.mk (NR.R_below (by (with_reducible repeat (first | apply NR.R_alloc | apply NR.R_drewN | apply NR.R_drew)); exact HO_7.out) hb); have n2_ := Aside0.mk (below_step (by repeat (first | (with_reducible first | exact HB.out | apply below_alloc | apply pw_below_drewN | apply below_drew1) | exact HB.out)) hb); clear HO_5; clear HO_7; clear HB; have HO_5 := n0_; have HO_7 := n1_; have HB := n2_; clear n0_ n1_ n2_; (try clear hb); (try clear hb2); (try clear hk); (try clear hi); obtain ⟨Ao48, co48, eo48⟩ := Kd.R_slice HO_5.out; subst eo48; obtain ⟨Ao49, co49, eo49⟩ := NR.R_slice HO_7.out; subst eo49) | (go_at_call 14; (with_reducible refine (amanuensisref01_Same.calls kj15 _ _ t182 _ _ t186 true _ ?side1 ?side2 ?side3 ?side4 A22.out).mono ?_); (case side1 => repeat (first | exact (Kd.R_reads' HO_5.out).2.2 | (with_reducible refine Kd.C_alloc ?_ _) | (with_reducible refine Kd.C_drewN ?_ _) | (with_reducible refine Kd.C_drew ?_))); (case side2 => exact (Kd.R_reads' HO_5.out).2.1); (case side3 => repeat (first | exact (NR.R_reads' HO_7.out).2.2 | (with_reducible refine Kd.C_alloc ?_ _) | (with_reducible refine Kd.C_drewN ?_ _) | (with_reducible refine Kd.C_drew ?_))); (case side4 => exact (NR.R_reads' HO_7.out).2.1); rintro e w' ⟨rfl, ⟨nd, rfl⟩⟩))
                        go_ret
                        exact ⟨by first | rfl | (simp [errW_none, errW_some] <;> rfl) | (simp [*, errW_none, errW_some] <;> rfl), by repeat (first | (with_reducible first | exact HB.out | apply below_alloc | apply pw_below_drewN | apply below_drew1) | exact HB.out)⟩
                    · replace c23 := Bool.eq_false_iff.mpr c23
                      subst c23
                      have H1 : (some false) = some r := by rw [if_neg (show ¬ (false = true) by decide)] at H; exact H
                      clear H
                      have H := H1
                      clear H1
                      obtain rfl := Option.some.inj H
                      go_wp2_with (first | ((with_reducible refine gate_callee (f := 12) rfl ?_); refine goesL_ (some 46) rfl rfl Try.func12 (by kernel_rfl) rfl #[] rfl (by (try simp only [List.map_toArray, List.map_cons, List.map_nil]); first | done | rfl | (simp only [List.length_drop, List.length_take]; rfl)) ?_; (with_reducible refine (amanuensislaw08_answers.calls kj15  true _ A19.out).mono ?_); rintro e w50 ⟨rfl, hb⟩; refine ⟨_, rfl, ?_⟩; have n0_ := Aside0.mk (Kd.R_below (by (with_reducible repeat (first | apply Kd.R_alloc | apply Kd.R_drewN | apply Kd.R_drew)); exact HO_5.out) hb); have n1_ := Aside0.mk (NR.R_below (by (with_reducible repeat (first | apply NR.R_alloc | apply NR.R_drewN | apply NR.R_drew)); exact HO_7.out) hb); have n2_ := Aside0.mk (below_step (by repeat (first | (with_reducible first | exact HB.out | apply below_alloc | apply pw_below_drewN | apply below_drew1) | exact HB.out)) hb); clear HO_5; clear HO_7; clear HB; have HO_5 := n0_; have HO_7 := n1_; have HB := n2_; clear n0_ n1_ n2_; (try clear hb); (try clear hb2); (try clear hk); (try clear hi); obtain ⟨Ao51, co51, eo51⟩ := Kd.R_slice HO_5.out; subst eo51; obtain ⟨Ao52, co52, eo52⟩ := NR.R_slice HO_7.out; subst eo52) | (go_at_call 14; (with_reducible refine (amanuensisref01_Same.calls kj15 _ _ t182 _ _ t186 false _ ?side1 ?side2 ?side3 ?side4 A22.out).mono ?_); (case side1 => repeat (first | exact (Kd.R_reads' HO_5.out).2.2 | (with_reducible refine Kd.C_alloc ?_ _) | (with_reducible refine Kd.C_drewN ?_ _) | (with_reducible refine Kd.C_drew ?_))); (case side2 => exact (Kd.R_reads' HO_5.out).2.1); (case side3 => repeat (first | exact (NR.R_reads' HO_7.out).2.2 | (with_reducible refine Kd.C_alloc ?_ _) | (with_reducible refine Kd.C_drewN ?_ _) | (with_reducible refine Kd.C_drew ?_))); (case side4 => exact (NR.R_reads' HO_7.out).2.1); rintro e w' ⟨rfl, ⟨nd, rfl⟩⟩))
                      go_ret
                      exact ⟨by first | rfl | (simp [errW_none, errW_some] <;> rfl) | (simp [*, errW_none, errW_some] <;> rfl), by repeat (first | (with_reducible first | exact HB.out | apply below_alloc | apply pw_below_drewN | apply below_drew1) | exact HB.out)⟩
                  · rw [if_neg c21] at H
                    have c21b0 : (t183 == t187) = false := by simpa using c21
                    (try (have c21b1 : decide (t183 = t187) = false := by simpa using c21))
                    (try (have c21b2 : (t183 == t187) = false := by simpa using c21))
                    (try (have c21b3 : ¬ (t183 = t187) := by simpa using c21))
                    clear c21
                    obtain rfl := Option.some.inj H
                    go_wp2_with (first | ((with_reducible refine gate_callee (f := 12) rfl ?_); refine goesL_ (some 46) rfl rfl Try.func12 (by kernel_rfl) rfl #[] rfl (by (try simp only [List.map_toArray, List.map_cons, List.map_nil]); first | done | rfl | (simp only [List.length_drop, List.length_take]; rfl)) ?_; (with_reducible refine (amanuensislaw08_answers.calls kj15  true _ A19.out).mono ?_); rintro e w53 ⟨rfl, hb⟩; refine ⟨_, rfl, ?_⟩; have n0_ := Aside0.mk (Kd.R_below (by (with_reducible repeat (first | apply Kd.R_alloc | apply Kd.R_drewN | apply Kd.R_drew)); exact HO_5.out) hb); have n1_ := Aside0.mk (NR.R_below (by (with_reducible repeat (first | apply NR.R_alloc | apply NR.R_drewN | apply NR.R_drew)); exact HO_7.out) hb); have n2_ := Aside0.mk (below_step (by repeat (first | (with_reducible first | exact HB.out | apply below_alloc | apply pw_below_drewN | apply below_drew1) | exact HB.out)) hb); clear HO_5; clear HO_7; clear HB; have HO_5 := n0_; have HO_7 := n1_; have HB := n2_; clear n0_ n1_ n2_; (try clear hb); (try clear hb2); (try clear hk); (try clear hi)))
                    go_ret
                    exact ⟨by first | rfl | (simp [errW_none, errW_some] <;> rfl) | (simp [*, errW_none, errW_some] <;> rfl), by repeat (first | (with_reducible first | exact HB.out | apply below_alloc | apply pw_below_drewN | apply below_drew1) | exact HB.out)⟩
                · replace c20 := Bool.eq_false_iff.mpr c20
                  subst c20
                  have H1 : (some false) = some r := by rw [if_neg (show ¬ (false = true) by decide)] at H; exact H
                  clear H
                  have H := H1
                  clear H1
                  obtain rfl := Option.some.inj H
                  go_wp2_with (first | ((with_reducible refine gate_callee (f := 12) rfl ?_); refine goesL_ (some 46) rfl rfl Try.func12 (by kernel_rfl) rfl #[] rfl (by (try simp only [List.map_toArray, List.map_cons, List.map_nil]); first | done | rfl | (simp only [List.length_drop, List.length_take]; rfl)) ?_; (with_reducible refine (amanuensislaw08_answers.calls kj15  false _ A19.out).mono ?_); rintro e w54 ⟨rfl, hb⟩; refine ⟨_, rfl, ?_⟩; have n0_ := Aside0.mk (Kd.R_below (by (with_reducible repeat (first | apply Kd.R_alloc | apply Kd.R_drewN | apply Kd.R_drew)); exact HO_5.out) hb); have n1_ := Aside0.mk (NR.R_below (by (with_reducible repeat (first | apply NR.R_alloc | apply NR.R_drewN | apply NR.R_drew)); exact HO_7.out) hb); have n2_ := Aside0.mk (below_step (by repeat (first | (with_reducible first | exact HB.out | apply below_alloc | apply pw_below_drewN | apply below_drew1) | exact HB.out)) hb); clear HO_5; clear HO_7; clear HB; have HO_5 := n0_; have HO_7 := n1_; have HB := n2_; clear n0_ n1_ n2_; (try clear hb); (try clear hb2); (try clear hk); (try clear hi)))
                  go_ret
                  exact ⟨by first | rfl | (simp [errW_none, errW_some] <;> rfl) | (simp [*, errW_none, errW_some] <;> rfl), by repeat (first | (with_reducible first | exact HB.out | apply below_alloc | apply pw_below_drewN | apply below_drew1) | exact HB.out)⟩
              · replace c18 := Bool.eq_false_iff.mpr c18
                subst c18
                have H1 : ((amanuensislaw08_answers.f kj15).bind fun t198 => (if t198 = true then (if (t183 == t187) = true then ((amanuensisref01_Same.f kj15 t182 t186).bind fun t199 => (if t199 = true then (if (t191 == x11_5) = true then (if (t192.length : Int) = x13_11 then (if t183 = true then (if 0 ≤ (wrap64 ((t182.length : Int) - 1)) then (if (wrap64 ((t182.length : Int) - 1)) < (t182.length : Int) then (if (rd t182 (wrap64 ((t182.length : Int) - 1))) = t190 then (some true) else (if a1 = 1 then (some (a0 == 0)) else (some false))) else (none)) else (none)) else (some true)) else (some false)) else (some false)) else (some false))) else (some false)) else (some false))) = some r := by rw [if_neg (show ¬ (false = true) by decide)] at H; exact H
                clear H
                have H := H1
                clear H1
                replace H := Option.bind_eq_some_iff.mp H
                obtain ⟨t198, A550, H⟩ := H
                replace H : (if t198 = true then (if (t183 == t187) = true then ((amanuensisref01_Same.f kj15 t182 t186).bind fun t199 => (if t199 = true then (if (t191 == x11_5) = true then (if (t192.length : Int) = x13_11 then (if t183 = true then (if 0 ≤ (wrap64 ((t182.length : Int) - 1)) then (if (wrap64 ((t182.length : Int) - 1)) < (t182.length : Int) then (if (rd t182 (wrap64 ((t182.length : Int) - 1))) = t190 then (some true) else (if a1 = 1 then (some (a0 == 0)) else (some false))) else (none)) else (none)) else (some true)) else (some false)) else (some false)) else (some false))) else (some false)) else (some false)) = some r := H
                have A55 := Aside0.mk A550
                clear A550
                by_cases c56 : t198 = true
                · subst c56
                  have H1 : (if (t183 == t187) = true then ((amanuensisref01_Same.f kj15 t182 t186).bind fun t199 => (if t199 = true then (if (t191 == x11_5) = true then (if (t192.length : Int) = x13_11 then (if t183 = true then (if 0 ≤ (wrap64 ((t182.length : Int) - 1)) then (if (wrap64 ((t182.length : Int) - 1)) < (t182.length : Int) then (if (rd t182 (wrap64 ((t182.length : Int) - 1))) = t190 then (some true) else (if a1 = 1 then (some (a0 == 0)) else (some false))) else (none)) else (none)) else (some true)) else (some false)) else (some false)) else (some false))) else (some false)) = some r := by rw [if_pos rfl] at H; exact H
                  clear H
                  have H := H1
                  clear H1
                  by_cases c57 : (t183 == t187) = true
                  · rw [if_pos c57] at H
                    have c57b0 : (t183 == t187) = true := c57
                    (try (have c57b1 : decide (t183 = t187) = true := by simpa using c57))
                    (try (have c57b2 : (t183 == t187) = true := by simpa using c57))
                    clear c57
                    replace H := Option.bind_eq_some_iff.mp H
                    obtain ⟨t199, A580, H⟩ := H
                    replace H : (if t199 = true then (if (t191 == x11_5) = true then (if (t192.length : Int) = x13_11 then (if t183 = true then (if 0 ≤ (wrap64 ((t182.length : Int) - 1)) then (if (wrap64 ((t182.length : Int) - 1)) < (t182.length : Int) then (if (rd t182 (wrap64 ((t182.length : Int) - 1))) = t190 then (some true) else (if a1 = 1 then (some (a0 == 0)) else (some false))) else (none)) else (none)) else (some true)) else (some false)) else (some false)) else (some false)) = some r := H
                    have A58 := Aside0.mk A580
                    clear A580
                    by_cases c59 : t199 = true
                    · subst c59
                      have H1 : (if (t191 == x11_5) = true then (if (t192.length : Int) = x13_11 then (if t183 = true then (if 0 ≤ (wrap64 ((t182.length : Int) - 1)) then (if (wrap64 ((t182.length : Int) - 1)) < (t182.length : Int) then (if (rd t182 (wrap64 ((t182.length : Int) - 1))) = t190 then (some true) else (if a1 = 1 then (some (a0 == 0)) else (some false))) else (none)) else (none)) else (some true)) else (some false)) else (some false)) = some r := by rw [if_pos rfl] at H; exact H
                      clear H
                      have H := H1
                      clear H1
                      by_cases c60 : (t191 == x11_5) = true
                      · rw [if_pos c60] at H
                        have c60b0 : (t191 == x11_5) = true := c60
                        (try (have c60b1 : decide (t191 = x11_5) = true := by simpa using c60))
                        (try (have c60b2 : (t191 == x11_5) = true := by simpa using c60))
                        clear c60
                        by_cases c61 : (t192.length : Int) = x13_11
                        · rw [if_pos c61] at H
                          have c61b0 : ((t192.length : Int) == x13_11) = true := beq_iff_eq.mpr c61
                          have c61b1 : ((t192.length : Int) != x13_11) = false := bne_eq_false_iff_eq.mpr c61
                          clear c61
                          by_cases c62 : t183 = true
                          · subst c62
                            have H1 : (if 0 ≤ (wrap64 ((t182.length : Int) - 1)) then (if (wrap64 ((t182.length : Int) - 1)) < (t182.length : Int) then (if (rd t182 (wrap64 ((t182.length : Int) - 1))) = t190 then (some true) else (if a1 = 1 then (some (a0 == 0)) else (some false))) else (none)) else (none)) = some r := by rw [if_pos rfl] at H; exact H
                            clear H
                            have H := H1
                            clear H1
                            obtain ⟨ji63, hji63⟩ : ∃ j_ : Int, (wrap64 ((t182.length : Int) - 1)) = j_ := ⟨_, rfl⟩
                            replace H : (if 0 ≤ (ji63) then (if (ji63) < (t182.length : Int) then (if (rd t182 (ji63)) = t190 then (some true) else (if a1 = 1 then (some (a0 == 0)) else (some false))) else (none)) else (none)) = some r := by first | (rw [hji63] at H; exact H) | (simp only [hji63] at H ⊢; exact H)
                            (try rw [hji63] at A55)
                            (try rw [hji63] at A58)
                            have hji63w : (IntKind.i64.wrap ((t182.length : Int) - 1)) = ji63 := (i64_w _).trans hji63
                            by_cases c64 : 0 ≤ (ji63)
                            · rw [if_pos c64] at H
                              have c64b0 : decide (0 ≤ (ji63)) = true := decide_eq_true c64
                              clear c64
                              by_cases c65 : (ji63) < (t182.length : Int)
                              · rw [if_pos c65] at H
                                have c65b0 : decide ((ji63) < (t182.length : Int)) = true := decide_eq_true c65
                                clear c65
                                by_cases c66 : (rd t182 (ji63)) = t190
                                · rw [if_pos c66] at H
                                  have c66b0 : ((rd t182 (ji63)) == t190) = true := beq_iff_eq.mpr c66
                                  have c66b1 : ((rd t182 (ji63)) != t190) = false := bne_eq_false_iff_eq.mpr c66
                                  clear c66
                                  obtain rfl := Option.some.inj H
                                  go_wp2_with (first | ((with_reducible refine gate_callee (f := 12) rfl ?_); refine goesL_ (some 46) rfl rfl Try.func12 (by kernel_rfl) rfl #[] rfl (by (try simp only [List.map_toArray, List.map_cons, List.map_nil]); first | done | rfl | (simp only [List.length_drop, List.length_take]; rfl)) ?_; (with_reducible refine (amanuensislaw08_answers.calls kj15  true _ A55.out).mono ?_); rintro e w67 ⟨rfl, hb⟩; refine ⟨_, rfl, ?_⟩; have n0_ := Aside0.mk (Kd.R_below (by (with_reducible repeat (first | apply Kd.R_alloc | apply Kd.R_drewN | apply Kd.R_drew)); exact HO_5.out) hb); have n1_ := Aside0.mk (NR.R_below (by (with_reducible repeat (first | apply NR.R_alloc | apply NR.R_drewN | apply NR.R_drew)); exact HO_7.out) hb); have n2_ := Aside0.mk (below_step (by repeat (first | (with_reducible first | exact HB.out | apply below_alloc | apply pw_below_drewN | apply below_drew1) | exact HB.out)) hb); clear HO_5; clear HO_7; clear HB; have HO_5 := n0_; have HO_7 := n1_; have HB := n2_; clear n0_ n1_ n2_; (try clear hb); (try clear hb2); (try clear hk); (try clear hi); obtain ⟨Ao68, co68, eo68⟩ := Kd.R_slice HO_5.out; subst eo68; obtain ⟨Ao69, co69, eo69⟩ := NR.R_slice HO_7.out; subst eo69) | (go_at_call 14; (with_reducible refine (amanuensisref01_Same.calls kj15 _ _ t182 _ _ t186 true _ ?side1 ?side2 ?side3 ?side4 A58.out).mono ?_); (case side1 => repeat (first | exact (Kd.R_reads' HO_5.out).2.2 | (with_reducible refine Kd.C_alloc ?_ _) | (with_reducible refine Kd.C_drewN ?_ _) | (with_reducible refine Kd.C_drew ?_))); (case side2 => exact (Kd.R_reads' HO_5.out).2.1); (case side3 => repeat (first | exact (NR.R_reads' HO_7.out).2.2 | (with_reducible refine Kd.C_alloc ?_ _) | (with_reducible refine Kd.C_drewN ?_ _) | (with_reducible refine Kd.C_drew ?_))); (case side4 => exact (NR.R_reads' HO_7.out).2.1); rintro e w' ⟨rfl, ⟨nd, rfl⟩⟩; have p200 : 0 ≤ ((ji63) : Int) := of_decide_eq_true (by first | (with_reducible assumption) | assumption); have q200 : (ji63) < (t182.length : Int) := of_decide_eq_true (by first | (with_reducible assumption) | assumption); obtain ⟨ad200, e200, hx200_0⟩ := Kd.at_int (Kd.R_reads' HO_5.out).2.2 (ji63) p200 q200; cases e200; replace p200 := eq_true p200; replace q200 := eq_true q200))
                                  go_ret
                                  exact ⟨by first | rfl | (simp [errW_none, errW_some] <;> rfl) | (simp only [← hji63]; first | rfl | (simp [errW_none, errW_some] <;> rfl)) | (simp [*, errW_none, errW_some] <;> rfl), by repeat (first | (with_reducible first | exact HB.out | apply below_alloc | apply pw_below_drewN | apply below_drew1) | exact HB.out)⟩
                                · rw [if_neg c66] at H
                                  have c66b0 : ((rd t182 (ji63)) == t190) = false := beq_eq_false_iff_ne.mpr c66
                                  have c66b1 : ((rd t182 (ji63)) != t190) = true := bne_iff_ne.mpr c66
                                  by_cases c70 : a1 = 1
                                  · rw [if_pos c70] at H
                                    have c70b0 : (a1 == 1) = true := beq_iff_eq.mpr c70
                                    have c70b1 : (a1 != 1) = false := bne_eq_false_iff_eq.mpr c70
                                    clear c70
                                    obtain rfl := Option.some.inj H
                                    go_wp2_with (first | ((with_reducible refine gate_callee (f := 12) rfl ?_); refine goesL_ (some 46) rfl rfl Try.func12 (by kernel_rfl) rfl #[] rfl (by (try simp only [List.map_toArray, List.map_cons, List.map_nil]); first | done | rfl | (simp only [List.length_drop, List.length_take]; rfl)) ?_; (with_reducible refine (amanuensislaw08_answers.calls kj15  true _ A55.out).mono ?_); rintro e w71 ⟨rfl, hb⟩; refine ⟨_, rfl, ?_⟩; have n0_ := Aside0.mk (Kd.R_below (by (with_reducible repeat (first | apply Kd.R_alloc | apply Kd.R_drewN | apply Kd.R_drew)); exact HO_5.out) hb); have n1_ := Aside0.mk (NR.R_below (by (with_reducible repeat (first | apply NR.R_alloc | apply NR.R_drewN | apply NR.R_drew)); exact HO_7.out) hb); have n2_ := Aside0.mk (below_step (by repeat (first | (with_reducible first | exact HB.out | apply below_alloc | apply pw_below_drewN | apply below_drew1) | exact HB.out)) hb); clear HO_5; clear HO_7; clear HB; have HO_5 := n0_; have HO_7 := n1_; have HB := n2_; clear n0_ n1_ n2_; (try clear hb); (try clear hb2); (try clear hk); (try clear hi); obtain ⟨Ao72, co72, eo72⟩ := Kd.R_slice HO_5.out; subst eo72; obtain ⟨Ao73, co73, eo73⟩ := NR.R_slice HO_7.out; subst eo73) | (go_at_call 14; (with_reducible refine (amanuensisref01_Same.calls kj15 _ _ t182 _ _ t186 true _ ?side1 ?side2 ?side3 ?side4 A58.out).mono ?_); (case side1 => repeat (first | exact (Kd.R_reads' HO_5.out).2.2 | (with_reducible refine Kd.C_alloc ?_ _) | (with_reducible refine Kd.C_drewN ?_ _) | (with_reducible refine Kd.C_drew ?_))); (case side2 => exact (Kd.R_reads' HO_5.out).2.1); (case side3 => repeat (first | exact (NR.R_reads' HO_7.out).2.2 | (with_reducible refine Kd.C_alloc ?_ _) | (with_reducible refine Kd.C_drewN ?_ _) | (with_reducible refine Kd.C_drew ?_))); (case side4 => exact (NR.R_reads' HO_7.out).2.1); rintro e w' ⟨rfl, ⟨nd, rfl⟩⟩; have p200 : 0 ≤ ((ji63) : Int) := of_decide_eq_true (by first | (with_reducible assumption) | assumption); have q200 : (ji63) < (t182.length : Int) := of_decide_eq_true (by first | (with_reducible assumption) | assumption); obtain ⟨ad200, e200, hx200_0⟩ := Kd.at_int (Kd.R_reads' HO_5.out).2.2 (ji63) p200 q200; cases e200; replace p200 := eq_true p200; replace q200 := eq_true q200))
                                    go_ret
                                    exact ⟨by first | rfl | (simp [errW_none, errW_some] <;> rfl) | (simp only [← hji63]; first | rfl | (simp [errW_none, errW_some] <;> rfl)) | (simp [*, errW_none, errW_some] <;> rfl), by repeat (first | (with_reducible first | exact HB.out | apply below_alloc | apply pw_below_drewN | apply below_drew1) | exact HB.out)⟩
                                  · rw [if_neg c70] at H
                                    have c70b0 : (a1 == 1) = false := beq_eq_false_iff_ne.mpr c70
                                    have c70b1 : (a1 != 1) = true := bne_iff_ne.mpr c70
                                    obtain rfl := Option.some.inj H
                                    go_wp2_with (first | ((with_reducible refine gate_callee (f := 12) rfl ?_); refine goesL_ (some 46) rfl rfl Try.func12 (by kernel_rfl) rfl #[] rfl (by (try simp only [List.map_toArray, List.map_cons, List.map_nil]); first | done | rfl | (simp only [List.length_drop, List.length_take]; rfl)) ?_; (with_reducible refine (amanuensislaw08_answers.calls kj15  true _ A55.out).mono ?_); rintro e w74 ⟨rfl, hb⟩; refine ⟨_, rfl, ?_⟩; have n0_ := Aside0.mk (Kd.R_below (by (with_reducible repeat (first | apply Kd.R_alloc | apply Kd.R_drewN | apply Kd.R_drew)); exact HO_5.out) hb); have n1_ := Aside0.mk (NR.R_below (by (with_reducible repeat (first | apply NR.R_alloc | apply NR.R_drewN | apply NR.R_drew)); exact HO_7.out) hb); have n2_ := Aside0.mk (below_step (by repeat (first | (with_reducible first | exact HB.out | apply below_alloc | apply pw_below_drewN | apply below_drew1) | exact HB.out)) hb); clear HO_5; clear HO_7; clear HB; have HO_5 := n0_; have HO_7 := n1_; have HB := n2_; clear n0_ n1_ n2_; (try clear hb); (try clear hb2); (try clear hk); (try clear hi); obtain ⟨Ao75, co75, eo75⟩ := Kd.R_slice HO_5.out; subst eo75; obtain ⟨Ao76, co76, eo76⟩ := NR.R_slice HO_7.out; subst eo76) | (go_at_call 14; (with_reducible refine (amanuensisref01_Same.calls kj15 _ _ t182 _ _ t186 true _ ?side1 ?side2 ?side3 ?side4 A58.out).mono ?_); (case side1 => repeat (first | exact (Kd.R_reads' HO_5.out).2.2 | (with_reducible refine Kd.C_alloc ?_ _) | (with_reducible refine Kd.C_drewN ?_ _) | (with_reducible refine Kd.C_drew ?_))); (case side2 => exact (Kd.R_reads' HO_5.out).2.1); (case side3 => repeat (first | exact (NR.R_reads' HO_7.out).2.2 | (with_reducible refine Kd.C_alloc ?_ _) | (with_reducible refine Kd.C_drewN ?_ _) | (with_reducible refine Kd.C_drew ?_))); (case side4 => exact (NR.R_reads' HO_7.out).2.1); rintro e w' ⟨rfl, ⟨nd, rfl⟩⟩; have p200 : 0 ≤ ((ji63) : Int) := of_decide_eq_true (by first | (with_reducible assumption) | assumption); have q200 : (ji63) < (t182.length : Int) := of_decide_eq_true (by first | (with_reducible assumption) | assumption); obtain ⟨ad200, e200, hx200_0⟩ := Kd.at_int (Kd.R_reads' HO_5.out).2.2 (ji63) p200 q200; cases e200; replace p200 := eq_true p200; replace q200 := eq_true q200))
                                    go_ret
                                    exact ⟨by first | rfl | (simp [errW_none, errW_some] <;> rfl) | (simp only [← hji63]; first | rfl | (simp [errW_none, errW_some] <;> rfl)) | (simp [*, errW_none, errW_some] <;> rfl), by repeat (first | (with_reducible first | exact HB.out | apply below_alloc | apply pw_below_drewN | apply below_drew1) | exact HB.out)⟩
                              · rw [if_neg c65] at H
                                exact absurd H (by simp)
                            · rw [if_neg c64] at H
                              exact absurd H (by simp)
                          · replace c62 := Bool.eq_false_iff.mpr c62
                            subst c62
                            have H1 : (some true) = some r := by rw [if_neg (show ¬ (false = true) by decide)] at H; exact H
                            clear H
                            have H := H1
                            clear H1
                            obtain rfl := Option.some.inj H
                            go_wp2_with (first | ((with_reducible refine gate_callee (f := 12) rfl ?_); refine goesL_ (some 46) rfl rfl Try.func12 (by kernel_rfl) rfl #[] rfl (by (try simp only [List.map_toArray, List.map_cons, List.map_nil]); first | done | rfl | (simp only [List.length_drop, List.length_take]; rfl)) ?_; (with_reducible refine (amanuensislaw08_answers.calls kj15  true _ A55.out).mono ?_); rintro e w77 ⟨rfl, hb⟩; refine ⟨_, rfl, ?_⟩; have n0_ := Aside0.mk (Kd.R_below (by (with_reducible repeat (first | apply Kd.R_alloc | apply Kd.R_drewN | apply Kd.R_drew)); exact HO_5.out) hb); have n1_ := Aside0.mk (NR.R_below (by (with_reducible repeat (first | apply NR.R_alloc | apply NR.R_drewN | apply NR.R_drew)); exact HO_7.out) hb); have n2_ := Aside0.mk (below_step (by repeat (first | (with_reducible first | exact HB.out | apply below_alloc | apply pw_below_drewN | apply below_drew1) | exact HB.out)) hb); clear HO_5; clear HO_7; clear HB; have HO_5 := n0_; have HO_7 := n1_; have HB := n2_; clear n0_ n1_ n2_; (try clear hb); (try clear hb2); (try clear hk); (try clear hi); obtain ⟨Ao78, co78, eo78⟩ := Kd.R_slice HO_5.out; subst eo78; obtain ⟨Ao79, co79, eo79⟩ := NR.R_slice HO_7.out; subst eo79) | (go_at_call 14; (with_reducible refine (amanuensisref01_Same.calls kj15 _ _ t182 _ _ t186 true _ ?side1 ?side2 ?side3 ?side4 A58.out).mono ?_); (case side1 => repeat (first | exact (Kd.R_reads' HO_5.out).2.2 | (with_reducible refine Kd.C_alloc ?_ _) | (with_reducible refine Kd.C_drewN ?_ _) | (with_reducible refine Kd.C_drew ?_))); (case side2 => exact (Kd.R_reads' HO_5.out).2.1); (case side3 => repeat (first | exact (NR.R_reads' HO_7.out).2.2 | (with_reducible refine Kd.C_alloc ?_ _) | (with_reducible refine Kd.C_drewN ?_ _) | (with_reducible refine Kd.C_drew ?_))); (case side4 => exact (NR.R_reads' HO_7.out).2.1); rintro e w' ⟨rfl, ⟨nd, rfl⟩⟩))
                            go_ret
                            exact ⟨by first | rfl | (simp [errW_none, errW_some] <;> rfl) | (simp [*, errW_none, errW_some] <;> rfl), by repeat (first | (with_reducible first | exact HB.out | apply below_alloc | apply pw_below_drewN | apply below_drew1) | exact HB.out)⟩
                        · rw [if_neg c61] at H
                          have c61b0 : ((t192.length : Int) == x13_11) = false := beq_eq_false_iff_ne.mpr c61
                          have c61b1 : ((t192.length : Int) != x13_11) = true := bne_iff_ne.mpr c61
                          obtain rfl := Option.some.inj H
                          go_wp2_with (first | ((with_reducible refine gate_callee (f := 12) rfl ?_); refine goesL_ (some 46) rfl rfl Try.func12 (by kernel_rfl) rfl #[] rfl (by (try simp only [List.map_toArray, List.map_cons, List.map_nil]); first | done | rfl | (simp only [List.length_drop, List.length_take]; rfl)) ?_; (with_reducible refine (amanuensislaw08_answers.calls kj15  true _ A55.out).mono ?_); rintro e w80 ⟨rfl, hb⟩; refine ⟨_, rfl, ?_⟩; have n0_ := Aside0.mk (Kd.R_below (by (with_reducible repeat (first | apply Kd.R_alloc | apply Kd.R_drewN | apply Kd.R_drew)); exact HO_5.out) hb); have n1_ := Aside0.mk (NR.R_below (by (with_reducible repeat (first | apply NR.R_alloc | apply NR.R_drewN | apply NR.R_drew)); exact HO_7.out) hb); have n2_ := Aside0.mk (below_step (by repeat (first | (with_reducible first | exact HB.out | apply below_alloc | apply pw_below_drewN | apply below_drew1) | exact HB.out)) hb); clear HO_5; clear HO_7; clear HB; have HO_5 := n0_; have HO_7 := n1_; have HB := n2_; clear n0_ n1_ n2_; (try clear hb); (try clear hb2); (try clear hk); (try clear hi); obtain ⟨Ao81, co81, eo81⟩ := Kd.R_slice HO_5.out; subst eo81; obtain ⟨Ao82, co82, eo82⟩ := NR.R_slice HO_7.out; subst eo82) | (go_at_call 14; (with_reducible refine (amanuensisref01_Same.calls kj15 _ _ t182 _ _ t186 true _ ?side1 ?side2 ?side3 ?side4 A58.out).mono ?_); (case side1 => repeat (first | exact (Kd.R_reads' HO_5.out).2.2 | (with_reducible refine Kd.C_alloc ?_ _) | (with_reducible refine Kd.C_drewN ?_ _) | (with_reducible refine Kd.C_drew ?_))); (case side2 => exact (Kd.R_reads' HO_5.out).2.1); (case side3 => repeat (first | exact (NR.R_reads' HO_7.out).2.2 | (with_reducible refine Kd.C_alloc ?_ _) | (with_reducible refine Kd.C_drewN ?_ _) | (with_reducible refine Kd.C_drew ?_))); (case side4 => exact (NR.R_reads' HO_7.out).2.1); rintro e w' ⟨rfl, ⟨nd, rfl⟩⟩))
                          go_ret
                          exact ⟨by first | rfl | (simp [errW_none, errW_some] <;> rfl) | (simp [*, errW_none, errW_some] <;> rfl), by repeat (first | (with_reducible first | exact HB.out | apply below_alloc | apply pw_below_drewN | apply below_drew1) | exact HB.out)⟩
                      · rw [if_neg c60] at H
                        have c60b0 : (t191 == x11_5) = false := by simpa using c60
                        (try (have c60b1 : decide (t191 = x11_5) = false := by simpa using c60))
                        (try (have c60b2 : (t191 == x11_5) = false := by simpa using c60))
                        (try (have c60b3 : ¬ (t191 = x11_5) := by simpa using c60))
                        clear c60
                        obtain rfl := Option.some.inj H
                        go_wp2_with (first | ((with_reducible refine gate_callee (f := 12) rfl ?_); refine goesL_ (some 46) rfl rfl Try.func12 (by kernel_rfl) rfl #[] rfl (by (try simp only [List.map_toArray, List.map_cons, List.map_nil]); first | done | rfl | (simp only [List.length_drop, List.length_take]; rfl)) ?_; (with_reducible refine (amanuensislaw08_answers.calls kj15  true _ A55.out).mono ?_); rintro e w83 ⟨rfl, hb⟩; refine ⟨_, rfl, ?_⟩; have n0_ := Aside0.mk (Kd.R_below (by (with_reducible repeat (first | apply Kd.R_alloc | apply Kd.R_drewN | apply Kd.R_drew)); exact HO_5.out) hb); have n1_ := Aside0.mk (NR.R_below (by (with_reducible repeat (first | apply NR.R_alloc | apply NR.R_drewN | apply NR.R_drew)); exact HO_7.out) hb); have n2_ := Aside0.mk (below_step (by repeat (first | (with_reducible first | exact HB.out | apply below_alloc | apply pw_below_drewN | apply below_drew1) | exact HB.out)) hb); clear HO_5; clear HO_7; clear HB; have HO_5 := n0_; have HO_7 := n1_; have HB := n2_; clear n0_ n1_ n2_; (try clear hb); (try clear hb2); (try clear hk); (try clear hi); obtain ⟨Ao84, co84, eo84⟩ := Kd.R_slice HO_5.out; subst eo84; obtain ⟨Ao85, co85, eo85⟩ := NR.R_slice HO_7.out; subst eo85) | (go_at_call 14; (with_reducible refine (amanuensisref01_Same.calls kj15 _ _ t182 _ _ t186 true _ ?side1 ?side2 ?side3 ?side4 A58.out).mono ?_); (case side1 => repeat (first | exact (Kd.R_reads' HO_5.out).2.2 | (with_reducible refine Kd.C_alloc ?_ _) | (with_reducible refine Kd.C_drewN ?_ _) | (with_reducible refine Kd.C_drew ?_))); (case side2 => exact (Kd.R_reads' HO_5.out).2.1); (case side3 => repeat (first | exact (NR.R_reads' HO_7.out).2.2 | (with_reducible refine Kd.C_alloc ?_ _) | (with_reducible refine Kd.C_drewN ?_ _) | (with_reducible refine Kd.C_drew ?_))); (case side4 => exact (NR.R_reads' HO_7.out).2.1); rintro e w' ⟨rfl, ⟨nd, rfl⟩⟩))
                        go_ret
                        exact ⟨by first | rfl | (simp [errW_none, errW_some] <;> rfl) | (simp [*, errW_none, errW_some] <;> rfl), by repeat (first | (with_reducible first | exact HB.out | apply below_alloc | apply pw_below_drewN | apply below_drew1) | exact HB.out)⟩
                    · replace c59 := Bool.eq_false_iff.mpr c59
                      subst c59
                      have H1 : (some false) = some r := by rw [if_neg (show ¬ (false = true) by decide)] at H; exact H
                      clear H
                      have H := H1
                      clear H1
                      obtain rfl := Option.some.inj H
                      go_wp2_with (first | ((with_reducible refine gate_callee (f := 12) rfl ?_); refine goesL_ (some 46) rfl rfl Try.func12 (by kernel_rfl) rfl #[] rfl (by (try simp only [List.map_toArray, List.map_cons, List.map_nil]); first | done | rfl | (simp only [List.length_drop, List.length_take]; rfl)) ?_; (with_reducible refine (amanuensislaw08_answers.calls kj15  true _ A55.out).mono ?_); rintro e w86 ⟨rfl, hb⟩; refine ⟨_, rfl, ?_⟩; have n0_ := Aside0.mk (Kd.R_below (by (with_reducible repeat (first | apply Kd.R_alloc | apply Kd.R_drewN | apply Kd.R_drew)); exact HO_5.out) hb); have n1_ := Aside0.mk (NR.R_below (by (with_reducible repeat (first | apply NR.R_alloc | apply NR.R_drewN | apply NR.R_drew)); exact HO_7.out) hb); have n2_ := Aside0.mk (below_step (by repeat (first | (with_reducible first | exact HB.out | apply below_alloc | apply pw_below_drewN | apply below_drew1) | exact HB.out)) hb); clear HO_5; clear HO_7; clear HB; have HO_5 := n0_; have HO_7 := n1_; have HB := n2_; clear n0_ n1_ n2_; (try clear hb); (try clear hb2); (try clear hk); (try clear hi); obtain ⟨Ao87, co87, eo87⟩ := Kd.R_slice HO_5.out; subst eo87; obtain ⟨Ao88, co88, eo88⟩ := NR.R_slice HO_7.out; subst eo88) | (go_at_call 14; (with_reducible refine (amanuensisref01_Same.calls kj15 _ _ t182 _ _ t186 false _ ?side1 ?side2 ?side3 ?side4 A58.out).mono ?_); (case side1 => repeat (first | exact (Kd.R_reads' HO_5.out).2.2 | (with_reducible refine Kd.C_alloc ?_ _) | (with_reducible refine Kd.C_drewN ?_ _) | (with_reducible refine Kd.C_drew ?_))); (case side2 => exact (Kd.R_reads' HO_5.out).2.1); (case side3 => repeat (first | exact (NR.R_reads' HO_7.out).2.2 | (with_reducible refine Kd.C_alloc ?_ _) | (with_reducible refine Kd.C_drewN ?_ _) | (with_reducible refine Kd.C_drew ?_))); (case side4 => exact (NR.R_reads' HO_7.out).2.1); rintro e w' ⟨rfl, ⟨nd, rfl⟩⟩))
                      go_ret
                      exact ⟨by first | rfl | (simp [errW_none, errW_some] <;> rfl) | (simp [*, errW_none, errW_some] <;> rfl), by repeat (first | (with_reducible first | exact HB.out | apply below_alloc | apply pw_below_drewN | apply below_drew1) | exact HB.out)⟩
                  · rw [if_neg c57] at H
                    have c57b0 : (t183 == t187) = false := by simpa using c57
                    (try (have c57b1 : decide (t183 = t187) = false := by simpa using c57))
                    (try (have c57b2 : (t183 == t187) = false := by simpa using c57))
                    (try (have c57b3 : ¬ (t183 = t187) := by simpa using c57))
                    clear c57
                    obtain rfl := Option.some.inj H
                    go_wp2_with (first | ((with_reducible refine gate_callee (f := 12) rfl ?_); refine goesL_ (some 46) rfl rfl Try.func12 (by kernel_rfl) rfl #[] rfl (by (try simp only [List.map_toArray, List.map_cons, List.map_nil]); first | done | rfl | (simp only [List.length_drop, List.length_take]; rfl)) ?_; (with_reducible refine (amanuensislaw08_answers.calls kj15  true _ A55.out).mono ?_); rintro e w89 ⟨rfl, hb⟩; refine ⟨_, rfl, ?_⟩; have n0_ := Aside0.mk (Kd.R_below (by (with_reducible repeat (first | apply Kd.R_alloc | apply Kd.R_drewN | apply Kd.R_drew)); exact HO_5.out) hb); have n1_ := Aside0.mk (NR.R_below (by (with_reducible repeat (first | apply NR.R_alloc | apply NR.R_drewN | apply NR.R_drew)); exact HO_7.out) hb); have n2_ := Aside0.mk (below_step (by repeat (first | (with_reducible first | exact HB.out | apply below_alloc | apply pw_below_drewN | apply below_drew1) | exact HB.out)) hb); clear HO_5; clear HO_7; clear HB; have HO_5 := n0_; have HO_7 := n1_; have HB := n2_; clear n0_ n1_ n2_; (try clear hb); (try clear hb2); (try clear hk); (try clear hi)))
                    go_ret
                    exact ⟨by first | rfl | (simp [errW_none, errW_some] <;> rfl) | (simp [*, errW_none, errW_some] <;> rfl), by repeat (first | (with_reducible first | exact HB.out | apply below_alloc | apply pw_below_drewN | apply below_drew1) | exact HB.out)⟩
                · replace c56 := Bool.eq_false_iff.mpr c56
                  subst c56
                  have H1 : (some false) = some r := by rw [if_neg (show ¬ (false = true) by decide)] at H; exact H
                  clear H
                  have H := H1
                  clear H1
                  obtain rfl := Option.some.inj H
                  go_wp2_with (first | ((with_reducible refine gate_callee (f := 12) rfl ?_); refine goesL_ (some 46) rfl rfl Try.func12 (by kernel_rfl) rfl #[] rfl (by (try simp only [List.map_toArray, List.map_cons, List.map_nil]); first | done | rfl | (simp only [List.length_drop, List.length_take]; rfl)) ?_; (with_reducible refine (amanuensislaw08_answers.calls kj15  false _ A55.out).mono ?_); rintro e w90 ⟨rfl, hb⟩; refine ⟨_, rfl, ?_⟩; have n0_ := Aside0.mk (Kd.R_below (by (with_reducible repeat (first | apply Kd.R_alloc | apply Kd.R_drewN | apply Kd.R_drew)); exact HO_5.out) hb); have n1_ := Aside0.mk (NR.R_below (by (with_reducible repeat (first | apply NR.R_alloc | apply NR.R_drewN | apply NR.R_drew)); exact HO_7.out) hb); have n2_ := Aside0.mk (below_step (by repeat (first | (with_reducible first | exact HB.out | apply below_alloc | apply pw_below_drewN | apply below_drew1) | exact HB.out)) hb); clear HO_5; clear HO_7; clear HB; have HO_5 := n0_; have HO_7 := n1_; have HB := n2_; clear n0_ n1_ n2_; (try clear hb); (try clear hb2); (try clear hk); (try clear hi)))
                  go_ret
                  exact ⟨by first | rfl | (simp [errW_none, errW_some] <;> rfl) | (simp [*, errW_none, errW_some] <;> rfl), by repeat (first | (with_reducible first | exact HB.out | apply below_alloc | apply pw_below_drewN | apply below_drew1) | exact HB.out)⟩

/-- THE ONE PURE STATEMENT of amanuensislaw08_SetsNames: yours. -/
def amanuensislaw08_SetsNames.Pure : Prop := ∀ (a0 : Int) (a1 : Int), (Lit.int .i64 a0).wf = true → (Lit.int .i64 a1).wf = true → ∃ k, amanuensislaw08_SetsNames.f k a0 a1 = some true
theorem amanuensislaw08_SetsNames.walk (P : amanuensislaw08_SetsNames.Pure) (a0 : Int) (a1 : Int) (w : World) (w0 : (Lit.int .i64 a0).wf = true) (w1 : (Lit.int .i64 a1).wf = true) :
    Calls Try.prog 5 #[.int .i64 a0, .int .i64 a1] w fun e w' => e = .returned (.bool true) ∧ Below w.heap.size w w' := by
  obtain ⟨k, h⟩ := P a0 a1 w0 w1
  refine (amanuensislaw08_SetsNames.calls k a0 a1 true w h).mono ?_
  rintro e w' ⟨rfl, hd⟩
  exact ⟨rfl, hd⟩

end Go.Proofs.Ytjkgabmhhehhjaa.PSetsNames
