/- Begun as a text of print.sh, over a translation in which a function has a stand-in; what the stand-in changes is proved by hand. -/
import Derived.Test.YtjkgabmhhehhjaaPSetsApartx0
import Derived.Test.YtjkgabmhhehhjaaPSetsApartx1
import Derived.Test.YtjkgabmhhehhjaaPSetsApartx2
namespace Go.Proofs.Ytjkgabmhhehhjaa.PSetsLeast
open Go.Proofs.Ytjkgabmhhehhjaa.PSetsApart Go.RowKit Go.Proofs.YtjkgabmhhehhjaaW.PrintWords Go.Proofs.YtjkgabmhhehhjaaW.PrintLast Go.Proofs.YtjkgabmhhehhjaaW.PrintMore
attribute [local go_sem] max2_int min2_int max_two min_two max_three min_three max_four min_four   -- for this text's walks alone
set_option linter.unusedVariables false
set_option linter.unusedSimpArgs false

/-! ### amanuensisref08_Less: function 16 -/
def amanuensisref08_Less.l0 : Nat → List Int → List Int → Int → Option (Bool)
  | 0, _, _, _ => none
  | k + 1, x0, x1, x5 => if x5 < (x0.length : Int) then (if 0 ≤ x5 then (if x5 < (x1.length : Int) then (if (rd x0 x5) = (rd x1 x5) then (amanuensisref08_Less.l0 k x0 x1 (wrap64 (x5 + 1))) else (some (decide ((rd x0 x5) < (rd x1 x5))))) else (none)) else (none)) else (some false)
def amanuensisref08_Less.f (k : Nat) (l0 : List Int) (l1 : List Int) : Option (Bool) := if (l0.length : Int) = (l1.length : Int) then (amanuensisref08_Less.l0 k l0 l1 0) else (some (decide ((l0.length : Int) < (l1.length : Int))))
theorem amanuensisref08_Less.mono_l : ∀ k, (∀ y0 y1 y2, LeO (amanuensisref08_Less.l0 k y0 y1 y2) (amanuensisref08_Less.l0 (k + 1) y0 y1 y2))
  | 0 => fun _ _ _ r h => by simp [amanuensisref08_Less.l0] at h
  | k + 1 => by
    have ih0 := amanuensisref08_Less.mono_l k
    · intro y0 y1 y2
      unfold amanuensisref08_Less.l0
      repeat' first
      | (with_reducible exact ih0 _ _ _)
      | (with_reducible exact LeO.refl _)
      | (with_reducible exact LeO.none _)
      | (with_reducible refine LeO.ite ?_ ?_)
      | (with_reducible refine LeO.bind ?_ (fun _ => ?_))
      | exact ih0 _ _ _
      | exact LeO.none _
      | refine LeO.ite ?_ ?_
      | refine LeO.bind ?_ (fun _ => ?_)
theorem amanuensisref08_Less.mono : ∀ a0 a1 k, LeO (amanuensisref08_Less.f k a0 a1) (amanuensisref08_Less.f (k + 1) a0 a1) := by
  intro a0 a1 k
  have ih0 := amanuensisref08_Less.mono_l k
  unfold amanuensisref08_Less.f
  repeat' first
      | (with_reducible exact ih0 _ _ _)
      | (with_reducible exact LeO.refl _)
      | (with_reducible exact LeO.none _)
      | (with_reducible refine LeO.ite ?_ ?_)
      | (with_reducible refine LeO.bind ?_ (fun _ => ?_))
      | exact ih0 _ _ _
      | exact LeO.none _
      | refine LeO.ite ?_ ?_
      | refine LeO.bind ?_ (fun _ => ?_)
set_option maxHeartbeats 8000000 in
set_option maxRecDepth 100000 in
theorem amanuensisref08_Less.calls (k : Nat) (A0 : Option Addr) (c0 : Nat) (l0 : List Int) (A1 : Option Addr) (c1 : Nat) (l1 : List Int) (r : Bool) (w : World) (hr0 : Kd.C (Kd.int .u8) w A0 l0.length l0) (hc0 : l0.length ≤ c0) (hr1 : Kd.C (Kd.int .u8) w A1 l1.length l1) (hc1 : l1.length ≤ c1) (h : amanuensisref08_Less.f k l0 l1 = some r) :
    Calls Try.prog 16 #[.slice A0 l0.length c0, .slice A1 l1.length c1] w fun e w' => e = .returned (.bool r) ∧ Drawn0 w w' := by
  have HR0 := Aside0.mk hr0
  have HC0 := Aside0.mk hc0
  clear hr0 hc0
  have HR1 := Aside0.mk hr1
  have HC1 := Aside0.mk hc1
  clear hr1 hc1
  have H : (if (l0.length : Int) = (l1.length : Int) then (amanuensisref08_Less.l0 k l0 l1 0) else (some (decide ((l0.length : Int) < (l1.length : Int))))) = some r := h
  clear h
  by_cases c3 : (l0.length : Int) = (l1.length : Int)
  · rw [if_pos c3] at H
    have c3b0 : ((l0.length : Int) == (l1.length : Int)) = true := beq_iff_eq.mpr c3
    have c3b1 : ((l0.length : Int) != (l1.length : Int)) = false := bne_eq_false_iff_eq.mpr c3
    have c3b2 : (l0.length == l1.length) = true := by first | simpa using c3 | (simp at c3 ⊢; omega)
    clear c3
    have H' := Aside0.mk H
    clear H
    go_enter Try.func16, Try.ntmps16
    go_wp2
    repeat (go_quiet (fail); try go_wp2)
    go_loopg [5] k (fun kq v5 w' => ∃ (x5_1 : Int), v5 = .int .i64 x5_1 ∧ Aside0 (amanuensisref08_Less.l0 kq l0 l1 x5_1 = some r) ∧ Aside0 (kq ≤ k) ∧ Drawn0 w w')
    case atStart => exact ⟨(0), (by first | rfl | (simp; done) | (simp [*]; done)), H', ⟨Nat.le_refl _⟩, by repeat (first | exact Drawn0.refl _ | apply Drawn0.step)⟩
    case round =>
      clear H'
      try clear c1
      try clear p2
      try clear c3
      try clear c3b0
      try clear c3b1
      try clear c3b2
      obtain ⟨x5_1, rfl, HA, HK1, ⟨m1, rfl⟩⟩ := hrel
      cases gk with
      | zero => exact absurd HA.out (by simp [amanuensisref08_Less.l0])
      | succ k1 =>
        have H := HA.out
        clear HA
        simp only [amanuensisref08_Less.l0] at H
        by_cases c4 : x5_1 < (l0.length : Int)
        · rw [if_pos c4] at H
          have c4b0 : decide (x5_1 < (l0.length : Int)) = true := decide_eq_true c4
          clear c4
          by_cases c5 : 0 ≤ x5_1
          · rw [if_pos c5] at H
            have c5b0 : decide (0 ≤ x5_1) = true := decide_eq_true c5
            clear c5
            by_cases c6 : x5_1 < (l1.length : Int)
            · rw [if_pos c6] at H
              have c6b0 : decide (x5_1 < (l1.length : Int)) = true := decide_eq_true c6
              clear c6
              by_cases c7 : (rd l0 x5_1) = (rd l1 x5_1)
              · rw [if_pos c7] at H
                have c7b0 : ((rd l0 x5_1) == (rd l1 x5_1)) = true := beq_iff_eq.mpr c7
                have c7b1 : ((rd l0 x5_1) != (rd l1 x5_1)) = false := bne_eq_false_iff_eq.mpr c7
                clear c7
                have H' := Aside0.mk H
                clear H
                have p151 : 0 ≤ (x5_1 : Int) := of_decide_eq_true (by first | (with_reducible assumption) | assumption)
                have q151 : x5_1 < (l0.length : Int) := of_decide_eq_true (by first | (with_reducible assumption) | assumption)
                obtain ⟨ad151, e151, hx151_0⟩ := Kd.at_int HR0.out x5_1 p151 q151
                cases e151
                replace p151 := eq_true p151
                replace q151 := eq_true q151
                have p152 : 0 ≤ (x5_1 : Int) := of_decide_eq_true (by first | (with_reducible assumption) | assumption)
                have q152 : x5_1 < (l1.length : Int) := of_decide_eq_true (by first | (with_reducible assumption) | assumption)
                obtain ⟨ad152, e152, hx152_0⟩ := Kd.at_int HR1.out x5_1 p152 q152
                cases e152
                replace p152 := eq_true p152
                replace q152 := eq_true q152
                go_wp2
                repeat (go_quiet (fail); try go_wp2)
                go_roundg k1
                case measure => have := HK1.out; omega
                case rel => exact ⟨(wrap64 (x5_1 + 1)), (by first | rfl | (simp; done) | (simp [*]; done)), H', ⟨by have := HK1.out; omega⟩, by repeat (first | exact Drawn0.refl _ | apply Drawn0.step)⟩
              · rw [if_neg c7] at H
                have c7b0 : ((rd l0 x5_1) == (rd l1 x5_1)) = false := beq_eq_false_iff_ne.mpr c7
                have c7b1 : ((rd l0 x5_1) != (rd l1 x5_1)) = true := bne_iff_ne.mpr c7
                obtain rfl := Option.some.inj H
                have p151 : 0 ≤ (x5_1 : Int) := of_decide_eq_true (by first | (with_reducible assumption) | assumption)
                have q151 : x5_1 < (l0.length : Int) := of_decide_eq_true (by first | (with_reducible assumption) | assumption)
                obtain ⟨ad151, e151, hx151_0⟩ := Kd.at_int HR0.out x5_1 p151 q151
                cases e151
                replace p151 := eq_true p151
                replace q151 := eq_true q151
                have p152 : 0 ≤ (x5_1 : Int) := of_decide_eq_true (by first | (with_reducible assumption) | assumption)
                have q152 : x5_1 < (l1.length : Int) := of_decide_eq_true (by first | (with_reducible assumption) | assumption)
                obtain ⟨ad152, e152, hx152_0⟩ := Kd.at_int HR1.out x5_1 p152 q152
                cases e152
                replace p152 := eq_true p152
                replace q152 := eq_true q152
                have p153 : 0 ≤ (x5_1 : Int) := of_decide_eq_true (by first | (with_reducible assumption) | assumption)
                have q153 : x5_1 < (l0.length : Int) := of_decide_eq_true (by first | (with_reducible assumption) | assumption)
                obtain ⟨ad153, e153, hx153_0⟩ := Kd.at_int HR0.out x5_1 p153 q153
                obtain rfl : ad151 = ad153 := (by injection e153)
                replace p153 := eq_true p153
                replace q153 := eq_true q153
                have p154 : 0 ≤ (x5_1 : Int) := of_decide_eq_true (by first | (with_reducible assumption) | assumption)
                have q154 : x5_1 < (l1.length : Int) := of_decide_eq_true (by first | (with_reducible assumption) | assumption)
                obtain ⟨ad154, e154, hx154_0⟩ := Kd.at_int HR1.out x5_1 p154 q154
                obtain rfl : ad152 = ad154 := (by injection e154)
                replace p154 := eq_true p154
                replace q154 := eq_true q154
                go_wp2
                repeat (go_quiet (fail); try go_wp2)
                go_ret
                exact ⟨by first | rfl | (simp; done) | (simp [*]; done), by repeat (first | exact Drawn0.refl _ | apply Drawn0.step)⟩
            · rw [if_neg c6] at H
              exact absurd H (by simp)
          · rw [if_neg c5] at H
            exact absurd H (by simp)
        · rw [if_neg c4] at H
          have c4b0 : decide (x5_1 < (l0.length : Int)) = false := decide_eq_false c4
          clear c4
          obtain rfl := Option.some.inj H
          go_wp2
          repeat (go_quiet (fail); try go_wp2)
          go_ret
          exact ⟨by first | rfl | (simp; done) | (simp [*]; done), by repeat (first | exact Drawn0.refl _ | apply Drawn0.step)⟩
  · rw [if_neg c3] at H
    have c3b0 : ((l0.length : Int) == (l1.length : Int)) = false := beq_eq_false_iff_ne.mpr c3
    have c3b1 : ((l0.length : Int) != (l1.length : Int)) = true := bne_iff_ne.mpr c3
    have c3b2 : (l0.length == l1.length) = false := by first | simpa using c3 | (simp at c3 ⊢; omega)
    obtain rfl := Option.some.inj H
    go_enter Try.func16, Try.ntmps16
    go_wp2
    repeat (go_quiet (fail); try go_wp2)
    go_ret
    exact ⟨by first | rfl | (simp; done) | (simp [*]; done), by repeat (first | exact Drawn0.refl _ | apply Drawn0.step)⟩

section
variable {P : Program} {ops : Array Oper} {rest : List Oper} {o : Oper} {a : Act} {Q : Exit → Act → World → Prop}
/-- '[]byte(s)': a marked row, which is read as the string's bytes. -/
theorem conv_event {W : World} (hgd : o.guard = none) {N : Tmp} (_hd : o.dst = some N) (s : ByteArray) (e : TypeId) (xs : List Int) (hx : xs = bytesOf s) (hs : s.size ≤ 9223372036854775807)
    (hrun : (execOp a.eval o).run P W = .ok (.value (.slice (some ⟨W.heap.size, 0, none⟩) s.size (grownCap W s.size 0 e))) (Lib.bytesWorld W e s))
    (h : ∀ (A : Option Addr) (c : Nat) (w1 : World), Kd.C (Kd.int .u8) w1 A xs.length xs → xs.length ≤ c → Below W.heap.size W w1 → wpList P ops Q rest (a.put o.dst (.slice A xs.length c)) w1) : wpList P ops Q (o :: rest) a W := by
  subst hx
  have hl : s.size = (bytesOf s).length := (bytesOf_length s).symm
  refine Kd.event_run hgd hrun ?_
  have h2 := h (some ⟨W.heap.size, 0, none⟩) (grownCap W s.size 0 e) (Lib.bytesWorld W e s)
    (by have := Kd.C_of_reads (d := (0 : Int)) (h1 := fun _ => rfl) (bytes_reads W e s hs); rw [hl] at this; exact this)
    (by rw [← hl]; exact grownCap_ge W s.size 0 e) (bytes_below (Below.refl _ _) (Nat.le_refl _) e s)
  rw [← hl] at h2
  exact h2
end

/-! ### amanuensislaw08_SetsLeast: function 4 -/
def amanuensislaw08_SetsLeast.f (k : Nat) (a0 : Int) : Option (Bool) := (amanuensisref08_Escapes.f k).bind fun t155 => (if (t155.length : Int) = 0 then (none) else (if 0 ≤ (Int.tmod (wrap64 (a0)) (t155.length : Int)) then (if (Int.tmod (wrap64 (a0)) (t155.length : Int)) < (t155.length : Int) then ((sets_Designate.f k ((rd_T38 t155 (Int.tmod (wrap64 (a0)) (t155.length : Int))).f1) ((rd_T38 t155 (Int.tmod (wrap64 (a0)) (t155.length : Int))).f2)).bind fun bt160 => ((amanuensislaw08_answers.f k).bind fun t164 => (if t164 = true then (if bt160.2 = true then ((if ((rd_T38 t155 (Int.tmod (wrap64 (a0)) (t155.length : Int))).f0).size ≤ 9223372036854775807 then (amanuensisref08_Less.f k (bytesOf ((rd_T38 t155 (Int.tmod (wrap64 (a0)) (t155.length : Int))).f0)) bt160.1) else none).bind fun t168 => (if t168 = true then (some false) else (if (bt160.1.length : Int) ≥ 2 then (some (decide ((bt160.1.length : Int) ≤ 4))) else (some false)))) else (some false)) else (some false)))) else (none)) else (none)))
theorem amanuensislaw08_SetsLeast.mono : ∀ a0 k, LeO (amanuensislaw08_SetsLeast.f k a0) (amanuensislaw08_SetsLeast.f (k + 1) a0) := by
  intro a0 k
  unfold amanuensislaw08_SetsLeast.f
  repeat' first
      | (with_reducible exact amanuensislaw08_answers.mono _)
      | (with_reducible exact amanuensisref08_Escapes.mono _)
      | (with_reducible exact amanuensisref08_Less.mono _ _ _)
      | (with_reducible exact sets_Designate.mono _ _ _)
      | (with_reducible exact LeO.refl _)
      | (with_reducible exact LeO.none _)
      | (with_reducible refine LeO.ite ?_ ?_)
      | (with_reducible refine LeO.bind ?_ (fun _ => ?_))
      | exact amanuensislaw08_answers.mono _
      | exact amanuensisref08_Escapes.mono _
      | exact amanuensisref08_Less.mono _ _ _
      | exact sets_Designate.mono _ _ _
      | exact LeO.none _
      | refine LeO.ite ?_ ?_
      | refine LeO.bind ?_ (fun _ => ?_)
set_option maxHeartbeats 8000000 in
set_option maxRecDepth 100000 in
theorem amanuensislaw08_SetsLeast.calls (k : Nat) (a0 : Int) (r : Bool) (hr : r = true) (w : World) (h : amanuensislaw08_SetsLeast.f k a0 = some r) :
    Calls Try.prog 4 #[.int .u8 a0] w fun e w' => e = .returned (.bool r) ∧ Below w.heap.size w w' := by
  replace hr := Aside0.mk hr
  have hu38 := Try.underlying38
  have HB := Aside0.mk (Below.refl w.heap.size w)
  have H : ((amanuensisref08_Escapes.f k).bind fun t155 => (if (t155.length : Int) = 0 then (none) else (if 0 ≤ (Int.tmod (wrap64 (a0)) (t155.length : Int)) then (if (Int.tmod (wrap64 (a0)) (t155.length : Int)) < (t155.length : Int) then ((sets_Designate.f k ((rd_T38 t155 (Int.tmod (wrap64 (a0)) (t155.length : Int))).f1) ((rd_T38 t155 (Int.tmod (wrap64 (a0)) (t155.length : Int))).f2)).bind fun bt160 => ((amanuensislaw08_answers.f k).bind fun t164 => (if t164 = true then (if bt160.2 = true then ((if ((rd_T38 t155 (Int.tmod (wrap64 (a0)) (t155.length : Int))).f0).size ≤ 9223372036854775807 then (amanuensisref08_Less.f k (bytesOf ((rd_T38 t155 (Int.tmod (wrap64 (a0)) (t155.length : Int))).f0)) bt160.1) else none).bind fun t168 => (if t168 = true then (some false) else (if (bt160.1.length : Int) ≥ 2 then (some (decide ((bt160.1.length : Int) ≤ 4))) else (some false)))) else (some false)) else (some false)))) else (none)) else (none)))) = some r := h
  clear h
  replace H := Option.bind_eq_some_iff.mp H
  obtain ⟨t155, A20, H⟩ := H
  replace H : (if (t155.length : Int) = 0 then (none) else (if 0 ≤ (Int.tmod (wrap64 (a0)) (t155.length : Int)) then (if (Int.tmod (wrap64 (a0)) (t155.length : Int)) < (t155.length : Int) then ((sets_Designate.f k ((rd_T38 t155 (Int.tmod (wrap64 (a0)) (t155.length : Int))).f1) ((rd_T38 t155 (Int.tmod (wrap64 (a0)) (t155.length : Int))).f2)).bind fun bt160 => ((amanuensislaw08_answers.f k).bind fun t164 => (if t164 = true then (if bt160.2 = true then ((if ((rd_T38 t155 (Int.tmod (wrap64 (a0)) (t155.length : Int))).f0).size ≤ 9223372036854775807 then (amanuensisref08_Less.f k (bytesOf ((rd_T38 t155 (Int.tmod (wrap64 (a0)) (t155.length : Int))).f0)) bt160.1) else none).bind fun t168 => (if t168 = true then (some false) else (if (bt160.1.length : Int) ≥ 2 then (some (decide ((bt160.1.length : Int) ≤ 4))) else (some false)))) else (some false)) else (some false)))) else (none)) else (none))) = some r := H
  have A2 := Aside0.mk A20
  clear A20
  by_cases c3 : (t155.length : Int) = 0
  · rw [if_pos c3] at H
    exact absurd H (by simp)
  · rw [if_neg c3] at H
    have c3b0 : ((t155.length : Int) == 0) = false := beq_eq_false_iff_ne.mpr c3
    have c3b1 : ((t155.length : Int) != 0) = true := bne_iff_ne.mpr c3
    have c3b2 : ¬ (t155 = []) := fun h_ => c3 (by rw [h_]; rfl)
    obtain ⟨ji4, hji4⟩ : ∃ j_ : Int, (Int.tmod (wrap64 (a0)) (t155.length : Int)) = j_ := ⟨_, rfl⟩
    replace H : (if 0 ≤ (ji4) then (if (ji4) < (t155.length : Int) then ((sets_Designate.f k ((rd_T38 t155 (ji4)).f1) ((rd_T38 t155 (ji4)).f2)).bind fun bt160 => ((amanuensislaw08_answers.f k).bind fun t164 => (if t164 = true then (if bt160.2 = true then ((if ((rd_T38 t155 (ji4)).f0).size ≤ 9223372036854775807 then (amanuensisref08_Less.f k (bytesOf ((rd_T38 t155 (ji4)).f0)) bt160.1) else none).bind fun t168 => (if t168 = true then (some false) else (if (bt160.1.length : Int) ≥ 2 then (some (decide ((bt160.1.length : Int) ≤ 4))) else (some false)))) else (some false)) else (some false)))) else (none)) else (none)) = some r := by first | (rw [hji4] at H; exact H) | (simp only [hji4] at H ⊢; exact H)
    (try rw [hji4] at A2)
    by_cases c5 : 0 ≤ (ji4)
    · rw [if_pos c5] at H
      have c5b0 : decide (0 ≤ (ji4)) = true := decide_eq_true c5
      clear c5
      by_cases c6 : (ji4) < (t155.length : Int)
      · rw [if_pos c6] at H
        have c6b0 : decide ((ji4) < (t155.length : Int)) = true := decide_eq_true c6
        clear c6
        replace H := Option.bind_eq_some_iff.mp H
        obtain ⟨⟨t160, t161⟩, A70, H⟩ := H
        replace H : ((amanuensislaw08_answers.f k).bind fun t164 => (if t164 = true then (if t161 = true then ((if ((rd_T38 t155 (ji4)).f0).size ≤ 9223372036854775807 then (amanuensisref08_Less.f k (bytesOf ((rd_T38 t155 (ji4)).f0)) t160) else none).bind fun t168 => (if t168 = true then (some false) else (if (t160.length : Int) ≥ 2 then (some (decide ((t160.length : Int) ≤ 4))) else (some false)))) else (some false)) else (some false))) = some r := H
        have A7 := Aside0.mk A70
        clear A70
        replace H := Option.bind_eq_some_iff.mp H
        obtain ⟨t164, A80, H⟩ := H
        replace H : (if t164 = true then (if t161 = true then ((if ((rd_T38 t155 (ji4)).f0).size ≤ 9223372036854775807 then (amanuensisref08_Less.f k (bytesOf ((rd_T38 t155 (ji4)).f0)) t160) else none).bind fun t168 => (if t168 = true then (some false) else (if (t160.length : Int) ≥ 2 then (some (decide ((t160.length : Int) ≤ 4))) else (some false)))) else (some false)) else (some false)) = some r := H
        have A8 := Aside0.mk A80
        clear A80
        by_cases c9 : t164 = true
        · subst c9
          have H1 : (if t161 = true then ((if ((rd_T38 t155 (ji4)).f0).size ≤ 9223372036854775807 then (amanuensisref08_Less.f k (bytesOf ((rd_T38 t155 (ji4)).f0)) t160) else none).bind fun t168 => (if t168 = true then (some false) else (if (t160.length : Int) ≥ 2 then (some (decide ((t160.length : Int) ≤ 4))) else (some false)))) else (some false)) = some r := by rw [if_pos rfl] at H; exact H
          clear H
          have H := H1
          clear H1
          by_cases c10 : t161 = true
          · subst c10
            have H1 : ((if ((rd_T38 t155 (ji4)).f0).size ≤ 9223372036854775807 then (amanuensisref08_Less.f k (bytesOf ((rd_T38 t155 (ji4)).f0)) t160) else none).bind fun t168 => (if t168 = true then (some false) else (if (t160.length : Int) ≥ 2 then (some (decide ((t160.length : Int) ≤ 4))) else (some false)))) = some r := by rw [if_pos rfl] at H; exact H
            clear H
            have H := H1
            clear H1
            have SBy165 : ((rd_T38 t155 (ji4)).f0).size ≤ 9223372036854775807 := by
              by_cases hc_ : ((rd_T38 t155 (ji4)).f0).size ≤ 9223372036854775807
              · exact hc_
              · rw [if_neg hc_] at H; exact absurd H (by simp)
            rw [if_pos SBy165] at H
            obtain ⟨y165, hy165⟩ : ∃ y_ : List Int, y_ = bytesOf ((rd_T38 t155 (ji4)).f0) := ⟨_, rfl⟩
            replace H : ((amanuensisref08_Less.f k y165 t160).bind fun t168 => (if t168 = true then (some false) else (if (t160.length : Int) ≥ 2 then (some (decide ((t160.length : Int) ≤ 4))) else (some false)))) = some r := by first | (rw [hy165]; with_reducible exact H) | (have H2_ := (Option.bind_some _ _).symm.trans H; rw [hy165]; with_reducible exact H2_) | (have H2_ := (Option.bind_some _ _).symm.trans H; with_reducible exact H2_) | with_reducible exact H | (rw [hy165]; exact H) | exact H
            have Ny165 := Aside0.mk hy165
            clear hy165
            replace H := Option.bind_eq_some_iff.mp H
            obtain ⟨t168, A110, H⟩ := H
            replace H : (if t168 = true then (some false) else (if (t160.length : Int) ≥ 2 then (some (decide ((t160.length : Int) ≤ 4))) else (some false))) = some r := H
            have A11 := Aside0.mk A110
            clear A110
            by_cases c12 : t168 = true
            · subst c12
              have H1 : (some false) = some r := by rw [if_pos rfl] at H; exact H
              exact absurd (Option.some.inj H1) (by rw [hr.out]; decide)
            · replace c12 := Bool.eq_false_iff.mpr c12
              subst c12
              have H1 : (if (t160.length : Int) ≥ 2 then (some (decide ((t160.length : Int) ≤ 4))) else (some false)) = some r := by rw [if_neg (show ¬ (false = true) by decide)] at H; exact H
              clear H
              have H := H1
              clear H1
              by_cases c24 : (t160.length : Int) ≥ 2
              · rw [if_pos c24] at H
                have c24b0 : decide (2 ≤ (t160.length : Int)) = true := decide_eq_true c24
                have c24b1 : decide (2 ≤ t160.length) = true := decide_eq_true (by omega)
                clear c24
                obtain rfl := Option.some.inj H
                have kb := fun (s : ByteArray) (W : World) => print_bytes (P := Try.prog) 9 22 5 Try.underlying9 Try.underlying22 Try.underlying5 s W
                go_enter Try.func4, Try.ntmps4
                go_wp2_with (first | ((with_reducible refine gate_callee (f := 15) rfl ?_); refine goesL_ (some 7) rfl rfl Try.func15 (by kernel_rfl) rfl #[] rfl (by (try simp only [List.map_toArray, List.map_cons, List.map_nil]); first | done | rfl | (simp only [List.length_drop, List.length_take]; rfl)) ?_; (with_reducible refine (amanuensisref08_Escapes.calls k  t155 _ A2.out).mono ?_); rintro e w25 ⟨v156, rfl, ho0, hb⟩; refine ⟨_, rfl, ?_⟩; have n0_ := Aside0.mk (Kd.R_lower ho0 (below_size (by repeat (first | (with_reducible first | exact HB.out | apply below_alloc | apply pw_below_drewN | apply below_drew1) | exact HB.out)))); have n1_ := Aside0.mk (below_step (by repeat (first | (with_reducible first | exact HB.out | apply below_alloc | apply pw_below_drewN | apply below_drew1) | exact HB.out)) hb); clear HB; have HO157 := n0_; have HB := n1_; clear n0_ n1_; (try clear hb); (try clear hb2); (try clear hk); (try clear hi); (try clear ho0); obtain ⟨Ao26, co26, eo26⟩ := Kd.R_slice HO157.out; subst eo26; have p158 : 0 ≤ ((ji4) : Int) := of_decide_eq_true (by first | (with_reducible assumption) | assumption); have q158 : (ji4) < (t155.length : Int) := of_decide_eq_true (by first | (with_reducible assumption) | assumption); obtain ⟨ad158, e158, hx158_0, hx158_1, hx158_2⟩ := at_T38 (Kd.R_reads' HO157.out).2.2 (ji4) p158 q158; cases e158; replace p158 := eq_true p158; replace q158 := eq_true q158) | ((with_reducible refine gate_dst (N := 4) rfl ?_); (try (refine gate_guard (by rfl) ?_; dsimp only)); refine box_event ?hg (N := 4) ?hd (cs := #[.string (⟨#[]⟩ : ByteArray), .int .i64 0, .int .i64 0]) (t := 38) ?hr ?_; (case hd => rfl); (case hg => rfl); (case hr => first | (go_simp; done) | (go_simp; rfl)); intro gb159 hg w27 hbox hb; have n0_ := Aside0.mk (Kd.R_below (Kd.R_elderB (by (with_reducible repeat (first | apply Kd.R_alloc | apply Kd.R_drewN | apply Kd.R_drew)); exact HO157.out) gb159 (Nat.le_of_eq hg.symm)) hb); have n1_ := Aside0.mk (below_step (by repeat (first | (with_reducible first | exact HB.out | apply below_alloc | apply pw_below_drewN | apply below_drew1) | exact HB.out)) hb); have n2_ := Aside0.mk (hbox); have n3_ := Aside0.mk ((by rw [hg]; exact (below_size (by repeat (first | (with_reducible first | exact HB.out | apply below_alloc | apply pw_below_drewN | apply below_drew1) | exact HB.out))) : w.heap.size ≤ gb159)); have n4_ := Aside0.mk ((by rw [hg]; exact (below_size (by repeat (first | (with_reducible first | exact HB.out | apply below_alloc | apply pw_below_drewN | apply below_drew1) | exact HB.out))) : w.heap.size ≤ gb159)); clear HO157; clear HB; have HO157 := n0_; have HB := n1_; have BK159 := n2_; have GW159 := n3_; have GE159 := n4_; clear n0_ n1_ n2_ n3_ n4_; clear hb hbox hg; have hcz28_0 : w27.cell? ⟨gb159, 0, none⟩ = some (.string (⟨#[]⟩ : ByteArray)) := (blk_cell BK159.out 0).trans rfl; have hcz28_1 : w27.cell? ⟨gb159, 1, none⟩ = some (.int .i64 0) := (blk_cell BK159.out 1).trans rfl; have hcz28_2 : w27.cell? ⟨gb159, 2, none⟩ = some (.int .i64 0) := (blk_cell BK159.out 2).trans rfl; have hfz28_0 := blk_frozen BK159.out 0; have hfz28_1 := blk_frozen BK159.out 1; have hfz28_2 := blk_frozen BK159.out 2) | ((with_reducible refine gate_callee (f := 11) rfl ?_); refine goesL_ (some 21) rfl rfl Try.func11 (by kernel_rfl) rfl #[.int .i64 ((rd_T38 t155 (ji4)).f1), .int .i64 ((rd_T38 t155 (ji4)).f2)] rfl (by (try simp only [List.map_toArray, List.map_cons, List.map_nil]); first | done | (simp only [hji4]; rfl) | rfl | (simp only [List.length_drop, List.length_take]; rfl)) ?_; (with_reducible refine (sets_Designate.calls k ((rd_T38 t155 (ji4)).f1) ((rd_T38 t155 (ji4)).f2) t160 true _ A7.out).mono ?_); rintro e w29 ⟨v162, rfl, ho0, hb⟩; refine ⟨_, rfl, ?_⟩; have n0_ := Aside0.mk (Kd.R_below (by (with_reducible repeat (first | apply Kd.R_alloc | apply Kd.R_drewN | apply Kd.R_drew)); exact (Kd.R_mono (Kd.R_far (p := ⟨gb159, 2, none⟩) (Kd.R_far (p := ⟨gb159, 1, none⟩) (Kd.R_far (p := ⟨gb159, 0, none⟩) (Kd.R_mono HO157.out (fun k_ hk => (⟨hk, hk.2⟩ : _ ∧ k_ ≠ gb159))) (fun _ hk => hk.2) (.string ((rd_T38 t155 (ji4)).f0))) (fun _ hk => hk.2) (.int .i64 ((rd_T38 t155 (ji4)).f1))) (fun _ hk => hk.2) (.int .i64 ((rd_T38 t155 (ji4)).f2))) (fun _ h_ => h_.1))) hb); have n1_ := Aside0.mk (Kd.R_lower ho0 (below_size (by repeat (first | (with_reducible first | exact HB.out | apply below_alloc | apply pw_below_drewN | apply below_drew1 | refine below_set ?_ GE159.out) | exact HB.out)))); have n2_ := Aside0.mk (blk_below (g := gb159) (o := .cells #[.string ((rd_T38 t155 (ji4)).f0), .int .i64 ((rd_T38 t155 (ji4)).f1), .int .i64 ((rd_T38 t155 (ji4)).f2)] 38 (0, 0)) (by (with_reducible repeat (first | refine blk_drewN ?_ _ | refine blk_drew ?_ | refine blk_alloc ?_ _)); refine blk_put (cs := #[.string ((rd_T38 t155 (ji4)).f0), .int .i64 ((rd_T38 t155 (ji4)).f1), .int .i64 0]) ?_ 2 _ rfl; (with_reducible repeat (first | refine blk_drewN ?_ _ | refine blk_drew ?_ | refine blk_alloc ?_ _)); refine blk_put (cs := #[.string ((rd_T38 t155 (ji4)).f0), .int .i64 0, .int .i64 0]) ?_ 1 _ rfl; (with_reducible repeat (first | refine blk_drewN ?_ _ | refine blk_drew ?_ | refine blk_alloc ?_ _)); refine blk_put (cs := #[.string (⟨#[]⟩ : ByteArray), .int .i64 0, .int .i64 0]) ?_ 0 _ rfl; (with_reducible repeat (first | refine blk_drewN ?_ _ | refine blk_drew ?_ | refine blk_alloc ?_ _)); exact BK159.out) hb); have n3_ := Aside0.mk (below_step (by repeat (first | (with_reducible first | exact HB.out | apply below_alloc | apply pw_below_drewN | apply below_drew1 | refine below_set ?_ GE159.out) | exact HB.out)) hb); clear HO157; clear BK159; clear HB; have HO157 := n0_; have HO163 := n1_; have BK159 := n2_; have HB := n3_; clear n0_ n1_ n2_ n3_; (try clear hb); (try clear hb2); (try clear hk); (try clear hi); (try clear ho0)) | ((with_reducible refine gate_callee (f := 12) rfl ?_); refine goesL_ (some 24) rfl rfl Try.func12 (by kernel_rfl) rfl #[] rfl (by (try simp only [List.map_toArray, List.map_cons, List.map_nil]); first | done | rfl | (simp only [List.length_drop, List.length_take]; rfl)) ?_; (with_reducible refine (amanuensislaw08_answers.calls k  true _ A8.out).mono ?_); rintro e w30 ⟨rfl, hb⟩; refine ⟨_, rfl, ?_⟩; have n0_ := Aside0.mk (Kd.R_below (by (with_reducible repeat (first | apply Kd.R_alloc | apply Kd.R_drewN | apply Kd.R_drew)); exact HO157.out) hb); have n1_ := Aside0.mk (Kd.R_below (by (with_reducible repeat (first | apply Kd.R_alloc | apply Kd.R_drewN | apply Kd.R_drew)); exact HO163.out) hb); have n2_ := Aside0.mk (blk_below (g := gb159) (o := .cells #[.string ((rd_T38 t155 (ji4)).f0), .int .i64 ((rd_T38 t155 (ji4)).f1), .int .i64 ((rd_T38 t155 (ji4)).f2)] 38 (0, 0)) (by (with_reducible repeat (first | refine blk_drewN ?_ _ | refine blk_drew ?_ | refine blk_alloc ?_ _)); exact BK159.out) hb); have n3_ := Aside0.mk (below_step (by repeat (first | (with_reducible first | exact HB.out | apply below_alloc | apply pw_below_drewN | apply below_drew1 | refine below_set ?_ GE159.out) | exact HB.out)) hb); clear HO157; clear HO163; clear BK159; clear HB; have HO157 := n0_; have HO163 := n1_; have BK159 := n2_; have HB := n3_; clear n0_ n1_ n2_ n3_; (try clear hb); (try clear hb2); (try clear hk); (try clear hi); have hcz31_0 : w30.cell? ⟨gb159, 0, none⟩ = some (.string ((rd_T38 t155 (ji4)).f0)) := (blk_cell BK159.out 0).trans rfl; have hcz31_1 : w30.cell? ⟨gb159, 1, none⟩ = some (.int .i64 ((rd_T38 t155 (ji4)).f1)) := (blk_cell BK159.out 1).trans rfl; have hcz31_2 : w30.cell? ⟨gb159, 2, none⟩ = some (.int .i64 ((rd_T38 t155 (ji4)).f2)) := (blk_cell BK159.out 2).trans rfl; have hfz31_0 := blk_frozen BK159.out 0; have hfz31_1 := blk_frozen BK159.out 1; have hfz31_2 := blk_frozen BK159.out 2) | ((with_reducible refine gate_dst (N := 31) rfl ?_); (try (refine gate_guard (by rfl) ?_; dsimp only)); refine conv_event ?hg (N := 31) ?hd ((rd_T38 t155 (ji4)).f0) 5 y165 Ny165.out SBy165 ?hr ?_; (case hd => rfl); (case hg => rfl); (case hr => first | (go_simp; done) | (go_simp; rfl)); intro ACy165 ccy165 w32 HCy165 hcy165 hb; have n0_ := Aside0.mk (Kd.R_below (by (with_reducible repeat (first | apply Kd.R_alloc | apply Kd.R_drewN | apply Kd.R_drew)); exact HO157.out) hb); have n1_ := Aside0.mk (Kd.R_below (by (with_reducible repeat (first | apply Kd.R_alloc | apply Kd.R_drewN | apply Kd.R_drew)); exact HO163.out) hb); have n3_ := Aside0.mk (blk_below (g := gb159) (o := .cells #[.string ((rd_T38 t155 (ji4)).f0), .int .i64 ((rd_T38 t155 (ji4)).f1), .int .i64 ((rd_T38 t155 (ji4)).f2)] 38 (0, 0)) (by (with_reducible repeat (first | refine blk_drewN ?_ _ | refine blk_drew ?_ | refine blk_alloc ?_ _)); exact BK159.out) hb); have n4_ := Aside0.mk (below_step (by repeat (first | (with_reducible first | exact HB.out | apply below_alloc | apply pw_below_drewN | apply below_drew1 | refine below_set ?_ GE159.out) | exact HB.out)) hb); clear HO157; clear HO163; clear BK159; clear HB; have HO157 := n0_; have HO163 := n1_; have BK159 := n3_; have HB := n4_; clear n0_ n1_ n3_ n4_; clear hb; obtain ⟨Ao35, co35, eo35⟩ := Kd.R_slice HO163.out; subst eo35) | (go_at_call 16; (with_reducible refine (amanuensisref08_Less.calls k _ _ y165 _ _ t160 false _ ?side1 ?side2 ?side3 ?side4 A11.out).mono ?_); (case side1 => exact HCy165); (case side2 => exact hcy165); (case side3 => repeat (first | exact (Kd.R_reads' HO163.out).2.2 | (with_reducible refine Kd.C_alloc ?_ _) | (with_reducible refine Kd.C_drewN ?_ _) | (with_reducible refine Kd.C_drew ?_))); (case side4 => exact (Kd.R_reads' HO163.out).2.1); rintro e w' ⟨rfl, ⟨nd, rfl⟩⟩))
                go_ret
                exact ⟨by first | rfl | (simp [errW_none, errW_some] <;> rfl) | (simp only [← hji4]; first | rfl | (simp [errW_none, errW_some] <;> rfl)) | (simp [*, errW_none, errW_some] <;> rfl), by repeat (first | (with_reducible first | exact HB.out | apply below_alloc | apply pw_below_drewN | apply below_drew1 | refine below_set ?_ GE159.out) | exact HB.out)⟩
              · rw [if_neg c24] at H
                exact absurd (Option.some.inj H) (by rw [hr.out]; decide)
          · replace c10 := Bool.eq_false_iff.mpr c10
            subst c10
            have H1 : (some false) = some r := by rw [if_neg (show ¬ (false = true) by decide)] at H; exact H
            exact absurd (Option.some.inj H1) (by rw [hr.out]; decide)
        · replace c9 := Bool.eq_false_iff.mpr c9
          subst c9
          have H1 : (some false) = some r := by rw [if_neg (show ¬ (false = true) by decide)] at H; exact H
          exact absurd (Option.some.inj H1) (by rw [hr.out]; decide)
      · rw [if_neg c6] at H
        exact absurd H (by simp)
    · rw [if_neg c5] at H
      exact absurd H (by simp)

/-- THE ONE PURE STATEMENT of amanuensislaw08_SetsLeast: yours. -/
def amanuensislaw08_SetsLeast.Pure : Prop := ∀ (a0 : Int), (Lit.int .u8 a0).wf = true → ∃ k, amanuensislaw08_SetsLeast.f k a0 = some true
theorem amanuensislaw08_SetsLeast.walk (P : amanuensislaw08_SetsLeast.Pure) (a0 : Int) (w : World) (w0 : (Lit.int .u8 a0).wf = true) :
    Calls Try.prog 4 #[.int .u8 a0] w fun e w' => e = .returned (.bool true) ∧ Below w.heap.size w w' := by
  obtain ⟨k, h⟩ := P a0 w0
  refine (amanuensislaw08_SetsLeast.calls k a0 true rfl w h).mono ?_
  rintro e w' ⟨rfl, hd⟩
  exact ⟨rfl, hd⟩

end Go.Proofs.Ytjkgabmhhehhjaa.PSetsLeast
