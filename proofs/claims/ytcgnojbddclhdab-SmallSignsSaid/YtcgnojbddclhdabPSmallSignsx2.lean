/- Begun as a text of print.sh, over a translation in which a function has a stand-in; what the stand-in changes is proved by hand. -/
import Derived.Test.YtcgnojbddclhdabPSmallSignsx0
import Derived.Test.YtcgnojbddclhdabPSmallSignsx1
namespace Go.Proofs.Ytcgnojbddclhdab.PSmallSigns
open Go.RowKit Go.Proofs.YtcgnojbddclhdabW.PrintWords Go.Proofs.YtcgnojbddclhdabW.PrintLast Go.Proofs.YtcgnojbddclhdabW.PrintMore
attribute [local go_sem] max2_int min2_int max_two min_two max_three min_three max_four min_four   -- for this text's walks alone
set_option linter.unusedVariables false
set_option linter.unusedSimpArgs false

/-! ### amanuensislaw11_SmallSigns: function 4 -/
def amanuensislaw11_SmallSigns.f (k : Nat) (a0 : Int) (a1 : Int) : Option (Bool) := (small_Rune.f k (wrap64 (10 + (wrap64 (Int.tmod a1 3)))) (wrap64 (a0))).bind fun bt111 => (if a0 ≥ 48 then (if a0 = 40 then (if a0 ≥ 97 then (if a0 ≤ 57 then (if (wrap64 (10 + (wrap64 (Int.tmod a1 3)))) = 12 then ((amanuensislaw11_answers.f k).bind fun t113 => (if t113 = true then (if (bt111.2 == (decide (a0 ≤ 99))) = true then (if bt111.2 = true then (some true) else (if bt111.1 = 0 then (some true) else (some false))) else (some false)) else (some false))) else ((amanuensislaw11_answers.f k).bind fun t114 => (if t114 = true then (if (bt111.2 == true) = true then (if bt111.2 = true then (if bt111.1 ≥ 178 then (some (decide (bt111.1 ≤ 8334))) else (some false)) else (if bt111.1 = 0 then (some true) else (some false))) else (some false)) else (some false)))) else (if (wrap64 (10 + (wrap64 (Int.tmod a1 3)))) = 12 then ((amanuensislaw11_answers.f k).bind fun t115 => (if t115 = true then (if (bt111.2 == (decide (a0 ≤ 99))) = true then (if bt111.2 = true then (some true) else (if bt111.1 = 0 then (some true) else (some false))) else (some false)) else (some false))) else ((amanuensislaw11_answers.f k).bind fun t116 => (if t116 = true then (if (bt111.2 == true) = true then (if bt111.2 = true then (if bt111.1 ≥ 178 then (some (decide (bt111.1 ≤ 8334))) else (some false)) else (if bt111.1 = 0 then (some true) else (some false))) else (some false)) else (some false))))) else (if a0 ≤ 57 then (if (wrap64 (10 + (wrap64 (Int.tmod a1 3)))) = 12 then ((amanuensislaw11_answers.f k).bind fun t117 => (if t117 = true then (if (bt111.2 == false) = true then (if bt111.2 = true then (some true) else (if bt111.1 = 0 then (some true) else (some false))) else (some false)) else (some false))) else ((amanuensislaw11_answers.f k).bind fun t118 => (if t118 = true then (if (bt111.2 == true) = true then (if bt111.2 = true then (if bt111.1 ≥ 178 then (some (decide (bt111.1 ≤ 8334))) else (some false)) else (if bt111.1 = 0 then (some true) else (some false))) else (some false)) else (some false)))) else (if (wrap64 (10 + (wrap64 (Int.tmod a1 3)))) = 12 then ((amanuensislaw11_answers.f k).bind fun t119 => (if t119 = true then (if (bt111.2 == false) = true then (if bt111.2 = true then (some true) else (if bt111.1 = 0 then (some true) else (some false))) else (some false)) else (some false))) else ((amanuensislaw11_answers.f k).bind fun t120 => (if t120 = true then (if (bt111.2 == true) = true then (if bt111.2 = true then (if bt111.1 ≥ 178 then (some (decide (bt111.1 ≤ 8334))) else (some false)) else (if bt111.1 = 0 then (some true) else (some false))) else (some false)) else (some false)))))) else (if a0 = 41 then (if a0 ≥ 97 then (if a0 ≤ 57 then (if (wrap64 (10 + (wrap64 (Int.tmod a1 3)))) = 12 then ((amanuensislaw11_answers.f k).bind fun t121 => (if t121 = true then (if (bt111.2 == (decide (a0 ≤ 99))) = true then (if bt111.2 = true then (some true) else (if bt111.1 = 0 then (some true) else (some false))) else (some false)) else (some false))) else ((amanuensislaw11_answers.f k).bind fun t122 => (if t122 = true then (if (bt111.2 == true) = true then (if bt111.2 = true then (if bt111.1 ≥ 178 then (some (decide (bt111.1 ≤ 8334))) else (some false)) else (if bt111.1 = 0 then (some true) else (some false))) else (some false)) else (some false)))) else (if (wrap64 (10 + (wrap64 (Int.tmod a1 3)))) = 12 then ((amanuensislaw11_answers.f k).bind fun t123 => (if t123 = true then (if (bt111.2 == (decide (a0 ≤ 99))) = true then (if bt111.2 = true then (some true) else (if bt111.1 = 0 then (some true) else (some false))) else (some false)) else (some false))) else ((amanuensislaw11_answers.f k).bind fun t124 => (if t124 = true then (if (bt111.2 == true) = true then (if bt111.2 = true then (if bt111.1 ≥ 178 then (some (decide (bt111.1 ≤ 8334))) else (some false)) else (if bt111.1 = 0 then (some true) else (some false))) else (some false)) else (some false))))) else (if a0 ≤ 57 then (if (wrap64 (10 + (wrap64 (Int.tmod a1 3)))) = 12 then ((amanuensislaw11_answers.f k).bind fun t125 => (if t125 = true then (if (bt111.2 == false) = true then (if bt111.2 = true then (some true) else (if bt111.1 = 0 then (some true) else (some false))) else (some false)) else (some false))) else ((amanuensislaw11_answers.f k).bind fun t126 => (if t126 = true then (if (bt111.2 == true) = true then (if bt111.2 = true then (if bt111.1 ≥ 178 then (some (decide (bt111.1 ≤ 8334))) else (some false)) else (if bt111.1 = 0 then (some true) else (some false))) else (some false)) else (some false)))) else (if (wrap64 (10 + (wrap64 (Int.tmod a1 3)))) = 12 then ((amanuensislaw11_answers.f k).bind fun t127 => (if t127 = true then (if (bt111.2 == false) = true then (if bt111.2 = true then (some true) else (if bt111.1 = 0 then (some true) else (some false))) else (some false)) else (some false))) else ((amanuensislaw11_answers.f k).bind fun t128 => (if t128 = true then (if (bt111.2 == true) = true then (if bt111.2 = true then (if bt111.1 ≥ 178 then (some (decide (bt111.1 ≤ 8334))) else (some false)) else (if bt111.1 = 0 then (some true) else (some false))) else (some false)) else (some false)))))) else (if a0 = 43 then (if a0 ≥ 97 then (if a0 ≤ 57 then (if (wrap64 (10 + (wrap64 (Int.tmod a1 3)))) = 12 then ((amanuensislaw11_answers.f k).bind fun t129 => (if t129 = true then (if (bt111.2 == (decide (a0 ≤ 99))) = true then (if bt111.2 = true then (some true) else (if bt111.1 = 0 then (some true) else (some false))) else (some false)) else (some false))) else ((amanuensislaw11_answers.f k).bind fun t130 => (if t130 = true then (if (bt111.2 == true) = true then (if bt111.2 = true then (if bt111.1 ≥ 178 then (some (decide (bt111.1 ≤ 8334))) else (some false)) else (if bt111.1 = 0 then (some true) else (some false))) else (some false)) else (some false)))) else (if (wrap64 (10 + (wrap64 (Int.tmod a1 3)))) = 12 then ((amanuensislaw11_answers.f k).bind fun t131 => (if t131 = true then (if (bt111.2 == (decide (a0 ≤ 99))) = true then (if bt111.2 = true then (some true) else (if bt111.1 = 0 then (some true) else (some false))) else (some false)) else (some false))) else ((amanuensislaw11_answers.f k).bind fun t132 => (if t132 = true then (if (bt111.2 == true) = true then (if bt111.2 = true then (if bt111.1 ≥ 178 then (some (decide (bt111.1 ≤ 8334))) else (some false)) else (if bt111.1 = 0 then (some true) else (some false))) else (some false)) else (some false))))) else (if a0 ≤ 57 then (if (wrap64 (10 + (wrap64 (Int.tmod a1 3)))) = 12 then ((amanuensislaw11_answers.f k).bind fun t133 => (if t133 = true then (if (bt111.2 == false) = true then (if bt111.2 = true then (some true) else (if bt111.1 = 0 then (some true) else (some false))) else (some false)) else (some false))) else ((amanuensislaw11_answers.f k).bind fun t134 => (if t134 = true then (if (bt111.2 == true) = true then (if bt111.2 = true then (if bt111.1 ≥ 178 then (some (decide (bt111.1 ≤ 8334))) else (some false)) else (if bt111.1 = 0 then (some true) else (some false))) else (some false)) else (some false)))) else (if (wrap64 (10 + (wrap64 (Int.tmod a1 3)))) = 12 then ((amanuensislaw11_answers.f k).bind fun t135 => (if t135 = true then (if (bt111.2 == false) = true then (if bt111.2 = true then (some true) else (if bt111.1 = 0 then (some true) else (some false))) else (some false)) else (some false))) else ((amanuensislaw11_answers.f k).bind fun t136 => (if t136 = true then (if (bt111.2 == true) = true then (if bt111.2 = true then (if bt111.1 ≥ 178 then (some (decide (bt111.1 ≤ 8334))) else (some false)) else (if bt111.1 = 0 then (some true) else (some false))) else (some false)) else (some false)))))) else (if a0 ≥ 97 then (if a0 ≤ 57 then (if (wrap64 (10 + (wrap64 (Int.tmod a1 3)))) = 12 then ((amanuensislaw11_answers.f k).bind fun t137 => (if t137 = true then (if (bt111.2 == (decide (a0 ≤ 99))) = true then (if bt111.2 = true then (some true) else (if bt111.1 = 0 then (some true) else (some false))) else (some false)) else (some false))) else ((amanuensislaw11_answers.f k).bind fun t138 => (if t138 = true then (if (bt111.2 == true) = true then (if bt111.2 = true then (if bt111.1 ≥ 178 then (some (decide (bt111.1 ≤ 8334))) else (some false)) else (if bt111.1 = 0 then (some true) else (some false))) else (some false)) else (some false)))) else (if (wrap64 (10 + (wrap64 (Int.tmod a1 3)))) = 12 then ((amanuensislaw11_answers.f k).bind fun t139 => (if t139 = true then (if (bt111.2 == (decide (a0 ≤ 99))) = true then (if bt111.2 = true then (some true) else (if bt111.1 = 0 then (some true) else (some false))) else (some false)) else (some false))) else ((amanuensislaw11_answers.f k).bind fun t140 => (if t140 = true then (if (bt111.2 == (a0 == 45)) = true then (if bt111.2 = true then (if bt111.1 ≥ 178 then (some (decide (bt111.1 ≤ 8334))) else (some false)) else (if bt111.1 = 0 then (some true) else (some false))) else (some false)) else (some false))))) else (if a0 ≤ 57 then (if (wrap64 (10 + (wrap64 (Int.tmod a1 3)))) = 12 then ((amanuensislaw11_answers.f k).bind fun t141 => (if t141 = true then (if (bt111.2 == false) = true then (if bt111.2 = true then (some true) else (if bt111.1 = 0 then (some true) else (some false))) else (some false)) else (some false))) else ((amanuensislaw11_answers.f k).bind fun t142 => (if t142 = true then (if (bt111.2 == true) = true then (if bt111.2 = true then (if bt111.1 ≥ 178 then (some (decide (bt111.1 ≤ 8334))) else (some false)) else (if bt111.1 = 0 then (some true) else (some false))) else (some false)) else (some false)))) else (if (wrap64 (10 + (wrap64 (Int.tmod a1 3)))) = 12 then ((amanuensislaw11_answers.f k).bind fun t143 => (if t143 = true then (if (bt111.2 == false) = true then (if bt111.2 = true then (some true) else (if bt111.1 = 0 then (some true) else (some false))) else (some false)) else (some false))) else ((amanuensislaw11_answers.f k).bind fun t144 => (if t144 = true then (if (bt111.2 == (a0 == 45)) = true then (if bt111.2 = true then (if bt111.1 ≥ 178 then (some (decide (bt111.1 ≤ 8334))) else (some false)) else (if bt111.1 = 0 then (some true) else (some false))) else (some false)) else (some false))))))))) else (if a0 = 40 then (if a0 ≥ 97 then (if (wrap64 (10 + (wrap64 (Int.tmod a1 3)))) = 12 then ((amanuensislaw11_answers.f k).bind fun t145 => (if t145 = true then (if (bt111.2 == (decide (a0 ≤ 99))) = true then (if bt111.2 = true then (some true) else (if bt111.1 = 0 then (some true) else (some false))) else (some false)) else (some false))) else ((amanuensislaw11_answers.f k).bind fun t146 => (if t146 = true then (if (bt111.2 == true) = true then (if bt111.2 = true then (if bt111.1 ≥ 178 then (some (decide (bt111.1 ≤ 8334))) else (some false)) else (if bt111.1 = 0 then (some true) else (some false))) else (some false)) else (some false)))) else (if (wrap64 (10 + (wrap64 (Int.tmod a1 3)))) = 12 then ((amanuensislaw11_answers.f k).bind fun t147 => (if t147 = true then (if (bt111.2 == false) = true then (if bt111.2 = true then (some true) else (if bt111.1 = 0 then (some true) else (some false))) else (some false)) else (some false))) else ((amanuensislaw11_answers.f k).bind fun t148 => (if t148 = true then (if (bt111.2 == true) = true then (if bt111.2 = true then (if bt111.1 ≥ 178 then (some (decide (bt111.1 ≤ 8334))) else (some false)) else (if bt111.1 = 0 then (some true) else (some false))) else (some false)) else (some false))))) else (if a0 = 41 then (if a0 ≥ 97 then (if (wrap64 (10 + (wrap64 (Int.tmod a1 3)))) = 12 then ((amanuensislaw11_answers.f k).bind fun t149 => (if t149 = true then (if (bt111.2 == (decide (a0 ≤ 99))) = true then (if bt111.2 = true then (some true) else (if bt111.1 = 0 then (some true) else (some false))) else (some false)) else (some false))) else ((amanuensislaw11_answers.f k).bind fun t150 => (if t150 = true then (if (bt111.2 == true) = true then (if bt111.2 = true then (if bt111.1 ≥ 178 then (some (decide (bt111.1 ≤ 8334))) else (some false)) else (if bt111.1 = 0 then (some true) else (some false))) else (some false)) else (some false)))) else (if (wrap64 (10 + (wrap64 (Int.tmod a1 3)))) = 12 then ((amanuensislaw11_answers.f k).bind fun t151 => (if t151 = true then (if (bt111.2 == false) = true then (if bt111.2 = true then (some true) else (if bt111.1 = 0 then (some true) else (some false))) else (some false)) else (some false))) else ((amanuensislaw11_answers.f k).bind fun t152 => (if t152 = true then (if (bt111.2 == true) = true then (if bt111.2 = true then (if bt111.1 ≥ 178 then (some (decide (bt111.1 ≤ 8334))) else (some false)) else (if bt111.1 = 0 then (some true) else (some false))) else (some false)) else (some false))))) else (if a0 = 43 then (if a0 ≥ 97 then (if (wrap64 (10 + (wrap64 (Int.tmod a1 3)))) = 12 then ((amanuensislaw11_answers.f k).bind fun t153 => (if t153 = true then (if (bt111.2 == (decide (a0 ≤ 99))) = true then (if bt111.2 = true then (some true) else (if bt111.1 = 0 then (some true) else (some false))) else (some false)) else (some false))) else ((amanuensislaw11_answers.f k).bind fun t154 => (if t154 = true then (if (bt111.2 == true) = true then (if bt111.2 = true then (if bt111.1 ≥ 178 then (some (decide (bt111.1 ≤ 8334))) else (some false)) else (if bt111.1 = 0 then (some true) else (some false))) else (some false)) else (some false)))) else (if (wrap64 (10 + (wrap64 (Int.tmod a1 3)))) = 12 then ((amanuensislaw11_answers.f k).bind fun t155 => (if t155 = true then (if (bt111.2 == false) = true then (if bt111.2 = true then (some true) else (if bt111.1 = 0 then (some true) else (some false))) else (some false)) else (some false))) else ((amanuensislaw11_answers.f k).bind fun t156 => (if t156 = true then (if (bt111.2 == true) = true then (if bt111.2 = true then (if bt111.1 ≥ 178 then (some (decide (bt111.1 ≤ 8334))) else (some false)) else (if bt111.1 = 0 then (some true) else (some false))) else (some false)) else (some false))))) else (if a0 ≥ 97 then (if (wrap64 (10 + (wrap64 (Int.tmod a1 3)))) = 12 then ((amanuensislaw11_answers.f k).bind fun t157 => (if t157 = true then (if (bt111.2 == (decide (a0 ≤ 99))) = true then (if bt111.2 = true then (some true) else (if bt111.1 = 0 then (some true) else (some false))) else (some false)) else (some false))) else ((amanuensislaw11_answers.f k).bind fun t158 => (if t158 = true then (if (bt111.2 == (a0 == 45)) = true then (if bt111.2 = true then (if bt111.1 ≥ 178 then (some (decide (bt111.1 ≤ 8334))) else (some false)) else (if bt111.1 = 0 then (some true) else (some false))) else (some false)) else (some false)))) else (if (wrap64 (10 + (wrap64 (Int.tmod a1 3)))) = 12 then ((amanuensislaw11_answers.f k).bind fun t159 => (if t159 = true then (if (bt111.2 == false) = true then (if bt111.2 = true then (some true) else (if bt111.1 = 0 then (some true) else (some false))) else (some false)) else (some false))) else ((amanuensislaw11_answers.f k).bind fun t160 => (if t160 = true then (if (bt111.2 == (a0 == 45)) = true then (if bt111.2 = true then (if bt111.1 ≥ 178 then (some (decide (bt111.1 ≤ 8334))) else (some false)) else (if bt111.1 = 0 then (some true) else (some false))) else (some false)) else (some false)))))))))
theorem amanuensislaw11_SmallSigns.mono : ∀ a0 a1 k, LeO (amanuensislaw11_SmallSigns.f k a0 a1) (amanuensislaw11_SmallSigns.f (k + 1) a0 a1) := by
  intro a0 a1 k
  unfold amanuensislaw11_SmallSigns.f
  repeat' first
      | (with_reducible exact amanuensislaw11_answers.mono _)
      | (with_reducible exact small_Rune.mono _ _ _)
      | (with_reducible exact LeO.refl _)
      | (with_reducible exact LeO.none _)
      | (with_reducible refine LeO.ite ?_ ?_)
      | (with_reducible refine LeO.bind ?_ (fun _ => ?_))
      | exact amanuensislaw11_answers.mono _
      | exact small_Rune.mono _ _ _
      | exact LeO.none _
      | refine LeO.ite ?_ ?_
      | refine LeO.bind ?_ (fun _ => ?_)
set_option maxHeartbeats 8000000 in
set_option maxRecDepth 100000 in
theorem amanuensislaw11_SmallSigns.calls (k : Nat) (a0 : Int) (a1 : Int) (hv : 0 ≤ a0 ∧ a0 ≤ 255) (r : Bool) (hr : r = true) (w : World) (h : amanuensislaw11_SmallSigns.f k a0 a1 = some r) :
    Calls Try.prog 4 #[.int .u8 a0, .int .u8 a1] w fun e w' => e = .returned (.bool r) ∧ Drawn0 w w' := by
  have qv := Aside0.mk hv
  replace hr := Aside0.mk hr
  clear hv
  have H : ((small_Rune.f k (wrap64 (10 + (wrap64 (Int.tmod a1 3)))) (wrap64 (a0))).bind fun bt111 => (if a0 ≥ 48 then (if a0 = 40 then (if a0 ≥ 97 then (if a0 ≤ 57 then (if (wrap64 (10 + (wrap64 (Int.tmod a1 3)))) = 12 then ((amanuensislaw11_answers.f k).bind fun t113 => (if t113 = true then (if (bt111.2 == (decide (a0 ≤ 99))) = true then (if bt111.2 = true then (some true) else (if bt111.1 = 0 then (some true) else (some false))) else (some false)) else (some false))) else ((amanuensislaw11_answers.f k).bind fun t114 => (if t114 = true then (if (bt111.2 == true) = true then (if bt111.2 = true then (if bt111.1 ≥ 178 then (some (decide (bt111.1 ≤ 8334))) else (some false)) else (if bt111.1 = 0 then (some true) else (some false))) else (some false)) else (some false)))) else (if (wrap64 (10 + (wrap64 (Int.tmod a1 3)))) = 12 then ((amanuensislaw11_answers.f k).bind fun t115 => (if t115 = true then (if (bt111.2 == (decide (a0 ≤ 99))) = true then (if bt111.2 = true then (some true) else (if bt111.1 = 0 then (some true) else (some false))) else (some false)) else (some false))) else ((amanuensislaw11_answers.f k).bind fun t116 => (if t116 = true then (if (bt111.2 == true) = true then (if bt111.2 = true then (if bt111.1 ≥ 178 then (some (decide (bt111.1 ≤ 8334))) else (some false)) else (if bt111.1 = 0 then (some true) else (some false))) else (some false)) else (some false))))) else (if a0 ≤ 57 then (if (wrap64 (10 + (wrap64 (Int.tmod a1 3)))) = 12 then ((amanuensislaw11_answers.f k).bind fun t117 => (if t117 = true then (if (bt111.2 == false) = true then (if bt111.2 = true then (some true) else (if bt111.1 = 0 then (some true) else (some false))) else (some false)) else (some false))) else ((amanuensislaw11_answers.f k).bind fun t118 => (if t118 = true then (if (bt111.2 == true) = true then (if bt111.2 = true then (if bt111.1 ≥ 178 then (some (decide (bt111.1 ≤ 8334))) else (some false)) else (if bt111.1 = 0 then (some true) else (some false))) else (some false)) else (some false)))) else (if (wrap64 (10 + (wrap64 (Int.tmod a1 3)))) = 12 then ((amanuensislaw11_answers.f k).bind fun t119 => (if t119 = true then (if (bt111.2 == false) = true then (if bt111.2 = true then (some true) else (if bt111.1 = 0 then (some true) else (some false))) else (some false)) else (some false))) else ((amanuensislaw11_answers.f k).bind fun t120 => (if t120 = true then (if (bt111.2 == true) = true then (if bt111.2 = true then (if bt111.1 ≥ 178 then (some (decide (bt111.1 ≤ 8334))) else (some false)) else (if bt111.1 = 0 then (some true) else (some false))) else (some false)) else (some false)))))) else (if a0 = 41 then (if a0 ≥ 97 then (if a0 ≤ 57 then (if (wrap64 (10 + (wrap64 (Int.tmod a1 3)))) = 12 then ((amanuensislaw11_answers.f k).bind fun t121 => (if t121 = true then (if (bt111.2 == (decide (a0 ≤ 99))) = true then (if bt111.2 = true then (some true) else (if bt111.1 = 0 then (some true) else (some false))) else (some false)) else (some false))) else ((amanuensislaw11_answers.f k).bind fun t122 => (if t122 = true then (if (bt111.2 == true) = true then (if bt111.2 = true then (if bt111.1 ≥ 178 then (some (decide (bt111.1 ≤ 8334))) else (some false)) else (if bt111.1 = 0 then (some true) else (some false))) else (some false)) else (some false)))) else (if (wrap64 (10 + (wrap64 (Int.tmod a1 3)))) = 12 then ((amanuensislaw11_answers.f k).bind fun t123 => (if t123 = true then (if (bt111.2 == (decide (a0 ≤ 99))) = true then (if bt111.2 = true then (some true) else (if bt111.1 = 0 then (some true) else (some false))) else (some false)) else (some false))) else ((amanuensislaw11_answers.f k).bind fun t124 => (if t124 = true then (if (bt111.2 == true) = true then (if bt111.2 = true then (if bt111.1 ≥ 178 then (some (decide (bt111.1 ≤ 8334))) else (some false)) else (if bt111.1 = 0 then (some true) else (some false))) else (some false)) else (some false))))) else (if a0 ≤ 57 then (if (wrap64 (10 + (wrap64 (Int.tmod a1 3)))) = 12 then ((amanuensislaw11_answers.f k).bind fun t125 => (if t125 = true then (if (bt111.2 == false) = true then (if bt111.2 = true then (some true) else (if bt111.1 = 0 then (some true) else (some false))) else (some false)) else (some false))) else ((amanuensislaw11_answers.f k).bind fun t126 => (if t126 = true then (if (bt111.2 == true) = true then (if bt111.2 = true then (if bt111.1 ≥ 178 then (some (decide (bt111.1 ≤ 8334))) else (some false)) else (if bt111.1 = 0 then (some true) else (some false))) else (some false)) else (some false)))) else (if (wrap64 (10 + (wrap64 (Int.tmod a1 3)))) = 12 then ((amanuensislaw11_answers.f k).bind fun t127 => (if t127 = true then (if (bt111.2 == false) = true then (if bt111.2 = true then (some true) else (if bt111.1 = 0 then (some true) else (some false))) else (some false)) else (some false))) else ((amanuensislaw11_answers.f k).bind fun t128 => (if t128 = true then (if (bt111.2 == true) = true then (if bt111.2 = true then (if bt111.1 ≥ 178 then (some (decide (bt111.1 ≤ 8334))) else (some false)) else (if bt111.1 = 0 then (some true) else (some false))) else (some false)) else (some false)))))) else (if a0 = 43 then (if a0 ≥ 97 then (if a0 ≤ 57 then (if (wrap64 (10 + (wrap64 (Int.tmod a1 3)))) = 12 then ((amanuensislaw11_answers.f k).bind fun t129 => (if t129 = true then (if (bt111.2 == (decide (a0 ≤ 99))) = true then (if bt111.2 = true then (some true) else (if bt111.1 = 0 then (some true) else (some false))) else (some false)) else (some false))) else ((amanuensislaw11_answers.f k).bind fun t130 => (if t130 = true then (if (bt111.2 == true) = true then (if bt111.2 = true then (if bt111.1 ≥ 178 then (some (decide (bt111.1 ≤ 8334))) else (some false)) else (if bt111.1 = 0 then (some true) else (some false))) else (some false)) else (some false)))) else (if (wrap64 (10 + (wrap64 (Int.tmod a1 3)))) = 12 then ((amanuensislaw11_answers.f k).bind fun t131 => (if t131 = true then (if (bt111.2 == (decide (a0 ≤ 99))) = true then (if bt111.2 = true then (some true) else (if bt111.1 = 0 then (some true) else (some false))) else (some false)) else (some false))) else ((amanuensislaw11_answers.f k).bind fun t132 => (if t132 = true then (if (bt111.2 == true) = true then (if bt111.2 = true then (if bt111.1 ≥ 178 then (some (decide (bt111.1 ≤ 8334))) else (some false)) else (if bt111.1 = 0 then (some true) else (some false))) else (some false)) else (some false))))) else (if a0 ≤ 57 then (if (wrap64 (10 + (wrap64 (Int.tmod a1 3)))) = 12 then ((amanuensislaw11_answers.f k).bind fun t133 => (if t133 = true then (if (bt111.2 == false) = true then (if bt111.2 = true then (some true) else (if bt111.1 = 0 then (some true) else (some false))) else (some false)) else (some false))) else ((amanuensislaw11_answers.f k).bind fun t134 => (if t134 = true then (if (bt111.2 == true) = true then (if bt111.2 = true then (if bt111.1 ≥ 178 then (some (decide (bt111.1 ≤ 8334))) else (some false)) else (if bt111.1 = 0 then (some true) else (some false))) else (some false)) else (some false)))) else (if (wrap64 (10 + (wrap64 (Int.tmod a1 3)))) = 12 then ((amanuensislaw11_answers.f k).bind fun t135 => (if t135 = true then (if (bt111.2 == false) = true then (if bt111.2 = true then (some true) else (if bt111.1 = 0 then (some true) else (some false))) else (some false)) else (some false))) else ((amanuensislaw11_answers.f k).bind fun t136 => (if t136 = true then (if (bt111.2 == true) = true then (if bt111.2 = true then (if bt111.1 ≥ 178 then (some (decide (bt111.1 ≤ 8334))) else (some false)) else (if bt111.1 = 0 then (some true) else (some false))) else (some false)) else (some false)))))) else (if a0 ≥ 97 then (if a0 ≤ 57 then (if (wrap64 (10 + (wrap64 (Int.tmod a1 3)))) = 12 then ((amanuensislaw11_answers.f k).bind fun t137 => (if t137 = true then (if (bt111.2 == (decide (a0 ≤ 99))) = true then (if bt111.2 = true then (some true) else (if bt111.1 = 0 then (some true) else (some false))) else (some false)) else (some false))) else ((amanuensislaw11_answers.f k).bind fun t138 => (if t138 = true then (if (bt111.2 == true) = true then (if bt111.2 = true then (if bt111.1 ≥ 178 then (some (decide (bt111.1 ≤ 8334))) else (some false)) else (if bt111.1 = 0 then (some true) else (some false))) else (some false)) else (some false)))) else (if (wrap64 (10 + (wrap64 (Int.tmod a1 3)))) = 12 then ((amanuensislaw11_answers.f k).bind fun t139 => (if t139 = true then (if (bt111.2 == (decide (a0 ≤ 99))) = true then (if bt111.2 = true then (some true) else (if bt111.1 = 0 then (some true) else (some false))) else (some false)) else (some false))) else ((amanuensislaw11_answers.f k).bind fun t140 => (if t140 = true then (if (bt111.2 == (a0 == 45)) = true then (if bt111.2 = true then (if bt111.1 ≥ 178 then (some (decide (bt111.1 ≤ 8334))) else (some false)) else (if bt111.1 = 0 then (some true) else (some false))) else (some false)) else (some false))))) else (if a0 ≤ 57 then (if (wrap64 (10 + (wrap64 (Int.tmod a1 3)))) = 12 then ((amanuensislaw11_answers.f k).bind fun t141 => (if t141 = true then (if (bt111.2 == false) = true then (if bt111.2 = true then (some true) else (if bt111.1 = 0 then (some true) else (some false))) else (some false)) else (some false))) else ((amanuensislaw11_answers.f k).bind fun t142 => (if t142 = true then (if (bt111.2 == true) = true then (if bt111.2 = true then (if bt111.1 ≥ 178 then (some (decide (bt111.1 ≤ 8334))) else (some false)) else (if bt111.1 = 0 then (some true) else (some false))) else (some false)) else (some false)))) else (if (wrap64 (10 + (wrap64 (Int.tmod a1 3)))) = 12 then ((amanuensislaw11_answers.f k).bind fun t143 => (if t143 = true then (if (bt111.2 == false) = true then (if bt111.2 = true then (some true) else (if bt111.1 = 0 then (some true) else (some false))) else (some false)) else (some false))) else ((amanuensislaw11_answers.f k).bind fun t144 => (if t144 = true then (if (bt111.2 == (a0 == 45)) = true then (if bt111.2 = true then (if bt111.1 ≥ 178 then (some (decide (bt111.1 ≤ 8334))) else (some false)) else (if bt111.1 = 0 then (some true) else (some false))) else (some false)) else (some false))))))))) else (if a0 = 40 then (if a0 ≥ 97 then (if (wrap64 (10 + (wrap64 (Int.tmod a1 3)))) = 12 then ((amanuensislaw11_answers.f k).bind fun t145 => (if t145 = true then (if (bt111.2 == (decide (a0 ≤ 99))) = true then (if bt111.2 = true then (some true) else (if bt111.1 = 0 then (some true) else (some false))) else (some false)) else (some false))) else ((amanuensislaw11_answers.f k).bind fun t146 => (if t146 = true then (if (bt111.2 == true) = true then (if bt111.2 = true then (if bt111.1 ≥ 178 then (some (decide (bt111.1 ≤ 8334))) else (some false)) else (if bt111.1 = 0 then (some true) else (some false))) else (some false)) else (some false)))) else (if (wrap64 (10 + (wrap64 (Int.tmod a1 3)))) = 12 then ((amanuensislaw11_answers.f k).bind fun t147 => (if t147 = true then (if (bt111.2 == false) = true then (if bt111.2 = true then (some true) else (if bt111.1 = 0 then (some true) else (some false))) else (some false)) else (some false))) else ((amanuensislaw11_answers.f k).bind fun t148 => (if t148 = true then (if (bt111.2 == true) = true then (if bt111.2 = true then (if bt111.1 ≥ 178 then (some (decide (bt111.1 ≤ 8334))) else (some false)) else (if bt111.1 = 0 then (some true) else (some false))) else (some false)) else (some false))))) else (if a0 = 41 then (if a0 ≥ 97 then (if (wrap64 (10 + (wrap64 (Int.tmod a1 3)))) = 12 then ((amanuensislaw11_answers.f k).bind fun t149 => (if t149 = true then (if (bt111.2 == (decide (a0 ≤ 99))) = true then (if bt111.2 = true then (some true) else (if bt111.1 = 0 then (some true) else (some false))) else (some false)) else (some false))) else ((amanuensislaw11_answers.f k).bind fun t150 => (if t150 = true then (if (bt111.2 == true) = true then (if bt111.2 = true then (if bt111.1 ≥ 178 then (some (decide (bt111.1 ≤ 8334))) else (some false)) else (if bt111.1 = 0 then (some true) else (some false))) else (some false)) else (some false)))) else (if (wrap64 (10 + (wrap64 (Int.tmod a1 3)))) = 12 then ((amanuensislaw11_answers.f k).bind fun t151 => (if t151 = true then (if (bt111.2 == false) = true then (if bt111.2 = true then (some true) else (if bt111.1 = 0 then (some true) else (some false))) else (some false)) else (some false))) else ((amanuensislaw11_answers.f k).bind fun t152 => (if t152 = true then (if (bt111.2 == true) = true then (if bt111.2 = true then (if bt111.1 ≥ 178 then (some (decide (bt111.1 ≤ 8334))) else (some false)) else (if bt111.1 = 0 then (some true) else (some false))) else (some false)) else (some false))))) else (if a0 = 43 then (if a0 ≥ 97 then (if (wrap64 (10 + (wrap64 (Int.tmod a1 3)))) = 12 then ((amanuensislaw11_answers.f k).bind fun t153 => (if t153 = true then (if (bt111.2 == (decide (a0 ≤ 99))) = true then (if bt111.2 = true then (some true) else (if bt111.1 = 0 then (some true) else (some false))) else (some false)) else (some false))) else ((amanuensislaw11_answers.f k).bind fun t154 => (if t154 = true then (if (bt111.2 == true) = true then (if bt111.2 = true then (if bt111.1 ≥ 178 then (some (decide (bt111.1 ≤ 8334))) else (some false)) else (if bt111.1 = 0 then (some true) else (some false))) else (some false)) else (some false)))) else (if (wrap64 (10 + (wrap64 (Int.tmod a1 3)))) = 12 then ((amanuensislaw11_answers.f k).bind fun t155 => (if t155 = true then (if (bt111.2 == false) = true then (if bt111.2 = true then (some true) else (if bt111.1 = 0 then (some true) else (some false))) else (some false)) else (some false))) else ((amanuensislaw11_answers.f k).bind fun t156 => (if t156 = true then (if (bt111.2 == true) = true then (if bt111.2 = true then (if bt111.1 ≥ 178 then (some (decide (bt111.1 ≤ 8334))) else (some false)) else (if bt111.1 = 0 then (some true) else (some false))) else (some false)) else (some false))))) else (if a0 ≥ 97 then (if (wrap64 (10 + (wrap64 (Int.tmod a1 3)))) = 12 then ((amanuensislaw11_answers.f k).bind fun t157 => (if t157 = true then (if (bt111.2 == (decide (a0 ≤ 99))) = true then (if bt111.2 = true then (some true) else (if bt111.1 = 0 then (some true) else (some false))) else (some false)) else (some false))) else ((amanuensislaw11_answers.f k).bind fun t158 => (if t158 = true then (if (bt111.2 == (a0 == 45)) = true then (if bt111.2 = true then (if bt111.1 ≥ 178 then (some (decide (bt111.1 ≤ 8334))) else (some false)) else (if bt111.1 = 0 then (some true) else (some false))) else (some false)) else (some false)))) else (if (wrap64 (10 + (wrap64 (Int.tmod a1 3)))) = 12 then ((amanuensislaw11_answers.f k).bind fun t159 => (if t159 = true then (if (bt111.2 == false) = true then (if bt111.2 = true then (some true) else (if bt111.1 = 0 then (some true) else (some false))) else (some false)) else (some false))) else ((amanuensislaw11_answers.f k).bind fun t160 => (if t160 = true then (if (bt111.2 == (a0 == 45)) = true then (if bt111.2 = true then (if bt111.1 ≥ 178 then (some (decide (bt111.1 ≤ 8334))) else (some false)) else (if bt111.1 = 0 then (some true) else (some false))) else (some false)) else (some false)))))))))) = some r := h
  clear h
  replace H := Option.bind_eq_some_iff.mp H
  obtain ⟨⟨t111, t112⟩, A30, H⟩ := H
  replace H : (if a0 ≥ 48 then (if a0 = 40 then (if a0 ≥ 97 then (if a0 ≤ 57 then (if (wrap64 (10 + (wrap64 (Int.tmod a1 3)))) = 12 then ((amanuensislaw11_answers.f k).bind fun t113 => (if t113 = true then (if (t112 == (decide (a0 ≤ 99))) = true then (if t112 = true then (some true) else (if t111 = 0 then (some true) else (some false))) else (some false)) else (some false))) else ((amanuensislaw11_answers.f k).bind fun t114 => (if t114 = true then (if (t112 == true) = true then (if t112 = true then (if t111 ≥ 178 then (some (decide (t111 ≤ 8334))) else (some false)) else (if t111 = 0 then (some true) else (some false))) else (some false)) else (some false)))) else (if (wrap64 (10 + (wrap64 (Int.tmod a1 3)))) = 12 then ((amanuensislaw11_answers.f k).bind fun t115 => (if t115 = true then (if (t112 == (decide (a0 ≤ 99))) = true then (if t112 = true then (some true) else (if t111 = 0 then (some true) else (some false))) else (some false)) else (some false))) else ((amanuensislaw11_answers.f k).bind fun t116 => (if t116 = true then (if (t112 == true) = true then (if t112 = true then (if t111 ≥ 178 then (some (decide (t111 ≤ 8334))) else (some false)) else (if t111 = 0 then (some true) else (some false))) else (some false)) else (some false))))) else (if a0 ≤ 57 then (if (wrap64 (10 + (wrap64 (Int.tmod a1 3)))) = 12 then ((amanuensislaw11_answers.f k).bind fun t117 => (if t117 = true then (if (t112 == false) = true then (if t112 = true then (some true) else (if t111 = 0 then (some true) else (some false))) else (some false)) else (some false))) else ((amanuensislaw11_answers.f k).bind fun t118 => (if t118 = true then (if (t112 == true) = true then (if t112 = true then (if t111 ≥ 178 then (some (decide (t111 ≤ 8334))) else (some false)) else (if t111 = 0 then (some true) else (some false))) else (some false)) else (some false)))) else (if (wrap64 (10 + (wrap64 (Int.tmod a1 3)))) = 12 then ((amanuensislaw11_answers.f k).bind fun t119 => (if t119 = true then (if (t112 == false) = true then (if t112 = true then (some true) else (if t111 = 0 then (some true) else (some false))) else (some false)) else (some false))) else ((amanuensislaw11_answers.f k).bind fun t120 => (if t120 = true then (if (t112 == true) = true then (if t112 = true then (if t111 ≥ 178 then (some (decide (t111 ≤ 8334))) else (some false)) else (if t111 = 0 then (some true) else (some false))) else (some false)) else (some false)))))) else (if a0 = 41 then (if a0 ≥ 97 then (if a0 ≤ 57 then (if (wrap64 (10 + (wrap64 (Int.tmod a1 3)))) = 12 then ((amanuensislaw11_answers.f k).bind fun t121 => (if t121 = true then (if (t112 == (decide (a0 ≤ 99))) = true then (if t112 = true then (some true) else (if t111 = 0 then (some true) else (some false))) else (some false)) else (some false))) else ((amanuensislaw11_answers.f k).bind fun t122 => (if t122 = true then (if (t112 == true) = true then (if t112 = true then (if t111 ≥ 178 then (some (decide (t111 ≤ 8334))) else (some false)) else (if t111 = 0 then (some true) else (some false))) else (some false)) else (some false)))) else (if (wrap64 (10 + (wrap64 (Int.tmod a1 3)))) = 12 then ((amanuensislaw11_answers.f k).bind fun t123 => (if t123 = true then (if (t112 == (decide (a0 ≤ 99))) = true then (if t112 = true then (some true) else (if t111 = 0 then (some true) else (some false))) else (some false)) else (some false))) else ((amanuensislaw11_answers.f k).bind fun t124 => (if t124 = true then (if (t112 == true) = true then (if t112 = true then (if t111 ≥ 178 then (some (decide (t111 ≤ 8334))) else (some false)) else (if t111 = 0 then (some true) else (some false))) else (some false)) else (some false))))) else (if a0 ≤ 57 then (if (wrap64 (10 + (wrap64 (Int.tmod a1 3)))) = 12 then ((amanuensislaw11_answers.f k).bind fun t125 => (if t125 = true then (if (t112 == false) = true then (if t112 = true then (some true) else (if t111 = 0 then (some true) else (some false))) else (some false)) else (some false))) else ((amanuensislaw11_answers.f k).bind fun t126 => (if t126 = true then (if (t112 == true) = true then (if t112 = true then (if t111 ≥ 178 then (some (decide (t111 ≤ 8334))) else (some false)) else (if t111 = 0 then (some true) else (some false))) else (some false)) else (some false)))) else (if (wrap64 (10 + (wrap64 (Int.tmod a1 3)))) = 12 then ((amanuensislaw11_answers.f k).bind fun t127 => (if t127 = true then (if (t112 == false) = true then (if t112 = true then (some true) else (if t111 = 0 then (some true) else (some false))) else (some false)) else (some false))) else ((amanuensislaw11_answers.f k).bind fun t128 => (if t128 = true then (if (t112 == true) = true then (if t112 = true then (if t111 ≥ 178 then (some (decide (t111 ≤ 8334))) else (some false)) else (if t111 = 0 then (some true) else (some false))) else (some false)) else (some false)))))) else (if a0 = 43 then (if a0 ≥ 97 then (if a0 ≤ 57 then (if (wrap64 (10 + (wrap64 (Int.tmod a1 3)))) = 12 then ((amanuensislaw11_answers.f k).bind fun t129 => (if t129 = true then (if (t112 == (decide (a0 ≤ 99))) = true then (if t112 = true then (some true) else (if t111 = 0 then (some true) else (some false))) else (some false)) else (some false))) else ((amanuensislaw11_answers.f k).bind fun t130 => (if t130 = true then (if (t112 == true) = true then (if t112 = true then (if t111 ≥ 178 then (some (decide (t111 ≤ 8334))) else (some false)) else (if t111 = 0 then (some true) else (some false))) else (some false)) else (some false)))) else (if (wrap64 (10 + (wrap64 (Int.tmod a1 3)))) = 12 then ((amanuensislaw11_answers.f k).bind fun t131 => (if t131 = true then (if (t112 == (decide (a0 ≤ 99))) = true then (if t112 = true then (some true) else (if t111 = 0 then (some true) else (some false))) else (some false)) else (some false))) else ((amanuensislaw11_answers.f k).bind fun t132 => (if t132 = true then (if (t112 == true) = true then (if t112 = true then (if t111 ≥ 178 then (some (decide (t111 ≤ 8334))) else (some false)) else (if t111 = 0 then (some true) else (some false))) else (some false)) else (some false))))) else (if a0 ≤ 57 then (if (wrap64 (10 + (wrap64 (Int.tmod a1 3)))) = 12 then ((amanuensislaw11_answers.f k).bind fun t133 => (if t133 = true then (if (t112 == false) = true then (if t112 = true then (some true) else (if t111 = 0 then (some true) else (some false))) else (some false)) else (some false))) else ((amanuensislaw11_answers.f k).bind fun t134 => (if t134 = true then (if (t112 == true) = true then (if t112 = true then (if t111 ≥ 178 then (some (decide (t111 ≤ 8334))) else (some false)) else (if t111 = 0 then (some true) else (some false))) else (some false)) else (some false)))) else (if (wrap64 (10 + (wrap64 (Int.tmod a1 3)))) = 12 then ((amanuensislaw11_answers.f k).bind fun t135 => (if t135 = true then (if (t112 == false) = true then (if t112 = true then (some true) else (if t111 = 0 then (some true) else (some false))) else (some false)) else (some false))) else ((amanuensislaw11_answers.f k).bind fun t136 => (if t136 = true then (if (t112 == true) = true then (if t112 = true then (if t111 ≥ 178 then (some (decide (t111 ≤ 8334))) else (some false)) else (if t111 = 0 then (some true) else (some false))) else (some false)) else (some false)))))) else (if a0 ≥ 97 then (if a0 ≤ 57 then (if (wrap64 (10 + (wrap64 (Int.tmod a1 3)))) = 12 then ((amanuensislaw11_answers.f k).bind fun t137 => (if t137 = true then (if (t112 == (decide (a0 ≤ 99))) = true then (if t112 = true then (some true) else (if t111 = 0 then (some true) else (some false))) else (some false)) else (some false))) else ((amanuensislaw11_answers.f k).bind fun t138 => (if t138 = true then (if (t112 == true) = true then (if t112 = true then (if t111 ≥ 178 then (some (decide (t111 ≤ 8334))) else (some false)) else (if t111 = 0 then (some true) else (some false))) else (some false)) else (some false)))) else (if (wrap64 (10 + (wrap64 (Int.tmod a1 3)))) = 12 then ((amanuensislaw11_answers.f k).bind fun t139 => (if t139 = true then (if (t112 == (decide (a0 ≤ 99))) = true then (if t112 = true then (some true) else (if t111 = 0 then (some true) else (some false))) else (some false)) else (some false))) else ((amanuensislaw11_answers.f k).bind fun t140 => (if t140 = true then (if (t112 == (a0 == 45)) = true then (if t112 = true then (if t111 ≥ 178 then (some (decide (t111 ≤ 8334))) else (some false)) else (if t111 = 0 then (some true) else (some false))) else (some false)) else (some false))))) else (if a0 ≤ 57 then (if (wrap64 (10 + (wrap64 (Int.tmod a1 3)))) = 12 then ((amanuensislaw11_answers.f k).bind fun t141 => (if t141 = true then (if (t112 == false) = true then (if t112 = true then (some true) else (if t111 = 0 then (some true) else (some false))) else (some false)) else (some false))) else ((amanuensislaw11_answers.f k).bind fun t142 => (if t142 = true then (if (t112 == true) = true then (if t112 = true then (if t111 ≥ 178 then (some (decide (t111 ≤ 8334))) else (some false)) else (if t111 = 0 then (some true) else (some false))) else (some false)) else (some false)))) else (if (wrap64 (10 + (wrap64 (Int.tmod a1 3)))) = 12 then ((amanuensislaw11_answers.f k).bind fun t143 => (if t143 = true then (if (t112 == false) = true then (if t112 = true then (some true) else (if t111 = 0 then (some true) else (some false))) else (some false)) else (some false))) else ((amanuensislaw11_answers.f k).bind fun t144 => (if t144 = true then (if (t112 == (a0 == 45)) = true then (if t112 = true then (if t111 ≥ 178 then (some (decide (t111 ≤ 8334))) else (some false)) else (if t111 = 0 then (some true) else (some false))) else (some false)) else (some false))))))))) else (if a0 = 40 then (if a0 ≥ 97 then (if (wrap64 (10 + (wrap64 (Int.tmod a1 3)))) = 12 then ((amanuensislaw11_answers.f k).bind fun t145 => (if t145 = true then (if (t112 == (decide (a0 ≤ 99))) = true then (if t112 = true then (some true) else (if t111 = 0 then (some true) else (some false))) else (some false)) else (some false))) else ((amanuensislaw11_answers.f k).bind fun t146 => (if t146 = true then (if (t112 == true) = true then (if t112 = true then (if t111 ≥ 178 then (some (decide (t111 ≤ 8334))) else (some false)) else (if t111 = 0 then (some true) else (some false))) else (some false)) else (some false)))) else (if (wrap64 (10 + (wrap64 (Int.tmod a1 3)))) = 12 then ((amanuensislaw11_answers.f k).bind fun t147 => (if t147 = true then (if (t112 == false) = true then (if t112 = true then (some true) else (if t111 = 0 then (some true) else (some false))) else (some false)) else (some false))) else ((amanuensislaw11_answers.f k).bind fun t148 => (if t148 = true then (if (t112 == true) = true then (if t112 = true then (if t111 ≥ 178 then (some (decide (t111 ≤ 8334))) else (some false)) else (if t111 = 0 then (some true) else (some false))) else (some false)) else (some false))))) else (if a0 = 41 then (if a0 ≥ 97 then (if (wrap64 (10 + (wrap64 (Int.tmod a1 3)))) = 12 then ((amanuensislaw11_answers.f k).bind fun t149 => (if t149 = true then (if (t112 == (decide (a0 ≤ 99))) = true then (if t112 = true then (some true) else (if t111 = 0 then (some true) else (some false))) else (some false)) else (some false))) else ((amanuensislaw11_answers.f k).bind fun t150 => (if t150 = true then (if (t112 == true) = true then (if t112 = true then (if t111 ≥ 178 then (some (decide (t111 ≤ 8334))) else (some false)) else (if t111 = 0 then (some true) else (some false))) else (some false)) else (some false)))) else (if (wrap64 (10 + (wrap64 (Int.tmod a1 3)))) = 12 then ((amanuensislaw11_answers.f k).bind fun t151 => (if t151 = true then (if (t112 == false) = true then (if t112 = true then (some true) else (if t111 = 0 then (some true) else (some false))) else (some false)) else (some false))) else ((amanuensislaw11_answers.f k).bind fun t152 => (if t152 = true then (if (t112 == true) = true then (if t112 = true then (if t111 ≥ 178 then (some (decide (t111 ≤ 8334))) else (some false)) else (if t111 = 0 then (some true) else (some false))) else (some false)) else (some false))))) else (if a0 = 43 then (if a0 ≥ 97 then (if (wrap64 (10 + (wrap64 (Int.tmod a1 3)))) = 12 then ((amanuensislaw11_answers.f k).bind fun t153 => (if t153 = true then (if (t112 == (decide (a0 ≤ 99))) = true then (if t112 = true then (some true) else (if t111 = 0 then (some true) else (some false))) else (some false)) else (some false))) else ((amanuensislaw11_answers.f k).bind fun t154 => (if t154 = true then (if (t112 == true) = true then (if t112 = true then (if t111 ≥ 178 then (some (decide (t111 ≤ 8334))) else (some false)) else (if t111 = 0 then (some true) else (some false))) else (some false)) else (some false)))) else (if (wrap64 (10 + (wrap64 (Int.tmod a1 3)))) = 12 then ((amanuensislaw11_answers.f k).bind fun t155 => (if t155 = true then (if (t112 == false) = true then (if t112 = true then (some true) else (if t111 = 0 then (some true) else (some false))) else (some false)) else (some false))) else ((amanuensislaw11_answers.f k).bind fun t156 => (if t156 = true then (if (t112 == true) = true then (if t112 = true then (if t111 ≥ 178 then (some (decide (t111 ≤ 8334))) else (some false)) else (if t111 = 0 then (some true) else (some false))) else (some false)) else (some false))))) else (if a0 ≥ 97 then (if (wrap64 (10 + (wrap64 (Int.tmod a1 3)))) = 12 then ((amanuensislaw11_answers.f k).bind fun t157 => (if t157 = true then (if (t112 == (decide (a0 ≤ 99))) = true then (if t112 = true then (some true) else (if t111 = 0 then (some true) else (some false))) else (some false)) else (some false))) else ((amanuensislaw11_answers.f k).bind fun t158 => (if t158 = true then (if (t112 == (a0 == 45)) = true then (if t112 = true then (if t111 ≥ 178 then (some (decide (t111 ≤ 8334))) else (some false)) else (if t111 = 0 then (some true) else (some false))) else (some false)) else (some false)))) else (if (wrap64 (10 + (wrap64 (Int.tmod a1 3)))) = 12 then ((amanuensislaw11_answers.f k).bind fun t159 => (if t159 = true then (if (t112 == false) = true then (if t112 = true then (some true) else (if t111 = 0 then (some true) else (some false))) else (some false)) else (some false))) else ((amanuensislaw11_answers.f k).bind fun t160 => (if t160 = true then (if (t112 == (a0 == 45)) = true then (if t112 = true then (if t111 ≥ 178 then (some (decide (t111 ≤ 8334))) else (some false)) else (if t111 = 0 then (some true) else (some false))) else (some false)) else (some false))))))))) = some r := H
  have A3 := Aside0.mk A30
  clear A30
  by_cases c4 : a0 ≥ 48
  · rw [if_pos c4] at H
    have q4 := Aside0.mk c4
    have c4b0 : decide (48 ≤ a0) = true := decide_eq_true c4
    clear c4
    by_cases c5 : a0 = 40
    · exfalso
      have := qv.out
      have := q4.out
      clear H
      omega
    · rw [if_neg c5] at H
      have q5 := Aside0.mk c5
      have c5b0 : (a0 == 40) = false := beq_eq_false_iff_ne.mpr c5
      have c5b1 : (a0 != 40) = true := bne_iff_ne.mpr c5
      by_cases c57 : a0 = 41
      · exfalso
        have := qv.out
        have := q4.out
        have := q5.out
        clear H
        omega
      · rw [if_neg c57] at H
        have q57 := Aside0.mk c57
        have c57b0 : (a0 == 41) = false := beq_eq_false_iff_ne.mpr c57
        have c57b1 : (a0 != 41) = true := bne_iff_ne.mpr c57
        by_cases c109 : a0 = 43
        · exfalso
          have := qv.out
          have := q4.out
          have := q5.out
          have := q57.out
          clear H
          omega
        · rw [if_neg c109] at H
          have q109 := Aside0.mk c109
          have c109b0 : (a0 == 43) = false := beq_eq_false_iff_ne.mpr c109
          have c109b1 : (a0 != 43) = true := bne_iff_ne.mpr c109
          by_cases c161 : a0 ≥ 97
          · rw [if_pos c161] at H
            have q161 := Aside0.mk c161
            have c161b0 : decide (97 ≤ a0) = true := decide_eq_true c161
            clear c161
            by_cases c162 : a0 ≤ 57
            · exfalso
              have := qv.out
              have := q4.out
              have := q5.out
              have := q57.out
              have := q109.out
              have := q161.out
              clear H
              omega
            · rw [if_neg c162] at H
              have q162 := Aside0.mk c162
              have c162b0 : decide (a0 ≤ 57) = false := decide_eq_false c162
              clear c162
              by_cases c175 : (wrap64 (10 + (wrap64 (Int.tmod a1 3)))) = 12
              · rw [if_pos c175] at H
                have c175b0 : ((wrap64 (10 + (wrap64 (Int.tmod a1 3)))) == 12) = true := beq_iff_eq.mpr c175
                have c175b1 : ((wrap64 (10 + (wrap64 (Int.tmod a1 3)))) != 12) = false := bne_eq_false_iff_eq.mpr c175
                clear c175
                replace H := Option.bind_eq_some_iff.mp H
                obtain ⟨t139, A1760, H⟩ := H
                replace H : (if t139 = true then (if (t112 == (decide (a0 ≤ 99))) = true then (if t112 = true then (some true) else (if t111 = 0 then (some true) else (some false))) else (some false)) else (some false)) = some r := H
                have A176 := Aside0.mk A1760
                clear A1760
                by_cases c177 : t139 = true
                · subst c177
                  have H1 : (if (t112 == (decide (a0 ≤ 99))) = true then (if t112 = true then (some true) else (if t111 = 0 then (some true) else (some false))) else (some false)) = some r := by rw [if_pos rfl] at H; exact H
                  clear H
                  have H := H1
                  clear H1
                  by_cases c178 : (t112 == (decide (a0 ≤ 99))) = true
                  · rw [if_pos c178] at H
                    have c178b0 : (t112 == (decide (a0 ≤ 99))) = true := c178
                    (try (have c178b1 : decide (t112 = (decide (a0 ≤ 99))) = true := by simpa using c178))
                    (try (have c178b2 : (t112 == (decide (a0 ≤ 99))) = true := by simpa using c178))
                    clear c178
                    by_cases c179 : t112 = true
                    · subst c179
                      have H1 : (some true) = some r := by rw [if_pos rfl] at H; exact H
                      clear H
                      have H := H1
                      clear H1
                      obtain rfl := Option.some.inj H
                      go_enter Try.func4, Try.ntmps4
                      go_wp2_with (first | ((with_reducible refine gate_callee (f := 7) rfl ?_); refine goesL_ (some 20) rfl rfl Try.func7 (by kernel_rfl) rfl #[.int .i64 (wrap64 (10 + (wrap64 (Int.tmod a1 3)))), .int .i64 (wrap64 (a0))] rfl (by (try simp only [List.map_toArray, List.map_cons, List.map_nil]); first | done | rfl | (simp only [List.length_drop, List.length_take]; rfl)) ?_; (with_reducible refine (small_Rune.calls k (wrap64 (10 + (wrap64 (Int.tmod a1 3)))) (wrap64 (a0)) t111 true _ A3.out).mono ?_); rintro e w' ⟨rfl, ⟨nd, rfl⟩⟩; refine ⟨_, rfl, ?_⟩) | ((with_reducible refine gate_callee (f := 8) rfl ?_); refine goesL_ (some 56) rfl rfl Try.func8 (by kernel_rfl) rfl #[] rfl (by (try simp only [List.map_toArray, List.map_cons, List.map_nil]); first | done | rfl | (simp only [List.length_drop, List.length_take]; rfl)) ?_; (with_reducible refine (amanuensislaw11_answers.calls k  true _ A176.out).mono ?_); rintro e w' ⟨rfl, ⟨nd, rfl⟩⟩; refine ⟨_, rfl, ?_⟩))
                      go_ret
                      exact ⟨by first | rfl | (simp; done) | (simp [*]; done), by repeat (first | exact Drawn0.refl _ | apply Drawn0.step)⟩
                    · replace c179 := Bool.eq_false_iff.mpr c179
                      subst c179
                      have H1 : (if t111 = 0 then (some true) else (some false)) = some r := by rw [if_neg (show ¬ (false = true) by decide)] at H; exact H
                      clear H
                      have H := H1
                      clear H1
                      by_cases c180 : t111 = 0
                      · rw [if_pos c180] at H
                        have c180b0 : (t111 == 0) = true := beq_iff_eq.mpr c180
                        have c180b1 : (t111 != 0) = false := bne_eq_false_iff_eq.mpr c180
                        clear c180
                        obtain rfl := Option.some.inj H
                        go_enter Try.func4, Try.ntmps4
                        go_wp2_with (first | ((with_reducible refine gate_callee (f := 7) rfl ?_); refine goesL_ (some 20) rfl rfl Try.func7 (by kernel_rfl) rfl #[.int .i64 (wrap64 (10 + (wrap64 (Int.tmod a1 3)))), .int .i64 (wrap64 (a0))] rfl (by (try simp only [List.map_toArray, List.map_cons, List.map_nil]); first | done | rfl | (simp only [List.length_drop, List.length_take]; rfl)) ?_; (with_reducible refine (small_Rune.calls k (wrap64 (10 + (wrap64 (Int.tmod a1 3)))) (wrap64 (a0)) t111 false _ A3.out).mono ?_); rintro e w' ⟨rfl, ⟨nd, rfl⟩⟩; refine ⟨_, rfl, ?_⟩) | ((with_reducible refine gate_callee (f := 8) rfl ?_); refine goesL_ (some 56) rfl rfl Try.func8 (by kernel_rfl) rfl #[] rfl (by (try simp only [List.map_toArray, List.map_cons, List.map_nil]); first | done | rfl | (simp only [List.length_drop, List.length_take]; rfl)) ?_; (with_reducible refine (amanuensislaw11_answers.calls k  true _ A176.out).mono ?_); rintro e w' ⟨rfl, ⟨nd, rfl⟩⟩; refine ⟨_, rfl, ?_⟩))
                        go_ret
                        exact ⟨by first | rfl | (simp; done) | (simp [*]; done), by repeat (first | exact Drawn0.refl _ | apply Drawn0.step)⟩
                      · rw [if_neg c180] at H
                        exact absurd (Option.some.inj H) (by rw [hr.out]; decide)
                  · rw [if_neg c178] at H
                    exact absurd (Option.some.inj H) (by rw [hr.out]; decide)
                · replace c177 := Bool.eq_false_iff.mpr c177
                  subst c177
                  have H1 : (some false) = some r := by rw [if_neg (show ¬ (false = true) by decide)] at H; exact H
                  exact absurd (Option.some.inj H1) (by rw [hr.out]; decide)
              · rw [if_neg c175] at H
                have c175b0 : ((wrap64 (10 + (wrap64 (Int.tmod a1 3)))) == 12) = false := beq_eq_false_iff_ne.mpr c175
                have c175b1 : ((wrap64 (10 + (wrap64 (Int.tmod a1 3)))) != 12) = true := bne_iff_ne.mpr c175
                replace H := Option.bind_eq_some_iff.mp H
                obtain ⟨t140, A1810, H⟩ := H
                replace H : (if t140 = true then (if (t112 == (a0 == 45)) = true then (if t112 = true then (if t111 ≥ 178 then (some (decide (t111 ≤ 8334))) else (some false)) else (if t111 = 0 then (some true) else (some false))) else (some false)) else (some false)) = some r := H
                have A181 := Aside0.mk A1810
                clear A1810
                by_cases c182 : t140 = true
                · subst c182
                  have H1 : (if (t112 == (a0 == 45)) = true then (if t112 = true then (if t111 ≥ 178 then (some (decide (t111 ≤ 8334))) else (some false)) else (if t111 = 0 then (some true) else (some false))) else (some false)) = some r := by rw [if_pos rfl] at H; exact H
                  clear H
                  have H := H1
                  clear H1
                  by_cases c183 : (t112 == (a0 == 45)) = true
                  · rw [if_pos c183] at H
                    have c183b0 : (t112 == (a0 == 45)) = true := c183
                    (try (have c183b1 : decide (t112 = (a0 == 45)) = true := by simpa using c183))
                    (try (have c183b2 : (t112 == (a0 == 45)) = true := by simpa using c183))
                    clear c183
                    by_cases c184 : t112 = true
                    · subst c184
                      have H1 : (if t111 ≥ 178 then (some (decide (t111 ≤ 8334))) else (some false)) = some r := by rw [if_pos rfl] at H; exact H
                      clear H
                      have H := H1
                      clear H1
                      by_cases c185 : t111 ≥ 178
                      · rw [if_pos c185] at H
                        have c185b0 : decide (178 ≤ t111) = true := decide_eq_true c185
                        clear c185
                        obtain rfl := Option.some.inj H
                        go_enter Try.func4, Try.ntmps4
                        go_wp2_with (first | ((with_reducible refine gate_callee (f := 7) rfl ?_); refine goesL_ (some 20) rfl rfl Try.func7 (by kernel_rfl) rfl #[.int .i64 (wrap64 (10 + (wrap64 (Int.tmod a1 3)))), .int .i64 (wrap64 (a0))] rfl (by (try simp only [List.map_toArray, List.map_cons, List.map_nil]); first | done | rfl | (simp only [List.length_drop, List.length_take]; rfl)) ?_; (with_reducible refine (small_Rune.calls k (wrap64 (10 + (wrap64 (Int.tmod a1 3)))) (wrap64 (a0)) t111 true _ A3.out).mono ?_); rintro e w' ⟨rfl, ⟨nd, rfl⟩⟩; refine ⟨_, rfl, ?_⟩) | ((with_reducible refine gate_callee (f := 8) rfl ?_); refine goesL_ (some 56) rfl rfl Try.func8 (by kernel_rfl) rfl #[] rfl (by (try simp only [List.map_toArray, List.map_cons, List.map_nil]); first | done | rfl | (simp only [List.length_drop, List.length_take]; rfl)) ?_; (with_reducible refine (amanuensislaw11_answers.calls k  true _ A181.out).mono ?_); rintro e w' ⟨rfl, ⟨nd, rfl⟩⟩; refine ⟨_, rfl, ?_⟩))
                        go_ret
                        exact ⟨by first | rfl | (simp; done) | (simp [*]; done), by repeat (first | exact Drawn0.refl _ | apply Drawn0.step)⟩
                      · rw [if_neg c185] at H
                        exact absurd (Option.some.inj H) (by rw [hr.out]; decide)
                    · replace c184 := Bool.eq_false_iff.mpr c184
                      subst c184
                      have H1 : (if t111 = 0 then (some true) else (some false)) = some r := by rw [if_neg (show ¬ (false = true) by decide)] at H; exact H
                      clear H
                      have H := H1
                      clear H1
                      by_cases c186 : t111 = 0
                      · rw [if_pos c186] at H
                        have c186b0 : (t111 == 0) = true := beq_iff_eq.mpr c186
                        have c186b1 : (t111 != 0) = false := bne_eq_false_iff_eq.mpr c186
                        clear c186
                        obtain rfl := Option.some.inj H
                        go_enter Try.func4, Try.ntmps4
                        go_wp2_with (first | ((with_reducible refine gate_callee (f := 7) rfl ?_); refine goesL_ (some 20) rfl rfl Try.func7 (by kernel_rfl) rfl #[.int .i64 (wrap64 (10 + (wrap64 (Int.tmod a1 3)))), .int .i64 (wrap64 (a0))] rfl (by (try simp only [List.map_toArray, List.map_cons, List.map_nil]); first | done | rfl | (simp only [List.length_drop, List.length_take]; rfl)) ?_; (with_reducible refine (small_Rune.calls k (wrap64 (10 + (wrap64 (Int.tmod a1 3)))) (wrap64 (a0)) t111 false _ A3.out).mono ?_); rintro e w' ⟨rfl, ⟨nd, rfl⟩⟩; refine ⟨_, rfl, ?_⟩) | ((with_reducible refine gate_callee (f := 8) rfl ?_); refine goesL_ (some 56) rfl rfl Try.func8 (by kernel_rfl) rfl #[] rfl (by (try simp only [List.map_toArray, List.map_cons, List.map_nil]); first | done | rfl | (simp only [List.length_drop, List.length_take]; rfl)) ?_; (with_reducible refine (amanuensislaw11_answers.calls k  true _ A181.out).mono ?_); rintro e w' ⟨rfl, ⟨nd, rfl⟩⟩; refine ⟨_, rfl, ?_⟩))
                        go_ret
                        exact ⟨by first | rfl | (simp; done) | (simp [*]; done), by repeat (first | exact Drawn0.refl _ | apply Drawn0.step)⟩
                      · rw [if_neg c186] at H
                        exact absurd (Option.some.inj H) (by rw [hr.out]; decide)
                  · rw [if_neg c183] at H
                    exact absurd (Option.some.inj H) (by rw [hr.out]; decide)
                · replace c182 := Bool.eq_false_iff.mpr c182
                  subst c182
                  have H1 : (some false) = some r := by rw [if_neg (show ¬ (false = true) by decide)] at H; exact H
                  exact absurd (Option.some.inj H1) (by rw [hr.out]; decide)
          · rw [if_neg c161] at H
            have q161 := Aside0.mk c161
            have c161b0 : decide (97 ≤ a0) = false := decide_eq_false c161
            clear c161
            by_cases c187 : a0 ≤ 57
            · rw [if_pos c187] at H
              have q187 := Aside0.mk c187
              have c187b0 : decide (a0 ≤ 57) = true := decide_eq_true c187
              clear c187
              by_cases c188 : (wrap64 (10 + (wrap64 (Int.tmod a1 3)))) = 12
              · rw [if_pos c188] at H
                have c188b0 : ((wrap64 (10 + (wrap64 (Int.tmod a1 3)))) == 12) = true := beq_iff_eq.mpr c188
                have c188b1 : ((wrap64 (10 + (wrap64 (Int.tmod a1 3)))) != 12) = false := bne_eq_false_iff_eq.mpr c188
                clear c188
                replace H := Option.bind_eq_some_iff.mp H
                obtain ⟨t141, A1890, H⟩ := H
                replace H : (if t141 = true then (if (t112 == false) = true then (if t112 = true then (some true) else (if t111 = 0 then (some true) else (some false))) else (some false)) else (some false)) = some r := H
                have A189 := Aside0.mk A1890
                clear A1890
                by_cases c190 : t141 = true
                · subst c190
                  have H1 : (if (t112 == false) = true then (if t112 = true then (some true) else (if t111 = 0 then (some true) else (some false))) else (some false)) = some r := by rw [if_pos rfl] at H; exact H
                  clear H
                  have H := H1
                  clear H1
                  by_cases c191 : (t112 == false) = true
                  · rw [if_pos c191] at H
                    have c191b0 : (t112 == false) = true := c191
                    (try (have c191b1 : decide (t112 = false) = true := by simpa using c191))
                    (try (have c191b2 : (t112 == false) = true := by simpa using c191))
                    clear c191
                    by_cases c192 : t112 = true
                    · subst c192
                      have H1 : (some true) = some r := by rw [if_pos rfl] at H; exact H
                      clear H
                      have H := H1
                      clear H1
                      obtain rfl := Option.some.inj H
                      go_enter Try.func4, Try.ntmps4
                      go_wp2_with (first | ((with_reducible refine gate_callee (f := 7) rfl ?_); refine goesL_ (some 20) rfl rfl Try.func7 (by kernel_rfl) rfl #[.int .i64 (wrap64 (10 + (wrap64 (Int.tmod a1 3)))), .int .i64 (wrap64 (a0))] rfl (by (try simp only [List.map_toArray, List.map_cons, List.map_nil]); first | done | rfl | (simp only [List.length_drop, List.length_take]; rfl)) ?_; (with_reducible refine (small_Rune.calls k (wrap64 (10 + (wrap64 (Int.tmod a1 3)))) (wrap64 (a0)) t111 true _ A3.out).mono ?_); rintro e w' ⟨rfl, ⟨nd, rfl⟩⟩; refine ⟨_, rfl, ?_⟩) | ((with_reducible refine gate_callee (f := 8) rfl ?_); refine goesL_ (some 56) rfl rfl Try.func8 (by kernel_rfl) rfl #[] rfl (by (try simp only [List.map_toArray, List.map_cons, List.map_nil]); first | done | rfl | (simp only [List.length_drop, List.length_take]; rfl)) ?_; (with_reducible refine (amanuensislaw11_answers.calls k  true _ A189.out).mono ?_); rintro e w' ⟨rfl, ⟨nd, rfl⟩⟩; refine ⟨_, rfl, ?_⟩))
                      go_ret
                      exact ⟨by first | rfl | (simp; done) | (simp [*]; done), by repeat (first | exact Drawn0.refl _ | apply Drawn0.step)⟩
                    · replace c192 := Bool.eq_false_iff.mpr c192
                      subst c192
                      have H1 : (if t111 = 0 then (some true) else (some false)) = some r := by rw [if_neg (show ¬ (false = true) by decide)] at H; exact H
                      clear H
                      have H := H1
                      clear H1
                      by_cases c193 : t111 = 0
                      · rw [if_pos c193] at H
                        have c193b0 : (t111 == 0) = true := beq_iff_eq.mpr c193
                        have c193b1 : (t111 != 0) = false := bne_eq_false_iff_eq.mpr c193
                        clear c193
                        obtain rfl := Option.some.inj H
                        go_enter Try.func4, Try.ntmps4
                        go_wp2_with (first | ((with_reducible refine gate_callee (f := 7) rfl ?_); refine goesL_ (some 20) rfl rfl Try.func7 (by kernel_rfl) rfl #[.int .i64 (wrap64 (10 + (wrap64 (Int.tmod a1 3)))), .int .i64 (wrap64 (a0))] rfl (by (try simp only [List.map_toArray, List.map_cons, List.map_nil]); first | done | rfl | (simp only [List.length_drop, List.length_take]; rfl)) ?_; (with_reducible refine (small_Rune.calls k (wrap64 (10 + (wrap64 (Int.tmod a1 3)))) (wrap64 (a0)) t111 false _ A3.out).mono ?_); rintro e w' ⟨rfl, ⟨nd, rfl⟩⟩; refine ⟨_, rfl, ?_⟩) | ((with_reducible refine gate_callee (f := 8) rfl ?_); refine goesL_ (some 56) rfl rfl Try.func8 (by kernel_rfl) rfl #[] rfl (by (try simp only [List.map_toArray, List.map_cons, List.map_nil]); first | done | rfl | (simp only [List.length_drop, List.length_take]; rfl)) ?_; (with_reducible refine (amanuensislaw11_answers.calls k  true _ A189.out).mono ?_); rintro e w' ⟨rfl, ⟨nd, rfl⟩⟩; refine ⟨_, rfl, ?_⟩))
                        go_ret
                        exact ⟨by first | rfl | (simp; done) | (simp [*]; done), by repeat (first | exact Drawn0.refl _ | apply Drawn0.step)⟩
                      · rw [if_neg c193] at H
                        exact absurd (Option.some.inj H) (by rw [hr.out]; decide)
                  · rw [if_neg c191] at H
                    exact absurd (Option.some.inj H) (by rw [hr.out]; decide)
                · replace c190 := Bool.eq_false_iff.mpr c190
                  subst c190
                  have H1 : (some false) = some r := by rw [if_neg (show ¬ (false = true) by decide)] at H; exact H
                  exact absurd (Option.some.inj H1) (by rw [hr.out]; decide)
              · rw [if_neg c188] at H
                have c188b0 : ((wrap64 (10 + (wrap64 (Int.tmod a1 3)))) == 12) = false := beq_eq_false_iff_ne.mpr c188
                have c188b1 : ((wrap64 (10 + (wrap64 (Int.tmod a1 3)))) != 12) = true := bne_iff_ne.mpr c188
                replace H := Option.bind_eq_some_iff.mp H
                obtain ⟨t142, A1940, H⟩ := H
                replace H : (if t142 = true then (if (t112 == true) = true then (if t112 = true then (if t111 ≥ 178 then (some (decide (t111 ≤ 8334))) else (some false)) else (if t111 = 0 then (some true) else (some false))) else (some false)) else (some false)) = some r := H
                have A194 := Aside0.mk A1940
                clear A1940
                by_cases c195 : t142 = true
                · subst c195
                  have H1 : (if (t112 == true) = true then (if t112 = true then (if t111 ≥ 178 then (some (decide (t111 ≤ 8334))) else (some false)) else (if t111 = 0 then (some true) else (some false))) else (some false)) = some r := by rw [if_pos rfl] at H; exact H
                  clear H
                  have H := H1
                  clear H1
                  by_cases c196 : (t112 == true) = true
                  · rw [if_pos c196] at H
                    have c196b0 : (t112 == true) = true := c196
                    (try (have c196b1 : decide (t112 = true) = true := by simpa using c196))
                    (try (have c196b2 : (t112 == true) = true := by simpa using c196))
                    clear c196
                    by_cases c197 : t112 = true
                    · subst c197
                      have H1 : (if t111 ≥ 178 then (some (decide (t111 ≤ 8334))) else (some false)) = some r := by rw [if_pos rfl] at H; exact H
                      clear H
                      have H := H1
                      clear H1
                      by_cases c198 : t111 ≥ 178
                      · rw [if_pos c198] at H
                        have c198b0 : decide (178 ≤ t111) = true := decide_eq_true c198
                        clear c198
                        obtain rfl := Option.some.inj H
                        go_enter Try.func4, Try.ntmps4
                        go_wp2_with (first | ((with_reducible refine gate_callee (f := 7) rfl ?_); refine goesL_ (some 20) rfl rfl Try.func7 (by kernel_rfl) rfl #[.int .i64 (wrap64 (10 + (wrap64 (Int.tmod a1 3)))), .int .i64 (wrap64 (a0))] rfl (by (try simp only [List.map_toArray, List.map_cons, List.map_nil]); first | done | rfl | (simp only [List.length_drop, List.length_take]; rfl)) ?_; (with_reducible refine (small_Rune.calls k (wrap64 (10 + (wrap64 (Int.tmod a1 3)))) (wrap64 (a0)) t111 true _ A3.out).mono ?_); rintro e w' ⟨rfl, ⟨nd, rfl⟩⟩; refine ⟨_, rfl, ?_⟩) | ((with_reducible refine gate_callee (f := 8) rfl ?_); refine goesL_ (some 56) rfl rfl Try.func8 (by kernel_rfl) rfl #[] rfl (by (try simp only [List.map_toArray, List.map_cons, List.map_nil]); first | done | rfl | (simp only [List.length_drop, List.length_take]; rfl)) ?_; (with_reducible refine (amanuensislaw11_answers.calls k  true _ A194.out).mono ?_); rintro e w' ⟨rfl, ⟨nd, rfl⟩⟩; refine ⟨_, rfl, ?_⟩))
                        go_ret
                        exact ⟨by first | rfl | (simp; done) | (simp [*]; done), by repeat (first | exact Drawn0.refl _ | apply Drawn0.step)⟩
                      · rw [if_neg c198] at H
                        exact absurd (Option.some.inj H) (by rw [hr.out]; decide)
                    · replace c197 := Bool.eq_false_iff.mpr c197
                      subst c197
                      have H1 : (if t111 = 0 then (some true) else (some false)) = some r := by rw [if_neg (show ¬ (false = true) by decide)] at H; exact H
                      clear H
                      have H := H1
                      clear H1
                      by_cases c199 : t111 = 0
                      · rw [if_pos c199] at H
                        have c199b0 : (t111 == 0) = true := beq_iff_eq.mpr c199
                        have c199b1 : (t111 != 0) = false := bne_eq_false_iff_eq.mpr c199
                        clear c199
                        obtain rfl := Option.some.inj H
                        go_enter Try.func4, Try.ntmps4
                        go_wp2_with (first | ((with_reducible refine gate_callee (f := 7) rfl ?_); refine goesL_ (some 20) rfl rfl Try.func7 (by kernel_rfl) rfl #[.int .i64 (wrap64 (10 + (wrap64 (Int.tmod a1 3)))), .int .i64 (wrap64 (a0))] rfl (by (try simp only [List.map_toArray, List.map_cons, List.map_nil]); first | done | rfl | (simp only [List.length_drop, List.length_take]; rfl)) ?_; (with_reducible refine (small_Rune.calls k (wrap64 (10 + (wrap64 (Int.tmod a1 3)))) (wrap64 (a0)) t111 false _ A3.out).mono ?_); rintro e w' ⟨rfl, ⟨nd, rfl⟩⟩; refine ⟨_, rfl, ?_⟩) | ((with_reducible refine gate_callee (f := 8) rfl ?_); refine goesL_ (some 56) rfl rfl Try.func8 (by kernel_rfl) rfl #[] rfl (by (try simp only [List.map_toArray, List.map_cons, List.map_nil]); first | done | rfl | (simp only [List.length_drop, List.length_take]; rfl)) ?_; (with_reducible refine (amanuensislaw11_answers.calls k  true _ A194.out).mono ?_); rintro e w' ⟨rfl, ⟨nd, rfl⟩⟩; refine ⟨_, rfl, ?_⟩))
                        go_ret
                        exact ⟨by first | rfl | (simp; done) | (simp [*]; done), by repeat (first | exact Drawn0.refl _ | apply Drawn0.step)⟩
                      · rw [if_neg c199] at H
                        exact absurd (Option.some.inj H) (by rw [hr.out]; decide)
                  · rw [if_neg c196] at H
                    exact absurd (Option.some.inj H) (by rw [hr.out]; decide)
                · replace c195 := Bool.eq_false_iff.mpr c195
                  subst c195
                  have H1 : (some false) = some r := by rw [if_neg (show ¬ (false = true) by decide)] at H; exact H
                  exact absurd (Option.some.inj H1) (by rw [hr.out]; decide)
            · rw [if_neg c187] at H
              have q187 := Aside0.mk c187
              have c187b0 : decide (a0 ≤ 57) = false := decide_eq_false c187
              clear c187
              by_cases c200 : (wrap64 (10 + (wrap64 (Int.tmod a1 3)))) = 12
              · rw [if_pos c200] at H
                have c200b0 : ((wrap64 (10 + (wrap64 (Int.tmod a1 3)))) == 12) = true := beq_iff_eq.mpr c200
                have c200b1 : ((wrap64 (10 + (wrap64 (Int.tmod a1 3)))) != 12) = false := bne_eq_false_iff_eq.mpr c200
                clear c200
                replace H := Option.bind_eq_some_iff.mp H
                obtain ⟨t143, A2010, H⟩ := H
                replace H : (if t143 = true then (if (t112 == false) = true then (if t112 = true then (some true) else (if t111 = 0 then (some true) else (some false))) else (some false)) else (some false)) = some r := H
                have A201 := Aside0.mk A2010
                clear A2010
                by_cases c202 : t143 = true
                · subst c202
                  have H1 : (if (t112 == false) = true then (if t112 = true then (some true) else (if t111 = 0 then (some true) else (some false))) else (some false)) = some r := by rw [if_pos rfl] at H; exact H
                  clear H
                  have H := H1
                  clear H1
                  by_cases c203 : (t112 == false) = true
                  · rw [if_pos c203] at H
                    have c203b0 : (t112 == false) = true := c203
                    (try (have c203b1 : decide (t112 = false) = true := by simpa using c203))
                    (try (have c203b2 : (t112 == false) = true := by simpa using c203))
                    clear c203
                    by_cases c204 : t112 = true
                    · subst c204
                      have H1 : (some true) = some r := by rw [if_pos rfl] at H; exact H
                      clear H
                      have H := H1
                      clear H1
                      obtain rfl := Option.some.inj H
                      go_enter Try.func4, Try.ntmps4
                      go_wp2_with (first | ((with_reducible refine gate_callee (f := 7) rfl ?_); refine goesL_ (some 20) rfl rfl Try.func7 (by kernel_rfl) rfl #[.int .i64 (wrap64 (10 + (wrap64 (Int.tmod a1 3)))), .int .i64 (wrap64 (a0))] rfl (by (try simp only [List.map_toArray, List.map_cons, List.map_nil]); first | done | rfl | (simp only [List.length_drop, List.length_take]; rfl)) ?_; (with_reducible refine (small_Rune.calls k (wrap64 (10 + (wrap64 (Int.tmod a1 3)))) (wrap64 (a0)) t111 true _ A3.out).mono ?_); rintro e w' ⟨rfl, ⟨nd, rfl⟩⟩; refine ⟨_, rfl, ?_⟩) | ((with_reducible refine gate_callee (f := 8) rfl ?_); refine goesL_ (some 56) rfl rfl Try.func8 (by kernel_rfl) rfl #[] rfl (by (try simp only [List.map_toArray, List.map_cons, List.map_nil]); first | done | rfl | (simp only [List.length_drop, List.length_take]; rfl)) ?_; (with_reducible refine (amanuensislaw11_answers.calls k  true _ A201.out).mono ?_); rintro e w' ⟨rfl, ⟨nd, rfl⟩⟩; refine ⟨_, rfl, ?_⟩))
                      go_ret
                      exact ⟨by first | rfl | (simp; done) | (simp [*]; done), by repeat (first | exact Drawn0.refl _ | apply Drawn0.step)⟩
                    · replace c204 := Bool.eq_false_iff.mpr c204
                      subst c204
                      have H1 : (if t111 = 0 then (some true) else (some false)) = some r := by rw [if_neg (show ¬ (false = true) by decide)] at H; exact H
                      clear H
                      have H := H1
                      clear H1
                      by_cases c205 : t111 = 0
                      · rw [if_pos c205] at H
                        have c205b0 : (t111 == 0) = true := beq_iff_eq.mpr c205
                        have c205b1 : (t111 != 0) = false := bne_eq_false_iff_eq.mpr c205
                        clear c205
                        obtain rfl := Option.some.inj H
                        go_enter Try.func4, Try.ntmps4
                        go_wp2_with (first | ((with_reducible refine gate_callee (f := 7) rfl ?_); refine goesL_ (some 20) rfl rfl Try.func7 (by kernel_rfl) rfl #[.int .i64 (wrap64 (10 + (wrap64 (Int.tmod a1 3)))), .int .i64 (wrap64 (a0))] rfl (by (try simp only [List.map_toArray, List.map_cons, List.map_nil]); first | done | rfl | (simp only [List.length_drop, List.length_take]; rfl)) ?_; (with_reducible refine (small_Rune.calls k (wrap64 (10 + (wrap64 (Int.tmod a1 3)))) (wrap64 (a0)) t111 false _ A3.out).mono ?_); rintro e w' ⟨rfl, ⟨nd, rfl⟩⟩; refine ⟨_, rfl, ?_⟩) | ((with_reducible refine gate_callee (f := 8) rfl ?_); refine goesL_ (some 56) rfl rfl Try.func8 (by kernel_rfl) rfl #[] rfl (by (try simp only [List.map_toArray, List.map_cons, List.map_nil]); first | done | rfl | (simp only [List.length_drop, List.length_take]; rfl)) ?_; (with_reducible refine (amanuensislaw11_answers.calls k  true _ A201.out).mono ?_); rintro e w' ⟨rfl, ⟨nd, rfl⟩⟩; refine ⟨_, rfl, ?_⟩))
                        go_ret
                        exact ⟨by first | rfl | (simp; done) | (simp [*]; done), by repeat (first | exact Drawn0.refl _ | apply Drawn0.step)⟩
                      · rw [if_neg c205] at H
                        exact absurd (Option.some.inj H) (by rw [hr.out]; decide)
                  · rw [if_neg c203] at H
                    exact absurd (Option.some.inj H) (by rw [hr.out]; decide)
                · replace c202 := Bool.eq_false_iff.mpr c202
                  subst c202
                  have H1 : (some false) = some r := by rw [if_neg (show ¬ (false = true) by decide)] at H; exact H
                  exact absurd (Option.some.inj H1) (by rw [hr.out]; decide)
              · rw [if_neg c200] at H
                have c200b0 : ((wrap64 (10 + (wrap64 (Int.tmod a1 3)))) == 12) = false := beq_eq_false_iff_ne.mpr c200
                have c200b1 : ((wrap64 (10 + (wrap64 (Int.tmod a1 3)))) != 12) = true := bne_iff_ne.mpr c200
                replace H := Option.bind_eq_some_iff.mp H
                obtain ⟨t144, A2060, H⟩ := H
                replace H : (if t144 = true then (if (t112 == (a0 == 45)) = true then (if t112 = true then (if t111 ≥ 178 then (some (decide (t111 ≤ 8334))) else (some false)) else (if t111 = 0 then (some true) else (some false))) else (some false)) else (some false)) = some r := H
                have A206 := Aside0.mk A2060
                clear A2060
                by_cases c207 : t144 = true
                · subst c207
                  have H1 : (if (t112 == (a0 == 45)) = true then (if t112 = true then (if t111 ≥ 178 then (some (decide (t111 ≤ 8334))) else (some false)) else (if t111 = 0 then (some true) else (some false))) else (some false)) = some r := by rw [if_pos rfl] at H; exact H
                  clear H
                  have H := H1
                  clear H1
                  by_cases c208 : (t112 == (a0 == 45)) = true
                  · rw [if_pos c208] at H
                    have c208b0 : (t112 == (a0 == 45)) = true := c208
                    (try (have c208b1 : decide (t112 = (a0 == 45)) = true := by simpa using c208))
                    (try (have c208b2 : (t112 == (a0 == 45)) = true := by simpa using c208))
                    clear c208
                    by_cases c209 : t112 = true
                    · subst c209
                      have H1 : (if t111 ≥ 178 then (some (decide (t111 ≤ 8334))) else (some false)) = some r := by rw [if_pos rfl] at H; exact H
                      clear H
                      have H := H1
                      clear H1
                      by_cases c210 : t111 ≥ 178
                      · rw [if_pos c210] at H
                        have c210b0 : decide (178 ≤ t111) = true := decide_eq_true c210
                        clear c210
                        obtain rfl := Option.some.inj H
                        go_enter Try.func4, Try.ntmps4
                        go_wp2_with (first | ((with_reducible refine gate_callee (f := 7) rfl ?_); refine goesL_ (some 20) rfl rfl Try.func7 (by kernel_rfl) rfl #[.int .i64 (wrap64 (10 + (wrap64 (Int.tmod a1 3)))), .int .i64 (wrap64 (a0))] rfl (by (try simp only [List.map_toArray, List.map_cons, List.map_nil]); first | done | rfl | (simp only [List.length_drop, List.length_take]; rfl)) ?_; (with_reducible refine (small_Rune.calls k (wrap64 (10 + (wrap64 (Int.tmod a1 3)))) (wrap64 (a0)) t111 true _ A3.out).mono ?_); rintro e w' ⟨rfl, ⟨nd, rfl⟩⟩; refine ⟨_, rfl, ?_⟩) | ((with_reducible refine gate_callee (f := 8) rfl ?_); refine goesL_ (some 56) rfl rfl Try.func8 (by kernel_rfl) rfl #[] rfl (by (try simp only [List.map_toArray, List.map_cons, List.map_nil]); first | done | rfl | (simp only [List.length_drop, List.length_take]; rfl)) ?_; (with_reducible refine (amanuensislaw11_answers.calls k  true _ A206.out).mono ?_); rintro e w' ⟨rfl, ⟨nd, rfl⟩⟩; refine ⟨_, rfl, ?_⟩))
                        go_ret
                        exact ⟨by first | rfl | (simp; done) | (simp [*]; done), by repeat (first | exact Drawn0.refl _ | apply Drawn0.step)⟩
                      · rw [if_neg c210] at H
                        exact absurd (Option.some.inj H) (by rw [hr.out]; decide)
                    · replace c209 := Bool.eq_false_iff.mpr c209
                      subst c209
                      have H1 : (if t111 = 0 then (some true) else (some false)) = some r := by rw [if_neg (show ¬ (false = true) by decide)] at H; exact H
                      clear H
                      have H := H1
                      clear H1
                      by_cases c211 : t111 = 0
                      · rw [if_pos c211] at H
                        have c211b0 : (t111 == 0) = true := beq_iff_eq.mpr c211
                        have c211b1 : (t111 != 0) = false := bne_eq_false_iff_eq.mpr c211
                        clear c211
                        obtain rfl := Option.some.inj H
                        go_enter Try.func4, Try.ntmps4
                        go_wp2_with (first | ((with_reducible refine gate_callee (f := 7) rfl ?_); refine goesL_ (some 20) rfl rfl Try.func7 (by kernel_rfl) rfl #[.int .i64 (wrap64 (10 + (wrap64 (Int.tmod a1 3)))), .int .i64 (wrap64 (a0))] rfl (by (try simp only [List.map_toArray, List.map_cons, List.map_nil]); first | done | rfl | (simp only [List.length_drop, List.length_take]; rfl)) ?_; (with_reducible refine (small_Rune.calls k (wrap64 (10 + (wrap64 (Int.tmod a1 3)))) (wrap64 (a0)) t111 false _ A3.out).mono ?_); rintro e w' ⟨rfl, ⟨nd, rfl⟩⟩; refine ⟨_, rfl, ?_⟩) | ((with_reducible refine gate_callee (f := 8) rfl ?_); refine goesL_ (some 56) rfl rfl Try.func8 (by kernel_rfl) rfl #[] rfl (by (try simp only [List.map_toArray, List.map_cons, List.map_nil]); first | done | rfl | (simp only [List.length_drop, List.length_take]; rfl)) ?_; (with_reducible refine (amanuensislaw11_answers.calls k  true _ A206.out).mono ?_); rintro e w' ⟨rfl, ⟨nd, rfl⟩⟩; refine ⟨_, rfl, ?_⟩))
                        go_ret
                        exact ⟨by first | rfl | (simp; done) | (simp [*]; done), by repeat (first | exact Drawn0.refl _ | apply Drawn0.step)⟩
                      · rw [if_neg c211] at H
                        exact absurd (Option.some.inj H) (by rw [hr.out]; decide)
                  · rw [if_neg c208] at H
                    exact absurd (Option.some.inj H) (by rw [hr.out]; decide)
                · replace c207 := Bool.eq_false_iff.mpr c207
                  subst c207
                  have H1 : (some false) = some r := by rw [if_neg (show ¬ (false = true) by decide)] at H; exact H
                  exact absurd (Option.some.inj H1) (by rw [hr.out]; decide)
  · rw [if_neg c4] at H
    have q4 := Aside0.mk c4
    have c4b0 : decide (48 ≤ a0) = false := decide_eq_false c4
    clear c4
    by_cases c212 : a0 = 40
    · rw [if_pos c212] at H
      have q212 := Aside0.mk c212
      have c212b0 : (a0 == 40) = true := beq_iff_eq.mpr c212
      have c212b1 : (a0 != 40) = false := bne_eq_false_iff_eq.mpr c212
      clear c212
      by_cases c213 : a0 ≥ 97
      · exfalso
        have := qv.out
        have := q4.out
        have := q212.out
        clear H
        omega
      · rw [if_neg c213] at H
        have q213 := Aside0.mk c213
        have c213b0 : decide (97 ≤ a0) = false := decide_eq_false c213
        clear c213
        by_cases c226 : (wrap64 (10 + (wrap64 (Int.tmod a1 3)))) = 12
        · rw [if_pos c226] at H
          have c226b0 : ((wrap64 (10 + (wrap64 (Int.tmod a1 3)))) == 12) = true := beq_iff_eq.mpr c226
          have c226b1 : ((wrap64 (10 + (wrap64 (Int.tmod a1 3)))) != 12) = false := bne_eq_false_iff_eq.mpr c226
          clear c226
          replace H := Option.bind_eq_some_iff.mp H
          obtain ⟨t147, A2270, H⟩ := H
          replace H : (if t147 = true then (if (t112 == false) = true then (if t112 = true then (some true) else (if t111 = 0 then (some true) else (some false))) else (some false)) else (some false)) = some r := H
          have A227 := Aside0.mk A2270
          clear A2270
          by_cases c228 : t147 = true
          · subst c228
            have H1 : (if (t112 == false) = true then (if t112 = true then (some true) else (if t111 = 0 then (some true) else (some false))) else (some false)) = some r := by rw [if_pos rfl] at H; exact H
            clear H
            have H := H1
            clear H1
            by_cases c229 : (t112 == false) = true
            · rw [if_pos c229] at H
              have c229b0 : (t112 == false) = true := c229
              (try (have c229b1 : decide (t112 = false) = true := by simpa using c229))
              (try (have c229b2 : (t112 == false) = true := by simpa using c229))
              clear c229
              by_cases c230 : t112 = true
              · subst c230
                have H1 : (some true) = some r := by rw [if_pos rfl] at H; exact H
                clear H
                have H := H1
                clear H1
                obtain rfl := Option.some.inj H
                go_enter Try.func4, Try.ntmps4
                go_wp2_with (first | ((with_reducible refine gate_callee (f := 7) rfl ?_); refine goesL_ (some 20) rfl rfl Try.func7 (by kernel_rfl) rfl #[.int .i64 (wrap64 (10 + (wrap64 (Int.tmod a1 3)))), .int .i64 (wrap64 (a0))] rfl (by (try simp only [List.map_toArray, List.map_cons, List.map_nil]); first | done | rfl | (simp only [List.length_drop, List.length_take]; rfl)) ?_; (with_reducible refine (small_Rune.calls k (wrap64 (10 + (wrap64 (Int.tmod a1 3)))) (wrap64 (a0)) t111 true _ A3.out).mono ?_); rintro e w' ⟨rfl, ⟨nd, rfl⟩⟩; refine ⟨_, rfl, ?_⟩) | ((with_reducible refine gate_callee (f := 8) rfl ?_); refine goesL_ (some 56) rfl rfl Try.func8 (by kernel_rfl) rfl #[] rfl (by (try simp only [List.map_toArray, List.map_cons, List.map_nil]); first | done | rfl | (simp only [List.length_drop, List.length_take]; rfl)) ?_; (with_reducible refine (amanuensislaw11_answers.calls k  true _ A227.out).mono ?_); rintro e w' ⟨rfl, ⟨nd, rfl⟩⟩; refine ⟨_, rfl, ?_⟩))
                go_ret
                exact ⟨by first | rfl | (simp; done) | (simp [*]; done), by repeat (first | exact Drawn0.refl _ | apply Drawn0.step)⟩
              · replace c230 := Bool.eq_false_iff.mpr c230
                subst c230
                have H1 : (if t111 = 0 then (some true) else (some false)) = some r := by rw [if_neg (show ¬ (false = true) by decide)] at H; exact H
                clear H
                have H := H1
                clear H1
                by_cases c231 : t111 = 0
                · rw [if_pos c231] at H
                  have c231b0 : (t111 == 0) = true := beq_iff_eq.mpr c231
                  have c231b1 : (t111 != 0) = false := bne_eq_false_iff_eq.mpr c231
                  clear c231
                  obtain rfl := Option.some.inj H
                  go_enter Try.func4, Try.ntmps4
                  go_wp2_with (first | ((with_reducible refine gate_callee (f := 7) rfl ?_); refine goesL_ (some 20) rfl rfl Try.func7 (by kernel_rfl) rfl #[.int .i64 (wrap64 (10 + (wrap64 (Int.tmod a1 3)))), .int .i64 (wrap64 (a0))] rfl (by (try simp only [List.map_toArray, List.map_cons, List.map_nil]); first | done | rfl | (simp only [List.length_drop, List.length_take]; rfl)) ?_; (with_reducible refine (small_Rune.calls k (wrap64 (10 + (wrap64 (Int.tmod a1 3)))) (wrap64 (a0)) t111 false _ A3.out).mono ?_); rintro e w' ⟨rfl, ⟨nd, rfl⟩⟩; refine ⟨_, rfl, ?_⟩) | ((with_reducible refine gate_callee (f := 8) rfl ?_); refine goesL_ (some 56) rfl rfl Try.func8 (by kernel_rfl) rfl #[] rfl (by (try simp only [List.map_toArray, List.map_cons, List.map_nil]); first | done | rfl | (simp only [List.length_drop, List.length_take]; rfl)) ?_; (with_reducible refine (amanuensislaw11_answers.calls k  true _ A227.out).mono ?_); rintro e w' ⟨rfl, ⟨nd, rfl⟩⟩; refine ⟨_, rfl, ?_⟩))
                  go_ret
                  exact ⟨by first | rfl | (simp; done) | (simp [*]; done), by repeat (first | exact Drawn0.refl _ | apply Drawn0.step)⟩
                · rw [if_neg c231] at H
                  exact absurd (Option.some.inj H) (by rw [hr.out]; decide)
            · rw [if_neg c229] at H
              exact absurd (Option.some.inj H) (by rw [hr.out]; decide)
          · replace c228 := Bool.eq_false_iff.mpr c228
            subst c228
            have H1 : (some false) = some r := by rw [if_neg (show ¬ (false = true) by decide)] at H; exact H
            exact absurd (Option.some.inj H1) (by rw [hr.out]; decide)
        · rw [if_neg c226] at H
          have c226b0 : ((wrap64 (10 + (wrap64 (Int.tmod a1 3)))) == 12) = false := beq_eq_false_iff_ne.mpr c226
          have c226b1 : ((wrap64 (10 + (wrap64 (Int.tmod a1 3)))) != 12) = true := bne_iff_ne.mpr c226
          replace H := Option.bind_eq_some_iff.mp H
          obtain ⟨t148, A2320, H⟩ := H
          replace H : (if t148 = true then (if (t112 == true) = true then (if t112 = true then (if t111 ≥ 178 then (some (decide (t111 ≤ 8334))) else (some false)) else (if t111 = 0 then (some true) else (some false))) else (some false)) else (some false)) = some r := H
          have A232 := Aside0.mk A2320
          clear A2320
          by_cases c233 : t148 = true
          · subst c233
            have H1 : (if (t112 == true) = true then (if t112 = true then (if t111 ≥ 178 then (some (decide (t111 ≤ 8334))) else (some false)) else (if t111 = 0 then (some true) else (some false))) else (some false)) = some r := by rw [if_pos rfl] at H; exact H
            clear H
            have H := H1
            clear H1
            by_cases c234 : (t112 == true) = true
            · rw [if_pos c234] at H
              have c234b0 : (t112 == true) = true := c234
              (try (have c234b1 : decide (t112 = true) = true := by simpa using c234))
              (try (have c234b2 : (t112 == true) = true := by simpa using c234))
              clear c234
              by_cases c235 : t112 = true
              · subst c235
                have H1 : (if t111 ≥ 178 then (some (decide (t111 ≤ 8334))) else (some false)) = some r := by rw [if_pos rfl] at H; exact H
                clear H
                have H := H1
                clear H1
                by_cases c236 : t111 ≥ 178
                · rw [if_pos c236] at H
                  have c236b0 : decide (178 ≤ t111) = true := decide_eq_true c236
                  clear c236
                  obtain rfl := Option.some.inj H
                  go_enter Try.func4, Try.ntmps4
                  go_wp2_with (first | ((with_reducible refine gate_callee (f := 7) rfl ?_); refine goesL_ (some 20) rfl rfl Try.func7 (by kernel_rfl) rfl #[.int .i64 (wrap64 (10 + (wrap64 (Int.tmod a1 3)))), .int .i64 (wrap64 (a0))] rfl (by (try simp only [List.map_toArray, List.map_cons, List.map_nil]); first | done | rfl | (simp only [List.length_drop, List.length_take]; rfl)) ?_; (with_reducible refine (small_Rune.calls k (wrap64 (10 + (wrap64 (Int.tmod a1 3)))) (wrap64 (a0)) t111 true _ A3.out).mono ?_); rintro e w' ⟨rfl, ⟨nd, rfl⟩⟩; refine ⟨_, rfl, ?_⟩) | ((with_reducible refine gate_callee (f := 8) rfl ?_); refine goesL_ (some 56) rfl rfl Try.func8 (by kernel_rfl) rfl #[] rfl (by (try simp only [List.map_toArray, List.map_cons, List.map_nil]); first | done | rfl | (simp only [List.length_drop, List.length_take]; rfl)) ?_; (with_reducible refine (amanuensislaw11_answers.calls k  true _ A232.out).mono ?_); rintro e w' ⟨rfl, ⟨nd, rfl⟩⟩; refine ⟨_, rfl, ?_⟩))
                  go_ret
                  exact ⟨by first | rfl | (simp; done) | (simp [*]; done), by repeat (first | exact Drawn0.refl _ | apply Drawn0.step)⟩
                · rw [if_neg c236] at H
                  exact absurd (Option.some.inj H) (by rw [hr.out]; decide)
              · replace c235 := Bool.eq_false_iff.mpr c235
                subst c235
                have H1 : (if t111 = 0 then (some true) else (some false)) = some r := by rw [if_neg (show ¬ (false = true) by decide)] at H; exact H
                clear H
                have H := H1
                clear H1
                by_cases c237 : t111 = 0
                · rw [if_pos c237] at H
                  have c237b0 : (t111 == 0) = true := beq_iff_eq.mpr c237
                  have c237b1 : (t111 != 0) = false := bne_eq_false_iff_eq.mpr c237
                  clear c237
                  obtain rfl := Option.some.inj H
                  go_enter Try.func4, Try.ntmps4
                  go_wp2_with (first | ((with_reducible refine gate_callee (f := 7) rfl ?_); refine goesL_ (some 20) rfl rfl Try.func7 (by kernel_rfl) rfl #[.int .i64 (wrap64 (10 + (wrap64 (Int.tmod a1 3)))), .int .i64 (wrap64 (a0))] rfl (by (try simp only [List.map_toArray, List.map_cons, List.map_nil]); first | done | rfl | (simp only [List.length_drop, List.length_take]; rfl)) ?_; (with_reducible refine (small_Rune.calls k (wrap64 (10 + (wrap64 (Int.tmod a1 3)))) (wrap64 (a0)) t111 false _ A3.out).mono ?_); rintro e w' ⟨rfl, ⟨nd, rfl⟩⟩; refine ⟨_, rfl, ?_⟩) | ((with_reducible refine gate_callee (f := 8) rfl ?_); refine goesL_ (some 56) rfl rfl Try.func8 (by kernel_rfl) rfl #[] rfl (by (try simp only [List.map_toArray, List.map_cons, List.map_nil]); first | done | rfl | (simp only [List.length_drop, List.length_take]; rfl)) ?_; (with_reducible refine (amanuensislaw11_answers.calls k  true _ A232.out).mono ?_); rintro e w' ⟨rfl, ⟨nd, rfl⟩⟩; refine ⟨_, rfl, ?_⟩))
                  go_ret
                  exact ⟨by first | rfl | (simp; done) | (simp [*]; done), by repeat (first | exact Drawn0.refl _ | apply Drawn0.step)⟩
                · rw [if_neg c237] at H
                  exact absurd (Option.some.inj H) (by rw [hr.out]; decide)
            · rw [if_neg c234] at H
              exact absurd (Option.some.inj H) (by rw [hr.out]; decide)
          · replace c233 := Bool.eq_false_iff.mpr c233
            subst c233
            have H1 : (some false) = some r := by rw [if_neg (show ¬ (false = true) by decide)] at H; exact H
            exact absurd (Option.some.inj H1) (by rw [hr.out]; decide)
    · rw [if_neg c212] at H
      have q212 := Aside0.mk c212
      have c212b0 : (a0 == 40) = false := beq_eq_false_iff_ne.mpr c212
      have c212b1 : (a0 != 40) = true := bne_iff_ne.mpr c212
      by_cases c238 : a0 = 41
      · rw [if_pos c238] at H
        have q238 := Aside0.mk c238
        have c238b0 : (a0 == 41) = true := beq_iff_eq.mpr c238
        have c238b1 : (a0 != 41) = false := bne_eq_false_iff_eq.mpr c238
        clear c238
        by_cases c239 : a0 ≥ 97
        · exfalso
          have := qv.out
          have := q4.out
          have := q212.out
          have := q238.out
          clear H
          omega
        · rw [if_neg c239] at H
          have q239 := Aside0.mk c239
          have c239b0 : decide (97 ≤ a0) = false := decide_eq_false c239
          clear c239
          by_cases c252 : (wrap64 (10 + (wrap64 (Int.tmod a1 3)))) = 12
          · rw [if_pos c252] at H
            have c252b0 : ((wrap64 (10 + (wrap64 (Int.tmod a1 3)))) == 12) = true := beq_iff_eq.mpr c252
            have c252b1 : ((wrap64 (10 + (wrap64 (Int.tmod a1 3)))) != 12) = false := bne_eq_false_iff_eq.mpr c252
            clear c252
            replace H := Option.bind_eq_some_iff.mp H
            obtain ⟨t151, A2530, H⟩ := H
            replace H : (if t151 = true then (if (t112 == false) = true then (if t112 = true then (some true) else (if t111 = 0 then (some true) else (some false))) else (some false)) else (some false)) = some r := H
            have A253 := Aside0.mk A2530
            clear A2530
            by_cases c254 : t151 = true
            · subst c254
              have H1 : (if (t112 == false) = true then (if t112 = true then (some true) else (if t111 = 0 then (some true) else (some false))) else (some false)) = some r := by rw [if_pos rfl] at H; exact H
              clear H
              have H := H1
              clear H1
              by_cases c255 : (t112 == false) = true
              · rw [if_pos c255] at H
                have c255b0 : (t112 == false) = true := c255
                (try (have c255b1 : decide (t112 = false) = true := by simpa using c255))
                (try (have c255b2 : (t112 == false) = true := by simpa using c255))
                clear c255
                by_cases c256 : t112 = true
                · subst c256
                  have H1 : (some true) = some r := by rw [if_pos rfl] at H; exact H
                  clear H
                  have H := H1
                  clear H1
                  obtain rfl := Option.some.inj H
                  go_enter Try.func4, Try.ntmps4
                  go_wp2_with (first | ((with_reducible refine gate_callee (f := 7) rfl ?_); refine goesL_ (some 20) rfl rfl Try.func7 (by kernel_rfl) rfl #[.int .i64 (wrap64 (10 + (wrap64 (Int.tmod a1 3)))), .int .i64 (wrap64 (a0))] rfl (by (try simp only [List.map_toArray, List.map_cons, List.map_nil]); first | done | rfl | (simp only [List.length_drop, List.length_take]; rfl)) ?_; (with_reducible refine (small_Rune.calls k (wrap64 (10 + (wrap64 (Int.tmod a1 3)))) (wrap64 (a0)) t111 true _ A3.out).mono ?_); rintro e w' ⟨rfl, ⟨nd, rfl⟩⟩; refine ⟨_, rfl, ?_⟩) | ((with_reducible refine gate_callee (f := 8) rfl ?_); refine goesL_ (some 56) rfl rfl Try.func8 (by kernel_rfl) rfl #[] rfl (by (try simp only [List.map_toArray, List.map_cons, List.map_nil]); first | done | rfl | (simp only [List.length_drop, List.length_take]; rfl)) ?_; (with_reducible refine (amanuensislaw11_answers.calls k  true _ A253.out).mono ?_); rintro e w' ⟨rfl, ⟨nd, rfl⟩⟩; refine ⟨_, rfl, ?_⟩))
                  go_ret
                  exact ⟨by first | rfl | (simp; done) | (simp [*]; done), by repeat (first | exact Drawn0.refl _ | apply Drawn0.step)⟩
                · replace c256 := Bool.eq_false_iff.mpr c256
                  subst c256
                  have H1 : (if t111 = 0 then (some true) else (some false)) = some r := by rw [if_neg (show ¬ (false = true) by decide)] at H; exact H
                  clear H
                  have H := H1
                  clear H1
                  by_cases c257 : t111 = 0
                  · rw [if_pos c257] at H
                    have c257b0 : (t111 == 0) = true := beq_iff_eq.mpr c257
                    have c257b1 : (t111 != 0) = false := bne_eq_false_iff_eq.mpr c257
                    clear c257
                    obtain rfl := Option.some.inj H
                    go_enter Try.func4, Try.ntmps4
                    go_wp2_with (first | ((with_reducible refine gate_callee (f := 7) rfl ?_); refine goesL_ (some 20) rfl rfl Try.func7 (by kernel_rfl) rfl #[.int .i64 (wrap64 (10 + (wrap64 (Int.tmod a1 3)))), .int .i64 (wrap64 (a0))] rfl (by (try simp only [List.map_toArray, List.map_cons, List.map_nil]); first | done | rfl | (simp only [List.length_drop, List.length_take]; rfl)) ?_; (with_reducible refine (small_Rune.calls k (wrap64 (10 + (wrap64 (Int.tmod a1 3)))) (wrap64 (a0)) t111 false _ A3.out).mono ?_); rintro e w' ⟨rfl, ⟨nd, rfl⟩⟩; refine ⟨_, rfl, ?_⟩) | ((with_reducible refine gate_callee (f := 8) rfl ?_); refine goesL_ (some 56) rfl rfl Try.func8 (by kernel_rfl) rfl #[] rfl (by (try simp only [List.map_toArray, List.map_cons, List.map_nil]); first | done | rfl | (simp only [List.length_drop, List.length_take]; rfl)) ?_; (with_reducible refine (amanuensislaw11_answers.calls k  true _ A253.out).mono ?_); rintro e w' ⟨rfl, ⟨nd, rfl⟩⟩; refine ⟨_, rfl, ?_⟩))
                    go_ret
                    exact ⟨by first | rfl | (simp; done) | (simp [*]; done), by repeat (first | exact Drawn0.refl _ | apply Drawn0.step)⟩
                  · rw [if_neg c257] at H
                    exact absurd (Option.some.inj H) (by rw [hr.out]; decide)
              · rw [if_neg c255] at H
                exact absurd (Option.some.inj H) (by rw [hr.out]; decide)
            · replace c254 := Bool.eq_false_iff.mpr c254
              subst c254
              have H1 : (some false) = some r := by rw [if_neg (show ¬ (false = true) by decide)] at H; exact H
              exact absurd (Option.some.inj H1) (by rw [hr.out]; decide)
          · rw [if_neg c252] at H
            have c252b0 : ((wrap64 (10 + (wrap64 (Int.tmod a1 3)))) == 12) = false := beq_eq_false_iff_ne.mpr c252
            have c252b1 : ((wrap64 (10 + (wrap64 (Int.tmod a1 3)))) != 12) = true := bne_iff_ne.mpr c252
            replace H := Option.bind_eq_some_iff.mp H
            obtain ⟨t152, A2580, H⟩ := H
            replace H : (if t152 = true then (if (t112 == true) = true then (if t112 = true then (if t111 ≥ 178 then (some (decide (t111 ≤ 8334))) else (some false)) else (if t111 = 0 then (some true) else (some false))) else (some false)) else (some false)) = some r := H
            have A258 := Aside0.mk A2580
            clear A2580
            by_cases c259 : t152 = true
            · subst c259
              have H1 : (if (t112 == true) = true then (if t112 = true then (if t111 ≥ 178 then (some (decide (t111 ≤ 8334))) else (some false)) else (if t111 = 0 then (some true) else (some false))) else (some false)) = some r := by rw [if_pos rfl] at H; exact H
              clear H
              have H := H1
              clear H1
              by_cases c260 : (t112 == true) = true
              · rw [if_pos c260] at H
                have c260b0 : (t112 == true) = true := c260
                (try (have c260b1 : decide (t112 = true) = true := by simpa using c260))
                (try (have c260b2 : (t112 == true) = true := by simpa using c260))
                clear c260
                by_cases c261 : t112 = true
                · subst c261
                  have H1 : (if t111 ≥ 178 then (some (decide (t111 ≤ 8334))) else (some false)) = some r := by rw [if_pos rfl] at H; exact H
                  clear H
                  have H := H1
                  clear H1
                  by_cases c262 : t111 ≥ 178
                  · rw [if_pos c262] at H
                    have c262b0 : decide (178 ≤ t111) = true := decide_eq_true c262
                    clear c262
                    obtain rfl := Option.some.inj H
                    go_enter Try.func4, Try.ntmps4
                    go_wp2_with (first | ((with_reducible refine gate_callee (f := 7) rfl ?_); refine goesL_ (some 20) rfl rfl Try.func7 (by kernel_rfl) rfl #[.int .i64 (wrap64 (10 + (wrap64 (Int.tmod a1 3)))), .int .i64 (wrap64 (a0))] rfl (by (try simp only [List.map_toArray, List.map_cons, List.map_nil]); first | done | rfl | (simp only [List.length_drop, List.length_take]; rfl)) ?_; (with_reducible refine (small_Rune.calls k (wrap64 (10 + (wrap64 (Int.tmod a1 3)))) (wrap64 (a0)) t111 true _ A3.out).mono ?_); rintro e w' ⟨rfl, ⟨nd, rfl⟩⟩; refine ⟨_, rfl, ?_⟩) | ((with_reducible refine gate_callee (f := 8) rfl ?_); refine goesL_ (some 56) rfl rfl Try.func8 (by kernel_rfl) rfl #[] rfl (by (try simp only [List.map_toArray, List.map_cons, List.map_nil]); first | done | rfl | (simp only [List.length_drop, List.length_take]; rfl)) ?_; (with_reducible refine (amanuensislaw11_answers.calls k  true _ A258.out).mono ?_); rintro e w' ⟨rfl, ⟨nd, rfl⟩⟩; refine ⟨_, rfl, ?_⟩))
                    go_ret
                    exact ⟨by first | rfl | (simp; done) | (simp [*]; done), by repeat (first | exact Drawn0.refl _ | apply Drawn0.step)⟩
                  · rw [if_neg c262] at H
                    exact absurd (Option.some.inj H) (by rw [hr.out]; decide)
                · replace c261 := Bool.eq_false_iff.mpr c261
                  subst c261
                  have H1 : (if t111 = 0 then (some true) else (some false)) = some r := by rw [if_neg (show ¬ (false = true) by decide)] at H; exact H
                  clear H
                  have H := H1
                  clear H1
                  by_cases c263 : t111 = 0
                  · rw [if_pos c263] at H
                    have c263b0 : (t111 == 0) = true := beq_iff_eq.mpr c263
                    have c263b1 : (t111 != 0) = false := bne_eq_false_iff_eq.mpr c263
                    clear c263
                    obtain rfl := Option.some.inj H
                    go_enter Try.func4, Try.ntmps4
                    go_wp2_with (first | ((with_reducible refine gate_callee (f := 7) rfl ?_); refine goesL_ (some 20) rfl rfl Try.func7 (by kernel_rfl) rfl #[.int .i64 (wrap64 (10 + (wrap64 (Int.tmod a1 3)))), .int .i64 (wrap64 (a0))] rfl (by (try simp only [List.map_toArray, List.map_cons, List.map_nil]); first | done | rfl | (simp only [List.length_drop, List.length_take]; rfl)) ?_; (with_reducible refine (small_Rune.calls k (wrap64 (10 + (wrap64 (Int.tmod a1 3)))) (wrap64 (a0)) t111 false _ A3.out).mono ?_); rintro e w' ⟨rfl, ⟨nd, rfl⟩⟩; refine ⟨_, rfl, ?_⟩) | ((with_reducible refine gate_callee (f := 8) rfl ?_); refine goesL_ (some 56) rfl rfl Try.func8 (by kernel_rfl) rfl #[] rfl (by (try simp only [List.map_toArray, List.map_cons, List.map_nil]); first | done | rfl | (simp only [List.length_drop, List.length_take]; rfl)) ?_; (with_reducible refine (amanuensislaw11_answers.calls k  true _ A258.out).mono ?_); rintro e w' ⟨rfl, ⟨nd, rfl⟩⟩; refine ⟨_, rfl, ?_⟩))
                    go_ret
                    exact ⟨by first | rfl | (simp; done) | (simp [*]; done), by repeat (first | exact Drawn0.refl _ | apply Drawn0.step)⟩
                  · rw [if_neg c263] at H
                    exact absurd (Option.some.inj H) (by rw [hr.out]; decide)
              · rw [if_neg c260] at H
                exact absurd (Option.some.inj H) (by rw [hr.out]; decide)
            · replace c259 := Bool.eq_false_iff.mpr c259
              subst c259
              have H1 : (some false) = some r := by rw [if_neg (show ¬ (false = true) by decide)] at H; exact H
              exact absurd (Option.some.inj H1) (by rw [hr.out]; decide)
      · rw [if_neg c238] at H
        have q238 := Aside0.mk c238
        have c238b0 : (a0 == 41) = false := beq_eq_false_iff_ne.mpr c238
        have c238b1 : (a0 != 41) = true := bne_iff_ne.mpr c238
        by_cases c264 : a0 = 43
        · rw [if_pos c264] at H
          have q264 := Aside0.mk c264
          have c264b0 : (a0 == 43) = true := beq_iff_eq.mpr c264
          have c264b1 : (a0 != 43) = false := bne_eq_false_iff_eq.mpr c264
          clear c264
          by_cases c265 : a0 ≥ 97
          · exfalso
            have := qv.out
            have := q4.out
            have := q212.out
            have := q238.out
            have := q264.out
            clear H
            omega
          · rw [if_neg c265] at H
            have q265 := Aside0.mk c265
            have c265b0 : decide (97 ≤ a0) = false := decide_eq_false c265
            clear c265
            by_cases c278 : (wrap64 (10 + (wrap64 (Int.tmod a1 3)))) = 12
            · rw [if_pos c278] at H
              have c278b0 : ((wrap64 (10 + (wrap64 (Int.tmod a1 3)))) == 12) = true := beq_iff_eq.mpr c278
              have c278b1 : ((wrap64 (10 + (wrap64 (Int.tmod a1 3)))) != 12) = false := bne_eq_false_iff_eq.mpr c278
              clear c278
              replace H := Option.bind_eq_some_iff.mp H
              obtain ⟨t155, A2790, H⟩ := H
              replace H : (if t155 = true then (if (t112 == false) = true then (if t112 = true then (some true) else (if t111 = 0 then (some true) else (some false))) else (some false)) else (some false)) = some r := H
              have A279 := Aside0.mk A2790
              clear A2790
              by_cases c280 : t155 = true
              · subst c280
                have H1 : (if (t112 == false) = true then (if t112 = true then (some true) else (if t111 = 0 then (some true) else (some false))) else (some false)) = some r := by rw [if_pos rfl] at H; exact H
                clear H
                have H := H1
                clear H1
                by_cases c281 : (t112 == false) = true
                · rw [if_pos c281] at H
                  have c281b0 : (t112 == false) = true := c281
                  (try (have c281b1 : decide (t112 = false) = true := by simpa using c281))
                  (try (have c281b2 : (t112 == false) = true := by simpa using c281))
                  clear c281
                  by_cases c282 : t112 = true
                  · subst c282
                    have H1 : (some true) = some r := by rw [if_pos rfl] at H; exact H
                    clear H
                    have H := H1
                    clear H1
                    obtain rfl := Option.some.inj H
                    go_enter Try.func4, Try.ntmps4
                    go_wp2_with (first | ((with_reducible refine gate_callee (f := 7) rfl ?_); refine goesL_ (some 20) rfl rfl Try.func7 (by kernel_rfl) rfl #[.int .i64 (wrap64 (10 + (wrap64 (Int.tmod a1 3)))), .int .i64 (wrap64 (a0))] rfl (by (try simp only [List.map_toArray, List.map_cons, List.map_nil]); first | done | rfl | (simp only [List.length_drop, List.length_take]; rfl)) ?_; (with_reducible refine (small_Rune.calls k (wrap64 (10 + (wrap64 (Int.tmod a1 3)))) (wrap64 (a0)) t111 true _ A3.out).mono ?_); rintro e w' ⟨rfl, ⟨nd, rfl⟩⟩; refine ⟨_, rfl, ?_⟩) | ((with_reducible refine gate_callee (f := 8) rfl ?_); refine goesL_ (some 56) rfl rfl Try.func8 (by kernel_rfl) rfl #[] rfl (by (try simp only [List.map_toArray, List.map_cons, List.map_nil]); first | done | rfl | (simp only [List.length_drop, List.length_take]; rfl)) ?_; (with_reducible refine (amanuensislaw11_answers.calls k  true _ A279.out).mono ?_); rintro e w' ⟨rfl, ⟨nd, rfl⟩⟩; refine ⟨_, rfl, ?_⟩))
                    go_ret
                    exact ⟨by first | rfl | (simp; done) | (simp [*]; done), by repeat (first | exact Drawn0.refl _ | apply Drawn0.step)⟩
                  · replace c282 := Bool.eq_false_iff.mpr c282
                    subst c282
                    have H1 : (if t111 = 0 then (some true) else (some false)) = some r := by rw [if_neg (show ¬ (false = true) by decide)] at H; exact H
                    clear H
                    have H := H1
                    clear H1
                    by_cases c283 : t111 = 0
                    · rw [if_pos c283] at H
                      have c283b0 : (t111 == 0) = true := beq_iff_eq.mpr c283
                      have c283b1 : (t111 != 0) = false := bne_eq_false_iff_eq.mpr c283
                      clear c283
                      obtain rfl := Option.some.inj H
                      go_enter Try.func4, Try.ntmps4
                      go_wp2_with (first | ((with_reducible refine gate_callee (f := 7) rfl ?_); refine goesL_ (some 20) rfl rfl Try.func7 (by kernel_rfl) rfl #[.int .i64 (wrap64 (10 + (wrap64 (Int.tmod a1 3)))), .int .i64 (wrap64 (a0))] rfl (by (try simp only [List.map_toArray, List.map_cons, List.map_nil]); first | done | rfl | (simp only [List.length_drop, List.length_take]; rfl)) ?_; (with_reducible refine (small_Rune.calls k (wrap64 (10 + (wrap64 (Int.tmod a1 3)))) (wrap64 (a0)) t111 false _ A3.out).mono ?_); rintro e w' ⟨rfl, ⟨nd, rfl⟩⟩; refine ⟨_, rfl, ?_⟩) | ((with_reducible refine gate_callee (f := 8) rfl ?_); refine goesL_ (some 56) rfl rfl Try.func8 (by kernel_rfl) rfl #[] rfl (by (try simp only [List.map_toArray, List.map_cons, List.map_nil]); first | done | rfl | (simp only [List.length_drop, List.length_take]; rfl)) ?_; (with_reducible refine (amanuensislaw11_answers.calls k  true _ A279.out).mono ?_); rintro e w' ⟨rfl, ⟨nd, rfl⟩⟩; refine ⟨_, rfl, ?_⟩))
                      go_ret
                      exact ⟨by first | rfl | (simp; done) | (simp [*]; done), by repeat (first | exact Drawn0.refl _ | apply Drawn0.step)⟩
                    · rw [if_neg c283] at H
                      exact absurd (Option.some.inj H) (by rw [hr.out]; decide)
                · rw [if_neg c281] at H
                  exact absurd (Option.some.inj H) (by rw [hr.out]; decide)
              · replace c280 := Bool.eq_false_iff.mpr c280
                subst c280
                have H1 : (some false) = some r := by rw [if_neg (show ¬ (false = true) by decide)] at H; exact H
                exact absurd (Option.some.inj H1) (by rw [hr.out]; decide)
            · rw [if_neg c278] at H
              have c278b0 : ((wrap64 (10 + (wrap64 (Int.tmod a1 3)))) == 12) = false := beq_eq_false_iff_ne.mpr c278
              have c278b1 : ((wrap64 (10 + (wrap64 (Int.tmod a1 3)))) != 12) = true := bne_iff_ne.mpr c278
              replace H := Option.bind_eq_some_iff.mp H
              obtain ⟨t156, A2840, H⟩ := H
              replace H : (if t156 = true then (if (t112 == true) = true then (if t112 = true then (if t111 ≥ 178 then (some (decide (t111 ≤ 8334))) else (some false)) else (if t111 = 0 then (some true) else (some false))) else (some false)) else (some false)) = some r := H
              have A284 := Aside0.mk A2840
              clear A2840
              by_cases c285 : t156 = true
              · subst c285
                have H1 : (if (t112 == true) = true then (if t112 = true then (if t111 ≥ 178 then (some (decide (t111 ≤ 8334))) else (some false)) else (if t111 = 0 then (some true) else (some false))) else (some false)) = some r := by rw [if_pos rfl] at H; exact H
                clear H
                have H := H1
                clear H1
                by_cases c286 : (t112 == true) = true
                · rw [if_pos c286] at H
                  have c286b0 : (t112 == true) = true := c286
                  (try (have c286b1 : decide (t112 = true) = true := by simpa using c286))
                  (try (have c286b2 : (t112 == true) = true := by simpa using c286))
                  clear c286
                  by_cases c287 : t112 = true
                  · subst c287
                    have H1 : (if t111 ≥ 178 then (some (decide (t111 ≤ 8334))) else (some false)) = some r := by rw [if_pos rfl] at H; exact H
                    clear H
                    have H := H1
                    clear H1
                    by_cases c288 : t111 ≥ 178
                    · rw [if_pos c288] at H
                      have c288b0 : decide (178 ≤ t111) = true := decide_eq_true c288
                      clear c288
                      obtain rfl := Option.some.inj H
                      go_enter Try.func4, Try.ntmps4
                      go_wp2_with (first | ((with_reducible refine gate_callee (f := 7) rfl ?_); refine goesL_ (some 20) rfl rfl Try.func7 (by kernel_rfl) rfl #[.int .i64 (wrap64 (10 + (wrap64 (Int.tmod a1 3)))), .int .i64 (wrap64 (a0))] rfl (by (try simp only [List.map_toArray, List.map_cons, List.map_nil]); first | done | rfl | (simp only [List.length_drop, List.length_take]; rfl)) ?_; (with_reducible refine (small_Rune.calls k (wrap64 (10 + (wrap64 (Int.tmod a1 3)))) (wrap64 (a0)) t111 true _ A3.out).mono ?_); rintro e w' ⟨rfl, ⟨nd, rfl⟩⟩; refine ⟨_, rfl, ?_⟩) | ((with_reducible refine gate_callee (f := 8) rfl ?_); refine goesL_ (some 56) rfl rfl Try.func8 (by kernel_rfl) rfl #[] rfl (by (try simp only [List.map_toArray, List.map_cons, List.map_nil]); first | done | rfl | (simp only [List.length_drop, List.length_take]; rfl)) ?_; (with_reducible refine (amanuensislaw11_answers.calls k  true _ A284.out).mono ?_); rintro e w' ⟨rfl, ⟨nd, rfl⟩⟩; refine ⟨_, rfl, ?_⟩))
                      go_ret
                      exact ⟨by first | rfl | (simp; done) | (simp [*]; done), by repeat (first | exact Drawn0.refl _ | apply Drawn0.step)⟩
                    · rw [if_neg c288] at H
                      exact absurd (Option.some.inj H) (by rw [hr.out]; decide)
                  · replace c287 := Bool.eq_false_iff.mpr c287
                    subst c287
                    have H1 : (if t111 = 0 then (some true) else (some false)) = some r := by rw [if_neg (show ¬ (false = true) by decide)] at H; exact H
                    clear H
                    have H := H1
                    clear H1
                    by_cases c289 : t111 = 0
                    · rw [if_pos c289] at H
                      have c289b0 : (t111 == 0) = true := beq_iff_eq.mpr c289
                      have c289b1 : (t111 != 0) = false := bne_eq_false_iff_eq.mpr c289
                      clear c289
                      obtain rfl := Option.some.inj H
                      go_enter Try.func4, Try.ntmps4
                      go_wp2_with (first | ((with_reducible refine gate_callee (f := 7) rfl ?_); refine goesL_ (some 20) rfl rfl Try.func7 (by kernel_rfl) rfl #[.int .i64 (wrap64 (10 + (wrap64 (Int.tmod a1 3)))), .int .i64 (wrap64 (a0))] rfl (by (try simp only [List.map_toArray, List.map_cons, List.map_nil]); first | done | rfl | (simp only [List.length_drop, List.length_take]; rfl)) ?_; (with_reducible refine (small_Rune.calls k (wrap64 (10 + (wrap64 (Int.tmod a1 3)))) (wrap64 (a0)) t111 false _ A3.out).mono ?_); rintro e w' ⟨rfl, ⟨nd, rfl⟩⟩; refine ⟨_, rfl, ?_⟩) | ((with_reducible refine gate_callee (f := 8) rfl ?_); refine goesL_ (some 56) rfl rfl Try.func8 (by kernel_rfl) rfl #[] rfl (by (try simp only [List.map_toArray, List.map_cons, List.map_nil]); first | done | rfl | (simp only [List.length_drop, List.length_take]; rfl)) ?_; (with_reducible refine (amanuensislaw11_answers.calls k  true _ A284.out).mono ?_); rintro e w' ⟨rfl, ⟨nd, rfl⟩⟩; refine ⟨_, rfl, ?_⟩))
                      go_ret
                      exact ⟨by first | rfl | (simp; done) | (simp [*]; done), by repeat (first | exact Drawn0.refl _ | apply Drawn0.step)⟩
                    · rw [if_neg c289] at H
                      exact absurd (Option.some.inj H) (by rw [hr.out]; decide)
                · rw [if_neg c286] at H
                  exact absurd (Option.some.inj H) (by rw [hr.out]; decide)
              · replace c285 := Bool.eq_false_iff.mpr c285
                subst c285
                have H1 : (some false) = some r := by rw [if_neg (show ¬ (false = true) by decide)] at H; exact H
                exact absurd (Option.some.inj H1) (by rw [hr.out]; decide)
        · rw [if_neg c264] at H
          have q264 := Aside0.mk c264
          have c264b0 : (a0 == 43) = false := beq_eq_false_iff_ne.mpr c264
          have c264b1 : (a0 != 43) = true := bne_iff_ne.mpr c264
          by_cases c290 : a0 ≥ 97
          · exfalso
            have := qv.out
            have := q4.out
            have := q212.out
            have := q238.out
            have := q264.out
            clear H
            omega
          · rw [if_neg c290] at H
            have q290 := Aside0.mk c290
            have c290b0 : decide (97 ≤ a0) = false := decide_eq_false c290
            clear c290
            by_cases c303 : (wrap64 (10 + (wrap64 (Int.tmod a1 3)))) = 12
            · rw [if_pos c303] at H
              have c303b0 : ((wrap64 (10 + (wrap64 (Int.tmod a1 3)))) == 12) = true := beq_iff_eq.mpr c303
              have c303b1 : ((wrap64 (10 + (wrap64 (Int.tmod a1 3)))) != 12) = false := bne_eq_false_iff_eq.mpr c303
              clear c303
              replace H := Option.bind_eq_some_iff.mp H
              obtain ⟨t159, A3040, H⟩ := H
              replace H : (if t159 = true then (if (t112 == false) = true then (if t112 = true then (some true) else (if t111 = 0 then (some true) else (some false))) else (some false)) else (some false)) = some r := H
              have A304 := Aside0.mk A3040
              clear A3040
              by_cases c305 : t159 = true
              · subst c305
                have H1 : (if (t112 == false) = true then (if t112 = true then (some true) else (if t111 = 0 then (some true) else (some false))) else (some false)) = some r := by rw [if_pos rfl] at H; exact H
                clear H
                have H := H1
                clear H1
                by_cases c306 : (t112 == false) = true
                · rw [if_pos c306] at H
                  have c306b0 : (t112 == false) = true := c306
                  (try (have c306b1 : decide (t112 = false) = true := by simpa using c306))
                  (try (have c306b2 : (t112 == false) = true := by simpa using c306))
                  clear c306
                  by_cases c307 : t112 = true
                  · subst c307
                    have H1 : (some true) = some r := by rw [if_pos rfl] at H; exact H
                    clear H
                    have H := H1
                    clear H1
                    obtain rfl := Option.some.inj H
                    go_enter Try.func4, Try.ntmps4
                    go_wp2_with (first | ((with_reducible refine gate_callee (f := 7) rfl ?_); refine goesL_ (some 20) rfl rfl Try.func7 (by kernel_rfl) rfl #[.int .i64 (wrap64 (10 + (wrap64 (Int.tmod a1 3)))), .int .i64 (wrap64 (a0))] rfl (by (try simp only [List.map_toArray, List.map_cons, List.map_nil]); first | done | rfl | (simp only [List.length_drop, List.length_take]; rfl)) ?_; (with_reducible refine (small_Rune.calls k (wrap64 (10 + (wrap64 (Int.tmod a1 3)))) (wrap64 (a0)) t111 true _ A3.out).mono ?_); rintro e w' ⟨rfl, ⟨nd, rfl⟩⟩; refine ⟨_, rfl, ?_⟩) | ((with_reducible refine gate_callee (f := 8) rfl ?_); refine goesL_ (some 56) rfl rfl Try.func8 (by kernel_rfl) rfl #[] rfl (by (try simp only [List.map_toArray, List.map_cons, List.map_nil]); first | done | rfl | (simp only [List.length_drop, List.length_take]; rfl)) ?_; (with_reducible refine (amanuensislaw11_answers.calls k  true _ A304.out).mono ?_); rintro e w' ⟨rfl, ⟨nd, rfl⟩⟩; refine ⟨_, rfl, ?_⟩))
                    go_ret
                    exact ⟨by first | rfl | (simp; done) | (simp [*]; done), by repeat (first | exact Drawn0.refl _ | apply Drawn0.step)⟩
                  · replace c307 := Bool.eq_false_iff.mpr c307
                    subst c307
                    have H1 : (if t111 = 0 then (some true) else (some false)) = some r := by rw [if_neg (show ¬ (false = true) by decide)] at H; exact H
                    clear H
                    have H := H1
                    clear H1
                    by_cases c308 : t111 = 0
                    · rw [if_pos c308] at H
                      have c308b0 : (t111 == 0) = true := beq_iff_eq.mpr c308
                      have c308b1 : (t111 != 0) = false := bne_eq_false_iff_eq.mpr c308
                      clear c308
                      obtain rfl := Option.some.inj H
                      go_enter Try.func4, Try.ntmps4
                      go_wp2_with (first | ((with_reducible refine gate_callee (f := 7) rfl ?_); refine goesL_ (some 20) rfl rfl Try.func7 (by kernel_rfl) rfl #[.int .i64 (wrap64 (10 + (wrap64 (Int.tmod a1 3)))), .int .i64 (wrap64 (a0))] rfl (by (try simp only [List.map_toArray, List.map_cons, List.map_nil]); first | done | rfl | (simp only [List.length_drop, List.length_take]; rfl)) ?_; (with_reducible refine (small_Rune.calls k (wrap64 (10 + (wrap64 (Int.tmod a1 3)))) (wrap64 (a0)) t111 false _ A3.out).mono ?_); rintro e w' ⟨rfl, ⟨nd, rfl⟩⟩; refine ⟨_, rfl, ?_⟩) | ((with_reducible refine gate_callee (f := 8) rfl ?_); refine goesL_ (some 56) rfl rfl Try.func8 (by kernel_rfl) rfl #[] rfl (by (try simp only [List.map_toArray, List.map_cons, List.map_nil]); first | done | rfl | (simp only [List.length_drop, List.length_take]; rfl)) ?_; (with_reducible refine (amanuensislaw11_answers.calls k  true _ A304.out).mono ?_); rintro e w' ⟨rfl, ⟨nd, rfl⟩⟩; refine ⟨_, rfl, ?_⟩))
                      go_ret
                      exact ⟨by first | rfl | (simp; done) | (simp [*]; done), by repeat (first | exact Drawn0.refl _ | apply Drawn0.step)⟩
                    · rw [if_neg c308] at H
                      exact absurd (Option.some.inj H) (by rw [hr.out]; decide)
                · rw [if_neg c306] at H
                  exact absurd (Option.some.inj H) (by rw [hr.out]; decide)
              · replace c305 := Bool.eq_false_iff.mpr c305
                subst c305
                have H1 : (some false) = some r := by rw [if_neg (show ¬ (false = true) by decide)] at H; exact H
                exact absurd (Option.some.inj H1) (by rw [hr.out]; decide)
            · rw [if_neg c303] at H
              have c303b0 : ((wrap64 (10 + (wrap64 (Int.tmod a1 3)))) == 12) = false := beq_eq_false_iff_ne.mpr c303
              have c303b1 : ((wrap64 (10 + (wrap64 (Int.tmod a1 3)))) != 12) = true := bne_iff_ne.mpr c303
              replace H := Option.bind_eq_some_iff.mp H
              obtain ⟨t160, A3090, H⟩ := H
              replace H : (if t160 = true then (if (t112 == (a0 == 45)) = true then (if t112 = true then (if t111 ≥ 178 then (some (decide (t111 ≤ 8334))) else (some false)) else (if t111 = 0 then (some true) else (some false))) else (some false)) else (some false)) = some r := H
              have A309 := Aside0.mk A3090
              clear A3090
              by_cases c310 : t160 = true
              · subst c310
                have H1 : (if (t112 == (a0 == 45)) = true then (if t112 = true then (if t111 ≥ 178 then (some (decide (t111 ≤ 8334))) else (some false)) else (if t111 = 0 then (some true) else (some false))) else (some false)) = some r := by rw [if_pos rfl] at H; exact H
                clear H
                have H := H1
                clear H1
                by_cases c311 : (t112 == (a0 == 45)) = true
                · rw [if_pos c311] at H
                  have c311b0 : (t112 == (a0 == 45)) = true := c311
                  (try (have c311b1 : decide (t112 = (a0 == 45)) = true := by simpa using c311))
                  (try (have c311b2 : (t112 == (a0 == 45)) = true := by simpa using c311))
                  clear c311
                  by_cases c312 : t112 = true
                  · subst c312
                    have H1 : (if t111 ≥ 178 then (some (decide (t111 ≤ 8334))) else (some false)) = some r := by rw [if_pos rfl] at H; exact H
                    clear H
                    have H := H1
                    clear H1
                    by_cases c313 : t111 ≥ 178
                    · rw [if_pos c313] at H
                      have c313b0 : decide (178 ≤ t111) = true := decide_eq_true c313
                      clear c313
                      obtain rfl := Option.some.inj H
                      go_enter Try.func4, Try.ntmps4
                      go_wp2_with (first | ((with_reducible refine gate_callee (f := 7) rfl ?_); refine goesL_ (some 20) rfl rfl Try.func7 (by kernel_rfl) rfl #[.int .i64 (wrap64 (10 + (wrap64 (Int.tmod a1 3)))), .int .i64 (wrap64 (a0))] rfl (by (try simp only [List.map_toArray, List.map_cons, List.map_nil]); first | done | rfl | (simp only [List.length_drop, List.length_take]; rfl)) ?_; (with_reducible refine (small_Rune.calls k (wrap64 (10 + (wrap64 (Int.tmod a1 3)))) (wrap64 (a0)) t111 true _ A3.out).mono ?_); rintro e w' ⟨rfl, ⟨nd, rfl⟩⟩; refine ⟨_, rfl, ?_⟩) | ((with_reducible refine gate_callee (f := 8) rfl ?_); refine goesL_ (some 56) rfl rfl Try.func8 (by kernel_rfl) rfl #[] rfl (by (try simp only [List.map_toArray, List.map_cons, List.map_nil]); first | done | rfl | (simp only [List.length_drop, List.length_take]; rfl)) ?_; (with_reducible refine (amanuensislaw11_answers.calls k  true _ A309.out).mono ?_); rintro e w' ⟨rfl, ⟨nd, rfl⟩⟩; refine ⟨_, rfl, ?_⟩))
                      go_ret
                      exact ⟨by first | rfl | (simp; done) | (simp [*]; done), by repeat (first | exact Drawn0.refl _ | apply Drawn0.step)⟩
                    · rw [if_neg c313] at H
                      exact absurd (Option.some.inj H) (by rw [hr.out]; decide)
                  · replace c312 := Bool.eq_false_iff.mpr c312
                    subst c312
                    have H1 : (if t111 = 0 then (some true) else (some false)) = some r := by rw [if_neg (show ¬ (false = true) by decide)] at H; exact H
                    clear H
                    have H := H1
                    clear H1
                    by_cases c314 : t111 = 0
                    · rw [if_pos c314] at H
                      have c314b0 : (t111 == 0) = true := beq_iff_eq.mpr c314
                      have c314b1 : (t111 != 0) = false := bne_eq_false_iff_eq.mpr c314
                      clear c314
                      obtain rfl := Option.some.inj H
                      go_enter Try.func4, Try.ntmps4
                      go_wp2_with (first | ((with_reducible refine gate_callee (f := 7) rfl ?_); refine goesL_ (some 20) rfl rfl Try.func7 (by kernel_rfl) rfl #[.int .i64 (wrap64 (10 + (wrap64 (Int.tmod a1 3)))), .int .i64 (wrap64 (a0))] rfl (by (try simp only [List.map_toArray, List.map_cons, List.map_nil]); first | done | rfl | (simp only [List.length_drop, List.length_take]; rfl)) ?_; (with_reducible refine (small_Rune.calls k (wrap64 (10 + (wrap64 (Int.tmod a1 3)))) (wrap64 (a0)) t111 false _ A3.out).mono ?_); rintro e w' ⟨rfl, ⟨nd, rfl⟩⟩; refine ⟨_, rfl, ?_⟩) | ((with_reducible refine gate_callee (f := 8) rfl ?_); refine goesL_ (some 56) rfl rfl Try.func8 (by kernel_rfl) rfl #[] rfl (by (try simp only [List.map_toArray, List.map_cons, List.map_nil]); first | done | rfl | (simp only [List.length_drop, List.length_take]; rfl)) ?_; (with_reducible refine (amanuensislaw11_answers.calls k  true _ A309.out).mono ?_); rintro e w' ⟨rfl, ⟨nd, rfl⟩⟩; refine ⟨_, rfl, ?_⟩))
                      go_ret
                      exact ⟨by first | rfl | (simp; done) | (simp [*]; done), by repeat (first | exact Drawn0.refl _ | apply Drawn0.step)⟩
                    · rw [if_neg c314] at H
                      exact absurd (Option.some.inj H) (by rw [hr.out]; decide)
                · rw [if_neg c311] at H
                  exact absurd (Option.some.inj H) (by rw [hr.out]; decide)
              · replace c310 := Bool.eq_false_iff.mpr c310
                subst c310
                have H1 : (some false) = some r := by rw [if_neg (show ¬ (false = true) by decide)] at H; exact H
                exact absurd (Option.some.inj H1) (by rw [hr.out]; decide)

/-- THE ONE PURE STATEMENT of amanuensislaw11_SmallSigns: yours. -/
def amanuensislaw11_SmallSigns.Pure : Prop := ∀ (a0 : Int) (a1 : Int), (Lit.int .u8 a0).wf = true → (Lit.int .u8 a1).wf = true → ∃ k, amanuensislaw11_SmallSigns.f k a0 a1 = some true
theorem amanuensislaw11_SmallSigns.walk (P : amanuensislaw11_SmallSigns.Pure) (a0 : Int) (a1 : Int) (w : World) (w0 : (Lit.int .u8 a0).wf = true) (w1 : (Lit.int .u8 a1).wf = true) :
    Calls Try.prog 4 #[.int .u8 a0, .int .u8 a1] w fun e w' => e = .returned (.bool true) ∧ Below w.heap.size w w' := by
  obtain ⟨k, h⟩ := P a0 a1 w0 w1
  refine (amanuensislaw11_SmallSigns.calls k a0 a1 (by have h' : IntKind.u8.min ≤ a0 ∧ a0 ≤ IntKind.u8.max := (by simpa [Lit.wf] using w0); have e1 : IntKind.u8.min = 0 := (by decide); have e2 : IntKind.u8.max = 255 := (by decide); omega) true rfl w h).mono ?_
  rintro e w' ⟨rfl, hd⟩
  exact ⟨rfl, hd.below⟩

end Go.Proofs.Ytcgnojbddclhdab.PSmallSigns
