/- latin.Ansel (f8), Basic (f11), answers (f9). -/
import Derived.Test.YtlakeehjchmkdaaDoorConst
import Derived.Test.YtlakeehjchmkdaaDoorCls
set_option linter.unusedVariables false
namespace Go.Proofs.YtlakeehjchmkdaaDoor.Look
open Go Go.RowKit Go.Shelf Go.Proofs

set_option maxHeartbeats 4000000 in
set_option maxRecDepth 100000 in
theorem ansel (n : Int) (w : World) (hT : Tabs w) : Calls Tryd.prog 8 #[.int .i64 n] w fun e w' => e = .returned (.tuple #[.int .i32 (lookT anselT n).1, .bool (lookT anselT n).2]) ∧ Below w.heap.size w w' := by
  go_enter Tryd.func8, Tryd.ntmps8
  go_wp2_with (go_at_call 14; refine (look_tab (by kernel_rfl) ansel_tab n _ hT).mono ?_; rintro e w' ⟨rfl, hb⟩)
  go_ret2
  exact ⟨rfl, hb⟩

theorem ansel97 : lookT anselT 97 = (768, true) := by decide +kernel

set_option maxHeartbeats 4000000 in
set_option maxRecDepth 100000 in
theorem answers9 (w : World) (hT : Tabs w) : Calls Tryd.prog 9 #[] w fun e w' => e = .returned (.bool true) ∧ Below w.heap.size w w' := by
  have cA := ansel 97 w hT
  rw [ansel97] at cA
  go_enter Tryd.func9, Tryd.ntmps9
  go_wp2_with (go_at_call 8; refine cA.mono ?_; rintro e w' ⟨rfl, hb⟩)
  go_ret
  exact ⟨rfl, hb⟩

def basicV (n : Int) : Int × Bool := if n < 33 ∨ 126 < n then (0, false) else (n, true)
set_option maxHeartbeats 4000000 in
set_option maxRecDepth 100000 in
theorem basic (n : Int) (w : World) : Calls Tryd.prog 11 #[.int .i64 n] w fun e w' => e = .returned (.tuple #[.int .i32 (basicV n).1, .bool (basicV n).2]) ∧ Below w.heap.size w w' := by
  unfold basicV
  by_cases h1 : n < 33
  · rw [if_pos (.inl h1)]
    go_enter Tryd.func11, Tryd.ntmps11
    go_wp2
    go_ret2
    exact ⟨rfl, Below.refl _ _⟩
  · by_cases h2 : 126 < n
    · rw [if_pos (.inr h2)]
      go_enter Tryd.func11, Tryd.ntmps11
      go_wp2
      go_ret2
      exact ⟨rfl, Below.refl _ _⟩
    · rw [if_neg (by omega)]
      have hw : wrap32 n = n := by unfold wrap32; omega
      go_enter Tryd.func11, Tryd.ntmps11
      go_wp2
      all_goals go_ret2
      all_goals exact ⟨rfl, Below.refl _ _⟩
end Go.Proofs.YtlakeehjchmkdaaDoor.Look
