/- LatinMarks (f3). -/
import Derived.Test.YtlakeehjchmkdaaDoorAnsel
set_option linter.unusedVariables false
namespace Go.Proofs.YtlakeehjchmkdaaDoor.Look
open Go Go.RowKit Go.Shelf Go.Proofs

theorem marks_table : ∀ k : Fin 256, (lookT anselT k).2 = true → (0 ≤ (lookT anselT k).1 ∧ (lookT anselT k).1 ≤ 1114111) ∧ decide (0 < classV (lookT anselT k).1) = decide (96 ≤ k.val) := by decide +kernel

set_option maxHeartbeats 4000000 in
set_option maxRecDepth 100000 in
theorem walk3 (n : Int) (h0 : 0 ≤ n) (h1 : n ≤ 255) (w : World) (hT : Tabs w) : Calls Tryd.prog 3 #[.int .u8 n] w fun e w' => e = .returned (.bool true) ∧ Below w.heap.size w w' := by
  have ht := marks_table ⟨n.toNat, by omega⟩
  have en : ((n.toNat : Nat) : Int) = n := by omega
  simp only [en] at ht
  have e2 : decide (96 ≤ n.toNat) = decide (96 ≤ n) := by
    apply decide_eq_decide.2
    omega
  rw [e2] at ht
  have cA := ansel n w hT
  generalize lookT anselT n = R at ht cA
  obtain ⟨r, ok⟩ := R
  have c9 := fun W (hb : Below w.heap.size w W) => answers9 W (hT.below hb)
  cases ok with
  | false =>
    clear ht
    go_enter Tryd.func3, Tryd.ntmps3
    go_wp2_with (first | (go_at_call 8; refine cA.mono ?_; rintro e w1 ⟨rfl, hb⟩) | (go_at_call 9; refine (c9 _ hb).mono ?_; rintro e w2 ⟨rfl, hb2⟩))
    go_ret
    exact ⟨rfl, hb.trans (hb2.mono hb.size)⟩
  | true =>
    obtain ⟨⟨hr0, hr1⟩, hcl⟩ := ht rfl
    simp only at hr0 hr1 hcl
    have cC := fun W => cls r (by omega) (by omega) W
    generalize classV r = K at hcl cC
    go_enter Tryd.func3, Tryd.ntmps3
    go_wp2_with (first | (go_at_call 8; refine cA.mono ?_; rintro e w1 ⟨rfl, hb⟩) | (go_at_call 9; refine (c9 _ hb).mono ?_; rintro e w2 ⟨rfl, hb2⟩) | (go_at_call 10; refine (cC _).mono ?_; rintro e w3 ⟨rfl, hb3⟩))
    go_ret
    exact ⟨rfl, (hb.trans (hb2.mono hb.size)).trans (hb3.mono (hb.trans (hb2.mono hb.size)).size)⟩
end Go.Proofs.YtlakeehjchmkdaaDoor.Look
