/- ScriptsCases (f7). -/
import Derived.Test.YtlakeehjchmkdaaDoorRune
set_option linter.unusedVariables false
namespace Go.Proofs.YtlakeehjchmkdaaDoor.Look
open Go Go.RowKit Go.Shelf Go.Proofs

theorem cases_table : ∀ k : Fin 31, (lookT cyrillicT (64 + (k.val : Int))).2 = true ∧ (lookT cyrillicT (96 + (k.val : Int))).2 = true ∧ (lookT cyrillicT (64 + (k.val : Int))).1 = (lookT cyrillicT (96 + (k.val : Int))).1 + 32 ∧ 0 ≤ (lookT cyrillicT (96 + (k.val : Int))).1 ∧ (lookT cyrillicT (96 + (k.val : Int))).1 ≤ 1114111 := by decide +kernel
theorem cyr95 : lookT cyrillicT 95 = (1098, true) := by decide +kernel
theorem cyr127 : lookT cyrillicT 127 = (0, false) := by decide +kernel

set_option maxHeartbeats 8000000 in
set_option maxRecDepth 100000 in
theorem walk7 (n : Int) (h0 : 0 ≤ n) (h1 : n ≤ 255) (w : World) (hT : Tabs w) : Calls Tryd.prog 7 #[.int .u8 n] w fun e w' => e = .returned (.bool true) ∧ Below w.heap.size w w' := by
  obtain ⟨m, hm⟩ : ∃ m : Nat, n % 31 = m := ⟨(n % 31).toNat, by omega⟩
  have hm31 : m < 31 := by omega
  have ht := cases_table ⟨m, hm31⟩
  simp only at ht
  have t1 : lookT cyrillicT (64 + n % 31) = lookT cyrillicT (64 + (m : Int)) := by rw [hm]
  have t2 : lookT cyrillicT (64 + n % 31 + 32) = lookT cyrillicT (96 + (m : Int)) := by rw [show 64 + n % 31 + 32 = 96 + (m : Int) by omega]
  generalize lookT cyrillicT (64 + (m : Int)) = R1 at ht t1
  generalize lookT cyrillicT (96 + (m : Int)) = R2 at ht t2
  obtain ⟨x, ok⟩ := R1
  obtain ⟨y, yes⟩ := R2
  simp only at ht
  obtain ⟨rfl, rfl, rfl, hy0, hy1⟩ := ht
  clear hm hm31
  go_enter Tryd.func7, Tryd.ntmps7
  go_wp2_with (first
    | (go_at_call 13; refine (answers13 _ (hT.below hb4)).mono ?_; rintro e w5 ⟨rfl, hc5⟩; have hb5 := hb4.trans (hc5.mono hb4.size))
    | (go_at_call 12; first
      | (refine (rune7 _ _ (hT.below hb3)).mono ?_; rintro e w4 ⟨rfl, hc4⟩; have hb4 := hb3.trans (hc4.mono hb3.size); rw [cyr127])
      | (refine (rune7 _ _ (hT.below hb2)).mono ?_; rintro e w3 ⟨rfl, hc3⟩; have hb3 := hb2.trans (hc3.mono hb2.size); rw [cyr95])
      | (refine (rune7 _ _ (hT.below hb1)).mono ?_; rintro e w2 ⟨rfl, hc2⟩; have hb2 := hb1.trans (hc2.mono hb1.size); rw [t2])
      | (refine (rune7 _ w hT).mono ?_; rintro e w1 ⟨rfl, hb1⟩; rw [t1])))
  go_ret
  exact ⟨rfl, hb5⟩
end Go.Proofs.YtlakeehjchmkdaaDoor.Look
