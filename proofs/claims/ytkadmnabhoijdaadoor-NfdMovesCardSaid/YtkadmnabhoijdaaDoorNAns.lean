/- amanuensislaw06.answers. -/
import Derived.Test.YtkadmnabhoijdaaDoorNfdV
set_option linter.unusedVariables false
namespace Go.Proofs.YtkadmnabhoijdaaDoor.Nfd
open Go Go.RowKit Go.Shelf Go.Proofs Go.Lib Go.Sort
open Go.Proofs.YtkadmnabhoijdaaDoor.Look Go.Proofs.YtkadmnabhoijdaaDoor.New

theorem nfd_e9 : nfdV [233] = [101, 769] := by decide +kernel
set_option maxHeartbeats 4000000 in
set_option maxRecDepth 100000 in
/-- nfd.Is. -/
theorem nis (v : Value) (l : List Int) (w : World) (hT : TabsN w) (h : SlN w v l) (hn : l.length ≤ 1000000000) (hr : ∀ x ∈ l, -2147483648 ≤ x ∧ x ≤ 2147483647) :
    Calls Tryd.prog 15 #[v] w fun e w' => e = .returned (.bool (decide (nfdV l = l))) ∧ Below w.heap.size w w' := by
  have cN := nfd v l w hT h hn hr
  have cE : ∀ v' w1, OwnR w1 w.heap.size v' (nfdV l) → Below w.heap.size w w1 → Calls Tryd.prog 24 #[v', v] w1 fun e w' => e = .returned (.bool (decide (nfdV l = l))) ∧ Below w.heap.size w w' := fun v' w1 h1 hb => by
    refine (equalN v' v (nfdV l) l w1 h1.sln (h.below hb) (by have := (nfd_len l).2; omega) (by omega)).mono ?_
    rintro e w' ⟨rfl, k⟩
    exact ⟨rfl, hb.trans (k.mono hb.size)⟩
  clear h hr hT
  generalize decide (nfdV l = l) = D at cE ⊢
  go_enter Tryd.func15, Tryd.ntmps15
  go_wp2_with (first | (go_at_call 12; refine cN.mono ?_; rintro e w1 ⟨v', rfl, h1, h2⟩; have c2 := cE v' w1 h1 h2; clear cN cE) | (go_at_call 24; refine c2.mono ?_; rintro e w2 ⟨rfl, hO⟩; clear c2))
  go_ret
  exact ⟨rfl, hO⟩
end Go.Proofs.YtkadmnabhoijdaaDoor.Nfd
set_option linter.unusedVariables false
namespace Go.Proofs.YtkadmnabhoijdaaDoor.Nfd
open Go Go.RowKit Go.Shelf Go.Proofs Go.Lib Go.Sort
open Go.Proofs.YtkadmnabhoijdaaDoor.Look Go.Proofs.YtkadmnabhoijdaaDoor.New

set_option maxHeartbeats 4000000 in
set_option maxRecDepth 100000 in
theorem answersN (w : World) (hT : TabsN w) : Calls Tryd.prog 7 #[] w fun e w' => e = .returned (.bool true) ∧ Below w.heap.size w w' := by
  have b1 : ∀ o, Below w.heap.size w (w.alloc o) := fun o => (Below.refl _ w).alloc (Nat.le_refl _) o
  have cN : Calls Tryd.prog 12 #[.slice (some ⟨w.heap.size, 0, none⟩) 1 1] (w.alloc (.cells #[.int .i32 233] 21)) fun e w' => ∃ g cap, e = .returned (.slice (some ⟨g, 0, none⟩) 2 cap) ∧ w'.cell? ⟨g, 0, none⟩ = some (.int .i32 101) ∧ Below w.heap.size w w' := by
    refine (nfd _ [233] _ (hT.below (b1 _)) (SlN.lit w [233]) (by decide) (by simp)).mono ?_
    rintro e w' ⟨v', rfl, h1, h2⟩
    rw [nfd_e9] at h1
    obtain ⟨g, cap, rfl, _, _⟩ := h1.form (by simp)
    exact ⟨g, cap, rfl, h1.cellAt (x := 101) (by simp), (b1 _).trans (h2.mono (by simp))⟩
  have cI : ∀ w1, Below w.heap.size w w1 → Calls Tryd.prog 15 #[.slice (some ⟨w1.heap.size, 0, none⟩) 1 1] (w1.alloc (.cells #[.int .i32 233] 21)) fun e w' => e = .returned (.bool false) ∧ Below w.heap.size w w' := fun w1 hb => by
    have hb2 := hb.alloc hb.size (.cells #[.int .i32 233] 21)
    refine (nis _ [233] _ (hT.below hb2) (SlN.lit w1 [233]) (by decide) (by simp)).mono ?_
    rintro e w' ⟨rfl, h2⟩
    rw [nfd_e9]
    exact ⟨rfl, hb2.trans (h2.mono hb2.size)⟩
  clear b1 hT
  go_enter Tryd.func7, Tryd.ntmps7
  go_wp2_with (first | (go_at_call 12; refine cN.mono ?_; rintro e w1 ⟨g, cap, rfl, h1, h2⟩; have c2 := cI w1 h2; clear cN cI) | (go_at_call 15; refine c2.mono ?_; rintro e w2 ⟨rfl, hO⟩; clear c2))
  go_ret
  exact ⟨rfl, hO⟩
end Go.Proofs.YtkadmnabhoijdaaDoor.Nfd
