/- hangul.Join, nfc's both: what two characters are. -/
import Derived.Deep.RegionHeld3
import Derived.BigRegion
import Derived.Test.YtkadmnabhoijdaaGreatDoorNfcP
import Derived.Test.YtkadmnabhoijdaaGreatDoorAppS
set_option linter.unusedVariables false
namespace Go.Proofs.YtkadmnabhoijdaaGreatDoor.Nfd
open Go Go.RowKit Go.Shelf Go.Proofs Go.Lib Go.Sort
open Go.Proofs.YtkadmnabhoijdaaGreatDoor.Look Go.Proofs.YtkadmnabhoijdaaGreatDoor.New

set_option maxHeartbeats 4000000 in
set_option maxRecDepth 100000 in
theorem hjoin (a b : Int) (ha : -2147483648 ≤ a ∧ a ≤ 2147483647) (hb : -2147483648 ≤ b ∧ b ≤ 2147483647) (w : World) :
    Calls Tryz.prog 39 #[.int .i32 a, .int .i32 b] w fun e w' => e = .returned (.tuple #[.int .i32 ((hanJ a b).getD 0), .bool (hanJ a b).isSome]) ∧ w = w' := by
  have cS := syl a w
  obtain ⟨ha1, ha2⟩ := ha
  obtain ⟨hb1, hb2⟩ := hb
  by_cases h1 : 4352 ≤ a ∧ a < 4371
  · obtain ⟨k1, k2⟩ := h1
    rw [decide_eq_false (by omega)] at cS
    by_cases h2 : 4449 ≤ b
    · by_cases h3 : b < 4470
      · have hV : hanJ a b = some (44032 + ((a - 4352) * 21 + b - 4449) * 28) := by unfold hanJ; rw [if_pos ⟨k1, k2, h2, h3⟩]
        rw [hV]
        clear hV cS
        go_enter Tryz.func39, Tryz.ntmps39
        go_wp2
        go_ret2
        exact ⟨rfl, rfl⟩
      · have hV : hanJ a b = none := by unfold hanJ; rw [if_neg (by omega), if_neg (by omega)]
        rw [hV]
        clear hV
        go_enter Tryz.func39, Tryz.ntmps39
        go_wp2_with (go_at_call 64; refine cS.mono ?_; rintro e w' ⟨rfl, rfl⟩)
        go_ret2
        exact ⟨rfl, rfl⟩
    · have hV : hanJ a b = none := by unfold hanJ; rw [if_neg (by omega), if_neg (by omega)]
      rw [hV]
      clear hV
      go_enter Tryz.func39, Tryz.ntmps39
      go_wp2_with (go_at_call 64; refine cS.mono ?_; rintro e w' ⟨rfl, rfl⟩)
      go_ret2
      exact ⟨rfl, rfl⟩
  · by_cases h2 : 44032 ≤ a ∧ a < 55204
    · obtain ⟨k1, k2⟩ := h2
      rw [decide_eq_true ⟨k1, k2⟩] at cS
      clear h1
      obtain ⟨s, rfl⟩ : ∃ s, a = s + 44032 := ⟨a - 44032, by omega⟩
      have s1 : 0 ≤ s := by omega
      have s2 : s < 11172 := by omega
      by_cases h3 : s % 28 = 0
      · by_cases h4 : 4519 < b
        · by_cases h5 : b < 4547
          · have hV : hanJ (s + 44032) b = some (s + 44032 + b - 4519) := by unfold hanJ; rw [if_neg (by omega), if_pos ⟨⟨k1, k2⟩, by omega, h4, h5⟩]
            rw [hV]
            clear hV
            go_enter Tryz.func39, Tryz.ntmps39
            go_wp2_with (go_at_call 64; refine cS.mono ?_; rintro e w' ⟨rfl, rfl⟩)
            go_ret2
            exact ⟨rfl, rfl⟩
          · have hV : hanJ (s + 44032) b = none := by unfold hanJ; rw [if_neg (by omega), if_neg (by omega)]
            rw [hV]
            clear hV
            go_enter Tryz.func39, Tryz.ntmps39
            go_wp2_with (go_at_call 64; refine cS.mono ?_; rintro e w' ⟨rfl, rfl⟩)
            go_ret2
            exact ⟨rfl, rfl⟩
        · have hV : hanJ (s + 44032) b = none := by unfold hanJ; rw [if_neg (by omega), if_neg (by omega)]
          rw [hV]
          clear hV
          go_enter Tryz.func39, Tryz.ntmps39
          go_wp2_with (go_at_call 64; refine cS.mono ?_; rintro e w' ⟨rfl, rfl⟩)
          go_ret2
          exact ⟨rfl, rfl⟩
      · have hV : hanJ (s + 44032) b = none := by unfold hanJ; rw [if_neg (by omega), if_neg (by omega)]
        rw [hV]
        have h3b : (s % 28 == 0) = false := by simpa using h3
        clear hV
        go_enter Tryz.func39, Tryz.ntmps39
        go_wp2_with (go_at_call 64; refine cS.mono ?_; rintro e w' ⟨rfl, rfl⟩)
        go_ret2
        exact ⟨rfl, rfl⟩
    · rw [decide_eq_false h2] at cS
      have hV : hanJ a b = none := by unfold hanJ; rw [if_neg (by omega), if_neg (by omega)]
      rw [hV]
      clear hV h2
      by_cases k1 : 4352 ≤ a
      · have k2 : ¬ a < 4371 := by omega
        clear h1
        go_enter Tryz.func39, Tryz.ntmps39
        go_wp2_with (go_at_call 64; refine cS.mono ?_; rintro e w' ⟨rfl, rfl⟩)
        go_ret2
        exact ⟨rfl, rfl⟩
      · clear h1
        go_enter Tryz.func39, Tryz.ntmps39
        go_wp2_with (go_at_call 64; refine cS.mono ?_; rintro e w' ⟨rfl, rfl⟩)
        go_ret2
        exact ⟨rfl, rfl⟩

set_option maxHeartbeats 4000000 in
set_option maxRecDepth 100000 in
theorem both (jb tb cap : Nat) (a b : Int) (w : World) (ha : -2147483648 ≤ a ∧ a ≤ 2147483647) (hb : -2147483648 ≤ b ∧ b ≤ 2147483647) (hc : w.cell? ⟨jb, 0, none⟩ = some (.slice (some ⟨tb, 0, none⟩) 572 cap)) (hT : RowAt tableT w tb) :
    Calls Tryz.prog 28 #[.pointer (some ⟨jb, 0, none⟩), .int .i32 a, .int .i32 b] w fun e w' => e = .returned (.tuple #[.int .i32 ((bothV a b).getD 0), .bool (bothV a b).isSome]) ∧ Below w.heap.size w w' := by
  have cH := hjoin a b ha hb w
  have cJ := tjoin tableT tb cap a b w hT (by rw [tab_len]; decide)
  rw [tab_len] at cJ
  cases hh : hanJ a b with
  | some x =>
    have hV : bothV a b = some x := by unfold bothV; rw [hh]
    rw [hV]
    rw [hh] at cH
    simp only [Option.getD_some, Option.isSome_some] at cH ⊢
    clear cJ hV hh hT ha hb
    go_enter Tryz.func28, Tryz.ntmps28
    go_wp2_with (go_at_call 39; refine cH.mono ?_; rintro e w' ⟨rfl, rfl⟩)
    go_ret2
    exact ⟨rfl, Below.refl _ _⟩
  | none =>
    have hV : bothV a b = if (joinV tableT a b).2 = true then some (joinV tableT a b).1 else none := by unfold bothV; rw [hh]
    have hz : (joinV tableT a b).2 = false → (joinV tableT a b).1 = 0 := by
      unfold joinV
      split
      · intro _; rfl
      · intro h; cases h
    rw [hV]
    rw [hh] at cH
    simp only [Option.getD_none, Option.isSome_none] at cH
    generalize joinV tableT a b = V at cJ hz ⊢
    obtain ⟨x, t⟩ := V
    have hR : ((if t = true then some x else none).getD 0 = x) ∧ (if t = true then some x else none : Option Int).isSome = t := by
      cases t with
      | true => simp
      | false =>
        obtain rfl : x = 0 := hz rfl
        simp
    simp only at cJ ⊢
    rw [hR.1, hR.2]
    clear hV hz hR hh hT ha hb
    go_enter Tryz.func28, Tryz.ntmps28
    go_wp2_with (first | (go_at_call 39; refine cH.mono ?_; rintro e w' ⟨rfl, rfl⟩) | (go_at_call 40; refine cJ.mono ?_; rintro e w' ⟨rfl, hbl⟩))
    go_ret2
    exact ⟨rfl, hbl⟩
end Go.Proofs.YtkadmnabhoijdaaGreatDoor.Nfd
