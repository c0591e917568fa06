/- PairsBack: the tables' laws, and the walk at every pair of characters. -/
import Derived.Test.YtpoidncgbidlaaaDoorBack
set_option linter.unusedVariables false
namespace Go.Proofs.YtpoidncgbidlaaaDoor.New
open Go Go.RowKit Go.Shelf Go.Proofs Go.Proofs.YtpoidncgbidlaaaDoor.Look

def few (r : Int) : Bool := r == 836 || r == 64302 || r == 64303
/-- Of a split character. -/
def okSplit (p : P4) : Bool :=
  p.2.2.1 == 0 || (decide (0 < classV p.2.2.1) && (decide (0 < classV p.2.1) == (p.1 == 836)) && decide (0 ≤ p.2.1) && decide (p.2.1 ≤ 1114111) && decide (0 ≤ p.2.2.1) && decide (p.2.2.1 ≤ 1114111) &&
    (if few p.1 then joinV tableT p.2.1 p.2.2.1 == (0, false) else joinV tableT p.2.1 p.2.2.1 == (p.1, true)))
/-- Of a joined one. -/
def okJoin (p : P4) : Bool := !p.2.2.2 || (decide (p.2.2.1 ≠ 0) && classV p.2.1 == 0 && decide (0 < classV p.2.2.1) && !few p.2.1)
theorem split_ok : tableT.all okSplit = true := by decide +kernel
theorem join_ok : tableT.all okJoin = true := by decide +kernel

theorem joinV_some {r s x : Int} (h : joinV tableT r s = (x, true)) : ∃ p ∈ tableT, p.2.2.2 = true ∧ p.2.1 = r ∧ p.2.2.1 = s ∧ p.1 = x := by
  unfold joinV at h
  split at h
  · cases h
  · rename_i p hp
    have h1 := List.find?_some hp
    simp only [isPair, Bool.and_eq_true, decide_eq_true_eq] at h1
    exact ⟨p, List.mem_of_find?_eq_some hp, h1.1.1, h1.1.2, h1.2, by cases h; rfl⟩
theorem joinV_none {r s x : Int} (h : joinV tableT r s = (x, false)) : x = 0 := by
  unfold joinV at h
  split at h
  · cases h; rfl
  · cases h
/-- What is joined is split into both. -/
theorem joined_split {r s x : Int} (h : joinV tableT r s = (x, true)) : splitV tableT x = (r, s, 2) ∧ classV r = 0 ∧ 0 < classV s ∧ few r = false ∧ (0 ≤ x ∧ x ≤ 1114111) := by
  obtain ⟨p, hp, h1, h2, h3, h4⟩ := joinV_some h
  have hj := List.all_eq_true.1 join_ok p hp
  simp only [okJoin, h1, Bool.not_true, Bool.false_or, Bool.and_eq_true, decide_eq_true_eq, beq_iff_eq, Bool.not_eq_true'] at hj
  obtain ⟨⟨⟨hb, hc⟩, hd⟩, he⟩ := hj
  refine ⟨?_, by rw [← h2]; exact hc, by rw [← h3]; exact hd, by rw [← h2]; exact he, by rw [← h4]; exact tab_bd p hp⟩
  unfold splitV
  rw [find_of table_rising hp h4]
  show (if p.2.2.1 = 0 then (p.2.1, 0, 1) else (p.2.1, p.2.2.1, 2)) = _
  rw [if_neg hb, h2, h3]

theorem walkBack (r s : Int) (r0 : -2147483648 ≤ r) (r1 : r ≤ 2147483647) (s0 : -2147483648 ≤ s) (s1 : s ≤ 2147483647) (w : World) (hT : TabsN w) :
    Calls Tryd.prog 3 #[.int .i32 r, .int .i32 s] w fun e w' => e = .returned (.bool true) ∧ Below w.heap.size w w' := by
  have cS := psplit r r0 r1 w hT
  have cJ := fun W (hb : Below w.heap.size w W) => pjoin r s W (hT.below hb)
  have cC := fun (z : Int) (z0 : -2147483648 ≤ z) (z1 : z ≤ 2147483647) W (hb : Below w.heap.size w W) => cls z z0 z1 W
  cases hj : joinV tableT r s with
  | mk x ok =>
    rw [hj] at cJ
    cases ok with
    | false =>
      obtain rfl := joinV_none hj
      cases hf : tableT.find? (fun p => decide (p.1 = r)) with
      | none =>
        have hV : splitV tableT r = (0, 0, 0) := by unfold splitV; rw [hf]
        rw [hV] at cS
        exact back_0f r s w hT cS cJ
      | some p =>
        have hp := List.mem_of_find?_eq_some hf
        have hpr : p.1 = r := by simpa using List.find?_some hf
        have hk := List.all_eq_true.1 split_ok p hp
        by_cases hz : p.2.2.1 = 0
        · have hV : splitV tableT r = (p.2.1, 0, 1) := by unfold splitV; rw [hf]; simp [hz]
          rw [hV] at cS
          exact back_1f r s p.2.1 w hT cS cJ
        · have hV : splitV tableT r = (p.2.1, p.2.2.1, 2) := by unfold splitV; rw [hf]; simp [hz]
          rw [hV] at cS
          simp only [okSplit, Bool.or_eq_true, beq_iff_eq, hz, false_or, Bool.and_eq_true, decide_eq_true_eq] at hk
          obtain ⟨⟨⟨⟨⟨⟨hkb, hka⟩, a0⟩, a1⟩, b0⟩, b1⟩, hjj⟩ := hk
          have cJ2 := fun W (hb : Below w.heap.size w W) => pjoin p.2.1 p.2.2.1 W (hT.below hb)
          have cb := cC p.2.2.1 (by omega) (by omega)
          have ca := cC p.2.1 (by omega) (by omega)
          rw [hpr] at hka hjj
          by_cases h1 : r = 836
          · subst h1
            simp only [few, beq_self_eq_true, Bool.true_or, if_true, beq_iff_eq] at hjj hka
            rw [hjj] at cJ2
            exact back_836 s p.2.1 p.2.2.1 _ _ hkb (by simpa using hka) w hT cS cJ cJ2 cb ca
          · by_cases h2 : r = 64302
            · subst h2
              have hjj2 : joinV tableT p.2.1 p.2.2.1 = (0, false) := by simpa [few] using hjj
              rw [hjj2] at cJ2
              exact back_64302 s p.2.1 p.2.2.1 _ _ hkb (by simpa using hka) w hT cS cJ cJ2 cb ca
            · by_cases h3 : r = 64303
              · subst h3
                have hjj2 : joinV tableT p.2.1 p.2.2.1 = (0, false) := by simpa [few] using hjj
                rw [hjj2] at cJ2
                exact back_64303 s p.2.1 p.2.2.1 _ _ hkb (by simpa using hka) w hT cS cJ cJ2 cb ca
              · have hjj2 : joinV tableT p.2.1 p.2.2.1 = (r, true) := by simpa [few, h1, h2, h3] using hjj
                rw [hjj2] at cJ2
                exact back_2f r s p.2.1 p.2.2.1 _ _ h1 h2 h3 hkb (by have hq : (r == 836) = false := (by simpa using h1); rw [hq] at hka; exact of_decide_eq_false hka) w hT cS cJ cJ2 cb ca
    | true =>
      obtain ⟨hsx, hcr, hcs, hfw, x0, x1⟩ := joined_split hj
      have cS2 := fun W (hb : Below w.heap.size w W) => psplit x (by omega) (by omega) W (hT.below hb)
      rw [hsx] at cS2
      have cr := cC r r0 r1
      rw [hcr] at cr
      have cs := cC s s0 s1
      cases hf : tableT.find? (fun p => decide (p.1 = r)) with
      | none =>
        have hV : splitV tableT r = (0, 0, 0) := by unfold splitV; rw [hf]
        rw [hV] at cS
        exact back_0t r s x _ hcs w hT cS cJ cS2 cr cs
      | some p =>
        have hp := List.mem_of_find?_eq_some hf
        have hpr : p.1 = r := by simpa using List.find?_some hf
        have hk := List.all_eq_true.1 split_ok p hp
        by_cases hz : p.2.2.1 = 0
        · have hV : splitV tableT r = (p.2.1, 0, 1) := by unfold splitV; rw [hf]; simp [hz]
          rw [hV] at cS
          exact back_1t r s p.2.1 x _ hcs w hT cS cJ cS2 cr cs
        · have hV : splitV tableT r = (p.2.1, p.2.2.1, 2) := by unfold splitV; rw [hf]; simp [hz]
          rw [hV] at cS
          simp only [okSplit, Bool.or_eq_true, beq_iff_eq, hz, false_or, Bool.and_eq_true, decide_eq_true_eq] at hk
          obtain ⟨⟨⟨⟨⟨⟨hkb, hka⟩, a0⟩, a1⟩, b0⟩, b1⟩, hjj⟩ := hk
          have cJ2 := fun W (hb : Below w.heap.size w W) => pjoin p.2.1 p.2.2.1 W (hT.below hb)
          have cb := cC p.2.2.1 (by omega) (by omega)
          have ca := cC p.2.1 (by omega) (by omega)
          rw [hpr] at hka hjj
          have hfw2 := hfw
          simp only [few, Bool.or_eq_false_iff, beq_eq_false_iff_ne, ne_eq] at hfw2
          obtain ⟨⟨h1, h2⟩, h3⟩ := hfw2
          have hjj2 : joinV tableT p.2.1 p.2.2.1 = (r, true) := by simpa [hfw] using hjj
          rw [hjj2] at cJ2
          exact back_2t r s p.2.1 p.2.2.1 _ _ x _ hcs h1 h2 h3 hkb (by have hq : (r == 836) = false := (by simpa using h1); rw [hq] at hka; exact of_decide_eq_false hka) w hT cS cJ cJ2 cb ca cS2 cr cs
end Go.Proofs.YtpoidncgbidlaaaDoor.New
