/- What glyph.New's closure does to the index: it is as latin.Each asks it. -/
import Derived.Lib.SmallJoins
import Derived.BigRegion
import Derived.RegionTactic
import Derived.Test.YtemhfcgkfdklhaaGreatDoorEachP
import Derived.Test.YtemhfcgkfdklhaaGreatDoorAdd
set_option linter.unusedVariables false
namespace Go.Proofs.YtemhfcgkfdklhaaGreatDoor.Look
open Go Go.RowKit Go.Shelf Go.Proofs
set_option maxHeartbeats 4000000 in
set_option maxRecDepth 100000 in
theorem inSet (p : Value) (n : Int) (w : World) : Calls Tryz.prog 39 #[.int .i64 n, p] w fun e w' => e = .returned (.func (.func 40) #[] #[p, .pointer (some ⟨w.heap.size, 0, none⟩)]) ∧ w' = w.alloc (.cells #[.int .i64 n] 3) := by
  go_enter Tryz.func39, Tryz.ntmps39
  go_wp2
  go_ret
  exact ⟨rfl, rfl⟩

set_option maxHeartbeats 4000000 in
set_option maxRecDepth 100000 in
/-- The closure itself: it loads the index and the set, and adds. -/
theorem addOne (cx cs : Addr) (x : Value) (set n r : Int) (w : World) (hx : w.cell? cx = some x) (hs : w.cell? cs = some (.int .i64 set)) {Q : Ending → World → Prop}
    (h : Calls Tryz.prog 41 #[x, .agg #[.int .i64 set, .int .i64 n], .int .i32 r] w fun e w' => e = .returned (.tuple #[]) ∧ Q (.returned (.tuple #[])) w') :
    Calls Tryz.prog 40 #[.int .i64 n, .int .i32 r, .pointer (some cx), .pointer (some cs)] w Q := by
  go_enter Tryz.func40, Tryz.ntmps40
  go_wp2_with (go_at_call 41; refine h.mono ?_; rintro e w' ⟨rfl, hq⟩)
  exact bodyPost_ret (v := .tuple #[]) (by simp [results, Tryz.results40, go_sem]) rfl hq
end Go.Proofs.YtemhfcgkfdklhaaGreatDoor.Look
set_option linter.unusedVariables false
namespace Go.Proofs.YtemhfcgkfdklhaaGreatDoor.Look
open Go Go.RowKit Go.Shelf Go.Proofs Go.Proofs.YtemhfcgkfdklhaaGreatDoor.Idx

/-- The index behind the adds A0 and L (of one set), with the cells that the closure has captured. -/
def JI (px cs xb bc br base : Nat) (A0 : Adds) (set : Int) (w : World) (L : List (Int × Int)) (P : Nat → Prop) : Prop :=
  ∃ O, Idx w xb bc br base (A0 ++ L.map fun x => (set, x.1, x.2)) O ∧ w.cell? ⟨px, 0, none⟩ = some (.pointer (some ⟨xb, 0, none⟩)) ∧ w.cell? ⟨cs, 0, none⟩ = some (.int .i64 set) ∧ ¬ Idx.Own xb bc br O px ∧ ¬ Idx.Own xb bc br O cs ∧
    ∀ k, P k ↔ Idx.Own xb bc br O k ∨ k = px ∨ k = cs
theorem steps (px cs xb bc br base : Nat) (A0 : Adds) (set : Int) (hset : W64 set) (hA0 : A0.length ≤ 1000000) : Steps 40 #[.pointer (some ⟨px, 0, none⟩), .pointer (some ⟨cs, 0, none⟩)] (JI px cs xb bc br base A0 set) where
  lt := by
    rintro w L P k ⟨O, hI, hp, hc, np, nc, hP⟩ hk
    rcases (hP k).1 hk with h | rfl | rfl
    · exact hI.lt k h
    · exact World.block_lt_of_cell? w ⟨_, 0, none⟩ hp
    · exact World.block_lt_of_cell? w ⟨_, 0, none⟩ hc
  kept := by
    rintro w w' L P ⟨O, hI, hp, hc, np, nc, hP⟩ hs hk
    refine ⟨O, hI.kept hs fun k h => hk k ((hP k).2 (.inl h)), ?_, ?_, np, nc, hP⟩
    · exact (World.cell?_of_block (w := w) (a := ⟨px, 0, none⟩) (hk px ((hP px).2 (.inr (.inl rfl))))).trans hp
    · exact (World.cell?_of_block (w := w) (a := ⟨cs, 0, none⟩) (hk cs ((hP cs).2 (.inr (.inr rfl))))).trans hc
  step := by
    rintro w L P n r ⟨O, hI, hp, hc, np, nc, hP⟩ hL hr1 hr2 hn1 hn2
    have hpl := World.block_lt_of_cell? w ⟨px, 0, none⟩ hp
    have hcl := World.block_lt_of_cell? w ⟨cs, 0, none⟩ hc
    refine addOne ⟨px, 0, none⟩ ⟨cs, 0, none⟩ (.pointer (some ⟨xb, 0, none⟩)) set n r w hp hc ?_
    refine (add xb bc br base _ O set n r w hI (by simp; omega) hset ⟨by omega, by omega⟩ ⟨hr1, hr2⟩).mono ?_
    rintro e w' ⟨rfl, hf, O', h3, h4⟩
    have npO : ¬ Idx.Own xb bc br O' px := fun h => by
      rcases h with h | h | h | h
      · exact np (.inl h)
      · exact np (.inr (.inl h))
      · exact np (.inr (.inr (.inl h)))
      · exact np (.inr (.inr (.inr (h4 px h hpl))))
    have ncO : ¬ Idx.Own xb bc br O' cs := fun h => by
      rcases h with h | h | h | h
      · exact nc (.inl h)
      · exact nc (.inr (.inl h))
      · exact nc (.inr (.inr (.inl h)))
      · exact nc (.inr (.inr (.inr (h4 cs h hcl))))
    refine ⟨rfl, rfl, hf.mono fun k h => (hP k).2 (.inl h), fun k => Idx.Own xb bc br O' k ∨ k = px ∨ k = cs, ⟨O', ?_, ?_, ?_, npO, ncO, fun k => Iff.rfl⟩, ?_⟩
    · rw [List.map_append, ← List.append_assoc]
      exact h3
    · exact (World.cell?_of_block (w := w) (a := ⟨px, 0, none⟩) (hf.block px hpl np)).trans hp
    · exact (World.cell?_of_block (w := w) (a := ⟨cs, 0, none⟩) (hf.block cs hcl nc)).trans hc
    · rintro k (h | h | h) hk
      · refine (hP k).2 (.inl ?_)
        rcases h with h | h | h | h
        · exact .inl h
        · exact .inr (.inl h)
        · exact .inr (.inr (.inl h))
        · exact .inr (.inr (.inr (h4 k h hk)))
      · exact (hP k).2 (.inr (.inl h))
      · exact (hP k).2 (.inr (.inr h))
end Go.Proofs.YtemhfcgkfdklhaaGreatDoor.Look
