/- glyph.New's closures: in(set) and what it hands over. -/
import Derived.Lib.SmallJoins
import Derived.BigRegion
import Derived.RegionTactic
import Derived.Test.YtemhfcgkfdklhaaGreatDoorEachP
set_option linter.unusedVariables false
namespace Go.Proofs.YtemhfcgkfdklhaaGreatDoor.Look
open Go Go.RowKit Go.Shelf Go.Proofs
set_option maxHeartbeats 4000000 in
set_option maxRecDepth 100000 in
theorem inSet (p : Value) (n : Int) (w : World) : Calls Tryz.prog 39 #[.int .i64 n, p] w fun e w' => e = .returned (.func (.func 40) #[] #[p, .pointer (some ⟨w.heap.size, 0, none⟩)]) ∧ w' = w.alloc (.cells #[.int .i64 n] 3) := by
  go_enter Tryz.func39, Tryz.ntmps39
  go_wp2
  go_ret
  exact ⟨rfl, rfl⟩

set_option maxHeartbeats 4000000 in
set_option maxRecDepth 100000 in
/-- The closure itself: it loads the index and the set, and adds. -/
theorem addOne (cx cs : Addr) (x : Value) (set n r : Int) (w : World) (hx : w.cell? cx = some x) (hs : w.cell? cs = some (.int .i64 set)) {Q : Ending → World → Prop}
    (h : Calls Tryz.prog 41 #[x, .agg #[.int .i64 set, .int .i64 n], .int .i32 r] w fun e w' => e = .returned (.tuple #[]) ∧ Q (.returned (.tuple #[])) w') :
    Calls Tryz.prog 40 #[.int .i64 n, .int .i32 r, .pointer (some cx), .pointer (some cs)] w Q := by
  go_enter Tryz.func40, Tryz.ntmps40
  go_wp2_with (go_at_call 41; refine h.mono ?_; rintro e w' ⟨rfl, hq⟩)
  exact bodyPost_ret (v := .tuple #[]) (by simp [results, Tryz.results40, go_sem]) rfl hq
end Go.Proofs.YtemhfcgkfdklhaaGreatDoor.Look
