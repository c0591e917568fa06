/- glyph.New's closures: in(set) and what it hands over. -/
import Derived.Lib.SmallJoins
import Derived.BigRegion
import Derived.RegionTactic
import Derived.Test.YtemhfcgkfdklhaaDoorEachP
set_option linter.unusedVariables false
namespace Go.Proofs.YtemhfcgkfdklhaaDoor.Look
open Go Go.RowKit Go.Shelf Go.Proofs
set_option maxHeartbeats 4000000 in
set_option maxRecDepth 100000 in
theorem inSet (p : Value) (n : Int) (w : World) : Calls Tryd.prog 14 #[.int .i64 n, p] w fun e w' => e = .returned (.func (.func 15) #[] #[p, .pointer (some ⟨w.heap.size, 0, none⟩)]) ∧ w' = w.alloc (.cells #[.int .i64 n] 3) := by
  go_enter Tryd.func14, Tryd.ntmps14
  go_wp2
  go_ret
  exact ⟨rfl, rfl⟩

set_option maxHeartbeats 4000000 in
set_option maxRecDepth 100000 in
/-- The closure itself: it loads the index and the set, and adds. -/
theorem addOne (cx cs : Addr) (x : Value) (set n r : Int) (w : World) (hx : w.cell? cx = some x) (hs : w.cell? cs = some (.int .i64 set)) {Q : Ending → World → Prop}
    (h : Calls Tryd.prog 16 #[x, .agg #[.int .i64 set, .int .i64 n], .int .i32 r] w fun e w' => e = .returned (.tuple #[]) ∧ Q (.returned (.tuple #[])) w') :
    Calls Tryd.prog 15 #[.int .i64 n, .int .i32 r, .pointer (some cx), .pointer (some cs)] w Q := by
  go_enter Tryd.func15, Tryd.ntmps15
  go_wp2_with (go_at_call 16; refine h.mono ?_; rintro e w' ⟨rfl, hq⟩)
  exact bodyPost_ret (v := .tuple #[]) (by simp [results, Tryd.results15, go_sem]) rfl hq
end Go.Proofs.YtemhfcgkfdklhaaDoor.Look
