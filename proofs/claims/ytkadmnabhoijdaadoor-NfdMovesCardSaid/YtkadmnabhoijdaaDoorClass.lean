/- amanuensisref03.Class (f10) and its spans (f15). -/
import Derived.Great.BuildSlice
import Derived.WalkKit
import Derived.Test.YtkadmnabhoijdaaDoorSplit
set_option linter.unusedVariables false
namespace Go.Proofs.YtkadmnabhoijdaaDoor.Look
open Go Go.RowKit Go.Shelf Go.Proofs

def spansL : List (Int × Int × Int × Int) := [(768, 788, 230, 0), (829, 836, 230, 0), (838, 838, 230, 0), (842, 844, 230, 0), (848, 850, 230, 0), (855, 855, 230, 0), (859, 859, 230, 0), (867, 879, 230, 0), (65056, 65059, 230, 0), (789, 789, 232, 0), (794, 794, 232, 0), (795, 795, 216, 0), (801, 802, 202, 0), (807, 808, 202, 0), (790, 793, 220, 0), (796, 800, 220, 0), (803, 806, 220, 0), (809, 819, 220, 0), (825, 828, 220, 0), (839, 841, 220, 0), (845, 846, 220, 0), (851, 854, 220, 0), (820, 824, 1, 0), (837, 837, 240, 0), (860, 860, 233, 0), (863, 863, 233, 0), (866, 866, 233, 0), (861, 862, 234, 0), (864, 865, 234, 0), (1456, 1464, 10, 1), (1465, 1466, 19, 0), (1467, 1467, 20, 0), (1468, 1468, 21, 0), (1469, 1469, 22, 0), (1471, 1471, 23, 0), (1473, 1473, 24, 0), (1474, 1474, 25, 0), (64286, 64286, 26, 0), (1611, 1618, 27, 1), (1619, 1620, 230, 0), (1621, 1622, 220, 0), (1648, 1648, 35, 0), (12441, 12442, 8, 0)]
def rowsV (l : List (Int × Int × Int × Int)) : List Value := l.flatMap fun x => [.int .i64 x.1, .int .i64 x.2.1, .int .i64 x.2.2.1, .int .i64 x.2.2.2]
def classL (r : Int) : List (Int × Int × Int × Int) → Int
  | [] => 0
  | x :: l => if x.1 ≤ r ∧ r ≤ x.2.1 then x.2.2.1 + x.2.2.2 * (r - x.1) else classL r l
def classV (r : Int) : Int := classL r spansL

theorem i33 : (Tryd.prog.info? 37).map (fun i => (i.zero, i.size, i.bytes)) = some (some (.agg #[.int .i64 0, .int .i64 0, .int .i64 0, .int .i64 0]), 4, 32) := by kernel_rfl

set_option maxHeartbeats 8000000 in
set_option maxRecDepth 1000000 in
theorem spans (w : World) : Calls Tryd.prog 21 #[] w fun e w' => e = .returned (.slice (some ⟨w.heap.size, 0, none⟩) 43 43) ∧ w' = w.alloc (.cells (rowsV spansL).toArray 37) := by
  obtain ⟨ie, hi, hz, hs, _⟩ := info_parts i33
  go_enter Tryd.func21, Tryd.ntmps21
  go_wp2
  refine wp_buildSlice 35 37 43 _ rfl (rowsV spansL).toArray ie _ (by kernel_rfl) hi hz (by rw [hs]; decide) (by rw [hs]; decide) (by rw [hs]; kernel_rfl) ?_
  simp only [Act.put]
  go_wp2

  go_ret
  exact ⟨rfl, rfl⟩
end Go.Proofs.YtkadmnabhoijdaaDoor.Look
