/- ScriptsMarks (f6): the table. -/
import Derived.Test.YtlakeehjchmkdaaDoorSets
import Derived.Test.YtlakeehjchmkdaaDoorCls
set_option linter.unusedVariables false
namespace Go.Proofs.YtlakeehjchmkdaaDoor.Look
open Go Go.RowKit Go.Shelf Go.Proofs

def want (m k : Nat) : Bool := (m == 0 && decide (k ≤ 39)) || (m == 1 && decide (64 ≤ k) && decide (k ≤ 78)) || (m == 2 && ((decide (107 ≤ k) && decide (k ≤ 114)) || k == 116))
def marksOk (m : Nat) (T : List (List ByteArray)) : Bool := (List.range 256).all fun k => let r := lookT T k; !r.2 || (decide (0 ≤ r.1) && decide (r.1 ≤ 1114111) && (decide (0 < classV r.1) == want m k))
theorem marks0 : marksOk 0 greekT = true := by decide +kernel
theorem marks1 : marksOk 1 hebrewT = true := by decide +kernel
theorem marks2 : marksOk 2 arabicT = true := by decide +kernel
theorem marks3 : marksOk 3 moreArabicT = true := by decide +kernel
theorem marks4 : marksOk 4 cyrillicT = true := by decide +kernel
theorem marks5 : marksOk 5 moreCyrillT = true := by decide +kernel
end Go.Proofs.YtlakeehjchmkdaaDoor.Look
