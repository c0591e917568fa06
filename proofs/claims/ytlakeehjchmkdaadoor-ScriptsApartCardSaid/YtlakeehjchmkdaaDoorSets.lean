/- The six sets as one contract. -/
import Derived.Test.YtlakeehjchmkdaaDoorRune
set_option linter.unusedVariables false
namespace Go.Proofs.YtlakeehjchmkdaaDoor.Look
open Go Go.RowKit Go.Shelf Go.Proofs

def tabS : Nat → List (List ByteArray)
  | 0 => greekT
  | 1 => hebrewT
  | 2 => arabicT
  | 3 => moreArabicT
  | 4 => cyrillicT
  | _ => moreCyrillT
theorem rune_any (m : Nat) (hm : m < 6) (n : Int) (w : World) (hT : Tabs w) : Calls Tryd.prog 12 #[.int .i64 (3 + (m : Int)), .int .i64 n] w fun e w' => e = .returned (.tuple #[.int .i32 (lookT (tabS m) n).1, .bool (lookT (tabS m) n).2]) ∧ Below w.heap.size w w' := by
  match m, hm with
  | 0, _ => exact rune3 n w hT
  | 1, _ => exact rune4 n w hT
  | 2, _ => exact rune5 n w hT
  | 3, _ => exact rune6 n w hT
  | 4, _ => exact rune7 n w hT
  | 5, _ => exact rune8 n w hT
end Go.Proofs.YtlakeehjchmkdaaDoor.Look
