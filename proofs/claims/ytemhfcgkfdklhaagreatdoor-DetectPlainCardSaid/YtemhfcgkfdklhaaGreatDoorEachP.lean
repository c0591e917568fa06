/- What latin.Each hands to its closure, in plain words; and what it asks of the closure. -/
import Derived.Lib.SmallJoins
import Derived.Test.YtemhfcgkfdklhaaGreatDoorWord
import Derived.Test.YtemhfcgkfdklhaaGreatDoorSplit
import Derived.Test.YtemhfcgkfdklhaaGreatDoorFree
set_option linter.unusedVariables false
namespace Go.Proofs.YtemhfcgkfdklhaaGreatDoor.Look
open Go Go.RowKit Go.Shelf Go.Proofs Go.Proofs.YtemhfcgkfdklhaaGreatDoor.Seq Go.Proofs.YtemhfcgkfdklhaaGreatDoor.Hex Go.Proofs.YtemhfcgkfdklhaaGreatDoor.FF

/-- The library's tables that Each reads. -/
structure Tabs (w : World) : Prop where
  asc : Lib.TabIs Tryz.prog w "strings.asciiSpace" .u8 Lib.asciiSpaceTab
  white : Lib.WhiteTab 1 w
  utf : Lib.Utf8Tabs 4 5 w
theorem Tabs.below {w w' : World} (h : Tabs w) (hb : Below w.heap.size w w') : Tabs w' :=
  ⟨Go.Joins.tab_stays (g := 0) (by kernel_rfl) h.asc hb (Nat.le_refl _), WhiteTab_below h.white hb, Utf8Tabs_below h.utf hb⟩
def wordE (s : ByteArray) : Bool := wordOk s && decide (-2147483648 ≤ (wordV s).1 ∧ (wordV s).1 ≤ 2147483647)
/-- The lines that the tables hold. -/
def lineE (x : ByteArray) : Bool :=
  decide (x.size < 4294967281) && match fieldsG x with
  | [] => false
  | h :: t => decide (h.size ≠ 0) && decide (h.size ≤ 4) && (hexV 0 h.data.toList).isSome && t.all wordE && decide (t.length < 1000) && decide (t ≠ [])
def numV (ws : List ByteArray) : Nat := (hexV 0 (ws.headD dash).data.toList).getD 0
/-- The numbers and characters of the words of a line, from its k-th on. -/
def wordsL (v : Int) : Nat → List ByteArray → List (Int × Int)
  | _, [] => []
  | k, s :: t => (if (wordV s).2 then [(v + k, (wordV s).1)] else []) ++ wordsL v (k + 1) t
def lineL (x : ByteArray) : List (Int × Int) := wordsL (numV (fieldsG x)) 0 (fieldsG x).tail
def eachL (xs : List ByteArray) : List (Int × Int) := xs.flatMap lineL

theorem eachL_snoc (xs : List ByteArray) (x : ByteArray) : eachL (xs ++ [x]) = eachL xs ++ lineL x := by simp [eachL]

/-- WHAT Each ASKS OF ITS CLOSURE (function gf, its captured cells lb): J w L O: behind the adds L, O the blocks that it owns. -/
structure Steps (gf : Nat) (lb : Array Value) (J : World → List (Int × Int) → (Nat → Prop) → Prop) : Prop where
  lt : ∀ {w : World} {L : List (Int × Int)} {O : Nat → Prop} {k : Nat}, J w L O → O k → k < w.heap.size
  kept : ∀ {w w' : World} {L : List (Int × Int)} {O : Nat → Prop}, J w L O → w.heap.size ≤ w'.heap.size → (∀ k, O k → w'.heap[k]? = w.heap[k]?) → J w' L O
  step : ∀ {w : World} {L : List (Int × Int)} {O : Nat → Prop} (n r : Int), J w L O → L.length ≤ 100000 → -2147483648 ≤ r → r ≤ 2147483647 → 0 ≤ n → n ≤ 16777215 →
    Calls Tryz.prog gf (#[.int .i64 n, .int .i32 r] ++ lb) w fun e w' => e = .returned (.tuple #[]) ∧ Idx.Free O w w' ∧
      ∃ O' : Nat → Prop, J w' (L ++ [(n, r)]) O' ∧ ∀ k, O' k → k < w.heap.size → O k
end Go.Proofs.YtemhfcgkfdklhaaGreatDoor.Look
