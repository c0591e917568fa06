/- ReadJoins, for the row. -/
import Derived.Test.YtemhfcgkfdklhaaDoorJoinL15
set_option linter.unusedVariables false
namespace Go.Proofs.YtemhfcgkfdklhaaDoor.Look
open Go Go.RowKit Go.Shelf Go.Proofs Go.Proofs.YtemhfcgkfdklhaaDoor.Rd

/-- A slice of bytes that came in. -/
structure InB (W : World) (a : Option Addr) (len cap : Nat) (l : List Int) : Prop where
  row : RowB W a l
  size : l.length = len
  room : len ≤ cap ∧ cap ≤ 140737488351232
  nil : a = none → cap = 0
  byte : ∀ x ∈ l, 0 ≤ x ∧ x ≤ 255
theorem joinsW {W : World} {a1 a2 : Option Addr} {n1 c1 n2 c2 : Nat} {la lb : List Int} (h1 : InB W a1 n1 c1 la) (h2 : InB W a2 n2 c2 lb) (g0 g1 : Int) (hT : Tabs W) :
    Calls Tryd.prog 3 #[.slice a1 n1 c1, .slice a2 n2 c2, .agg #[.int .i64 g0, .int .i64 g1]] W fun e w' => e = .returned (.bool true) ∧ Below W.heap.size W w' := by
  obtain ⟨k1, rfl, k3, k4, k5⟩ := h1
  obtain ⟨j1, rfl, j3, j4, j5⟩ := h2
  exact joinsLaw W hT a1 a2 c1 c2 la lb g0 g1 k1 j1 ⟨k3.1, by omega⟩ ⟨j3.1, by omega⟩ k4 j4 k5 j5
end Go.Proofs.YtemhfcgkfdklhaaDoor.Look
