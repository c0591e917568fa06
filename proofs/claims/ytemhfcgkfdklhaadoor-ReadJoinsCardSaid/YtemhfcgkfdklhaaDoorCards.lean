/-
  DERIVED. GIVEN WITH THE SEED: THE CARDS: each row of YtemhfcgkfdklhaaDoorRows.lean that lists a variable, with what it lists TIED to the program's text (the seventh form; the later family's looks); each row that meets fmt, with fmt's text TOLD by the authors' own Lean function (tested against real Go, not proved from fmt's source: count such statements apart). THE CARD IS WHAT COUNTS. Prove the row's statement (the work); the ties are given (YtemhfcgkfdklhaaDoorTie.lean); close each card by the builder's one call (the guide's Derived/Test/ToyasCard.lean, 'card_holds'). Laid BY PROGRAM, IN A SANDBOX (cutbox-door.mjs). By AI agents, Wed Nov 11 2026. No macro, syntax, notation, axiom, sorry.
-/
import Derived.Test.YtemhfcgkfdklhaaDoorRows
import GoSem.ClaimSeven
namespace Go.Proofs.YtemhfcgkfdklhaaDoor
namespace Rows

/-- THE TIED CARD OF 'amanuensislaw15.ReadJoins'. -/
def readJoinsCard : Claim7 := { stood := { row := readJoinsRow, standIns := [], harness := (true, "68f6c08d66ee96321f35245c94560231c2fc7fdbd0bc7b9d41d27b7bd0b8bf22"), looks := true }, kinds := [], alts := [], laidByText := true, laidKinds := [.data, .data, .data, .data, .sentinel, .sentinel, .listed, .data, .pinned], laidTests := true, laidLooks := .later }
def ReadJoinsCardSaid : Prop := Claim7.holds Tryd.pinned (.plain (OpenSpec.ofChange readJoinsSpec)) readJoinsCard

/-- THE SECOND FORM's CARD OF 'amanuensislaw15.ReadJoins'. -/
def readJoinsUptoCard : Claim7 := { stood := { row := readJoinsUptoRow, standIns := [], harness := (true, "68f6c08d66ee96321f35245c94560231c2fc7fdbd0bc7b9d41d27b7bd0b8bf22"), looks := true }, kinds := [], alts := [], laidByText := true, laidKinds := [.data, .data, .data, .data, .sentinel, .sentinel, .listed, .data, .pinned], laidTests := true, laidLooks := .later }
def ReadJoinsUptoCardSaid : Prop := Claim7.holds Tryd.pinned (.plain (OpenSpec.upto readJoinsSpec)) readJoinsUptoCard
end Rows
end Go.Proofs.YtemhfcgkfdklhaaDoor
