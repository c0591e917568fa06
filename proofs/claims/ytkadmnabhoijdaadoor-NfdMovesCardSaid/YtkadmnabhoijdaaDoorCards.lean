/-
  DERIVED. GIVEN WITH THE SEED: THE CARDS: each row of YtkadmnabhoijdaaDoorRows.lean that lists a variable, with what it lists TIED to the program's text (the seventh form; the later family's looks); each row that meets fmt, with fmt's text TOLD by the authors' own Lean function (tested against real Go, not proved from fmt's source: count such statements apart). THE CARD IS WHAT COUNTS. Prove the row's statement (the work); the ties are given (YtkadmnabhoijdaaDoorTie.lean); close each card by the builder's one call (the guide's Derived/Test/ToyasCard.lean, 'card_holds'). Laid BY PROGRAM, IN A SANDBOX (cutbox-door.mjs). By AI agents, Wed Nov 11 2026. No macro, syntax, notation, axiom, sorry.
-/
import Derived.Test.YtkadmnabhoijdaaDoorRows
import GoSem.ClaimSeven
namespace Go.Proofs.YtkadmnabhoijdaaDoor
namespace Rows

/-- THE TIED CARD OF 'amanuensislaw06.NfdOrder'. -/
def nfdOrderCard : Claim7 := { stood := { row := nfdOrderRow, standIns := [], harness := (true, "705b9180f8638505e313b6feec5f89167ed0dc90272536cb67da1d8fd4eff183"), looks := true }, kinds := [], alts := [], laidByText := true, laidKinds := [.data, .data, .data, .data, .sentinel, .sentinel, .listed, .data, .pinned], laidTests := true, laidLooks := .later }
def NfdOrderCardSaid : Prop := Claim7.holds Tryd.pinned (.plain (OpenSpec.ofChange nfdOrderSpec)) nfdOrderCard

/-- THE TIED CARD OF 'amanuensislaw06.NfdJoins'. -/
def nfdJoinsCard : Claim7 := { stood := { row := nfdJoinsRow, standIns := [], harness := (true, "705b9180f8638505e313b6feec5f89167ed0dc90272536cb67da1d8fd4eff183"), looks := true }, kinds := [], alts := [], laidByText := true, laidKinds := [.data, .data, .data, .data, .sentinel, .sentinel, .listed, .data, .pinned], laidTests := true, laidLooks := .later }
def NfdJoinsCardSaid : Prop := Claim7.holds Tryd.pinned (.plain (OpenSpec.ofChange nfdJoinsSpec)) nfdJoinsCard

/-- THE TIED CARD OF 'amanuensislaw06.NfdTwice'. -/
def nfdTwiceCard : Claim7 := { stood := { row := nfdTwiceRow, standIns := [], harness := (true, "705b9180f8638505e313b6feec5f89167ed0dc90272536cb67da1d8fd4eff183"), looks := true }, kinds := [], alts := [], laidByText := true, laidKinds := [.data, .data, .data, .data, .sentinel, .sentinel, .listed, .data, .pinned], laidTests := true, laidLooks := .later }
def NfdTwiceCardSaid : Prop := Claim7.holds Tryd.pinned (.plain (OpenSpec.ofChange nfdTwiceSpec)) nfdTwiceCard

/-- THE TIED CARD OF 'amanuensislaw06.NfdMoves'. -/
def nfdMovesCard : Claim7 := { stood := { row := nfdMovesRow, standIns := [], harness := (true, "705b9180f8638505e313b6feec5f89167ed0dc90272536cb67da1d8fd4eff183"), looks := true }, kinds := [], alts := [], laidByText := true, laidKinds := [.data, .data, .data, .data, .sentinel, .sentinel, .listed, .data, .pinned], laidTests := true, laidLooks := .later }
def NfdMovesCardSaid : Prop := Claim7.holds Tryd.pinned (.plain (OpenSpec.ofChange nfdMovesSpec)) nfdMovesCard

/-- THE SECOND FORM's CARD OF 'amanuensislaw06.NfdOrder'. -/
def nfdOrderUptoCard : Claim7 := { stood := { row := nfdOrderUptoRow, standIns := [], harness := (true, "705b9180f8638505e313b6feec5f89167ed0dc90272536cb67da1d8fd4eff183"), looks := true }, kinds := [], alts := [], laidByText := true, laidKinds := [.data, .data, .data, .data, .sentinel, .sentinel, .listed, .data, .pinned], laidTests := true, laidLooks := .later }
def NfdOrderUptoCardSaid : Prop := Claim7.holds Tryd.pinned (.plain (OpenSpec.upto nfdOrderSpec)) nfdOrderUptoCard

/-- THE SECOND FORM's CARD OF 'amanuensislaw06.NfdJoins'. -/
def nfdJoinsUptoCard : Claim7 := { stood := { row := nfdJoinsUptoRow, standIns := [], harness := (true, "705b9180f8638505e313b6feec5f89167ed0dc90272536cb67da1d8fd4eff183"), looks := true }, kinds := [], alts := [], laidByText := true, laidKinds := [.data, .data, .data, .data, .sentinel, .sentinel, .listed, .data, .pinned], laidTests := true, laidLooks := .later }
def NfdJoinsUptoCardSaid : Prop := Claim7.holds Tryd.pinned (.plain (OpenSpec.upto nfdJoinsSpec)) nfdJoinsUptoCard

/-- THE SECOND FORM's CARD OF 'amanuensislaw06.NfdTwice'. -/
def nfdTwiceUptoCard : Claim7 := { stood := { row := nfdTwiceUptoRow, standIns := [], harness := (true, "705b9180f8638505e313b6feec5f89167ed0dc90272536cb67da1d8fd4eff183"), looks := true }, kinds := [], alts := [], laidByText := true, laidKinds := [.data, .data, .data, .data, .sentinel, .sentinel, .listed, .data, .pinned], laidTests := true, laidLooks := .later }
def NfdTwiceUptoCardSaid : Prop := Claim7.holds Tryd.pinned (.plain (OpenSpec.upto nfdTwiceSpec)) nfdTwiceUptoCard

/-- THE SECOND FORM's CARD OF 'amanuensislaw06.NfdMoves'. -/
def nfdMovesUptoCard : Claim7 := { stood := { row := nfdMovesUptoRow, standIns := [], harness := (true, "705b9180f8638505e313b6feec5f89167ed0dc90272536cb67da1d8fd4eff183"), looks := true }, kinds := [], alts := [], laidByText := true, laidKinds := [.data, .data, .data, .data, .sentinel, .sentinel, .listed, .data, .pinned], laidTests := true, laidLooks := .later }
def NfdMovesUptoCardSaid : Prop := Claim7.holds Tryd.pinned (.plain (OpenSpec.upto nfdMovesSpec)) nfdMovesUptoCard
end Rows
end Go.Proofs.YtkadmnabhoijdaaDoor
