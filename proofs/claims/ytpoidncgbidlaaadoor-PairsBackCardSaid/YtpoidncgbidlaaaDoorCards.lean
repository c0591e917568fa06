/-
  DERIVED. GIVEN WITH THE SEED: THE CARDS: each row of YtpoidncgbidlaaaDoorRows.lean that lists a variable, with what it lists TIED to the program's text (the seventh form; the later family's looks); each row that meets fmt, with fmt's text TOLD by the authors' own Lean function (tested against real Go, not proved from fmt's source: count such statements apart). THE CARD IS WHAT COUNTS. Prove the row's statement (the work); the ties are given (YtpoidncgbidlaaaDoorTie.lean); close each card by the builder's one call (the guide's Derived/Test/ToyasCard.lean, 'card_holds'). Laid BY PROGRAM, IN A SANDBOX (cutbox-door.mjs). By AI agents, Wed Nov 11 2026. No macro, syntax, notation, axiom, sorry.
-/
import Derived.Test.YtpoidncgbidlaaaDoorRows
import GoSem.ClaimSeven
namespace Go.Proofs.YtpoidncgbidlaaaDoor
namespace Rows

/-- THE TIED CARD OF 'amanuensislaw04.PairsBack'. -/
def pairsBackCard : Claim7 := { stood := { row := pairsBackRow, standIns := [], harness := (true, "f5276f94705987d9d514638411be7b229552a67fcc9af41e9fdfaba0f8ec80c2"), looks := true }, kinds := [], alts := [], laidByText := true, laidKinds := [.data, .data, .data, .data, .sentinel, .sentinel, .listed, .data, .pinned], laidTests := true, laidLooks := .later }
def PairsBackCardSaid : Prop := Claim7.holds Tryd.pinned (.plain (OpenSpec.ofChange pairsBackSpec)) pairsBackCard

/-- THE TIED CARD OF 'amanuensislaw15.ReadJoins'. -/
def readJoinsCard : Claim7 := { stood := { row := readJoinsRow, standIns := [], harness := (true, "f5276f94705987d9d514638411be7b229552a67fcc9af41e9fdfaba0f8ec80c2"), looks := true }, kinds := [], alts := [], laidByText := true, laidKinds := [.data, .data, .data, .data, .sentinel, .sentinel, .listed, .data, .pinned], laidTests := true, laidLooks := .later }
def ReadJoinsCardSaid : Prop := Claim7.holds Tryd.pinned (.plain (OpenSpec.ofChange readJoinsSpec)) readJoinsCard

/-- THE SECOND FORM's CARD OF 'amanuensislaw04.PairsBack'. -/
def pairsBackUptoCard : Claim7 := { stood := { row := pairsBackUptoRow, standIns := [], harness := (true, "f5276f94705987d9d514638411be7b229552a67fcc9af41e9fdfaba0f8ec80c2"), looks := true }, kinds := [], alts := [], laidByText := true, laidKinds := [.data, .data, .data, .data, .sentinel, .sentinel, .listed, .data, .pinned], laidTests := true, laidLooks := .later }
def PairsBackUptoCardSaid : Prop := Claim7.holds Tryd.pinned (.plain (OpenSpec.upto pairsBackSpec)) pairsBackUptoCard

/-- THE SECOND FORM's CARD OF 'amanuensislaw15.ReadJoins'. -/
def readJoinsUptoCard : Claim7 := { stood := { row := readJoinsUptoRow, standIns := [], harness := (true, "f5276f94705987d9d514638411be7b229552a67fcc9af41e9fdfaba0f8ec80c2"), looks := true }, kinds := [], alts := [], laidByText := true, laidKinds := [.data, .data, .data, .data, .sentinel, .sentinel, .listed, .data, .pinned], laidTests := true, laidLooks := .later }
def ReadJoinsUptoCardSaid : Prop := Claim7.holds Tryd.pinned (.plain (OpenSpec.upto readJoinsSpec)) readJoinsUptoCard
end Rows
end Go.Proofs.YtpoidncgbidlaaaDoor
