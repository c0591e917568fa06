/-
  DERIVED. GIVEN WITH THE SEED: THE CARDS: each row of YtkadmnabhoijdaaGreatDoorRows.lean that lists a variable, with what it lists TIED to the program's text (the seventh form; the later family's looks); each row that meets fmt, with fmt's text TOLD by the authors' own Lean function (tested against real Go, not proved from fmt's source: count such statements apart). THE CARD IS WHAT COUNTS. Prove the row's statement (the work); the ties are given (YtkadmnabhoijdaaGreatDoorTie.lean); close each card by the builder's one call (the guide's Derived/Test/ToyasCard.lean, 'card_holds'). Laid BY PROGRAM, IN A SANDBOX (cutbox-door.mjs). By AI agents, Wed Nov 11 2026. No macro, syntax, notation, axiom, sorry.
-/
import Derived.Test.YtkadmnabhoijdaaGreatDoorRows
import GoSem.ClaimSeven
namespace Go.Proofs.YtkadmnabhoijdaaGreatDoor
namespace Rows

/-- THE TIED CARD OF 'amanuensislaw07.NfcSame'. -/
def nfcSameCard : Claim7 := { stood := { row := nfcSameRow, standIns := [], harness := (true, "5181462bbb6a67e091064025e2abc262bbdd4fc1ac4d921e039da7a92f897a08"), looks := true }, kinds := [], alts := [], laidByText := true, laidKinds := [.data, .data, .data, .data, .sentinel, .sentinel, .listed, .data, .pinned], laidTests := true, laidLooks := .later }
def NfcSameCardSaid : Prop := Claim7.holds Tryz.pinned (.plain (OpenSpec.ofChange nfcSameSpec)) nfcSameCard

/-- THE TIED CARD OF 'amanuensislaw07.NfcKeeps'. -/
def nfcKeepsCard : Claim7 := { stood := { row := nfcKeepsRow, standIns := [], harness := (true, "5181462bbb6a67e091064025e2abc262bbdd4fc1ac4d921e039da7a92f897a08"), looks := true }, kinds := [], alts := [], laidByText := true, laidKinds := [.data, .data, .data, .data, .sentinel, .sentinel, .listed, .data, .pinned], laidTests := true, laidLooks := .later }
def NfcKeepsCardSaid : Prop := Claim7.holds Tryz.pinned (.plain (OpenSpec.ofChange nfcKeepsSpec)) nfcKeepsCard

/-- THE TIED CARD OF 'amanuensislaw07.NfcTwice'. -/
def nfcTwiceCard : Claim7 := { stood := { row := nfcTwiceRow, standIns := [], harness := (true, "5181462bbb6a67e091064025e2abc262bbdd4fc1ac4d921e039da7a92f897a08"), looks := true }, kinds := [], alts := [], laidByText := true, laidKinds := [.data, .data, .data, .data, .sentinel, .sentinel, .listed, .data, .pinned], laidTests := true, laidLooks := .later }
def NfcTwiceCardSaid : Prop := Claim7.holds Tryz.pinned (.plain (OpenSpec.ofChange nfcTwiceSpec)) nfcTwiceCard

/-- THE SECOND FORM's CARD OF 'amanuensislaw07.NfcSame'. -/
def nfcSameUptoCard : Claim7 := { stood := { row := nfcSameUptoRow, standIns := [], harness := (true, "5181462bbb6a67e091064025e2abc262bbdd4fc1ac4d921e039da7a92f897a08"), looks := true }, kinds := [], alts := [], laidByText := true, laidKinds := [.data, .data, .data, .data, .sentinel, .sentinel, .listed, .data, .pinned], laidTests := true, laidLooks := .later }
def NfcSameUptoCardSaid : Prop := Claim7.holds Tryz.pinned (.plain (OpenSpec.upto nfcSameSpec)) nfcSameUptoCard

/-- THE SECOND FORM's CARD OF 'amanuensislaw07.NfcKeeps'. -/
def nfcKeepsUptoCard : Claim7 := { stood := { row := nfcKeepsUptoRow, standIns := [], harness := (true, "5181462bbb6a67e091064025e2abc262bbdd4fc1ac4d921e039da7a92f897a08"), looks := true }, kinds := [], alts := [], laidByText := true, laidKinds := [.data, .data, .data, .data, .sentinel, .sentinel, .listed, .data, .pinned], laidTests := true, laidLooks := .later }
def NfcKeepsUptoCardSaid : Prop := Claim7.holds Tryz.pinned (.plain (OpenSpec.upto nfcKeepsSpec)) nfcKeepsUptoCard

/-- THE SECOND FORM's CARD OF 'amanuensislaw07.NfcTwice'. -/
def nfcTwiceUptoCard : Claim7 := { stood := { row := nfcTwiceUptoRow, standIns := [], harness := (true, "5181462bbb6a67e091064025e2abc262bbdd4fc1ac4d921e039da7a92f897a08"), looks := true }, kinds := [], alts := [], laidByText := true, laidKinds := [.data, .data, .data, .data, .sentinel, .sentinel, .listed, .data, .pinned], laidTests := true, laidLooks := .later }
def NfcTwiceUptoCardSaid : Prop := Claim7.holds Tryz.pinned (.plain (OpenSpec.upto nfcTwiceSpec)) nfcTwiceUptoCard
end Rows
end Go.Proofs.YtkadmnabhoijdaaGreatDoor
