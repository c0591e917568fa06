/-
  DERIVED. GIVEN WITH THE SEED: THE CARDS: each row of YtemhfcgkfdklhaaGreatDoorRows.lean that lists a variable, with what it lists TIED to the program's text (the seventh form; the later family's looks); each row that meets fmt, with fmt's text TOLD by the authors' own Lean function (tested against real Go, not proved from fmt's source: count such statements apart). THE CARD IS WHAT COUNTS. Prove the row's statement (the work); the ties are given (YtemhfcgkfdklhaaGreatDoorTie.lean); close each card by the builder's one call (the guide's Derived/Test/ToyasCard.lean, 'card_holds'). Laid BY PROGRAM, IN A SANDBOX (cutbox-door.mjs). By AI agents, Wed Nov 11 2026. No macro, syntax, notation, axiom, sorry.
-/
import Derived.Test.YtemhfcgkfdklhaaGreatDoorRows
import GoSem.ClaimSeven
namespace Go.Proofs.YtemhfcgkfdklhaaGreatDoor
namespace Rows

/-- THE TIED CARD OF 'amanuensislaw15.ReadShut'. -/
def readShutCard : Claim7 := { stood := { row := readShutRow, standIns := [], harness := (true, "3121429f9d292b358672fa16b45924cd6db5a504fd367a59c52d2ddf30ae4b12"), looks := true }, kinds := [], alts := [], laidByText := true, laidKinds := [.data, .data, .data, .data, .sentinel, .sentinel, .listed, .data, .pinned], laidTests := true, laidLooks := .later }
def ReadShutCardSaid : Prop := Claim7.holds Tryz.pinned (.plain (OpenSpec.ofChange readShutSpec)) readShutCard

/-- THE TIED CARD OF 'amanuensislaw24.DetectTold'. -/
def detectToldCard : Claim7 := { stood := { row := detectToldRow, standIns := [], harness := (true, "3121429f9d292b358672fa16b45924cd6db5a504fd367a59c52d2ddf30ae4b12"), looks := true }, kinds := [], alts := [], laidByText := true, laidKinds := [.data, .data, .data, .data, .sentinel, .sentinel, .listed, .data, .pinned], laidTests := true, laidLooks := .later }
def DetectToldCardSaid : Prop := Claim7.holds Tryz.pinned (.plain (OpenSpec.ofChange detectToldSpec)) detectToldCard

/-- THE TIED CARD OF 'amanuensislaw24.DetectTexts'. -/
def detectTextsCard : Claim7 := { stood := { row := detectTextsRow, standIns := [], harness := (true, "3121429f9d292b358672fa16b45924cd6db5a504fd367a59c52d2ddf30ae4b12"), looks := true }, kinds := [], alts := [], laidByText := true, laidKinds := [.data, .data, .data, .data, .sentinel, .sentinel, .listed, .data, .pinned], laidTests := true, laidLooks := .later }
def DetectTextsCardSaid : Prop := Claim7.holds Tryz.pinned (.plain (OpenSpec.ofChange detectTextsSpec)) detectTextsCard

/-- THE TIED CARD OF 'amanuensislaw24.DetectPlain'. -/
def detectPlainCard : Claim7 := { stood := { row := detectPlainRow, standIns := [], harness := (true, "3121429f9d292b358672fa16b45924cd6db5a504fd367a59c52d2ddf30ae4b12"), looks := true }, kinds := [], alts := [], laidByText := true, laidKinds := [.data, .data, .data, .data, .sentinel, .sentinel, .listed, .data, .pinned], laidTests := true, laidLooks := .later }
def DetectPlainCardSaid : Prop := Claim7.holds Tryz.pinned (.plain (OpenSpec.ofChange detectPlainSpec)) detectPlainCard

/-- THE SECOND FORM's CARD OF 'amanuensislaw15.ReadShut'. -/
def readShutUptoCard : Claim7 := { stood := { row := readShutUptoRow, standIns := [], harness := (true, "3121429f9d292b358672fa16b45924cd6db5a504fd367a59c52d2ddf30ae4b12"), looks := true }, kinds := [], alts := [], laidByText := true, laidKinds := [.data, .data, .data, .data, .sentinel, .sentinel, .listed, .data, .pinned], laidTests := true, laidLooks := .later }
def ReadShutUptoCardSaid : Prop := Claim7.holds Tryz.pinned (.plain (OpenSpec.upto readShutSpec)) readShutUptoCard

/-- THE SECOND FORM's CARD OF 'amanuensislaw24.DetectTold'. -/
def detectToldUptoCard : Claim7 := { stood := { row := detectToldUptoRow, standIns := [], harness := (true, "3121429f9d292b358672fa16b45924cd6db5a504fd367a59c52d2ddf30ae4b12"), looks := true }, kinds := [], alts := [], laidByText := true, laidKinds := [.data, .data, .data, .data, .sentinel, .sentinel, .listed, .data, .pinned], laidTests := true, laidLooks := .later }
def DetectToldUptoCardSaid : Prop := Claim7.holds Tryz.pinned (.plain (OpenSpec.upto detectToldSpec)) detectToldUptoCard

/-- THE SECOND FORM's CARD OF 'amanuensislaw24.DetectTexts'. -/
def detectTextsUptoCard : Claim7 := { stood := { row := detectTextsUptoRow, standIns := [], harness := (true, "3121429f9d292b358672fa16b45924cd6db5a504fd367a59c52d2ddf30ae4b12"), looks := true }, kinds := [], alts := [], laidByText := true, laidKinds := [.data, .data, .data, .data, .sentinel, .sentinel, .listed, .data, .pinned], laidTests := true, laidLooks := .later }
def DetectTextsUptoCardSaid : Prop := Claim7.holds Tryz.pinned (.plain (OpenSpec.upto detectTextsSpec)) detectTextsUptoCard

/-- THE SECOND FORM's CARD OF 'amanuensislaw24.DetectPlain'. -/
def detectPlainUptoCard : Claim7 := { stood := { row := detectPlainUptoRow, standIns := [], harness := (true, "3121429f9d292b358672fa16b45924cd6db5a504fd367a59c52d2ddf30ae4b12"), looks := true }, kinds := [], alts := [], laidByText := true, laidKinds := [.data, .data, .data, .data, .sentinel, .sentinel, .listed, .data, .pinned], laidTests := true, laidLooks := .later }
def DetectPlainUptoCardSaid : Prop := Claim7.holds Tryz.pinned (.plain (OpenSpec.upto detectPlainSpec)) detectPlainUptoCard
end Rows
end Go.Proofs.YtemhfcgkfdklhaaGreatDoor
