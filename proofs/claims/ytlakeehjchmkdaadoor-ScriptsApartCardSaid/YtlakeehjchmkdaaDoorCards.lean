/-
  DERIVED. GIVEN WITH THE SEED: THE CARDS: each row of YtlakeehjchmkdaaDoorRows.lean that lists a variable, with what it lists TIED to the program's text (the seventh form; the later family's looks); each row that meets fmt, with fmt's text TOLD by the authors' own Lean function (tested against real Go, not proved from fmt's source: count such statements apart). THE CARD IS WHAT COUNTS. Prove the row's statement (the work); the ties are given (YtlakeehjchmkdaaDoorTie.lean); close each card by the builder's one call (the guide's Derived/Test/ToyasCard.lean, 'card_holds'). Laid BY PROGRAM, IN A SANDBOX (cutbox-door.mjs). By AI agents, Wed Nov 11 2026. No macro, syntax, notation, axiom, sorry.
-/
import Derived.Test.YtlakeehjchmkdaaDoorRows
import GoSem.ClaimSeven
namespace Go.Proofs.YtlakeehjchmkdaaDoor
namespace Rows

/-- THE TIED CARD OF 'amanuensislaw09.LatinMarks'. -/
def latinMarksCard : Claim7 := { stood := { row := latinMarksRow, standIns := [], harness := (true, "2179c7741841904055d98bb72cd9408a78d3be6f8d2638f68cd5b1693a64000b"), looks := true }, kinds := [], alts := [], laidByText := true, laidKinds := [.data, .data, .data, .data, .sentinel, .sentinel, .listed, .data, .pinned], laidTests := true, laidLooks := .later }
def LatinMarksCardSaid : Prop := Claim7.holds Tryd.pinned (.plain (OpenSpec.ofChange latinMarksSpec)) latinMarksCard

/-- THE TIED CARD OF 'amanuensislaw09.LatinApart'. -/
def latinApartCard : Claim7 := { stood := { row := latinApartRow, standIns := [], harness := (true, "2179c7741841904055d98bb72cd9408a78d3be6f8d2638f68cd5b1693a64000b"), looks := true }, kinds := [], alts := [], laidByText := true, laidKinds := [.data, .data, .data, .data, .sentinel, .sentinel, .listed, .data, .pinned], laidTests := true, laidLooks := .later }
def LatinApartCardSaid : Prop := Claim7.holds Tryd.pinned (.plain (OpenSpec.ofChange latinApartSpec)) latinApartCard

/-- THE TIED CARD OF 'amanuensislaw10.ScriptsApart'. -/
def scriptsApartCard : Claim7 := { stood := { row := scriptsApartRow, standIns := [], harness := (true, "2179c7741841904055d98bb72cd9408a78d3be6f8d2638f68cd5b1693a64000b"), looks := true }, kinds := [], alts := [], laidByText := true, laidKinds := [.data, .data, .data, .data, .sentinel, .sentinel, .listed, .data, .pinned], laidTests := true, laidLooks := .later }
def ScriptsApartCardSaid : Prop := Claim7.holds Tryd.pinned (.plain (OpenSpec.ofChange scriptsApartSpec)) scriptsApartCard

/-- THE TIED CARD OF 'amanuensislaw10.ScriptsMarks'. -/
def scriptsMarksCard : Claim7 := { stood := { row := scriptsMarksRow, standIns := [], harness := (true, "2179c7741841904055d98bb72cd9408a78d3be6f8d2638f68cd5b1693a64000b"), looks := true }, kinds := [], alts := [], laidByText := true, laidKinds := [.data, .data, .data, .data, .sentinel, .sentinel, .listed, .data, .pinned], laidTests := true, laidLooks := .later }
def ScriptsMarksCardSaid : Prop := Claim7.holds Tryd.pinned (.plain (OpenSpec.ofChange scriptsMarksSpec)) scriptsMarksCard

/-- THE TIED CARD OF 'amanuensislaw10.ScriptsCases'. -/
def scriptsCasesCard : Claim7 := { stood := { row := scriptsCasesRow, standIns := [], harness := (true, "2179c7741841904055d98bb72cd9408a78d3be6f8d2638f68cd5b1693a64000b"), looks := true }, kinds := [], alts := [], laidByText := true, laidKinds := [.data, .data, .data, .data, .sentinel, .sentinel, .listed, .data, .pinned], laidTests := true, laidLooks := .later }
def ScriptsCasesCardSaid : Prop := Claim7.holds Tryd.pinned (.plain (OpenSpec.ofChange scriptsCasesSpec)) scriptsCasesCard

/-- THE SECOND FORM's CARD OF 'amanuensislaw09.LatinMarks'. -/
def latinMarksUptoCard : Claim7 := { stood := { row := latinMarksUptoRow, standIns := [], harness := (true, "2179c7741841904055d98bb72cd9408a78d3be6f8d2638f68cd5b1693a64000b"), looks := true }, kinds := [], alts := [], laidByText := true, laidKinds := [.data, .data, .data, .data, .sentinel, .sentinel, .listed, .data, .pinned], laidTests := true, laidLooks := .later }
def LatinMarksUptoCardSaid : Prop := Claim7.holds Tryd.pinned (.plain (OpenSpec.upto latinMarksSpec)) latinMarksUptoCard

/-- THE SECOND FORM's CARD OF 'amanuensislaw09.LatinApart'. -/
def latinApartUptoCard : Claim7 := { stood := { row := latinApartUptoRow, standIns := [], harness := (true, "2179c7741841904055d98bb72cd9408a78d3be6f8d2638f68cd5b1693a64000b"), looks := true }, kinds := [], alts := [], laidByText := true, laidKinds := [.data, .data, .data, .data, .sentinel, .sentinel, .listed, .data, .pinned], laidTests := true, laidLooks := .later }
def LatinApartUptoCardSaid : Prop := Claim7.holds Tryd.pinned (.plain (OpenSpec.upto latinApartSpec)) latinApartUptoCard

/-- THE SECOND FORM's CARD OF 'amanuensislaw10.ScriptsApart'. -/
def scriptsApartUptoCard : Claim7 := { stood := { row := scriptsApartUptoRow, standIns := [], harness := (true, "2179c7741841904055d98bb72cd9408a78d3be6f8d2638f68cd5b1693a64000b"), looks := true }, kinds := [], alts := [], laidByText := true, laidKinds := [.data, .data, .data, .data, .sentinel, .sentinel, .listed, .data, .pinned], laidTests := true, laidLooks := .later }
def ScriptsApartUptoCardSaid : Prop := Claim7.holds Tryd.pinned (.plain (OpenSpec.upto scriptsApartSpec)) scriptsApartUptoCard

/-- THE SECOND FORM's CARD OF 'amanuensislaw10.ScriptsMarks'. -/
def scriptsMarksUptoCard : Claim7 := { stood := { row := scriptsMarksUptoRow, standIns := [], harness := (true, "2179c7741841904055d98bb72cd9408a78d3be6f8d2638f68cd5b1693a64000b"), looks := true }, kinds := [], alts := [], laidByText := true, laidKinds := [.data, .data, .data, .data, .sentinel, .sentinel, .listed, .data, .pinned], laidTests := true, laidLooks := .later }
def ScriptsMarksUptoCardSaid : Prop := Claim7.holds Tryd.pinned (.plain (OpenSpec.upto scriptsMarksSpec)) scriptsMarksUptoCard

/-- THE SECOND FORM's CARD OF 'amanuensislaw10.ScriptsCases'. -/
def scriptsCasesUptoCard : Claim7 := { stood := { row := scriptsCasesUptoRow, standIns := [], harness := (true, "2179c7741841904055d98bb72cd9408a78d3be6f8d2638f68cd5b1693a64000b"), looks := true }, kinds := [], alts := [], laidByText := true, laidKinds := [.data, .data, .data, .data, .sentinel, .sentinel, .listed, .data, .pinned], laidTests := true, laidLooks := .later }
def ScriptsCasesUptoCardSaid : Prop := Claim7.holds Tryd.pinned (.plain (OpenSpec.upto scriptsCasesSpec)) scriptsCasesUptoCard
end Rows
end Go.Proofs.YtlakeehjchmkdaaDoor
