/-
  No cell of these rows narrows 'for every input' (looked for: loops, veiled, ifaces, maps, wideKeys, modest, calm, conditions, laid).
  DERIVED. THE GIVEN ROWS OF THIS SEAT. 8 by the template 'for every input the law returns true; each argument reads behind the call as it read before'; 0 by the template 'total and deterministic' (their statements: YtjkgabmhhehhjaaTotals.lean).
  GIVEN WITH THE SEED: the statements are not yours to turn. If you find one false, say at which input.
  Laid BY PROGRAM, IN A SANDBOX (cutbox-rows.mjs): the forced cells as the released guide's own fill.sh prints them over the translation 29731868125eaddb… (all of the seat's roots in one cut). By AI agents, Wed Nov 11 2026. No macro, syntax, notation, axiom, sorry.
-/
import Derived.Test.YtjkgabmhhehhjaaChecked
import GoSem.Claim
import GoSem.ClaimJoined
import GoSem.ClaimMapViews
import Derived.JoinedTies
import Derived.KernelRfl
namespace Go.Proofs.Ytjkgabmhhehhjaa
/- THE CELL 'sum', in the pinned program and in every row, IS THE sha256 OF THE DUMP (.gsa) THAT YtjkgabmhhehhjaaProg.lean LOADS. Nothing in Lean hashes anything: it is a label: what it is worth is what the hold of that sum in a sandbox is worth. -/
noncomputable def Try.pinned : Pinned := { name := "ytjkgabmhhehhjaa", sum := "29731868125eaddbf5becedfc0049b9269a540d06b45e16c8116a9630f8e64f7", checked := Try.checked }
namespace Rows
def none {H : Type} : Left H := { results := [], args := [] }

/-- 'amanuensislaw08.SetsApart': WHATEVER THE INPUT: true; the input reads as it did. -/
def setsApartSpec : ChangeSpec := { name := "setsApart", fn := fun _ => fun
  | [d1, d2, d3, d4] => { results := [.lit (.bool true)], args := [d1, d2, d3, d4] }
  | _ => none }
def setsApartRow : OpenClaim := { program := "ytjkgabmhhehhjaa", sum := "29731868125eaddbf5becedfc0049b9269a540d06b45e16c8116a9630f8e64f7", func := "amanuensis/amanuensislaw08.SetsApart", spec := "setsApart", apart := false }
def SetsApartSaid : Prop := setsApartRow.holds Try.pinned (OpenSpec.ofChange setsApartSpec)

/-- ITS FALSE NEIGHBOUR: 'it returns false'. Refute it at one input. -/
def setsApartWrong : ChangeSpec := { name := "setsApart", fn := fun _ => fun
  | [d1, d2, d3, d4] => { results := [.lit (.bool false)], args := [d1, d2, d3, d4] }
  | _ => none }
def SetsApartWrongFalsely : Prop := setsApartRow.holds Try.pinned (OpenSpec.ofChange setsApartWrong)

/-- 'amanuensislaw08.SetsLeast': WHATEVER THE INPUT: true; the input reads as it did. -/
def setsLeastSpec : ChangeSpec := { name := "setsLeast", fn := fun _ => fun
  | [d] => { results := [.lit (.bool true)], args := [d] }
  | _ => none }
def setsLeastRow : OpenClaim := { program := "ytjkgabmhhehhjaa", sum := "29731868125eaddbf5becedfc0049b9269a540d06b45e16c8116a9630f8e64f7", func := "amanuensis/amanuensislaw08.SetsLeast", spec := "setsLeast", apart := false }
def SetsLeastSaid : Prop := setsLeastRow.holds Try.pinned (OpenSpec.ofChange setsLeastSpec)

/-- ITS FALSE NEIGHBOUR: 'it returns false'. Refute it at one input. -/
def setsLeastWrong : ChangeSpec := { name := "setsLeast", fn := fun _ => fun
  | [d] => { results := [.lit (.bool false)], args := [d] }
  | _ => none }
def SetsLeastWrongFalsely : Prop := setsLeastRow.holds Try.pinned (OpenSpec.ofChange setsLeastWrong)

/-- 'amanuensislaw08.SetsNames': WHATEVER THE INPUT: true; the input reads as it did. -/
def setsNamesSpec : ChangeSpec := { name := "setsNames", fn := fun _ => fun
  | [d1, d2] => { results := [.lit (.bool true)], args := [d1, d2] }
  | _ => none }
def setsNamesRow : OpenClaim := { program := "ytjkgabmhhehhjaa", sum := "29731868125eaddbf5becedfc0049b9269a540d06b45e16c8116a9630f8e64f7", func := "amanuensis/amanuensislaw08.SetsNames", spec := "setsNames", apart := false }
def SetsNamesSaid : Prop := setsNamesRow.holds Try.pinned (OpenSpec.ofChange setsNamesSpec)

/-- ITS FALSE NEIGHBOUR: 'it returns false'. Refute it at one input. -/
def setsNamesWrong : ChangeSpec := { name := "setsNames", fn := fun _ => fun
  | [d1, d2] => { results := [.lit (.bool false)], args := [d1, d2] }
  | _ => none }
def SetsNamesWrongFalsely : Prop := setsNamesRow.holds Try.pinned (OpenSpec.ofChange setsNamesWrong)

/-- 'amanuensislaw08.SetsNone': WHATEVER THE INPUT: true; the input reads as it did. -/
def setsNoneSpec : ChangeSpec := { name := "setsNone", fn := fun _ => fun
  | [d1, d2] => { results := [.lit (.bool true)], args := [d1, d2] }
  | _ => none }
def setsNoneRow : OpenClaim := { program := "ytjkgabmhhehhjaa", sum := "29731868125eaddbf5becedfc0049b9269a540d06b45e16c8116a9630f8e64f7", func := "amanuensis/amanuensislaw08.SetsNone", spec := "setsNone", apart := false }
def SetsNoneSaid : Prop := setsNoneRow.holds Try.pinned (OpenSpec.ofChange setsNoneSpec)

/-- ITS FALSE NEIGHBOUR: 'it returns false'. Refute it at one input. -/
def setsNoneWrong : ChangeSpec := { name := "setsNone", fn := fun _ => fun
  | [d1, d2] => { results := [.lit (.bool false)], args := [d1, d2] }
  | _ => none }
def SetsNoneWrongFalsely : Prop := setsNoneRow.holds Try.pinned (OpenSpec.ofChange setsNoneWrong)

/-- 'amanuensislaw14.EscapeReads': WHATEVER THE INPUT: true; the input reads as it did. -/
def escapeReadsSpec : ChangeSpec := { name := "escapeReads", fn := fun _ => fun
  | [d1, d2, d3] => { results := [.lit (.bool true)], args := [d1, d2, d3] }
  | _ => none }
def escapeReadsRow : OpenClaim := { program := "ytjkgabmhhehhjaa", sum := "29731868125eaddbf5becedfc0049b9269a540d06b45e16c8116a9630f8e64f7", func := "amanuensis/amanuensislaw14.EscapeReads", spec := "escapeReads", apart := false }
def EscapeReadsSaid : Prop := escapeReadsRow.holds Try.pinned (OpenSpec.ofChange escapeReadsSpec)

/-- ITS FALSE NEIGHBOUR: 'it returns false'. Refute it at one input. -/
def escapeReadsWrong : ChangeSpec := { name := "escapeReads", fn := fun _ => fun
  | [d1, d2, d3] => { results := [.lit (.bool false)], args := [d1, d2, d3] }
  | _ => none }
def EscapeReadsWrongFalsely : Prop := escapeReadsRow.holds Try.pinned (OpenSpec.ofChange escapeReadsWrong)

/-- 'amanuensislaw14.EscapeAll': WHATEVER THE INPUT: true; the input reads as it did. -/
def escapeAllSpec : ChangeSpec := { name := "escapeAll", fn := fun _ => fun
  | [d1, d2, d3, d4] => { results := [.lit (.bool true)], args := [d1, d2, d3, d4] }
  | _ => none }
def escapeAllRow : OpenClaim := { program := "ytjkgabmhhehhjaa", sum := "29731868125eaddbf5becedfc0049b9269a540d06b45e16c8116a9630f8e64f7", func := "amanuensis/amanuensislaw14.EscapeAll", spec := "escapeAll", apart := false }
def EscapeAllSaid : Prop := escapeAllRow.holds Try.pinned (OpenSpec.ofChange escapeAllSpec)

/-- ITS FALSE NEIGHBOUR: 'it returns false'. Refute it at one input. -/
def escapeAllWrong : ChangeSpec := { name := "escapeAll", fn := fun _ => fun
  | [d1, d2, d3, d4] => { results := [.lit (.bool false)], args := [d1, d2, d3, d4] }
  | _ => none }
def EscapeAllWrongFalsely : Prop := escapeAllRow.holds Try.pinned (OpenSpec.ofChange escapeAllWrong)

/-- 'amanuensislaw14.EscapeCut': WHATEVER THE INPUT: true; the input reads as it did. -/
def escapeCutSpec : ChangeSpec := { name := "escapeCut", fn := fun _ => fun
  | [d1, d2, d3] => { results := [.lit (.bool true)], args := [d1, d2, d3] }
  | _ => none }
def escapeCutRow : OpenClaim := { program := "ytjkgabmhhehhjaa", sum := "29731868125eaddbf5becedfc0049b9269a540d06b45e16c8116a9630f8e64f7", func := "amanuensis/amanuensislaw14.EscapeCut", spec := "escapeCut", apart := false }
def EscapeCutSaid : Prop := escapeCutRow.holds Try.pinned (OpenSpec.ofChange escapeCutSpec)

/-- ITS FALSE NEIGHBOUR: 'it returns false'. Refute it at one input. -/
def escapeCutWrong : ChangeSpec := { name := "escapeCut", fn := fun _ => fun
  | [d1, d2, d3] => { results := [.lit (.bool false)], args := [d1, d2, d3] }
  | _ => none }
def EscapeCutWrongFalsely : Prop := escapeCutRow.holds Try.pinned (OpenSpec.ofChange escapeCutWrong)

/-- 'amanuensislaw14.EscapePrints': WHATEVER THE INPUT: true; the input reads as it did. -/
def escapePrintsSpec : ChangeSpec := { name := "escapePrints", fn := fun _ => fun
  | [d1, d2] => { results := [.lit (.bool true)], args := [d1, d2] }
  | _ => none }
def escapePrintsRow : OpenClaim := { program := "ytjkgabmhhehhjaa", sum := "29731868125eaddbf5becedfc0049b9269a540d06b45e16c8116a9630f8e64f7", func := "amanuensis/amanuensislaw14.EscapePrints", spec := "escapePrints", apart := false }
def EscapePrintsSaid : Prop := escapePrintsRow.holds Try.pinned (OpenSpec.ofChange escapePrintsSpec)

/-- ITS FALSE NEIGHBOUR: 'it returns false'. Refute it at one input. -/
def escapePrintsWrong : ChangeSpec := { name := "escapePrints", fn := fun _ => fun
  | [d1, d2] => { results := [.lit (.bool false)], args := [d1, d2] }
  | _ => none }
def EscapePrintsWrongFalsely : Prop := escapePrintsRow.holds Try.pinned (OpenSpec.ofChange escapePrintsWrong)

/- THE SECOND FORM. 'bulk': how many values and letters a reading holds, each counted each time it is reached (what is shared counts as often as it is met; a slice's spare places count too). A statement '..UptoSaid' is the law's where the arguments, and the package variables that the reading takes, are together of bulk at most 1048576: NARROWER than '..Said'. Prove '..Said' where nothing that the law and all that it calls make is longer than what came in: it says more and counts as full. Else prove '..UptoSaid'. A law counts once. -/
mutual
def uptoBulk {H : Type} : DataW H → Nat
  | .lit (.string bytes) => bytes.length + 1
  | .lit _ => 1
  | .nil => 1
  | .ptr d => uptoBulk d + 1
  | .slice elems spare => uptoBulkAll elems + uptoBulkAll spare + 1
  | .agg parts => uptoBulkAll parts + 1
  | .iface _ d => uptoBulk d + 1
  | .map entries => uptoBulkEntries entries + 1
  | .held _ => 1
def uptoBulkAll {H : Type} : List (DataW H) → Nat
  | [] => 0
  | d :: r => uptoBulk d + uptoBulkAll r
def uptoBulkEntries {H : Type} : List (Lit × DataW H) → Nat
  | [] => 0
  | x :: r => uptoBulkEntry x + uptoBulkEntries r
def uptoBulkEntry {H : Type} : Lit × DataW H → Nat
  | (.string bytes, d) => bytes.length + uptoBulk d + 1
  | (_, d) => uptoBulk d + 1
 end
def uptoSmall : (H : Type) → List (DataW H) → Bool := fun _ ds => decide (uptoBulkAll ds ≤ 1048576)
def OpenSpec.upto (s : _root_.Go.ChangeSpec) : _root_.Go.OpenSpec := { _root_.Go.OpenSpec.ofChange s with cond := some uptoSmall }

/-- 'amanuensislaw08.SetsApart', WHERE WHAT IT READS IS OF BULK AT MOST 1048576: true; the input reads as it did. -/
def setsApartUptoRow : OpenClaim := { program := "ytjkgabmhhehhjaa", sum := "29731868125eaddbf5becedfc0049b9269a540d06b45e16c8116a9630f8e64f7", func := "amanuensis/amanuensislaw08.SetsApart", spec := "setsApart", apart := false, narrowed := true }
def SetsApartUptoSaid : Prop := setsApartUptoRow.holds Try.pinned (OpenSpec.upto setsApartSpec)

/-- 'amanuensislaw08.SetsLeast', WHERE WHAT IT READS IS OF BULK AT MOST 1048576: true; the input reads as it did. -/
def setsLeastUptoRow : OpenClaim := { program := "ytjkgabmhhehhjaa", sum := "29731868125eaddbf5becedfc0049b9269a540d06b45e16c8116a9630f8e64f7", func := "amanuensis/amanuensislaw08.SetsLeast", spec := "setsLeast", apart := false, narrowed := true }
def SetsLeastUptoSaid : Prop := setsLeastUptoRow.holds Try.pinned (OpenSpec.upto setsLeastSpec)

/-- 'amanuensislaw08.SetsNames', WHERE WHAT IT READS IS OF BULK AT MOST 1048576: true; the input reads as it did. -/
def setsNamesUptoRow : OpenClaim := { program := "ytjkgabmhhehhjaa", sum := "29731868125eaddbf5becedfc0049b9269a540d06b45e16c8116a9630f8e64f7", func := "amanuensis/amanuensislaw08.SetsNames", spec := "setsNames", apart := false, narrowed := true }
def SetsNamesUptoSaid : Prop := setsNamesUptoRow.holds Try.pinned (OpenSpec.upto setsNamesSpec)

/-- 'amanuensislaw08.SetsNone', WHERE WHAT IT READS IS OF BULK AT MOST 1048576: true; the input reads as it did. -/
def setsNoneUptoRow : OpenClaim := { program := "ytjkgabmhhehhjaa", sum := "29731868125eaddbf5becedfc0049b9269a540d06b45e16c8116a9630f8e64f7", func := "amanuensis/amanuensislaw08.SetsNone", spec := "setsNone", apart := false, narrowed := true }
def SetsNoneUptoSaid : Prop := setsNoneUptoRow.holds Try.pinned (OpenSpec.upto setsNoneSpec)

/-- 'amanuensislaw14.EscapeReads', WHERE WHAT IT READS IS OF BULK AT MOST 1048576: true; the input reads as it did. -/
def escapeReadsUptoRow : OpenClaim := { program := "ytjkgabmhhehhjaa", sum := "29731868125eaddbf5becedfc0049b9269a540d06b45e16c8116a9630f8e64f7", func := "amanuensis/amanuensislaw14.EscapeReads", spec := "escapeReads", apart := false, narrowed := true }
def EscapeReadsUptoSaid : Prop := escapeReadsUptoRow.holds Try.pinned (OpenSpec.upto escapeReadsSpec)

/-- 'amanuensislaw14.EscapeAll', WHERE WHAT IT READS IS OF BULK AT MOST 1048576: true; the input reads as it did. -/
def escapeAllUptoRow : OpenClaim := { program := "ytjkgabmhhehhjaa", sum := "29731868125eaddbf5becedfc0049b9269a540d06b45e16c8116a9630f8e64f7", func := "amanuensis/amanuensislaw14.EscapeAll", spec := "escapeAll", apart := false, narrowed := true }
def EscapeAllUptoSaid : Prop := escapeAllUptoRow.holds Try.pinned (OpenSpec.upto escapeAllSpec)

/-- 'amanuensislaw14.EscapeCut', WHERE WHAT IT READS IS OF BULK AT MOST 1048576: true; the input reads as it did. -/
def escapeCutUptoRow : OpenClaim := { program := "ytjkgabmhhehhjaa", sum := "29731868125eaddbf5becedfc0049b9269a540d06b45e16c8116a9630f8e64f7", func := "amanuensis/amanuensislaw14.EscapeCut", spec := "escapeCut", apart := false, narrowed := true }
def EscapeCutUptoSaid : Prop := escapeCutUptoRow.holds Try.pinned (OpenSpec.upto escapeCutSpec)

/-- 'amanuensislaw14.EscapePrints', WHERE WHAT IT READS IS OF BULK AT MOST 1048576: true; the input reads as it did. -/
def escapePrintsUptoRow : OpenClaim := { program := "ytjkgabmhhehhjaa", sum := "29731868125eaddbf5becedfc0049b9269a540d06b45e16c8116a9630f8e64f7", func := "amanuensis/amanuensislaw14.EscapePrints", spec := "escapePrints", apart := false, narrowed := true }
def EscapePrintsUptoSaid : Prop := escapePrintsUptoRow.holds Try.pinned (OpenSpec.upto escapePrintsSpec)

end Rows
end Go.Proofs.Ytjkgabmhhehhjaa
