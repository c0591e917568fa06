/-
  No cell of these rows narrows 'for every input' (looked for: loops, veiled, ifaces, maps, wideKeys, modest, calm, conditions, laid).
  DERIVED. THE GIVEN ROWS OF THIS SEAT. 7 by the template 'for every input the law returns true; each argument reads behind the call as it read before'; 0 by the template 'total and deterministic' (their statements: YtmebmigolckeiaaTotals.lean).
  GIVEN WITH THE SEED: the statements are not yours to turn. If you find one false, say at which input.
  Laid BY PROGRAM, IN A SANDBOX (cutbox-rows.mjs): the forced cells as the released guide's own fill.sh prints them over the translation 37a3d7acf564c686… (all of the seat's roots in one cut). By AI agents, Wed Nov 11 2026. No macro, syntax, notation, axiom, sorry.
-/
import Derived.Test.YtmebmigolckeiaaChecked
import GoSem.Claim
import GoSem.ClaimJoined
import GoSem.ClaimMapViews
import Derived.JoinedTies
import Derived.KernelRfl
namespace Go.Proofs.Ytmebmigolckeiaa
/- THE CELL 'sum', in the pinned program and in every row, IS THE sha256 OF THE DUMP (.gsa) THAT YtmebmigolckeiaaProg.lean LOADS. Nothing in Lean hashes anything: it is a label: what it is worth is what the hold of that sum in a sandbox is worth. -/
noncomputable def Try.pinned : Pinned := { name := "ytmebmigolckeiaa", sum := "37a3d7acf564c6863d87b8edd8af22df1039474d313acca9f04cf19a787618ec", checked := Try.checked }
namespace Rows
def none {H : Type} : Left H := { results := [], args := [] }

/-- 'amanuensislaw01.UtfDecodes': WHATEVER THE INPUT: true; the input reads as it did. -/
def utfDecodesSpec : ChangeSpec := { name := "utfDecodes", fn := fun _ => fun
  | [d] => { results := [.lit (.bool true)], args := [d] }
  | _ => none }
def utfDecodesRow : OpenClaim := { program := "ytmebmigolckeiaa", sum := "37a3d7acf564c6863d87b8edd8af22df1039474d313acca9f04cf19a787618ec", func := "amanuensis/amanuensislaw01.UtfDecodes", spec := "utfDecodes", apart := false }
def UtfDecodesSaid : Prop := utfDecodesRow.holds Try.pinned (OpenSpec.ofChange utfDecodesSpec)

/-- ITS FALSE NEIGHBOUR: 'it returns false'. Refute it at one input. -/
def utfDecodesWrong : ChangeSpec := { name := "utfDecodes", fn := fun _ => fun
  | [d] => { results := [.lit (.bool false)], args := [d] }
  | _ => none }
def UtfDecodesWrongFalsely : Prop := utfDecodesRow.holds Try.pinned (OpenSpec.ofChange utfDecodesWrong)

/-- 'amanuensislaw01.UtfJoins': WHATEVER THE INPUT: true; the input reads as it did. -/
def utfJoinsSpec : ChangeSpec := { name := "utfJoins", fn := fun _ => fun
  | [d1, d2, d3] => { results := [.lit (.bool true)], args := [d1, d2, d3] }
  | _ => none }
def utfJoinsRow : OpenClaim := { program := "ytmebmigolckeiaa", sum := "37a3d7acf564c6863d87b8edd8af22df1039474d313acca9f04cf19a787618ec", func := "amanuensis/amanuensislaw01.UtfJoins", spec := "utfJoins", apart := false }
def UtfJoinsSaid : Prop := utfJoinsRow.holds Try.pinned (OpenSpec.ofChange utfJoinsSpec)

/-- ITS FALSE NEIGHBOUR: 'it returns false'. Refute it at one input. -/
def utfJoinsWrong : ChangeSpec := { name := "utfJoins", fn := fun _ => fun
  | [d1, d2, d3] => { results := [.lit (.bool false)], args := [d1, d2, d3] }
  | _ => none }
def UtfJoinsWrongFalsely : Prop := utfJoinsRow.holds Try.pinned (OpenSpec.ofChange utfJoinsWrong)

/-- 'amanuensislaw01.UtfLeast': WHATEVER THE INPUT: true; the input reads as it did. -/
def utfLeastSpec : ChangeSpec := { name := "utfLeast", fn := fun _ => fun
  | [d1, d2] => { results := [.lit (.bool true)], args := [d1, d2] }
  | _ => none }
def utfLeastRow : OpenClaim := { program := "ytmebmigolckeiaa", sum := "37a3d7acf564c6863d87b8edd8af22df1039474d313acca9f04cf19a787618ec", func := "amanuensis/amanuensislaw01.UtfLeast", spec := "utfLeast", apart := false }
def UtfLeastSaid : Prop := utfLeastRow.holds Try.pinned (OpenSpec.ofChange utfLeastSpec)

/-- ITS FALSE NEIGHBOUR: 'it returns false'. Refute it at one input. -/
def utfLeastWrong : ChangeSpec := { name := "utfLeast", fn := fun _ => fun
  | [d1, d2] => { results := [.lit (.bool false)], args := [d1, d2] }
  | _ => none }
def UtfLeastWrongFalsely : Prop := utfLeastRow.holds Try.pinned (OpenSpec.ofChange utfLeastWrong)

/-- 'amanuensislaw01.UtfEncodes': WHATEVER THE INPUT: true; the input reads as it did. -/
def utfEncodesSpec : ChangeSpec := { name := "utfEncodes", fn := fun _ => fun
  | [d] => { results := [.lit (.bool true)], args := [d] }
  | _ => none }
def utfEncodesRow : OpenClaim := { program := "ytmebmigolckeiaa", sum := "37a3d7acf564c6863d87b8edd8af22df1039474d313acca9f04cf19a787618ec", func := "amanuensis/amanuensislaw01.UtfEncodes", spec := "utfEncodes", apart := false }
def UtfEncodesSaid : Prop := utfEncodesRow.holds Try.pinned (OpenSpec.ofChange utfEncodesSpec)

/-- ITS FALSE NEIGHBOUR: 'it returns false'. Refute it at one input. -/
def utfEncodesWrong : ChangeSpec := { name := "utfEncodes", fn := fun _ => fun
  | [d] => { results := [.lit (.bool false)], args := [d] }
  | _ => none }
def UtfEncodesWrongFalsely : Prop := utfEncodesRow.holds Try.pinned (OpenSpec.ofChange utfEncodesWrong)

/-- 'amanuensislaw01.UtfSizes': WHATEVER THE INPUT: true; the input reads as it did. -/
def utfSizesSpec : ChangeSpec := { name := "utfSizes", fn := fun _ => fun
  | [d] => { results := [.lit (.bool true)], args := [d] }
  | _ => none }
def utfSizesRow : OpenClaim := { program := "ytmebmigolckeiaa", sum := "37a3d7acf564c6863d87b8edd8af22df1039474d313acca9f04cf19a787618ec", func := "amanuensis/amanuensislaw01.UtfSizes", spec := "utfSizes", apart := false }
def UtfSizesSaid : Prop := utfSizesRow.holds Try.pinned (OpenSpec.ofChange utfSizesSpec)

/-- ITS FALSE NEIGHBOUR: 'it returns false'. Refute it at one input. -/
def utfSizesWrong : ChangeSpec := { name := "utfSizes", fn := fun _ => fun
  | [d] => { results := [.lit (.bool false)], args := [d] }
  | _ => none }
def UtfSizesWrongFalsely : Prop := utfSizesRow.holds Try.pinned (OpenSpec.ofChange utfSizesWrong)

/-- 'amanuensislaw01.UtfKeeps': WHATEVER THE INPUT: true; the input reads as it did. -/
def utfKeepsSpec : ChangeSpec := { name := "utfKeeps", fn := fun _ => fun
  | [d] => { results := [.lit (.bool true)], args := [d] }
  | _ => none }
def utfKeepsRow : OpenClaim := { program := "ytmebmigolckeiaa", sum := "37a3d7acf564c6863d87b8edd8af22df1039474d313acca9f04cf19a787618ec", func := "amanuensis/amanuensislaw01.UtfKeeps", spec := "utfKeeps", apart := false }
def UtfKeepsSaid : Prop := utfKeepsRow.holds Try.pinned (OpenSpec.ofChange utfKeepsSpec)

/-- ITS FALSE NEIGHBOUR: 'it returns false'. Refute it at one input. -/
def utfKeepsWrong : ChangeSpec := { name := "utfKeeps", fn := fun _ => fun
  | [d] => { results := [.lit (.bool false)], args := [d] }
  | _ => none }
def UtfKeepsWrongFalsely : Prop := utfKeepsRow.holds Try.pinned (OpenSpec.ofChange utfKeepsWrong)

/-- 'amanuensislaw01.UtfOrder': WHATEVER THE INPUT: true; the input reads as it did. -/
def utfOrderSpec : ChangeSpec := { name := "utfOrder", fn := fun _ => fun
  | [d1, d2] => { results := [.lit (.bool true)], args := [d1, d2] }
  | _ => none }
def utfOrderRow : OpenClaim := { program := "ytmebmigolckeiaa", sum := "37a3d7acf564c6863d87b8edd8af22df1039474d313acca9f04cf19a787618ec", func := "amanuensis/amanuensislaw01.UtfOrder", spec := "utfOrder", apart := false }
def UtfOrderSaid : Prop := utfOrderRow.holds Try.pinned (OpenSpec.ofChange utfOrderSpec)

/-- ITS FALSE NEIGHBOUR: 'it returns false'. Refute it at one input. -/
def utfOrderWrong : ChangeSpec := { name := "utfOrder", fn := fun _ => fun
  | [d1, d2] => { results := [.lit (.bool false)], args := [d1, d2] }
  | _ => none }
def UtfOrderWrongFalsely : Prop := utfOrderRow.holds Try.pinned (OpenSpec.ofChange utfOrderWrong)

/- THE SECOND FORM. 'bulk': how many values and letters a reading holds, each counted each time it is reached (what is shared counts as often as it is met; a slice's spare places count too). A statement '..UptoSaid' is the law's where the arguments, and the package variables that the reading takes, are together of bulk at most 1048576: NARROWER than '..Said'. Prove '..Said' where nothing that the law and all that it calls make is longer than what came in: it says more and counts as full. Else prove '..UptoSaid'. A law counts once. -/
mutual
def uptoBulk {H : Type} : DataW H → Nat
  | .lit (.string bytes) => bytes.length + 1
  | .lit _ => 1
  | .nil => 1
  | .ptr d => uptoBulk d + 1
  | .slice elems spare => uptoBulkAll elems + uptoBulkAll spare + 1
  | .agg parts => uptoBulkAll parts + 1
  | .iface _ d => uptoBulk d + 1
  | .map entries => uptoBulkEntries entries + 1
  | .held _ => 1
def uptoBulkAll {H : Type} : List (DataW H) → Nat
  | [] => 0
  | d :: r => uptoBulk d + uptoBulkAll r
def uptoBulkEntries {H : Type} : List (Lit × DataW H) → Nat
  | [] => 0
  | x :: r => uptoBulkEntry x + uptoBulkEntries r
def uptoBulkEntry {H : Type} : Lit × DataW H → Nat
  | (.string bytes, d) => bytes.length + uptoBulk d + 1
  | (_, d) => uptoBulk d + 1
 end
def uptoSmall : (H : Type) → List (DataW H) → Bool := fun _ ds => decide (uptoBulkAll ds ≤ 1048576)
def OpenSpec.upto (s : _root_.Go.ChangeSpec) : _root_.Go.OpenSpec := { _root_.Go.OpenSpec.ofChange s with cond := some uptoSmall }

/-- 'amanuensislaw01.UtfDecodes', WHERE WHAT IT READS IS OF BULK AT MOST 1048576: true; the input reads as it did. -/
def utfDecodesUptoRow : OpenClaim := { program := "ytmebmigolckeiaa", sum := "37a3d7acf564c6863d87b8edd8af22df1039474d313acca9f04cf19a787618ec", func := "amanuensis/amanuensislaw01.UtfDecodes", spec := "utfDecodes", apart := false, narrowed := true }
def UtfDecodesUptoSaid : Prop := utfDecodesUptoRow.holds Try.pinned (OpenSpec.upto utfDecodesSpec)

/-- 'amanuensislaw01.UtfJoins', WHERE WHAT IT READS IS OF BULK AT MOST 1048576: true; the input reads as it did. -/
def utfJoinsUptoRow : OpenClaim := { program := "ytmebmigolckeiaa", sum := "37a3d7acf564c6863d87b8edd8af22df1039474d313acca9f04cf19a787618ec", func := "amanuensis/amanuensislaw01.UtfJoins", spec := "utfJoins", apart := false, narrowed := true }
def UtfJoinsUptoSaid : Prop := utfJoinsUptoRow.holds Try.pinned (OpenSpec.upto utfJoinsSpec)

/-- 'amanuensislaw01.UtfLeast', WHERE WHAT IT READS IS OF BULK AT MOST 1048576: true; the input reads as it did. -/
def utfLeastUptoRow : OpenClaim := { program := "ytmebmigolckeiaa", sum := "37a3d7acf564c6863d87b8edd8af22df1039474d313acca9f04cf19a787618ec", func := "amanuensis/amanuensislaw01.UtfLeast", spec := "utfLeast", apart := false, narrowed := true }
def UtfLeastUptoSaid : Prop := utfLeastUptoRow.holds Try.pinned (OpenSpec.upto utfLeastSpec)

/-- 'amanuensislaw01.UtfEncodes', WHERE WHAT IT READS IS OF BULK AT MOST 1048576: true; the input reads as it did. -/
def utfEncodesUptoRow : OpenClaim := { program := "ytmebmigolckeiaa", sum := "37a3d7acf564c6863d87b8edd8af22df1039474d313acca9f04cf19a787618ec", func := "amanuensis/amanuensislaw01.UtfEncodes", spec := "utfEncodes", apart := false, narrowed := true }
def UtfEncodesUptoSaid : Prop := utfEncodesUptoRow.holds Try.pinned (OpenSpec.upto utfEncodesSpec)

/-- 'amanuensislaw01.UtfSizes', WHERE WHAT IT READS IS OF BULK AT MOST 1048576: true; the input reads as it did. -/
def utfSizesUptoRow : OpenClaim := { program := "ytmebmigolckeiaa", sum := "37a3d7acf564c6863d87b8edd8af22df1039474d313acca9f04cf19a787618ec", func := "amanuensis/amanuensislaw01.UtfSizes", spec := "utfSizes", apart := false, narrowed := true }
def UtfSizesUptoSaid : Prop := utfSizesUptoRow.holds Try.pinned (OpenSpec.upto utfSizesSpec)

/-- 'amanuensislaw01.UtfKeeps', WHERE WHAT IT READS IS OF BULK AT MOST 1048576: true; the input reads as it did. -/
def utfKeepsUptoRow : OpenClaim := { program := "ytmebmigolckeiaa", sum := "37a3d7acf564c6863d87b8edd8af22df1039474d313acca9f04cf19a787618ec", func := "amanuensis/amanuensislaw01.UtfKeeps", spec := "utfKeeps", apart := false, narrowed := true }
def UtfKeepsUptoSaid : Prop := utfKeepsUptoRow.holds Try.pinned (OpenSpec.upto utfKeepsSpec)

/-- 'amanuensislaw01.UtfOrder', WHERE WHAT IT READS IS OF BULK AT MOST 1048576: true; the input reads as it did. -/
def utfOrderUptoRow : OpenClaim := { program := "ytmebmigolckeiaa", sum := "37a3d7acf564c6863d87b8edd8af22df1039474d313acca9f04cf19a787618ec", func := "amanuensis/amanuensislaw01.UtfOrder", spec := "utfOrder", apart := false, narrowed := true }
def UtfOrderUptoSaid : Prop := utfOrderUptoRow.holds Try.pinned (OpenSpec.upto utfOrderSpec)

end Rows
end Go.Proofs.Ytmebmigolckeiaa
