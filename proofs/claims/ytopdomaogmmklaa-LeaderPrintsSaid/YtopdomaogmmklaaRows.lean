/-
  No cell of these rows narrows 'for every input' (looked for: loops, veiled, ifaces, maps, wideKeys, modest, calm, conditions, laid).
  DERIVED. THE GIVEN ROWS OF THIS SEAT. 4 by the template 'for every input the law returns true; each argument reads behind the call as it read before'; 0 by the template 'total and deterministic' (their statements: YtopdomaogmmklaaTotals.lean).
  GIVEN WITH THE SEED: the statements are not yours to turn. If you find one false, say at which input.
  Laid BY PROGRAM, IN A SANDBOX (cutbox-rows.mjs): the forced cells as the released guide's own fill.sh prints them over the translation 08b9ce8df62bf8b0… (all of the seat's roots in one cut). By AI agents, Wed Nov 11 2026. No macro, syntax, notation, axiom, sorry.
-/
import Derived.Test.YtopdomaogmmklaaChecked
import GoSem.Claim
import GoSem.ClaimJoined
import GoSem.ClaimMapViews
import Derived.JoinedTies
import Derived.KernelRfl
namespace Go.Proofs.Ytopdomaogmmklaa
/- THE CELL 'sum', in the pinned program and in every row, IS THE sha256 OF THE DUMP (.gsa) THAT YtopdomaogmmklaaProg.lean LOADS. Nothing in Lean hashes anything: it is a label: what it is worth is what the hold of that sum in a sandbox is worth. -/
noncomputable def Try.pinned : Pinned := { name := "ytopdomaogmmklaa", sum := "08b9ce8df62bf8b0c9df25a7ca927a1df244723242973c2d5e20ce8a78e9ba3b", checked := Try.checked }
namespace Rows
def none {H : Type} : Left H := { results := [], args := [] }

/-- 'amanuensislaw19.LeaderParses': WHATEVER THE INPUT: true; the input reads as it did. -/
def leaderParsesSpec : ChangeSpec := { name := "leaderParses", fn := fun _ => fun
  | [d] => { results := [.lit (.bool true)], args := [d] }
  | _ => none }
def leaderParsesRow : OpenClaim := { program := "ytopdomaogmmklaa", sum := "08b9ce8df62bf8b0c9df25a7ca927a1df244723242973c2d5e20ce8a78e9ba3b", func := "amanuensis/amanuensislaw19.LeaderParses", spec := "leaderParses", apart := false }
def LeaderParsesSaid : Prop := leaderParsesRow.holds Try.pinned (OpenSpec.ofChange leaderParsesSpec)

/-- ITS FALSE NEIGHBOUR: 'it returns false'. Refute it at one input. -/
def leaderParsesWrong : ChangeSpec := { name := "leaderParses", fn := fun _ => fun
  | [d] => { results := [.lit (.bool false)], args := [d] }
  | _ => none }
def LeaderParsesWrongFalsely : Prop := leaderParsesRow.holds Try.pinned (OpenSpec.ofChange leaderParsesWrong)

/-- 'amanuensislaw19.LeaderPlaces': WHATEVER THE INPUT: true; the input reads as it did. -/
def leaderPlacesSpec : ChangeSpec := { name := "leaderPlaces", fn := fun _ => fun
  | [d1, d2] => { results := [.lit (.bool true)], args := [d1, d2] }
  | _ => none }
def leaderPlacesRow : OpenClaim := { program := "ytopdomaogmmklaa", sum := "08b9ce8df62bf8b0c9df25a7ca927a1df244723242973c2d5e20ce8a78e9ba3b", func := "amanuensis/amanuensislaw19.LeaderPlaces", spec := "leaderPlaces", apart := false }
def LeaderPlacesSaid : Prop := leaderPlacesRow.holds Try.pinned (OpenSpec.ofChange leaderPlacesSpec)

/-- ITS FALSE NEIGHBOUR: 'it returns false'. Refute it at one input. -/
def leaderPlacesWrong : ChangeSpec := { name := "leaderPlaces", fn := fun _ => fun
  | [d1, d2] => { results := [.lit (.bool false)], args := [d1, d2] }
  | _ => none }
def LeaderPlacesWrongFalsely : Prop := leaderPlacesRow.holds Try.pinned (OpenSpec.ofChange leaderPlacesWrong)

/-- 'amanuensislaw19.LeaderCodings': WHATEVER THE INPUT: true; the input reads as it did. -/
def leaderCodingsSpec : ChangeSpec := { name := "leaderCodings", fn := fun _ => fun
  | [d1, d2] => { results := [.lit (.bool true)], args := [d1, d2] }
  | _ => none }
def leaderCodingsRow : OpenClaim := { program := "ytopdomaogmmklaa", sum := "08b9ce8df62bf8b0c9df25a7ca927a1df244723242973c2d5e20ce8a78e9ba3b", func := "amanuensis/amanuensislaw19.LeaderCodings", spec := "leaderCodings", apart := false }
def LeaderCodingsSaid : Prop := leaderCodingsRow.holds Try.pinned (OpenSpec.ofChange leaderCodingsSpec)

/-- ITS FALSE NEIGHBOUR: 'it returns false'. Refute it at one input. -/
def leaderCodingsWrong : ChangeSpec := { name := "leaderCodings", fn := fun _ => fun
  | [d1, d2] => { results := [.lit (.bool false)], args := [d1, d2] }
  | _ => none }
def LeaderCodingsWrongFalsely : Prop := leaderCodingsRow.holds Try.pinned (OpenSpec.ofChange leaderCodingsWrong)

/-- 'amanuensislaw19.LeaderPrints': WHATEVER THE INPUT: true; the input reads as it did. -/
def leaderPrintsSpec : ChangeSpec := { name := "leaderPrints", fn := fun _ => fun
  | [d1, d2, d3] => { results := [.lit (.bool true)], args := [d1, d2, d3] }
  | _ => none }
def leaderPrintsRow : OpenClaim := { program := "ytopdomaogmmklaa", sum := "08b9ce8df62bf8b0c9df25a7ca927a1df244723242973c2d5e20ce8a78e9ba3b", func := "amanuensis/amanuensislaw19.LeaderPrints", spec := "leaderPrints", apart := false }
def LeaderPrintsSaid : Prop := leaderPrintsRow.holds Try.pinned (OpenSpec.ofChange leaderPrintsSpec)

/-- ITS FALSE NEIGHBOUR: 'it returns false'. Refute it at one input. -/
def leaderPrintsWrong : ChangeSpec := { name := "leaderPrints", fn := fun _ => fun
  | [d1, d2, d3] => { results := [.lit (.bool false)], args := [d1, d2, d3] }
  | _ => none }
def LeaderPrintsWrongFalsely : Prop := leaderPrintsRow.holds Try.pinned (OpenSpec.ofChange leaderPrintsWrong)

/- THE SECOND FORM. 'bulk': how many values and letters a reading holds, each counted each time it is reached (what is shared counts as often as it is met; a slice's spare places count too). A statement '..UptoSaid' is the law's where the arguments, and the package variables that the reading takes, are together of bulk at most 1048576: NARROWER than '..Said'. Prove '..Said' where nothing that the law and all that it calls make is longer than what came in: it says more and counts as full. Else prove '..UptoSaid'. A law counts once. -/
mutual
def uptoBulk {H : Type} : DataW H → Nat
  | .lit (.string bytes) => bytes.length + 1
  | .lit _ => 1
  | .nil => 1
  | .ptr d => uptoBulk d + 1
  | .slice elems spare => uptoBulkAll elems + uptoBulkAll spare + 1
  | .agg parts => uptoBulkAll parts + 1
  | .iface _ d => uptoBulk d + 1
  | .map entries => uptoBulkEntries entries + 1
  | .held _ => 1
def uptoBulkAll {H : Type} : List (DataW H) → Nat
  | [] => 0
  | d :: r => uptoBulk d + uptoBulkAll r
def uptoBulkEntries {H : Type} : List (Lit × DataW H) → Nat
  | [] => 0
  | x :: r => uptoBulkEntry x + uptoBulkEntries r
def uptoBulkEntry {H : Type} : Lit × DataW H → Nat
  | (.string bytes, d) => bytes.length + uptoBulk d + 1
  | (_, d) => uptoBulk d + 1
 end
def uptoSmall : (H : Type) → List (DataW H) → Bool := fun _ ds => decide (uptoBulkAll ds ≤ 1048576)
def OpenSpec.upto (s : _root_.Go.ChangeSpec) : _root_.Go.OpenSpec := { _root_.Go.OpenSpec.ofChange s with cond := some uptoSmall }

/-- 'amanuensislaw19.LeaderParses', WHERE WHAT IT READS IS OF BULK AT MOST 1048576: true; the input reads as it did. -/
def leaderParsesUptoRow : OpenClaim := { program := "ytopdomaogmmklaa", sum := "08b9ce8df62bf8b0c9df25a7ca927a1df244723242973c2d5e20ce8a78e9ba3b", func := "amanuensis/amanuensislaw19.LeaderParses", spec := "leaderParses", apart := false, narrowed := true }
def LeaderParsesUptoSaid : Prop := leaderParsesUptoRow.holds Try.pinned (OpenSpec.upto leaderParsesSpec)

/-- 'amanuensislaw19.LeaderPlaces', WHERE WHAT IT READS IS OF BULK AT MOST 1048576: true; the input reads as it did. -/
def leaderPlacesUptoRow : OpenClaim := { program := "ytopdomaogmmklaa", sum := "08b9ce8df62bf8b0c9df25a7ca927a1df244723242973c2d5e20ce8a78e9ba3b", func := "amanuensis/amanuensislaw19.LeaderPlaces", spec := "leaderPlaces", apart := false, narrowed := true }
def LeaderPlacesUptoSaid : Prop := leaderPlacesUptoRow.holds Try.pinned (OpenSpec.upto leaderPlacesSpec)

/-- 'amanuensislaw19.LeaderCodings', WHERE WHAT IT READS IS OF BULK AT MOST 1048576: true; the input reads as it did. -/
def leaderCodingsUptoRow : OpenClaim := { program := "ytopdomaogmmklaa", sum := "08b9ce8df62bf8b0c9df25a7ca927a1df244723242973c2d5e20ce8a78e9ba3b", func := "amanuensis/amanuensislaw19.LeaderCodings", spec := "leaderCodings", apart := false, narrowed := true }
def LeaderCodingsUptoSaid : Prop := leaderCodingsUptoRow.holds Try.pinned (OpenSpec.upto leaderCodingsSpec)

/-- 'amanuensislaw19.LeaderPrints', WHERE WHAT IT READS IS OF BULK AT MOST 1048576: true; the input reads as it did. -/
def leaderPrintsUptoRow : OpenClaim := { program := "ytopdomaogmmklaa", sum := "08b9ce8df62bf8b0c9df25a7ca927a1df244723242973c2d5e20ce8a78e9ba3b", func := "amanuensis/amanuensislaw19.LeaderPrints", spec := "leaderPrints", apart := false, narrowed := true }
def LeaderPrintsUptoSaid : Prop := leaderPrintsUptoRow.holds Try.pinned (OpenSpec.upto leaderPrintsSpec)

end Rows
end Go.Proofs.Ytopdomaogmmklaa
