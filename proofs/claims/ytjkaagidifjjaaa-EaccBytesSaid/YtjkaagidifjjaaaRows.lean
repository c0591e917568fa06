/-
  No cell of these rows narrows 'for every input' (looked for: loops, veiled, ifaces, maps, wideKeys, modest, calm, conditions, laid).
  DERIVED. THE GIVEN ROWS OF THIS SEAT. 3 by the template 'for every input the law returns true; each argument reads behind the call as it read before'; 0 by the template 'total and deterministic' (their statements: YtjkaagidifjjaaaTotals.lean).
  GIVEN WITH THE SEED: the statements are not yours to turn. If you find one false, say at which input.
  Laid BY PROGRAM, IN A SANDBOX (cutbox-rows.mjs): the forced cells as the released guide's own fill.sh prints them over the translation 1211e84f4fb0abb3… (all of the seat's roots in one cut). By AI agents, Wed Nov 11 2026. No macro, syntax, notation, axiom, sorry.
-/
import Derived.Test.YtjkaagidifjjaaaChecked
import GoSem.Claim
import GoSem.ClaimJoined
import GoSem.ClaimMapViews
import Derived.JoinedTies
import Derived.KernelRfl
namespace Go.Proofs.Ytjkaagidifjjaaa
/- THE CELL 'sum', in the pinned program and in every row, IS THE sha256 OF THE DUMP (.gsa) THAT YtjkaagidifjjaaaProg.lean LOADS. Nothing in Lean hashes anything: it is a label: what it is worth is what the hold of that sum in a sandbox is worth. -/
noncomputable def Try.pinned : Pinned := { name := "ytjkaagidifjjaaa", sum := "1211e84f4fb0abb33834064106e6127b1621c5eaba860f47620501d50d4f8383", checked := Try.checked }
namespace Rows
def none {H : Type} : Left H := { results := [], args := [] }

/-- 'amanuensislaw12.EaccBytes': WHATEVER THE INPUT: true; the input reads as it did. -/
def eaccBytesSpec : ChangeSpec := { name := "eaccBytes", fn := fun _ => fun
  | [d] => { results := [.lit (.bool true)], args := [d] }
  | _ => none }
def eaccBytesRow : OpenClaim := { program := "ytjkaagidifjjaaa", sum := "1211e84f4fb0abb33834064106e6127b1621c5eaba860f47620501d50d4f8383", func := "amanuensis/amanuensislaw12.EaccBytes", spec := "eaccBytes", apart := false }
def EaccBytesSaid : Prop := eaccBytesRow.holds Try.pinned (OpenSpec.ofChange eaccBytesSpec)

/-- ITS FALSE NEIGHBOUR: 'it returns false'. Refute it at one input. -/
def eaccBytesWrong : ChangeSpec := { name := "eaccBytes", fn := fun _ => fun
  | [d] => { results := [.lit (.bool false)], args := [d] }
  | _ => none }
def EaccBytesWrongFalsely : Prop := eaccBytesRow.holds Try.pinned (OpenSpec.ofChange eaccBytesWrong)

/-- 'amanuensislaw12.EaccKana': WHATEVER THE INPUT: true; the input reads as it did. -/
def eaccKanaSpec : ChangeSpec := { name := "eaccKana", fn := fun _ => fun
  | [d] => { results := [.lit (.bool true)], args := [d] }
  | _ => none }
def eaccKanaRow : OpenClaim := { program := "ytjkaagidifjjaaa", sum := "1211e84f4fb0abb33834064106e6127b1621c5eaba860f47620501d50d4f8383", func := "amanuensis/amanuensislaw12.EaccKana", spec := "eaccKana", apart := false }
def EaccKanaSaid : Prop := eaccKanaRow.holds Try.pinned (OpenSpec.ofChange eaccKanaSpec)

/-- ITS FALSE NEIGHBOUR: 'it returns false'. Refute it at one input. -/
def eaccKanaWrong : ChangeSpec := { name := "eaccKana", fn := fun _ => fun
  | [d] => { results := [.lit (.bool false)], args := [d] }
  | _ => none }
def EaccKanaWrongFalsely : Prop := eaccKanaRow.holds Try.pinned (OpenSpec.ofChange eaccKanaWrong)

/-- 'amanuensislaw12.EaccRows': WHATEVER THE INPUT: true; the input reads as it did. -/
def eaccRowsSpec : ChangeSpec := { name := "eaccRows", fn := fun _ => fun
  | [d] => { results := [.lit (.bool true)], args := [d] }
  | _ => none }
def eaccRowsRow : OpenClaim := { program := "ytjkaagidifjjaaa", sum := "1211e84f4fb0abb33834064106e6127b1621c5eaba860f47620501d50d4f8383", func := "amanuensis/amanuensislaw12.EaccRows", spec := "eaccRows", apart := false }
def EaccRowsSaid : Prop := eaccRowsRow.holds Try.pinned (OpenSpec.ofChange eaccRowsSpec)

/-- ITS FALSE NEIGHBOUR: 'it returns false'. Refute it at one input. -/
def eaccRowsWrong : ChangeSpec := { name := "eaccRows", fn := fun _ => fun
  | [d] => { results := [.lit (.bool false)], args := [d] }
  | _ => none }
def EaccRowsWrongFalsely : Prop := eaccRowsRow.holds Try.pinned (OpenSpec.ofChange eaccRowsWrong)

/- THE SECOND FORM. 'bulk': how many values and letters a reading holds, each counted each time it is reached (what is shared counts as often as it is met; a slice's spare places count too). A statement '..UptoSaid' is the law's where the arguments, and the package variables that the reading takes, are together of bulk at most 1048576: NARROWER than '..Said'. Prove '..Said' where nothing that the law and all that it calls make is longer than what came in: it says more and counts as full. Else prove '..UptoSaid'. A law counts once. -/
mutual
def uptoBulk {H : Type} : DataW H → Nat
  | .lit (.string bytes) => bytes.length + 1
  | .lit _ => 1
  | .nil => 1
  | .ptr d => uptoBulk d + 1
  | .slice elems spare => uptoBulkAll elems + uptoBulkAll spare + 1
  | .agg parts => uptoBulkAll parts + 1
  | .iface _ d => uptoBulk d + 1
  | .map entries => uptoBulkEntries entries + 1
  | .held _ => 1
def uptoBulkAll {H : Type} : List (DataW H) → Nat
  | [] => 0
  | d :: r => uptoBulk d + uptoBulkAll r
def uptoBulkEntries {H : Type} : List (Lit × DataW H) → Nat
  | [] => 0
  | x :: r => uptoBulkEntry x + uptoBulkEntries r
def uptoBulkEntry {H : Type} : Lit × DataW H → Nat
  | (.string bytes, d) => bytes.length + uptoBulk d + 1
  | (_, d) => uptoBulk d + 1
 end
def uptoSmall : (H : Type) → List (DataW H) → Bool := fun _ ds => decide (uptoBulkAll ds ≤ 1048576)
def OpenSpec.upto (s : _root_.Go.ChangeSpec) : _root_.Go.OpenSpec := { _root_.Go.OpenSpec.ofChange s with cond := some uptoSmall }

/-- 'amanuensislaw12.EaccBytes', WHERE WHAT IT READS IS OF BULK AT MOST 1048576: true; the input reads as it did. -/
def eaccBytesUptoRow : OpenClaim := { program := "ytjkaagidifjjaaa", sum := "1211e84f4fb0abb33834064106e6127b1621c5eaba860f47620501d50d4f8383", func := "amanuensis/amanuensislaw12.EaccBytes", spec := "eaccBytes", apart := false, narrowed := true }
def EaccBytesUptoSaid : Prop := eaccBytesUptoRow.holds Try.pinned (OpenSpec.upto eaccBytesSpec)

/-- 'amanuensislaw12.EaccKana', WHERE WHAT IT READS IS OF BULK AT MOST 1048576: true; the input reads as it did. -/
def eaccKanaUptoRow : OpenClaim := { program := "ytjkaagidifjjaaa", sum := "1211e84f4fb0abb33834064106e6127b1621c5eaba860f47620501d50d4f8383", func := "amanuensis/amanuensislaw12.EaccKana", spec := "eaccKana", apart := false, narrowed := true }
def EaccKanaUptoSaid : Prop := eaccKanaUptoRow.holds Try.pinned (OpenSpec.upto eaccKanaSpec)

/-- 'amanuensislaw12.EaccRows', WHERE WHAT IT READS IS OF BULK AT MOST 1048576: true; the input reads as it did. -/
def eaccRowsUptoRow : OpenClaim := { program := "ytjkaagidifjjaaa", sum := "1211e84f4fb0abb33834064106e6127b1621c5eaba860f47620501d50d4f8383", func := "amanuensis/amanuensislaw12.EaccRows", spec := "eaccRows", apart := false, narrowed := true }
def EaccRowsUptoSaid : Prop := eaccRowsUptoRow.holds Try.pinned (OpenSpec.upto eaccRowsSpec)

end Rows
end Go.Proofs.Ytjkaagidifjjaaa
