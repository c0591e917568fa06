/-
  No cell of these rows narrows 'for every input' (looked for: loops, veiled, ifaces, maps, wideKeys, modest, calm, conditions, laid).
  DERIVED. THE GIVEN ROWS OF THIS SEAT. 4 by the template 'for every input the law returns true; each argument reads behind the call as it read before'; 0 by the template 'total and deterministic' (their statements: YtcgnojbddclhdabTotals.lean).
  GIVEN WITH THE SEED: the statements are not yours to turn. If you find one false, say at which input.
  Laid BY PROGRAM, IN A SANDBOX (cutbox-rows.mjs): the forced cells as the released guide's own fill.sh prints them over the translation a838316112e11bd2… (all of the seat's roots in one cut). By AI agents, Wed Nov 11 2026. No macro, syntax, notation, axiom, sorry.
-/
import Derived.Test.YtcgnojbddclhdabChecked
import GoSem.Claim
import GoSem.ClaimJoined
import GoSem.ClaimMapViews
import Derived.JoinedTies
import Derived.KernelRfl
namespace Go.Proofs.Ytcgnojbddclhdab
/- THE CELL 'sum', in the pinned program and in every row, IS THE sha256 OF THE DUMP (.gsa) THAT YtcgnojbddclhdabProg.lean LOADS. Nothing in Lean hashes anything: it is a label: what it is worth is what the hold of that sum in a sandbox is worth. -/
noncomputable def Try.pinned : Pinned := { name := "ytcgnojbddclhdab", sum := "a838316112e11bd218147f0e6fb5047b1becaf13208fa1ff39e55d7b076946b8", checked := Try.checked }
namespace Rows
def none {H : Type} : Left H := { results := [], args := [] }

/-- 'amanuensislaw11.SmallDigits': WHATEVER THE INPUT: true; the input reads as it did. -/
def smallDigitsSpec : ChangeSpec := { name := "smallDigits", fn := fun _ => fun
  | [d1, d2] => { results := [.lit (.bool true)], args := [d1, d2] }
  | _ => none }
def smallDigitsRow : OpenClaim := { program := "ytcgnojbddclhdab", sum := "a838316112e11bd218147f0e6fb5047b1becaf13208fa1ff39e55d7b076946b8", func := "amanuensis/amanuensislaw11.SmallDigits", spec := "smallDigits", apart := false }
def SmallDigitsSaid : Prop := smallDigitsRow.holds Try.pinned (OpenSpec.ofChange smallDigitsSpec)

/-- ITS FALSE NEIGHBOUR: 'it returns false'. Refute it at one input. -/
def smallDigitsWrong : ChangeSpec := { name := "smallDigits", fn := fun _ => fun
  | [d1, d2] => { results := [.lit (.bool false)], args := [d1, d2] }
  | _ => none }
def SmallDigitsWrongFalsely : Prop := smallDigitsRow.holds Try.pinned (OpenSpec.ofChange smallDigitsWrong)

/-- 'amanuensislaw11.SmallSigns': WHATEVER THE INPUT: true; the input reads as it did. -/
def smallSignsSpec : ChangeSpec := { name := "smallSigns", fn := fun _ => fun
  | [d1, d2] => { results := [.lit (.bool true)], args := [d1, d2] }
  | _ => none }
def smallSignsRow : OpenClaim := { program := "ytcgnojbddclhdab", sum := "a838316112e11bd218147f0e6fb5047b1becaf13208fa1ff39e55d7b076946b8", func := "amanuensis/amanuensislaw11.SmallSigns", spec := "smallSigns", apart := false }
def SmallSignsSaid : Prop := smallSignsRow.holds Try.pinned (OpenSpec.ofChange smallSignsSpec)

/-- ITS FALSE NEIGHBOUR: 'it returns false'. Refute it at one input. -/
def smallSignsWrong : ChangeSpec := { name := "smallSigns", fn := fun _ => fun
  | [d1, d2] => { results := [.lit (.bool false)], args := [d1, d2] }
  | _ => none }
def SmallSignsWrongFalsely : Prop := smallSignsRow.holds Try.pinned (OpenSpec.ofChange smallSignsWrong)

/-- 'amanuensislaw08.SetsNames': WHATEVER THE INPUT: true; the input reads as it did. -/
def setsNamesSpec : ChangeSpec := { name := "setsNames", fn := fun _ => fun
  | [d1, d2] => { results := [.lit (.bool true)], args := [d1, d2] }
  | _ => none }
def setsNamesRow : OpenClaim := { program := "ytcgnojbddclhdab", sum := "a838316112e11bd218147f0e6fb5047b1becaf13208fa1ff39e55d7b076946b8", func := "amanuensis/amanuensislaw08.SetsNames", spec := "setsNames", apart := false }
def SetsNamesSaid : Prop := setsNamesRow.holds Try.pinned (OpenSpec.ofChange setsNamesSpec)

/-- ITS FALSE NEIGHBOUR: 'it returns false'. Refute it at one input. -/
def setsNamesWrong : ChangeSpec := { name := "setsNames", fn := fun _ => fun
  | [d1, d2] => { results := [.lit (.bool false)], args := [d1, d2] }
  | _ => none }
def SetsNamesWrongFalsely : Prop := setsNamesRow.holds Try.pinned (OpenSpec.ofChange setsNamesWrong)

/-- 'amanuensislaw08.SetsNone': WHATEVER THE INPUT: true; the input reads as it did. -/
def setsNoneSpec : ChangeSpec := { name := "setsNone", fn := fun _ => fun
  | [d1, d2] => { results := [.lit (.bool true)], args := [d1, d2] }
  | _ => none }
def setsNoneRow : OpenClaim := { program := "ytcgnojbddclhdab", sum := "a838316112e11bd218147f0e6fb5047b1becaf13208fa1ff39e55d7b076946b8", func := "amanuensis/amanuensislaw08.SetsNone", spec := "setsNone", apart := false }
def SetsNoneSaid : Prop := setsNoneRow.holds Try.pinned (OpenSpec.ofChange setsNoneSpec)

/-- ITS FALSE NEIGHBOUR: 'it returns false'. Refute it at one input. -/
def setsNoneWrong : ChangeSpec := { name := "setsNone", fn := fun _ => fun
  | [d1, d2] => { results := [.lit (.bool false)], args := [d1, d2] }
  | _ => none }
def SetsNoneWrongFalsely : Prop := setsNoneRow.holds Try.pinned (OpenSpec.ofChange setsNoneWrong)

/- THE SECOND FORM. 'bulk': how many values and letters a reading holds, each counted each time it is reached (what is shared counts as often as it is met; a slice's spare places count too). A statement '..UptoSaid' is the law's where the arguments, and the package variables that the reading takes, are together of bulk at most 1048576: NARROWER than '..Said'. Prove '..Said' where nothing that the law and all that it calls make is longer than what came in: it says more and counts as full. Else prove '..UptoSaid'. A law counts once. -/
mutual
def uptoBulk {H : Type} : DataW H → Nat
  | .lit (.string bytes) => bytes.length + 1
  | .lit _ => 1
  | .nil => 1
  | .ptr d => uptoBulk d + 1
  | .slice elems spare => uptoBulkAll elems + uptoBulkAll spare + 1
  | .agg parts => uptoBulkAll parts + 1
  | .iface _ d => uptoBulk d + 1
  | .map entries => uptoBulkEntries entries + 1
  | .held _ => 1
def uptoBulkAll {H : Type} : List (DataW H) → Nat
  | [] => 0
  | d :: r => uptoBulk d + uptoBulkAll r
def uptoBulkEntries {H : Type} : List (Lit × DataW H) → Nat
  | [] => 0
  | x :: r => uptoBulkEntry x + uptoBulkEntries r
def uptoBulkEntry {H : Type} : Lit × DataW H → Nat
  | (.string bytes, d) => bytes.length + uptoBulk d + 1
  | (_, d) => uptoBulk d + 1
 end
def uptoSmall : (H : Type) → List (DataW H) → Bool := fun _ ds => decide (uptoBulkAll ds ≤ 1048576)
def OpenSpec.upto (s : _root_.Go.ChangeSpec) : _root_.Go.OpenSpec := { _root_.Go.OpenSpec.ofChange s with cond := some uptoSmall }

/-- 'amanuensislaw11.SmallDigits', WHERE WHAT IT READS IS OF BULK AT MOST 1048576: true; the input reads as it did. -/
def smallDigitsUptoRow : OpenClaim := { program := "ytcgnojbddclhdab", sum := "a838316112e11bd218147f0e6fb5047b1becaf13208fa1ff39e55d7b076946b8", func := "amanuensis/amanuensislaw11.SmallDigits", spec := "smallDigits", apart := false, narrowed := true }
def SmallDigitsUptoSaid : Prop := smallDigitsUptoRow.holds Try.pinned (OpenSpec.upto smallDigitsSpec)

/-- 'amanuensislaw11.SmallSigns', WHERE WHAT IT READS IS OF BULK AT MOST 1048576: true; the input reads as it did. -/
def smallSignsUptoRow : OpenClaim := { program := "ytcgnojbddclhdab", sum := "a838316112e11bd218147f0e6fb5047b1becaf13208fa1ff39e55d7b076946b8", func := "amanuensis/amanuensislaw11.SmallSigns", spec := "smallSigns", apart := false, narrowed := true }
def SmallSignsUptoSaid : Prop := smallSignsUptoRow.holds Try.pinned (OpenSpec.upto smallSignsSpec)

/-- 'amanuensislaw08.SetsNames', WHERE WHAT IT READS IS OF BULK AT MOST 1048576: true; the input reads as it did. -/
def setsNamesUptoRow : OpenClaim := { program := "ytcgnojbddclhdab", sum := "a838316112e11bd218147f0e6fb5047b1becaf13208fa1ff39e55d7b076946b8", func := "amanuensis/amanuensislaw08.SetsNames", spec := "setsNames", apart := false, narrowed := true }
def SetsNamesUptoSaid : Prop := setsNamesUptoRow.holds Try.pinned (OpenSpec.upto setsNamesSpec)

/-- 'amanuensislaw08.SetsNone', WHERE WHAT IT READS IS OF BULK AT MOST 1048576: true; the input reads as it did. -/
def setsNoneUptoRow : OpenClaim := { program := "ytcgnojbddclhdab", sum := "a838316112e11bd218147f0e6fb5047b1becaf13208fa1ff39e55d7b076946b8", func := "amanuensis/amanuensislaw08.SetsNone", spec := "setsNone", apart := false, narrowed := true }
def SetsNoneUptoSaid : Prop := setsNoneUptoRow.holds Try.pinned (OpenSpec.upto setsNoneSpec)

end Rows
end Go.Proofs.Ytcgnojbddclhdab
