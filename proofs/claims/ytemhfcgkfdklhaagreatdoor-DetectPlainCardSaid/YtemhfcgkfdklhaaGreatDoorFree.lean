/- What a step leaves as it was: all old blocks but those of a set. Any program. -/
import Derived.Below
import Derived.Maps.AppendAt
import Derived.Test.YtemhfcgkfdklhaaGreatDoorProg
namespace Go.Proofs.YtemhfcgkfdklhaaGreatDoor.Idx
open Go Go.RowKit

/-- w' is w but for new blocks and the blocks of O. -/
structure Free (O : Nat → Prop) (w w' : World) : Prop where
  os : w'.os = w.os
  tape : w'.tape = w.tape
  output : w'.output = w.output
  size : w.heap.size ≤ w'.heap.size
  block : ∀ k, k < w.heap.size → ¬ O k → w'.heap[k]? = w.heap[k]?
theorem Free.refl (O : Nat → Prop) (w : World) : Free O w w := ⟨rfl, rfl, rfl, Nat.le_refl _, fun _ _ _ => rfl⟩
theorem Free.trans {O O' : Nat → Prop} {a b c : World} (h : Free O a b) (k : Free O' b c) (hO : ∀ i, O' i → i < a.heap.size → O i) : Free O a c :=
  ⟨k.os.trans h.os, k.tape.trans h.tape, k.output.trans h.output, Nat.le_trans h.size k.size, fun i hi hn => (k.block i (Nat.lt_of_lt_of_le hi h.size) fun e => hn (hO i e hi)).trans (h.block i hi hn)⟩
theorem Free.of_below {O : Nat → Prop} {w w' : World} (h : Below w.heap.size w w') : Free O w w' := ⟨h.os, h.tape, h.output, h.size, fun k hk _ => h.block k hk⟩
theorem Free.below {O : Nat → Prop} {w w' : World} (h : Free O w w') {B : Nat} (hB : B ≤ w.heap.size) (hO : ∀ k, O k → B ≤ k) : Below B w w' := ⟨h.os, h.tape, h.output, h.size, fun k hk => h.block k (Nat.lt_of_lt_of_le hk hB) fun e => by have := hO k e; omega⟩
theorem Free.of_grown {O : Nat → Prop} {w w' : World} {row : Option Nat} (h : w.grownBy w' row) (hr : ∀ k, row = some k → O k) : Free O w w' := ⟨h.os, h.tape, h.output, h.size, fun k hk hn => h.block k hk fun e => hn (hr k e.symm)⟩
theorem Free.mono {O O' : Nat → Prop} {w w' : World} (h : Free O w w') (hO : ∀ k, O k → O' k) : Free O' w w' := ⟨h.os, h.tape, h.output, h.size, fun k hk hn => h.block k hk fun e => hn (hO k e)⟩
end Go.Proofs.YtemhfcgkfdklhaaGreatDoor.Idx
