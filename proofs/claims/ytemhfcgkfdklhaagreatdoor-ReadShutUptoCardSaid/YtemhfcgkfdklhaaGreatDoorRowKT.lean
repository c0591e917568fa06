/- The witness's world, with the listed tables laid. -/
import Derived.ProofKit
import Derived.LaidMore
import Derived.Deep.DeepLaidRun
import Derived.OpenShut
import Derived.Stop.Joined
import Derived.Test.YtemhfcgkfdklhaaGreatDoorLaidT
set_option linter.unusedVariables false
namespace Go.Proofs.YtemhfcgkfdklhaaGreatDoor.Look
open Go Go.RowKit Go.Shelf Go.Proofs Go.Lib

def textRange : ByteArray := ⟨#[118, 97, 108, 117, 101, 32, 111, 117, 116, 32, 111, 102, 32, 114, 97, 110, 103, 101]⟩
def textSyntax : ByteArray := ⟨#[105, 110, 118, 97, 108, 105, 100, 32, 115, 121, 110, 116, 97, 120]⟩
def deB32 : List Nat := [0, 1, 28, 2, 29, 14, 24, 3, 30, 22, 20, 15, 25, 17, 4, 8, 31, 27, 13, 23, 21, 19, 16, 7, 26, 12, 18, 6, 11, 5, 10, 9]
def deB64 : List Nat := [0, 1, 56, 2, 57, 49, 28, 3, 61, 58, 42, 50, 38, 29, 17, 4, 62, 47, 59, 36, 45, 43, 51, 22, 53, 39, 33, 30, 24, 18, 12, 5, 63, 55, 48, 27, 60, 41, 37, 16, 46, 35, 44, 21, 52, 32, 23, 11, 54, 26, 40, 15, 34, 20, 31, 10, 25, 14, 19, 9, 13, 8, 7, 6]
def pow20 : List Nat := (List.range 20).map fun i => 10 ^ i

noncomputable def laidWorld (os : Os) : World :=
  let N := (World.settled Tryz.prog os).heap.size
  let w0 := World.holding Tryz.prog os ⟨#[.cells (whiteT.map fun (z : Nat) => Value.int .u16 (z : Int)).toArray 170, .cells #[.slice (some ⟨N, 0, none⟩) 7 7, .slice none 0 0, .int .i64 2] 167,
    .cells #[.string textSyntax] 188, .cells #[.string textRange] 188], #[], []⟩
  let put (h : Array Obj) (g : Nat) (cs : Array Value) : Array Obj := h.modify g fun
    | .cells _ t frozen => .cells cs t frozen
    | o => o
  let h1 := put (put w0.heap 0 (asciiSpaceTab.map fun z => Value.int .u8 z).toArray) 1 #[.pointer (some ⟨N + 1, 0, none⟩)]
  let h2 := put (put h1 2 #[.iface 186 (.pointer (some ⟨N + 2, 0, none⟩))]) 3 #[.iface 186 (.pointer (some ⟨N + 3, 0, none⟩))]
  let h3 := put (put h2 4 (firstTab.map fun z => Value.int .u8 z).toArray) 5 ((List.range 16).flatMap fun i => [Value.int .u8 (accLo i), Value.int .u8 (accHi i)]).toArray
  let h4 := put (put h3 7 (pow20.map fun (z : Nat) => Value.int .u64 (z : Int)).toArray) 8 (deB32.map fun (z : Nat) => Value.int .u8 (z : Int)).toArray
  { w0 with heap := put h4 9 (deB64.map fun (z : Nat) => Value.int .u8 (z : Int)).toArray }
theorem own : ownKnob Tryz.prog.godebug = none := by kernel_rfl
set_option maxRecDepth 100000 in
theorem door_met (os : Os) (args : Array Value) : laidMet Tryz.prog laidAll ((laidWorld os).forCall (fun _ _ => 0) ⟨#[], args, []⟩).memory :=
  laidMet_of_run3 10 (by kernel_rfl) (by kernel_rfl) (by kernel_rfl)
end Go.Proofs.YtemhfcgkfdklhaaGreatDoor.Look
