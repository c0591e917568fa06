/- The witness's world, with the listed tables laid. -/
import Derived.Lib.LaidU8
import Derived.Test.YtemhfcgkfdklhaaGreatDoorRows
import Derived.Test.YtemhfcgkfdklhaaGreatDoorEachP
import Derived.ProofKit
import Derived.LaidMore
import Derived.Deep.DeepLaidRun
import Derived.OpenShut
import Derived.Stop.Joined
set_option linter.unusedVariables false
namespace Go.Proofs.YtemhfcgkfdklhaaGreatDoor.Look
open Go Go.RowKit Go.Shelf Go.Proofs Go.Lib

def laidAll : List (String × DataW Unit) := Rows.readShutRow.laid
theorem extraU : U8Extra Tryz.prog Tryz.lays260_ren := ⟨by kernel_rfl, by kernel_rfl, by kernel_rfl, by kernel_rfl, by kernel_rfl, by kernel_rfl, by kernel_rfl⟩
theorem extraW : WhiteExtra Tryz.prog Tryz.lays199_ren := ⟨by kernel_rfl, by kernel_rfl, by kernel_rfl, by kernel_rfl, by kernel_rfl, by kernel_rfl, by kernel_rfl, by kernel_rfl⟩

theorem tabIs_of_reads {P : Program} {W : World} {name : String} {k : IntKind} {zs : List Int} {g : Nat} {t e : TypeId} {n : Nat}
    (hg : P.globalNamed name = some g) (hty : (P.globals[g]?).map (·.type) = some t) (ht : P.underlying t = some (.array n e)) (he : P.underlying e = some (.int k)) (hce : P.cellsOf e = 1) (hct : P.cellsOf t = n)
    (h : VarReads P W name (tabData k zs)) : TabIs P W name k zs := by
  obtain ⟨g', t', cs, fuel, p, hg', ht', hvar, hd⟩ := h
  obtain rfl := Option.some.inj (hg.symm.trans hg')
  obtain rfl := Option.some.inj (hty.symm.trans ht')
  unfold TabIs
  rw [hvar, ← cells_of_tab ht he hce hct hd]

theorem mem_at {α : Type} {l : List α} {x : α} (i : Nat) (h : l[i]? = some x) : x ∈ l := List.mem_of_getElem? h

theorem tabs_of_laid {W : World} (h : laidMet Tryz.prog laidAll W) : Tabs W where
  asc := tabIs_of_reads (g := 0) (t := 144) (e := 5) (n := 256) (by kernel_rfl) (by kernel_rfl) (by kernel_rfl) (by kernel_rfl) (by kernel_rfl) (by kernel_rfl) (laidMet.reads h (mem_at 7 (by kernel_rfl)))
  white := whiteTab_of_reads Tryz.lays199 extraW (laidMet.reads h (mem_at 6 (by kernel_rfl)))
  utf := utf8Tabs_of_reads Tryz.lays260 extraU (laidMet.reads h (mem_at 8 (by kernel_rfl))) (laidMet.reads h (mem_at 3 (by kernel_rfl)))
end Go.Proofs.YtemhfcgkfdklhaaGreatDoor.Look
set_option linter.unusedVariables false
namespace Go.Proofs.YtemhfcgkfdklhaaGreatDoor.Look
open Go Go.RowKit Go.Shelf Go.Proofs Go.Lib

def textRange : ByteArray := ⟨#[118, 97, 108, 117, 101, 32, 111, 117, 116, 32, 111, 102, 32, 114, 97, 110, 103, 101]⟩
def textSyntax : ByteArray := ⟨#[105, 110, 118, 97, 108, 105, 100, 32, 115, 121, 110, 116, 97, 120]⟩
def deB32 : List Nat := [0, 1, 28, 2, 29, 14, 24, 3, 30, 22, 20, 15, 25, 17, 4, 8, 31, 27, 13, 23, 21, 19, 16, 7, 26, 12, 18, 6, 11, 5, 10, 9]
def deB64 : List Nat := [0, 1, 56, 2, 57, 49, 28, 3, 61, 58, 42, 50, 38, 29, 17, 4, 62, 47, 59, 36, 45, 43, 51, 22, 53, 39, 33, 30, 24, 18, 12, 5, 63, 55, 48, 27, 60, 41, 37, 16, 46, 35, 44, 21, 52, 32, 23, 11, 54, 26, 40, 15, 34, 20, 31, 10, 25, 14, 19, 9, 13, 8, 7, 6]
def pow20 : List Nat := (List.range 20).map fun i => 10 ^ i

noncomputable def laidWorld (os : Os) : World :=
  let N := (World.settled Tryz.prog os).heap.size
  let w0 := World.holding Tryz.prog os ⟨#[.cells (whiteT.map fun (z : Nat) => Value.int .u16 (z : Int)).toArray 170, .cells #[.slice (some ⟨N, 0, none⟩) 7 7, .slice none 0 0, .int .i64 2] 167,
    .cells #[.string textSyntax] 188, .cells #[.string textRange] 188], #[], []⟩
  let put (h : Array Obj) (g : Nat) (cs : Array Value) : Array Obj := h.modify g fun
    | .cells _ t frozen => .cells cs t frozen
    | o => o
  let h1 := put (put w0.heap 0 (asciiSpaceTab.map fun z => Value.int .u8 z).toArray) 1 #[.pointer (some ⟨N + 1, 0, none⟩)]
  let h2 := put (put h1 2 #[.iface 186 (.pointer (some ⟨N + 2, 0, none⟩))]) 3 #[.iface 186 (.pointer (some ⟨N + 3, 0, none⟩))]
  let h3 := put (put h2 4 (firstTab.map fun z => Value.int .u8 z).toArray) 5 ((List.range 16).flatMap fun i => [Value.int .u8 (accLo i), Value.int .u8 (accHi i)]).toArray
  let h4 := put (put h3 7 (pow20.map fun (z : Nat) => Value.int .u64 (z : Int)).toArray) 8 (deB32.map fun (z : Nat) => Value.int .u8 (z : Int)).toArray
  { w0 with heap := put h4 9 (deB64.map fun (z : Nat) => Value.int .u8 (z : Int)).toArray }
theorem own : ownKnob Tryz.prog.godebug = none := by kernel_rfl
set_option maxRecDepth 100000 in
theorem door_met (os : Os) (args : Array Value) : laidMet Tryz.prog laidAll ((laidWorld os).forCall (fun _ _ => 0) ⟨#[], args, []⟩).memory :=
  laidMet_of_run3 10 (by kernel_rfl) (by kernel_rfl) (by kernel_rfl)
end Go.Proofs.YtemhfcgkfdklhaaGreatDoor.Look
