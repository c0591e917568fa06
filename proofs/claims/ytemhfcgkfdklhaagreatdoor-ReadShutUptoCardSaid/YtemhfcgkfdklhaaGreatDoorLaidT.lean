/- From the row's listed variables to what the contracts ask. -/
import Derived.Lib.LaidU8
import Derived.Test.YtemhfcgkfdklhaaGreatDoorRows
import Derived.Test.YtemhfcgkfdklhaaGreatDoorEachP
set_option linter.unusedVariables false
namespace Go.Proofs.YtemhfcgkfdklhaaGreatDoor.Look
open Go Go.RowKit Go.Shelf Go.Proofs Go.Lib

def laidAll : List (String × DataW Unit) := Rows.readShutRow.laid
theorem extraU : U8Extra Tryz.prog Tryz.lays260_ren := ⟨by kernel_rfl, by kernel_rfl, by kernel_rfl, by kernel_rfl, by kernel_rfl, by kernel_rfl, by kernel_rfl⟩
theorem extraW : WhiteExtra Tryz.prog Tryz.lays199_ren := ⟨by kernel_rfl, by kernel_rfl, by kernel_rfl, by kernel_rfl, by kernel_rfl, by kernel_rfl, by kernel_rfl, by kernel_rfl⟩

theorem tabIs_of_reads {P : Program} {W : World} {name : String} {k : IntKind} {zs : List Int} {g : Nat} {t e : TypeId} {n : Nat}
    (hg : P.globalNamed name = some g) (hty : (P.globals[g]?).map (·.type) = some t) (ht : P.underlying t = some (.array n e)) (he : P.underlying e = some (.int k)) (hce : P.cellsOf e = 1) (hct : P.cellsOf t = n)
    (h : VarReads P W name (tabData k zs)) : TabIs P W name k zs := by
  obtain ⟨g', t', cs, fuel, p, hg', ht', hvar, hd⟩ := h
  obtain rfl := Option.some.inj (hg.symm.trans hg')
  obtain rfl := Option.some.inj (hty.symm.trans ht')
  unfold TabIs
  rw [hvar, ← cells_of_tab ht he hce hct hd]

theorem mem_at {α : Type} {l : List α} {x : α} (i : Nat) (h : l[i]? = some x) : x ∈ l := List.mem_of_getElem? h

theorem tabs_of_laid {W : World} (h : laidMet Tryz.prog laidAll W) : Tabs W where
  asc := tabIs_of_reads (g := 0) (t := 144) (e := 5) (n := 256) (by kernel_rfl) (by kernel_rfl) (by kernel_rfl) (by kernel_rfl) (by kernel_rfl) (by kernel_rfl) (laidMet.reads h (mem_at 7 (by kernel_rfl)))
  white := whiteTab_of_reads Tryz.lays199 extraW (laidMet.reads h (mem_at 6 (by kernel_rfl)))
  utf := utf8Tabs_of_reads Tryz.lays260 extraU (laidMet.reads h (mem_at 8 (by kernel_rfl))) (laidMet.reads h (mem_at 3 (by kernel_rfl)))
end Go.Proofs.YtemhfcgkfdklhaaGreatDoor.Look
