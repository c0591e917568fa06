import Derived.Test.YtjkgabmhhehhjaaPSetsLeastx2
namespace Go.Proofs.Ytjkgabmhhehhjaa.Pure
open Go.RowKit Go.Proofs.Ytjkgabmhhehhjaa.PSetsLeast Go.Proofs.YtjkgabmhhehhjaaW.PrintWords Go.Proofs.YtjkgabmhhehhjaaW.PrintLast
set_option maxRecDepth 100000

theorem least_all : ∀ n : Fin 256, (amanuensislaw08_SetsLeast.f 100 (n.val : Int) == some true) = true := by decide +kernel

theorem SetsLeast : amanuensislaw08_SetsLeast.Pure := by
  intro a0 h
  have h' : IntKind.u8.min ≤ a0 ∧ a0 ≤ IntKind.u8.max := by simpa [Lit.wf] using h
  have e1 : IntKind.u8.min = 0 := by decide
  have e2 : IntKind.u8.max = 255 := by decide
  obtain ⟨n, rfl⟩ : ∃ n : Nat, a0 = n := ⟨a0.toNat, by omega⟩
  have hn : n < 256 := by omega
  have := least_all ⟨n, hn⟩
  exact ⟨100, by simpa using this⟩
end Go.Proofs.Ytjkgabmhhehhjaa.Pure
