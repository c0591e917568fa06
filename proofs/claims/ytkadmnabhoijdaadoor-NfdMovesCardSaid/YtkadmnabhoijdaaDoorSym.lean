/- slices.symMergeCmpFunc at runes: a stable merge of two neighbouring pieces. -/
import Derived.Test.YtkadmnabhoijdaaDoorSym3A
import Derived.Test.YtkadmnabhoijdaaDoorSym3B
set_option linter.unusedVariables false
namespace Go.Proofs.YtkadmnabhoijdaaDoor.Look
open Go Go.RowKit Go.Shelf Go.Proofs Go.Lib Go.Sort
open Go.Proofs.YtkadmnabhoijdaaDoor.Stab

theorem sym : ∀ (n a m b : Nat), b - a ≤ n → a < m → m < b → SymAt a m b
  | 0, a, m, b, hn, h1, h2 => by omega
  | n + 1, a, m, b, hn, h1, h2 => by
    by_cases ha : m = a + 1
    · intro blk off cap d0 d w0 w A U V Q R hs S hd hA hU hV hascU hascV hsz
      have hU1 : U.length = 1 := by omega
      obtain ⟨x, rfl⟩ := List.length_eq_one_iff.1 hU1
      exact sym1 blk off cap a m b d0 d w0 w A V Q x R hs S (by rw [hd]; simp) hA (by omega) (by omega) ha hascV hsz
    · by_cases hb : b = m + 1
      · intro blk off cap d0 d w0 w A U V Q R hs S hd hA hU hV hascU hascV hsz
        have hV1 : V.length = 1 := by omega
        obtain ⟨x, rfl⟩ := List.length_eq_one_iff.1 hV1
        exact sym2 blk off cap a m b d0 d w0 w A U Q x R hs S (by rw [hd]; simp) hA (by omega) (by omega) hb hascU hsz
      · by_cases hc : (a + b) / 2 < m
        · exact sym3A a m b ((a + b) / 2) (by omega) (by omega) rfl hc (fun s g1 g2 => sym n a s _ (by omega) g1 g2) (fun e g1 g2 => sym n _ e b (by omega) g1 g2)
        · exact sym3B a m b ((a + b) / 2) (by omega) (by omega) rfl (by omega) (fun s g1 g2 => sym n a s _ (by omega) g1 g2) (fun e g1 g2 => sym n _ e b (by omega) g1 g2)
end Go.Proofs.YtkadmnabhoijdaaDoor.Look
