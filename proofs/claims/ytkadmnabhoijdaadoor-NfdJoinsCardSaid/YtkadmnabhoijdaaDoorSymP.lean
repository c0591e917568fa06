/- slices.symMergeCmpFunc in plain Lean: what the search finds parts both pieces well. -/
import Derived.Test.YtkadmnabhoijdaaDoorSym2
set_option linter.unusedVariables false
namespace Go.Proofs.YtkadmnabhoijdaaDoor.Look
open Go Go.RowKit Go.Shelf Go.Proofs Go.Lib Go.Sort
open Go.Proofs.YtkadmnabhoijdaaDoor.Stab

/-- What a merge of two neighbouring pieces says. -/
def SymAt (a m b : Nat) : Prop := ∀ (blk off cap : Nat) (d0 d : Array Int) (w0 w : World) (A U V Q : List Int),
    Row1 enc32 w0 blk off d0 → d0.size = d.size → SW enc32 w0 blk off d w → d.toList = A ++ U ++ V ++ Q → A.length = a → a + U.length = m → m + V.length = b → Asc kOf U → Asc kOf V → d.size < 4611686018427387904 →
    Calls Tryd.prog 30 #[.slice (some ⟨blk, off, none⟩) d.size cap, .int .i64 a, .int .i64 m, .int .i64 b, .func (.func 19) #[] #[]] w fun e w' => e = .returned (.tuple #[]) ∧ ∃ T : Array Int, SW enc32 w0 blk off T w' ∧ T.size = d.size ∧ ∃ S, IsMerge kOf U V S ∧ T.toList = A ++ S ++ Q

theorem split_ok {d : Array Int} {A U V Q : List Int} {a m b mid s e lo hi : Nat} (hd : d.toList = A ++ U ++ V ++ Q) (hA : A.length = a) (hU : a + U.length = m) (hV : m + V.length = b) (hu : Asc kOf U) (hv : Asc kOf V)
    (he : e + s = mid + m) (h1 : a ≤ lo) (h2 : lo ≤ s) (h3 : s ≤ hi) (h4 : hi ≤ m) (h5 : hi ≤ mid) (h6 : mid + m ≤ b + lo) (hlo : lo = a ∨ mid + m = b + lo) (hhi : hi = m ∨ hi = mid)
    (hL : lo < s → kOf d[s - 1]! ≤ kOf d[mid + m - 1 - (s - 1)]!) (hR : s < hi → kOf d[mid + m - 1 - s]! < kOf d[s]!) :
    (∀ x ∈ U.drop (s - a), ∀ y ∈ V.take (e - m), kOf y < kOf x) ∧ (∀ x ∈ U.take (s - a), ∀ y ∈ V.drop (e - m), kOf x ≤ kOf y) := by
  have hdV : d.toList = (A ++ U) ++ V ++ Q := hd
  have hdU : d.toList = A ++ U ++ (V ++ Q) := by rw [hd]; simp
  constructor
  · intro x hx y hy
    by_cases hs : s < hi
    · have hp : s - a < U.length := by omega
      have hq : e - 1 - m < V.length := by omega
      have e1 : d[s]! = U[s - a] := at_getElem hdU hp (by omega)
      have e2 : d[mid + m - 1 - s]! = V[e - 1 - m] := at_getElem hdV hq (by simp; omega)
      have hr := hR hs
      rw [e1, e2] at hr
      have hy' : y ∈ V.take (e - 1 - m + 1) := by rw [show e - 1 - m + 1 = e - m by omega]; exact hy
      have g1 := below_asc hv hq hr y hy'
      have g2 := above_asc hu hp (Int.le_refl _) x hx
      omega
    · rcases hhi with h | h
      · rw [List.drop_eq_nil_of_le (by omega)] at hx; simp at hx
      · rw [show e - m = 0 by omega] at hy; simp at hy
  · intro x hx y hy
    by_cases hs : lo < s
    · by_cases heb : e < b
      · have hp : s - 1 - a < U.length := by omega
        have hq : e - m < V.length := by omega
        have e1 : d[s - 1]! = U[s - 1 - a] := at_getElem hdU hp (by omega)
        have e2 : d[mid + m - 1 - (s - 1)]! = V[e - m] := at_getElem hdV hq (by simp; omega)
        have hr := hL hs
        rw [e1, e2] at hr
        have hx' : x ∈ U.take (s - 1 - a + 1) := by rw [show s - 1 - a + 1 = s - a by omega]; exact hx
        have g1 := below_asc' hu hp (Int.le_refl _) x hx'
        have g2 := above_asc hv hq (Int.le_refl _) y hy
        omega
      · rw [List.drop_eq_nil_of_le (by omega)] at hy; simp at hy
    · rcases hlo with h | h
      · rw [show s - a = 0 by omega] at hx; simp at hx
      · rw [List.drop_eq_nil_of_le (by omega)] at hy; simp at hy
end Go.Proofs.YtkadmnabhoijdaaDoor.Look
