/- A text that is its lines joined by a byte is cut into them. -/
import Derived.Test.YtkadmnabhoijdaaDoorSplit
set_option linter.unusedVariables false
namespace Go.Proofs.YtkadmnabhoijdaaDoor.Seq
open Go Go.RowKit Go.Shelf Go.Proofs

def joinC (c : UInt8) : List UInt8 → List (List UInt8) → List UInt8
  | l, [] => l
  | l, m :: ls => l ++ c :: joinC c m ls

theorem index_none (c : UInt8) : ∀ l : List UInt8, l.all (· != c) = true → Lib.indexByte l c = -1
  | [], _ => rfl
  | b :: l, h => by
    simp only [List.all_cons, Bool.and_eq_true, bne_iff_ne] at h
    have ih := index_none c l (by simpa using h.2)
    unfold Lib.indexByte
    rw [ih]
    simp [h.1]
theorem index_at (c : UInt8) : ∀ (l r : List UInt8), l.all (· != c) = true → Lib.indexByte (l ++ c :: r) c = (l.length : Int)
  | [], r, _ => by simp [Lib.indexByte]
  | b :: l, r, h => by
    simp only [List.all_cons, Bool.and_eq_true, bne_iff_ne] at h
    have ih := index_at c l r (by simpa using h.2)
    rw [List.cons_append]
    unfold Lib.indexByte
    rw [ih]
    have h2 : ¬ ((l.length : Int) = -1) := by omega
    simp [h.1, h2]

theorem splits_join (c : UInt8) : ∀ (l : List UInt8) (ls : List (List UInt8)), (l :: ls).all (fun x => x.all (· != c)) = true → Splits c ⟨(joinC c l ls).toArray⟩ ((l :: ls).map fun x => ⟨x.toArray⟩)
  | l, [], h => .last _ (index_none c l (by simpa using h))
  | l, m :: ls, h => by
    rw [List.all_cons, Bool.and_eq_true] at h
    have ih := splits_join c m ls h.2
    have hi := index_at c l (joinC c m ls) h.1
    have hc := Splits.cut (c := c) ⟨(joinC c l (m :: ls)).toArray⟩ l.length ((m :: ls).map fun x => ⟨x.toArray⟩) hi (by simp [ByteArray.size, joinC]) ?_
    · have e : (ByteArray.mk (joinC c l (m :: ls)).toArray).extract 0 l.length = ⟨l.toArray⟩ := by
        apply ByteArray.ext
        rw [ByteArray.data_extract]
        apply Array.toList_inj.1
        simp [joinC]
      rw [e] at hc
      exact hc
    · have e : (ByteArray.mk (joinC c l (m :: ls)).toArray).extract (l.length + 1) (ByteArray.mk (joinC c l (m :: ls)).toArray).size = ⟨(joinC c m ls).toArray⟩ := by
        apply ByteArray.ext
        rw [ByteArray.data_extract]
        apply Array.toList_inj.1
        simp [joinC, ByteArray.size]
        exact List.take_of_length_le (by omega)
      rw [e]
      exact ih
end Go.Proofs.YtkadmnabhoijdaaDoor.Seq
