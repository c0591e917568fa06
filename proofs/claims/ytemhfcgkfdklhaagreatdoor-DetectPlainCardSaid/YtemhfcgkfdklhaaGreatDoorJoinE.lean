/- A text that is its lines joined by newlines is cut into them. -/
import Derived.Test.YtemhfcgkfdklhaaGreatDoorSplit
set_option linter.unusedVariables false
namespace Go.Proofs.YtemhfcgkfdklhaaGreatDoor.Seq
open Go Go.RowKit Go.Shelf Go.Proofs

def joinNl : List UInt8 → List (List UInt8) → List UInt8
  | l, [] => l
  | l, m :: ls => l ++ 10 :: joinNl m ls

theorem index_none : ∀ l : List UInt8, l.all (· != 10) = true → Lib.indexByte l 10 = -1
  | [], _ => rfl
  | b :: l, h => by
    simp only [List.all_cons, Bool.and_eq_true, bne_iff_ne] at h
    have ih := index_none l (by simpa using h.2)
    unfold Lib.indexByte
    rw [ih]
    simp [h.1]
theorem index_at : ∀ (l r : List UInt8), l.all (· != 10) = true → Lib.indexByte (l ++ 10 :: r) 10 = (l.length : Int)
  | [], r, _ => by simp [Lib.indexByte]
  | b :: l, r, h => by
    simp only [List.all_cons, Bool.and_eq_true, bne_iff_ne] at h
    have ih := index_at l r (by simpa using h.2)
    rw [List.cons_append]
    unfold Lib.indexByte
    rw [ih]
    have h2 : ¬ ((l.length : Int) = -1) := by omega
    simp [h.1, h2]

theorem splits_join : ∀ (l : List UInt8) (ls : List (List UInt8)), (l :: ls).all (fun x => x.all (· != 10)) = true → Splits 10 ⟨(joinNl l ls).toArray⟩ ((l :: ls).map fun x => ⟨x.toArray⟩)
  | l, [], h => .last _ (index_none l (by simpa using h))
  | l, m :: ls, h => by
    rw [List.all_cons, Bool.and_eq_true] at h
    have ih := splits_join m ls h.2
    have hi := index_at l (joinNl m ls) h.1
    have hc := Splits.cut (c := 10) ⟨(joinNl l (m :: ls)).toArray⟩ l.length ((m :: ls).map fun x => ⟨x.toArray⟩) hi (by simp [ByteArray.size, joinNl]) ?_
    · have e : (ByteArray.mk (joinNl l (m :: ls)).toArray).extract 0 l.length = ⟨l.toArray⟩ := by
        apply ByteArray.ext
        rw [ByteArray.data_extract]
        apply Array.toList_inj.1
        simp [joinNl]
      rw [e] at hc
      exact hc
    · have e : (ByteArray.mk (joinNl l (m :: ls)).toArray).extract (l.length + 1) (ByteArray.mk (joinNl l (m :: ls)).toArray).size = ⟨(joinNl m ls).toArray⟩ := by
        apply ByteArray.ext
        rw [ByteArray.data_extract]
        apply Array.toList_inj.1
        simp [joinNl, ByteArray.size]
        exact List.take_of_length_le (by omega)
      rw [e]
      exact ih
end Go.Proofs.YtemhfcgkfdklhaaGreatDoor.Seq
