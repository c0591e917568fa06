/- latin.Word (f20). -/
import Derived.Test.YtemhfcgkfdklhaaGreatDoorHex
set_option linter.unusedVariables false
namespace Go.Proofs.YtemhfcgkfdklhaaGreatDoor.Hex
open Go Go.RowKit Go.Shelf Go.Proofs

def dash : ByteArray := ⟨#[45]⟩
/-- The character that a word is, and whether it is one. -/
def wordV (s : ByteArray) : Int × Bool :=
  if s = dash then (0, false) else if (Lib.decodeGo s).2 = s.size then ((Lib.decodeGo s).1, true) else (((hexV 0 s.data.toList).getD 0 : Nat), true)
/-- The words that the tables hold: a dash, a character, or up to four digits. -/
def wordOk (s : ByteArray) : Bool := s = dash ∨ (s.size ≠ 0 ∧ (Lib.decodeGo s).2 = s.size) ∨ (s.size ≠ 0 ∧ s.size ≤ 4 ∧ (hexV 0 s.data.toList).isSome)

theorem hexV_lt : ∀ (l : List UInt8) (a v : Nat), hexV a l = some v → v < (a + 1) * 16 ^ l.length
  | [], a, v, h => by
    simp only [hexV, Option.some.injEq] at h
    simp
    omega
  | c :: l, a, v, h => by
    obtain ⟨d, hd, h2⟩ := Option.bind_eq_some_iff.1 h
    have ih := hexV_lt l _ _ h2
    have hd16 : d ≤ 15 := by have := hexD_cases c d hd; have := c.toNat_lt; omega
    have h3 : (a * 16 + d + 1) * 16 ^ l.length ≤ ((a + 1) * 16) * 16 ^ l.length := Nat.mul_le_mul_right _ (by omega)
    rw [List.length_cons, Nat.pow_succ, Nat.mul_comm (16 ^ l.length) 16, ← Nat.mul_assoc]
    omega

set_option maxHeartbeats 4000000 in
set_option maxRecDepth 100000 in
theorem word (s : ByteArray) (hok : wordOk s = true) (w : World) (hT : Lib.Utf8Tabs 4 5 w) :
    Calls Tryz.prog 78 #[.string s] w fun e w' => e = .returned (.tuple #[.int .i32 (wordV s).1, .bool (wordV s).2]) ∧ Below w.heap.size w w' := by
  have cD := Tryz.utf8_DecodeRuneInString s w hT
  have hk := hok
  simp only [wordOk, Bool.decide_or, Bool.decide_and, Bool.or_eq_true, Bool.and_eq_true, decide_eq_true_eq] at hk
  unfold wordV
  generalize Lib.decodeGo s = D at cD hk ⊢
  obtain ⟨R, K⟩ := D
  by_cases h1 : s = dash
  · rw [if_pos h1]
    obtain rfl : s = ⟨#[45]⟩ := h1
    clear hk hok
    go_enter Tryz.func78, Tryz.ntmps78
    go_wp2_with (go_at_call 97; refine cD.mono ?_; rintro e w' ⟨rfl, hb⟩)
    go_ret2
    exact ⟨rfl, hb⟩
  · rw [if_neg h1]
    have h1' : ¬ s = ⟨#[45]⟩ := h1
    have hq : (s.toList == [45]) = false := by
      cases h : s.toList == [45] with
      | false => rfl
      | true =>
        refine absurd ?_ h1'
        have h2 : s.data.toList = [45] := by simpa [ByteArray.toList_eq] using h
        have h3 := congrArg List.toArray h2
        simp only [Array.toArray_toList] at h3
        rw [← h3]
    by_cases h2 : K = s.size
    · rw [if_pos h2]
      have h2' : (K : Int) = (s.size : Int) := by rw [h2]
      go_enter Tryz.func78, Tryz.ntmps78
      go_wp2_with (go_at_call 97; refine cD.mono ?_; rintro e w' ⟨rfl, hb⟩)
      go_ret2
      exact ⟨rfl, hb⟩
    · rw [if_neg h2]
      have h2' : ¬ (K : Int) = (s.size : Int) := by omega
      have h3 : s.size ≠ 0 ∧ s.size ≤ 4 ∧ (hexV 0 s.data.toList).isSome := by
        rcases hk with h | h | h
        · exact absurd h h1
        · exact absurd h.2 h2
        · exact ⟨h.1, h.2.1, h.2.2⟩
      obtain ⟨h3, h4, h5⟩ := h3
      obtain ⟨v, hv⟩ := Option.isSome_iff_exists.1 h5
      rw [hv]
      have cP := fun W => parse s v hv h3 h4 W
      go_enter Tryz.func78, Tryz.ntmps78
      go_wp2_with (first | (go_at_call 97; refine cD.mono ?_; rintro e w' ⟨rfl, hb⟩) | (go_at_call 77; refine (cP _).mono ?_; rintro e w' ⟨rfl, hb2⟩))
      have hw : wrap32 (v : Int) = v := by
        have := hexV_lt _ _ _ hv
        have hl : s.data.toList.length ≤ 4 := by rw [← Lib.size_eq]; exact h4
        have hp := Nat.pow_le_pow_right (n := 16) (by decide) hl
        unfold wrap32
        omega
      rw [hw]
      go_ret2
      exact ⟨rfl, hb.trans (hb2.mono hb.size)⟩
end Go.Proofs.YtemhfcgkfdklhaaGreatDoor.Hex
