/- The statement SetsNone of layer 8, over numbers and lists alone: what is no set, or no side, has no escape and no sides; the usual sets are sound.
   Conditions: none; for every two numbers of the kind int64. -/
import Derived.Test.YtjkgabmhhehhjaaPSetsNonex3
namespace Go.Proofs.Ytjkgabmhhehhjaa.Pure
open Go.RowKit Go.Proofs.Ytjkgabmhhehhjaa.PSetsNone Go.Proofs.YtjkgabmhhehhjaaW.PrintWords Go.Proofs.YtjkgabmhhehhjaaW.PrintLast Go.Proofs.YtjkgabmhhehhjaaW.PrintMore

theorem w64_in {n : Int} (h1 : -9223372036854775 ≤ n) (h2 : n ≤ 9223372036854775) : wrap64 n = n := by unfold wrap64; omega
theorem u8_wf {a : Int} (h : (Lit.int .u8 a).wf = true) : 0 ≤ a ∧ a ≤ 255 := by
  have h' : IntKind.u8.min ≤ a ∧ a ≤ IntKind.u8.max := by simpa [Lit.wf] using h
  have e1 : IntKind.u8.min = 0 := by decide
  have e2 : IntKind.u8.max = 255 := by decide
  omega
/-- A set's last byte. -/
def finI (t : Int) : Int := rd [0, 66, 69, 83, 50, 51, 52, 78, 81, 49, 98, 112, 103] t
/-- The escape that makes a set a side's. -/
def des (s t : Int) : List Int × Bool :=
  if t < 1 ∨ 12 < t ∨ s < 0 ∨ 1 < s ∨ (s = 1 ∧ 10 ≤ t) then ([], false)
  else if t = 1 ∧ s = 0 then ([27, 115], true)
  else if 10 ≤ t then ([27, finI t], true)
  else ([27] ++ ((if t = 9 then [36] else []) ++ (if s = 1 then [41] else if t = 9 then [] else [40]) ++ (if t = 2 then [33] else [])) ++ [finI t], true)

theorem answers_any (k : Nat) (hk : 20 ≤ k) : amanuensislaw08_answers.f k = some true := by
  obtain ⟨d, rfl⟩ : ∃ d, k = 20 + d := ⟨k - 20, by omega⟩
  induction d with
  | zero => decide +kernel
  | succ d ih => exact amanuensislaw08_answers.mono _ _ (ih (by omega))

theorem final_out (t : Int) (h : t < 1 ∨ 12 < t) : sets_Final.f t = some (0, false) := by
  unfold sets_Final.f
  simp only [Option.bind_some]
  by_cases h1 : t < 1
  · rw [if_pos h1]
  · rw [if_neg h1, if_pos (by omega)]
theorem final_in (t : Int) (h : 1 ≤ t ∧ t ≤ 12) : sets_Final.f t = some (finI t, true) := by
  unfold sets_Final.f finI
  simp only [Option.bind_some]
  rw [if_neg (by omega), if_neg (by omega), if_pos (by omega), if_pos (by show t < 13; omega)]

theorem designate_out (k : Nat) (hk : 1 ≤ k) (s t : Int) (h : ¬ (0 ≤ s ∧ s ≤ 1 ∧ 1 ≤ t ∧ t ≤ 12)) : sets_Designate.f k s t = some ([], false) := by
  obtain ⟨k, rfl⟩ : ∃ m, k = m + 1 := ⟨k - 1, by omega⟩
  unfold sets_Designate.f
  by_cases ht : 1 ≤ t ∧ t ≤ 12
  · rw [final_in t ht]
    simp only [Option.bind_some, if_true]
    by_cases h1 : s < 0
    · rw [if_pos h1, sets_Designate.j0, if_pos rfl]
    · rw [if_neg h1, if_pos (by omega), sets_Designate.j0, if_pos rfl]
  · rw [final_out t (by omega)]
    simp only [Option.bind_some, Bool.false_eq_true, if_false]
    rw [sets_Designate.j0, if_pos rfl]

theorem sides_out (k : Nat) (hk : 1 ≤ k) (t : Int) (h : t < 1 ∨ 12 < t) : sets_Sides.f k t = some [] := by
  obtain ⟨k, rfl⟩ : ∃ m, k = m + 1 := ⟨k - 1, by omega⟩
  unfold sets_Sides.f
  by_cases h1 : t < 1
  · rw [if_pos h1, sets_Sides.j0, if_pos rfl]
  · rw [if_neg h1, decide_eq_true (by omega), sets_Sides.j0, if_pos rfl]

theorem SetsNone : amanuensislaw08_SetsNone.Pure := by
  intro s t _ _
  refine ⟨40, ?_⟩
  unfold amanuensislaw08_SetsNone.f
  by_cases h : 0 ≤ s ∧ s ≤ 1 ∧ 1 ≤ t ∧ t ≤ 12
  · rw [if_pos h.1, if_pos h.2.1, if_pos h.2.2.1, decide_eq_true h.2.2.2, amanuensislaw08_SetsNone.j0, answers_any _ (by omega), if_pos rfl]
    decide
  · have e : (if s ≥ 0 then (if s ≤ 1 then (if t ≥ 1 then (amanuensislaw08_SetsNone.j0 40 s t (decide (t ≤ 12))) else (amanuensislaw08_SetsNone.j0 40 s t false)) else (amanuensislaw08_SetsNone.j0 40 s t false)) else (amanuensislaw08_SetsNone.j0 40 s t false)) = amanuensislaw08_SetsNone.j0 40 s t false := by
      split
      · split
        · split
          · rw [decide_eq_false (by omega)]
          · rfl
        · rfl
      · rfl
    rw [e, amanuensislaw08_SetsNone.j0, answers_any _ (by omega), designate_out _ (by omega) s t h]
    simp only [Bool.false_eq_true, if_false, Option.bind_some, if_true, List.length_nil, Int.natCast_zero]
    by_cases h1 : t ≥ 1
    · rw [if_pos h1]
      by_cases h2 : t ≤ 12
      · rw [if_pos h2]
      · rw [if_neg h2, sides_out _ (by omega) t (by omega)]; rfl
    · rw [if_neg h1, sides_out _ (by omega) t (by omega)]; rfl

end Go.Proofs.Ytjkgabmhhehhjaa.Pure
