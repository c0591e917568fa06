/- The statement SetsNames of layer 8, over numbers and lists alone: the shortest escape of each set and side, which sides it has, and its last byte.
   Conditions: none; for every two numbers of the kind int64. -/
import Derived.Test.YtjkgabmhhehhjaaPSetsNamesx4
namespace Go.Proofs.Ytjkgabmhhehhjaa.Pure
open Go.RowKit Go.Proofs.Ytjkgabmhhehhjaa.PSetsApart Go.Proofs.Ytjkgabmhhehhjaa.PSetsNames Go.Proofs.YtjkgabmhhehhjaaW.PrintWords Go.Proofs.YtjkgabmhhehhjaaW.PrintLast Go.Proofs.YtjkgabmhhehhjaaW.PrintMore
set_option maxRecDepth 100000

theorem w64_in {n : Int} (h1 : -9223372036854775 ≤ n) (h2 : n ≤ 9223372036854775) : wrap64 n = n := by unfold wrap64; omega
/-- A set's last byte. -/
def finI (t : Int) : Int := rd [0, 66, 69, 83, 50, 51, 52, 78, 81, 49, 98, 112, 103] t

theorem answers_any (k : Nat) (hk : 20 ≤ k) : amanuensislaw08_answers.f k = some true := by
  obtain ⟨d, rfl⟩ : ∃ d, k = 20 + d := ⟨k - 20, by omega⟩
  induction d with
  | zero => decide +kernel
  | succ d ih => exact amanuensislaw08_answers.mono _ _ (ih (by omega))
theorem final_out (t : Int) (h : t < 1 ∨ 12 < t) : sets_Final.f t = some (0, false) := by
  unfold sets_Final.f
  simp only [Option.bind_some]
  by_cases h1 : t < 1
  · rw [if_pos h1]
  · rw [if_neg h1, if_pos (by omega)]
theorem final_in (t : Int) (h : 1 ≤ t ∧ t ≤ 12) : sets_Final.f t = some (finI t, true) := by
  unfold sets_Final.f finI
  simp only [Option.bind_some]
  rw [if_neg (by omega), if_neg (by omega), if_pos (by omega), if_pos (by show t < 13; omega)]
theorem designate_out (k : Nat) (hk : 1 ≤ k) (s t : Int) (h : ¬ (0 ≤ s ∧ s ≤ 1 ∧ 1 ≤ t ∧ t ≤ 12)) : sets_Designate.f k s t = some ([], false) := by
  obtain ⟨k, rfl⟩ : ∃ m, k = m + 1 := ⟨k - 1, by omega⟩
  unfold sets_Designate.f
  by_cases ht : 1 ≤ t ∧ t ≤ 12
  · rw [final_in t ht]
    simp only [Option.bind_some, if_true]
    by_cases h1 : s < 0
    · rw [if_pos h1, sets_Designate.j0, if_pos rfl]
    · rw [if_neg h1, if_pos (by omega), sets_Designate.j0, if_pos rfl]
  · rw [final_out t (by omega)]
    simp only [Option.bind_some, Bool.false_eq_true, if_false]
    rw [sets_Designate.j0, if_pos rfl]
theorem sides_out (k : Nat) (hk : 1 ≤ k) (t : Int) (h : t < 1 ∨ 12 < t) : sets_Sides.f k t = some [] := by
  obtain ⟨k, rfl⟩ : ∃ m, k = m + 1 := ⟨k - 1, by omega⟩
  unfold sets_Sides.f
  by_cases h1 : t < 1
  · rw [if_pos h1, sets_Sides.j0, if_pos rfl]
  · rw [if_neg h1, decide_eq_true (by omega), sets_Sides.j0, if_pos rfl]
theorem sides_in : ∀ t : Fin 12, ((sets_Sides.f 9 ((t.val : Int) + 1)).map fun l => l.length) = some (if t.val + 1 < 10 then 2 else 1) := by decide +kernel

/-- All escapes are of a side and of a set. -/
theorem table : (match amanuensisref08_Escapes.f 60 with | some L => L.length == 40 && (List.range 40).all fun j => decide (0 ≤ (rd_T38 L j).f1 ∧ (rd_T38 L j).f1 ≤ 1 ∧ 1 ≤ (rd_T38 L j).f2 ∧ (rd_T38 L j).f2 ≤ 12) | none => false) = true := by decide +kernel
theorem escapes : ∃ L, amanuensisref08_Escapes.f 60 = some L ∧ L.length = 40 ∧ ∀ j : Nat, j < 40 → 0 ≤ (rd_T38 L j).f1 ∧ (rd_T38 L j).f1 ≤ 1 ∧ 1 ≤ (rd_T38 L j).f2 ∧ (rd_T38 L j).f2 ≤ 12 := by
  have h := table
  cases e : amanuensisref08_Escapes.f 60 with
  | none => rw [e] at h; simp at h
  | some L =>
    rw [e] at h
    simp only [Bool.and_eq_true, beq_iff_eq, List.all_eq_true, List.mem_range, decide_eq_true_eq] at h
    exact ⟨L, rfl, h.1, h.2⟩
theorem ref_loop (L : List S38) (hl : L.length = 40) (s t : Int) (h : ∀ j : Nat, j < 40 → ¬ ((rd_T38 L j).f1 = s ∧ (rd_T38 L j).f2 = t)) (d : Nat) : ∀ (i k : Nat), i + d = 40 → d < k → amanuensisref08_Designate.l0 k s t [] L (i : Int) = some ([], false) := by
  induction d with
  | zero =>
    intro i k hi hk
    obtain ⟨k, rfl⟩ : ∃ m, k = m + 1 := ⟨k - 1, by omega⟩
    simp only [amanuensisref08_Designate.l0]
    rw [if_neg (by omega)]
    rfl
  | succ d ih =>
    intro i k hi hk
    obtain ⟨k, rfl⟩ : ∃ m, k = m + 1 := ⟨k - 1, by omega⟩
    have hw : wrap64 ((i : Int) + 1) = ((i + 1 : Nat) : Int) := by rw [w64_in (by omega) (by omega)]; omega
    simp only [amanuensisref08_Designate.l0]
    rw [if_pos (by omega), if_pos (by omega), hw]
    have hn := h i (by omega)
    by_cases h1 : (rd_T38 L (i : Int)).f1 = s
    · rw [if_pos h1, if_neg (fun h2 => hn ⟨h1, h2⟩)]
      exact ih (i + 1) k (by omega) (by omega)
    · rw [if_neg h1]
      exact ih (i + 1) k (by omega) (by omega)
theorem ref_out (k : Nat) (hk : 60 ≤ k) (s t : Int) (h : ¬ (0 ≤ s ∧ s ≤ 1 ∧ 1 ≤ t ∧ t ≤ 12)) : amanuensisref08_Designate.f k s t = some ([], false) := by
  obtain ⟨d, rfl⟩ : ∃ d, k = 60 + d := ⟨k - 60, by omega⟩
  induction d with
  | zero =>
    obtain ⟨L, he, hl, hb⟩ := escapes
    unfold amanuensisref08_Designate.f
    rw [he]
    exact ref_loop L hl s t (fun j hj hh => h (by have := hb j hj; omega)) 40 0 60 (by omega) (by omega)
  | succ d ih => exact amanuensisref08_Designate.mono _ _ _ _ (ih (by omega))

theorem inside : ∀ s : Fin 2, ∀ t : Fin 12, (amanuensislaw08_SetsNames.f 100 (s.val : Int) ((t.val : Int) + 1) == some true) = true := by decide +kernel

theorem same_nil (k : Nat) (hk : 1 ≤ k) : amanuensisref01_Same.f k [] [] = some true := by
  obtain ⟨k, rfl⟩ : ∃ m, k = m + 1 := ⟨k - 1, by omega⟩
  rfl

theorem SetsNames : amanuensislaw08_SetsNames.Pure := by
  intro s t _ _
  by_cases h : 0 ≤ s ∧ s ≤ 1 ∧ 1 ≤ t ∧ t ≤ 12
  · obtain ⟨a, rfl⟩ : ∃ a : Nat, s = a := ⟨s.toNat, by omega⟩
    obtain ⟨b, rfl⟩ : ∃ b : Nat, t = (b : Int) + 1 := ⟨(t - 1).toNat, by omega⟩
    have := inside ⟨a, by omega⟩ ⟨b, by omega⟩
    exact ⟨100, by simpa using this⟩
  · refine ⟨99 + 1, ?_⟩
    unfold amanuensislaw08_SetsNames.f
    rw [designate_out _ (by omega) s t h, ref_out _ (by omega) s t h]
    simp only [Option.bind_some]
    by_cases ht : 1 ≤ t ∧ t ≤ 12
    · rw [final_in t ht]
      simp only [Option.bind_some]
      rw [if_pos (by omega), decide_eq_true (by omega), amanuensislaw08_SetsNames.j0]
      obtain ⟨b, rfl⟩ : ∃ b : Nat, t = (b : Int) + 1 := ⟨(t - 1).toNat, by omega⟩
      have hs := sides_in ⟨b, by omega⟩
      simp only at hs
      rw [Option.map_eq_some_iff] at hs
      obtain ⟨l, hl, hn⟩ := hs
      have hl99 : sets_Sides.f 99 ((b : Int) + 1) = some l := by
        have aux : ∀ d, sets_Sides.f (9 + d) ((b : Int) + 1) = some l := by
          intro d
          induction d with
          | zero => exact hl
          | succ d ih => exact sets_Sides.mono _ _ _ ih
        exact aux 90
      rw [hl99]
      simp only [Option.bind_some, if_true]
      rw [amanuensislaw08_SetsNames.j1, if_pos rfl, amanuensislaw08_SetsNames.j2]
      by_cases hb : (b : Int) + 1 < 10
      · rw [decide_eq_true hb, if_pos rfl, answers_any _ (by omega)]
        simp only [Option.bind_some, if_true, beq_self_eq_true]
        rw [same_nil _ (by omega)]
        rw [if_pos (by omega)] at hn
        simp [hn]
      · rw [decide_eq_false hb, if_neg (by simp), answers_any _ (by omega)]
        simp only [Option.bind_some, if_true, beq_self_eq_true]
        rw [same_nil _ (by omega)]
        rw [if_neg (by omega)] at hn
        simp [hn]
    · rw [final_out t (by omega)]
      simp only [Option.bind_some]
      have e : (if t ≥ 1 then amanuensislaw08_SetsNames.j0 (99 + 1) s t [] false [] false 0 false (decide (t ≤ 12)) else amanuensislaw08_SetsNames.j0 (99 + 1) s t [] false [] false 0 false false) = amanuensislaw08_SetsNames.j0 (99 + 1) s t [] false [] false 0 false false := by
        split
        · rw [decide_eq_false (by omega)]
        · rfl
      rw [e, amanuensislaw08_SetsNames.j0, sides_out _ (by omega) t (by omega)]
      simp only [Option.bind_some, Bool.false_eq_true, if_false]
      rw [amanuensislaw08_SetsNames.j1, if_neg (by simp), amanuensislaw08_SetsNames.j2, if_neg (by simp), answers_any _ (by omega)]
      simp only [Option.bind_some, if_true, beq_self_eq_true]
      rw [same_nil _ (by omega)]
      simp
end Go.Proofs.Ytjkgabmhhehhjaa.Pure
