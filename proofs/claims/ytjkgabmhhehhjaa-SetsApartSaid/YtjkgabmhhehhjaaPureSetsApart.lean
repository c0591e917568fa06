/- The statement SetsApart of layer 8, over numbers and lists alone: no escape of sets.Designate is the begin of another one, and the reference reads each as what it makes.
   Conditions: none; for every four numbers of the kind uint8. -/
import Derived.Test.YtjkgabmhhehhjaaPSetsApartx4
namespace Go.Proofs.Ytjkgabmhhehhjaa.Pure
open Go.RowKit Go.Proofs.Ytjkgabmhhehhjaa.PSetsApart Go.Proofs.YtjkgabmhhehhjaaW.PrintWords Go.Proofs.YtjkgabmhhehhjaaW.PrintLast Go.Proofs.YtjkgabmhhehhjaaW.PrintMore

theorem w64_in {n : Int} (h1 : -9223372036854775 ≤ n) (h2 : n ≤ 9223372036854775) : wrap64 n = n := by unfold wrap64; omega
theorem u8_wf {a : Int} (h : (Lit.int .u8 a).wf = true) : 0 ≤ a ∧ a ≤ 255 := by
  have h' : IntKind.u8.min ≤ a ∧ a ≤ IntKind.u8.max := by simpa [Lit.wf] using h
  have e1 : IntKind.u8.min = 0 := by decide
  have e2 : IntKind.u8.max = 255 := by decide
  omega
/-- A set's last byte. -/
def finI (t : Int) : Int := rd [0, 66, 69, 83, 50, 51, 52, 78, 81, 49, 98, 112, 103] t
/-- The escape that makes a set a side's. -/
def des (s t : Int) : List Int × Bool :=
  if t < 1 ∨ 12 < t ∨ s < 0 ∨ 1 < s ∨ (s = 1 ∧ 10 ≤ t) then ([], false)
  else if t = 1 ∧ s = 0 then ([27, 115], true)
  else if 10 ≤ t then ([27, finI t], true)
  else ([27] ++ ((if t = 9 then [36] else []) ++ (if s = 1 then [41] else if t = 9 then [] else [40]) ++ (if t = 2 then [33] else [])) ++ [finI t], true)

theorem same_loop (d : Nat) : ∀ (k : Nat) (a b : List Int) (i : Nat), a.length = b.length → a.length ≤ 100000000 → a.length - i ≤ d → i ≤ a.length → d < k →
    amanuensisref01_Same.l0 k a b (i : Int) = some (decide (a.drop i = b.drop i)) := by
  induction d with
  | zero =>
    intro k a b i he hl hd hi hk
    obtain ⟨k, rfl⟩ : ∃ m, k = m + 1 := ⟨k - 1, by omega⟩
    rw [amanuensisref01_Same.l0, if_neg (by omega), List.drop_eq_nil_of_le (by omega), List.drop_eq_nil_of_le (by omega)]
    simp
  | succ d ih =>
    intro k a b i he hl hd hi hk
    obtain ⟨k, rfl⟩ : ∃ m, k = m + 1 := ⟨k - 1, by omega⟩
    rw [amanuensisref01_Same.l0]
    by_cases hlt : i < a.length
    · have h1 : rd a (i : Int) = a[i] := by unfold rd; simp [hlt]
      have hlt' : i < b.length := by omega
      have h2 : rd b (i : Int) = b[i] := by unfold rd; simp [hlt']
      rw [if_pos (by omega), if_pos (by omega), if_pos (by omega), h1, h2, List.drop_eq_getElem_cons hlt, List.drop_eq_getElem_cons hlt']
      by_cases e : a[i] = b[i]
      · rw [if_pos e, w64_in (by omega) (by omega)]
        have := ih k a b (i + 1) he hl (by omega) (by omega) (by omega)
        rw [Int.natCast_add] at this
        rw [show ((i : Int) + 1) = (i : Int) + ((1 : Nat) : Int) from rfl, this]
        simp only [List.cons.injEq, e, true_and]
      · rw [if_neg e]
        simp only [List.cons.injEq, e, false_and, decide_false]
    · rw [if_neg (by omega), List.drop_eq_nil_of_le (by omega), List.drop_eq_nil_of_le (by omega)]
      simp
theorem same_is (k : Nat) (a b : List Int) (hk : a.length + 1 ≤ k) (hl : a.length ≤ 100000000) : amanuensisref01_Same.f k a b = some (decide (a = b)) := by
  unfold amanuensisref01_Same.f
  by_cases h : a.length = b.length
  · rw [if_pos (by omega)]
    have := same_loop a.length k a b 0 h hl (by omega) (by omega) (by omega)
    simpa using this
  · rw [if_neg (by omega)]
    have : a ≠ b := fun e => h (by rw [e])
    simp [this]

theorem des_all : ∀ (s : Fin 2) (t : Fin 14), sets_Designate.f 100 (s.val : Int) (t.val : Int) = some (des (s.val : Int) (t.val : Int)) := by decide +kernel
theorem answers_100 : amanuensislaw08_answers.f 100 = some true := by decide +kernel
theorem answers_99 : amanuensislaw08_answers.f 99 = some true := by decide +kernel
theorem next_all : ∀ (s : Fin 2) (t : Fin 14), (des (s.val : Int) (t.val : Int)).2 = true →
    amanuensisref08_Next.f 99 (des (s.val : Int) (t.val : Int)).1 0 0 0 = some (if (s.val : Int) = 0 then (t.val : Int) else 0, if (s.val : Int) = 0 then 0 else (t.val : Int), ((des (s.val : Int) (t.val : Int)).1.length : Int), 0, 0) := by decide +kernel
/-- None of the escapes is the begin of another one. -/
theorem apart_all : ∀ (s : Fin 2) (t : Fin 14) (u : Fin 2) (v : Fin 14), (des (s.val : Int) (t.val : Int)).2 = true → (des (u.val : Int) (v.val : Int)).2 = true →
    decide (((des (s.val : Int) (t.val : Int)).1.length : Int) ≤ ((des (u.val : Int) (v.val : Int)).1.length : Int) ∧ (des (s.val : Int) (t.val : Int)).1 = (des (u.val : Int) (v.val : Int)).1.take (des (s.val : Int) (t.val : Int)).1.length) = decide (s = u ∧ t = v) := by decide +kernel
theorem des_short : ∀ (s : Fin 2) (t : Fin 14), (des (s.val : Int) (t.val : Int)).1.length ≤ 4 := by decide +kernel

theorem fin_two (s : Fin 2) : (s.val : Int) = 0 ∨ (s.val : Int) = 1 := by have := s.isLt; omega
theorem fin_two_eq (s u : Fin 2) : ((s.val : Int) = (u.val : Int)) ↔ s = u := by rw [Fin.ext_iff]; omega
theorem fin_beq (t v : Fin 14) : ((t.val : Int) == (v.val : Int)) = decide (t = v) := by
  rw [Bool.eq_iff_iff, beq_iff_eq, decide_eq_true_eq, Fin.ext_iff]; omega

theorem SetsApart : amanuensislaw08_SetsApart.Pure := by
  intro a b c d ha hb hc hd
  have ha' := u8_wf ha
  have hb' := u8_wf hb
  have hc' := u8_wf hc
  have hd' := u8_wf hd
  refine ⟨100, ?_⟩
  unfold amanuensislaw08_SetsApart.f
  obtain ⟨s, hs⟩ : ∃ s : Fin 2, (s.val : Int) = a % 2 := ⟨⟨(a % 2).toNat, by omega⟩, by simp only; omega⟩
  obtain ⟨t, ht⟩ : ∃ t : Fin 14, (t.val : Int) = b % 14 := ⟨⟨(b % 14).toNat, by omega⟩, by simp only; omega⟩
  obtain ⟨u, hu⟩ : ∃ u : Fin 2, (u.val : Int) = c % 2 := ⟨⟨(c % 2).toNat, by omega⟩, by simp only; omega⟩
  obtain ⟨v, hv⟩ : ∃ v : Fin 14, (v.val : Int) = d % 14 := ⟨⟨(d % 14).toNat, by omega⟩, by simp only; omega⟩
  have es : Int.tmod a 2 = (s.val : Int) := by rw [Int.tmod_eq_emod_of_nonneg (by omega), hs]
  have et : Int.tmod b 14 = (t.val : Int) := by rw [Int.tmod_eq_emod_of_nonneg (by omega), ht]
  have eu : Int.tmod c 2 = (u.val : Int) := by rw [Int.tmod_eq_emod_of_nonneg (by omega), hu]
  have ev : Int.tmod d 14 = (v.val : Int) := by rw [Int.tmod_eq_emod_of_nonneg (by omega), hv]
  have ws : wrap64 (s.val : Int) = (s.val : Int) := w64_in (by omega) (by omega)
  have wt : wrap64 (t.val : Int) = (t.val : Int) := w64_in (by omega) (by omega)
  have wu : wrap64 (u.val : Int) = (u.val : Int) := w64_in (by omega) (by omega)
  have wv : wrap64 (v.val : Int) = (v.val : Int) := w64_in (by omega) (by omega)
  rw [es, et, eu, ev, ws, wt, wu, wv, des_all, des_all, answers_100]
  simp only [Option.bind_some, if_true]
  by_cases h1 : (des (s.val : Int) (t.val : Int)).2 = true
  · rw [if_pos h1, amanuensislaw08_SetsApart.j0]
    by_cases h2 : (des (u.val : Int) (v.val : Int)).2 = true
    · rw [h2]
      simp only [Bool.not_true, Bool.false_eq_true, if_false]
      have hs01 := fin_two s
      have ht14 := fin_beq t v
      have hsu := fin_two_eq s u
      have hle : (0 : Int) ≤ ((des (s.val : Int) (t.val : Int)).1.length : Int) := Int.natCast_nonneg _
      have hl := des_short s t
      have hx := apart_all s t u v h1 h2
      have hm : ∀ l : List Int, amanuensisref01_Same.f 99 (des (s.val : Int) (t.val : Int)).1 l = some (decide ((des (s.val : Int) (t.val : Int)).1 = l)) := fun l => same_is 99 _ l (by omega) (by omega)
      rw [next_all s t h1]
      generalize des (s.val : Int) (t.val : Int) = X at *
      generalize des (u.val : Int) (v.val : Int) = Y at *
      have fin : (if (s.val : Int) = (u.val : Int) then (if (X.1.length : Int) ≤ (Y.1.length : Int) then (if 0 ≤ (X.1.length : Int) then ((amanuensisref01_Same.f 99 X.1 (Y.1.take X.1.length)).bind fun z => (some (z == ((t.val : Int) == (v.val : Int))))) else none) else some (false == ((t.val : Int) == (v.val : Int)))) else (if (X.1.length : Int) ≤ (Y.1.length : Int) then (if 0 ≤ (X.1.length : Int) then ((amanuensisref01_Same.f 99 X.1 (Y.1.take X.1.length)).bind fun z => (some (z == false))) else none) else some (false == false))) = some true := by
        rw [hm, ht14, if_pos hle]
        by_cases q : s = u
        · rw [if_pos (hsu.2 q)]
          simp only [q, true_and] at hx
          by_cases g : (X.1.length : Int) ≤ (Y.1.length : Int)
          · rw [if_pos g]
            simp only [g, true_and] at hx
            simp [hx]
          · rw [if_neg g]
            simp only [g, false_and, decide_false] at hx
            rw [← hx]; rfl
        · rw [if_neg (fun h => q (hsu.1 h))]
          simp only [q, false_and, decide_false] at hx
          by_cases g : (X.1.length : Int) ≤ (Y.1.length : Int)
          · rw [if_pos g]
            simp only [g, true_and] at hx
            simp [hx]
          · rw [if_neg g]; rfl
      rcases hs01 with e | e
      · simp only [es, et, eu, ev, wt, Option.bind_some, if_true, Int.toNat_natCast, e, if_neg (show ¬ ((0 : Int) = 1) by decide)]
        rw [e] at fin
        exact fin
      · simp only [es, et, eu, ev, wt, Option.bind_some, if_true, Int.toNat_natCast, e, if_neg (show ¬ ((1 : Int) = 0) by decide)]
        rw [e] at fin
        exact fin
    · simp only [Bool.not_eq_true] at h2
      rw [h2]
      simp only [Bool.not_false, if_true, answers_99, Option.bind_some]
  · rw [if_neg h1, amanuensislaw08_SetsApart.j0]
    simp only [if_true, answers_99, Option.bind_some]

end Go.Proofs.Ytjkgabmhhehhjaa.Pure
