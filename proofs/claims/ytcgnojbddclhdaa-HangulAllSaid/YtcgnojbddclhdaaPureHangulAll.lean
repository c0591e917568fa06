/- The statement HangulAll of layer 5, over numbers and lists alone: there are just so many syllables, one behind the other, and the next one's parts are the next ones.
   Conditions: none; for every number of the kind uint16. -/
import Derived.Test.YtcgnojbddclhdaaPHangulAllx2
namespace Go.Proofs.Ytcgnojbddclhdaa.Pure
open Go.RowKit Go.Proofs.Ytcgnojbddclhdaa.PHangulAll Go.Proofs.YtcgnojbddclhdaaW.PrintWords Go.Proofs.YtcgnojbddclhdaaW.PrintLast

/-- What a character is split into. -/
def parts (r : Int) : List Int :=
  if 44032 ≤ r ∧ r < 55204 then
    [4352 + (r - 44032) / 588, 4449 + (r - 44032) % 588 / 28] ++ (if (r - 44032) % 28 > 0 then [4519 + (r - 44032) % 28] else [])
  else []

theorem w32_in {n : Int} (h1 : -2147483648 ≤ n) (h2 : n ≤ 2147483647) : wrap32 n = n := by unfold wrap32; omega
theorem w64_in {n : Int} (h1 : -2147483648000 ≤ n) (h2 : n ≤ 2147483647000) : wrap64 n = n := by unfold wrap64; omega

theorem i32_wf {a : Int} (h : (Lit.int .i32 a).wf = true) : -2147483648 ≤ a ∧ a ≤ 2147483647 := by
  have h' : IntKind.i32.min ≤ a ∧ a ≤ IntKind.i32.max := by simpa [Lit.wf] using h
  have e1 : IntKind.i32.min = -2147483648 := by decide
  have e2 : IntKind.i32.max = 2147483647 := by decide
  omega
theorem syl (r : Int) : hangul_Syllable.f r = some (decide (44032 ≤ r ∧ r < 55204)) := by
  unfold hangul_Syllable.f
  split <;> simp <;> omega

theorem split_parts (r : Int) : hangul_Split.f r = some (parts r) := by
  unfold hangul_Split.f parts
  rw [syl]
  by_cases h : 44032 ≤ r ∧ r < 55204
  · simp (disch := omega) only [w32_in, Int.tdiv_eq_ediv_of_nonneg, Int.tmod_eq_emod_of_nonneg]
    simp only [h, decide_true, Option.bind_some, if_true, and_self]
    split <;> simp
  · simp [h]

/-- What two characters are. -/
def joined (a b : Int) : Int × Bool :=
  if 4352 ≤ a ∧ a ≤ 4370 ∧ 4449 ≤ b ∧ b ≤ 4469 then (44032 + ((a - 4352) * 21 + (b - 4449)) * 28, true)
  else if 44032 ≤ a ∧ a < 55204 ∧ (a - 44032) % 28 = 0 ∧ 4519 < b ∧ b < 4547 then (a + b - 4519, true)
  else (0, false)

theorem join_is (k : Nat) (a b : Int) (h1 : -2147483648 ≤ a) (h2 : a ≤ 2147483647) : hangul_Join.f (k + 1) a b = some (joined a b) := by
  unfold hangul_Join.f joined
  by_cases h : 4352 ≤ a ∧ a ≤ 4370 ∧ 4449 ≤ b ∧ b ≤ 4469
  · obtain ⟨p1, p2, p3, p4⟩ := h
    rw [if_pos p1, if_pos (by omega), if_pos p3, if_pos ⟨p1, p2, p3, p4⟩]
    have hd : decide (b < 4470) = true := decide_eq_true (by omega)
    rw [hd]
    simp only [hangul_Join.j0, if_true]
    rw [w32_in (n := a - 4352) (by omega) (by omega), w32_in (n := (a - 4352) * 21) (by omega) (by omega), w32_in (n := (a - 4352) * 21 + b) (by omega) (by omega), w32_in (n := (a - 4352) * 21 + b - 4449) (by omega) (by omega), w32_in (n := ((a - 4352) * 21 + b - 4449) * 28) (by omega) (by omega), w32_in (by omega) (by omega)]
    congr 2
    omega
  · rw [if_neg h]
    have key : (if a ≥ 4352 then (if a < 4371 then (if b ≥ 4449 then (hangul_Join.j0 (k + 1) a b (decide (b < 4470))) else (hangul_Join.j0 (k + 1) a b false)) else (hangul_Join.j0 (k + 1) a b false)) else (hangul_Join.j0 (k + 1) a b false)) = hangul_Join.j0 (k + 1) a b false := by
      by_cases p1 : a ≥ 4352
      · rw [if_pos p1]
        by_cases p2 : a < 4371
        · rw [if_pos p2]
          by_cases p3 : b ≥ 4449
          · rw [if_pos p3, decide_eq_false (by omega)]
          · rw [if_neg p3]
        · rw [if_neg p2]
      · rw [if_neg p1]
    rw [key]
    simp only [hangul_Join.j0]
    rw [syl]
    by_cases q : 44032 ≤ a ∧ a < 55204
    · rw [w32_in (n := a - 44032) (by omega) (by omega), Int.tmod_eq_emod_of_nonneg (a := a - 44032) (by omega)]
      simp only [q, and_self, decide_true, Option.bind_some, if_true, Bool.false_eq_true, if_false, true_and]
      by_cases q1 : (a - 44032) % 28 = 0
      · rw [if_pos q1]
        by_cases q2 : 4519 < b
        · by_cases q3 : b < 4547
          · rw [if_pos q2, if_pos q3, if_pos ⟨q1, q2, q3⟩, w32_in (n := a + b) (by omega) (by omega), w32_in (by omega) (by omega)]
          · rw [if_pos q2, if_neg q3, if_neg (by omega)]
        · rw [if_neg q2, if_neg (by omega)]
      · rw [if_neg q1, if_neg (by omega)]
    · simp only [q, decide_false, Option.bind_some, Bool.false_eq_true, if_false]
      rw [if_neg (by omega)]

theorem answers_is (k : Nat) : amanuensislaw05_answers.f (k + 1) = some true := by
  unfold amanuensislaw05_answers.f
  rw [split_parts, join_is _ _ _ (by omega) (by omega)]
  decide

theorem u16_wf {a : Int} (h : (Lit.int .u16 a).wf = true) : 0 ≤ a ∧ a ≤ 65535 := by
  have h' : IntKind.u16.min ≤ a ∧ a ≤ IntKind.u16.max := by simpa [Lit.wf] using h
  have e1 : IntKind.u16.min = 0 := by decide
  have e2 : IntKind.u16.max = 65535 := by decide
  omega

theorem HangulAll : amanuensislaw05_HangulAll.Pure := by
  intro a ha
  have ha' := u16_wf ha
  refine ⟨10, ?_⟩
  unfold amanuensislaw05_HangulAll.f
  obtain ⟨n, hn⟩ : ∃ n, n = a % 11171 := ⟨_, rfl⟩
  have e1 : Int.tmod (wrap64 a) 11171 = n := by rw [w64_in (by omega) (by omega), Int.tmod_eq_emod_of_nonneg (by omega), hn]
  rw [e1]
  have hb : 0 ≤ n ∧ n < 11171 := by omega
  clear hn e1 ha' ha
  simp (disch := omega) only [w32_in, w64_in]
  rw [answers_is 9, split_parts, split_parts, syl, syl, syl]
  have p1 : 44032 ≤ 44032 + n ∧ 44032 + n < 55204 := by omega
  have p2 : 44032 ≤ 44032 + n + 1 ∧ 44032 + n + 1 < 55204 := by omega
  have q1 : 44032 + n - 44032 = n := by omega
  have q2 : 44032 + n + 1 - 44032 = n + 1 := by omega
  unfold parts
  rw [if_pos p1, if_pos p2, q1, q2]
  by_cases c1 : n % 28 > 0
  · rw [if_pos c1]
    by_cases c2 : (n + 1) % 28 > 0
    · rw [if_pos c2]
      simp [amanuensislaw05_HangulAll.j0, rd]
      simp (disch := omega) only [w64_in]
      rw [if_pos (by omega), if_pos (by omega), if_pos (by omega), decide_eq_true (by omega)]
    · rw [if_neg c2]
      simp [amanuensislaw05_HangulAll.j0, rd]
      simp (disch := omega) only [w64_in]
      rw [if_pos (by omega), if_pos (by omega), if_pos (by omega)]
  · rw [if_neg c1]
    by_cases c2 : (n + 1) % 28 > 0
    · rw [if_pos c2]
      simp [amanuensislaw05_HangulAll.j0, rd]
      simp (disch := omega) only [w64_in]
      rw [if_pos (by omega), if_pos (by omega), decide_eq_true (by omega)]
    · omega

end Go.Proofs.Ytcgnojbddclhdaa.Pure
