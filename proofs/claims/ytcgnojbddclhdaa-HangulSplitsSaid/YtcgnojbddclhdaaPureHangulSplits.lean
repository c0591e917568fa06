/- The statement HangulSplits of layer 5, over numbers and lists alone: hangul.Split gives the parts that the reference gives, hangul.Join what the reference's Syllable gives, hangul.Syllable holds just where there are parts.
   Conditions: none; for every two characters of the kind int32. -/
import Derived.Test.YtcgnojbddclhdaaPHangulSplitsx2
namespace Go.Proofs.Ytcgnojbddclhdaa.Pure
open Go.RowKit Go.Proofs.Ytcgnojbddclhdaa.PHangulSplits Go.Proofs.YtcgnojbddclhdaaW.PrintWords Go.Proofs.YtcgnojbddclhdaaW.PrintLast

/-- What a character is split into. -/
def parts (r : Int) : List Int :=
  if 44032 ≤ r ∧ r < 55204 then
    [4352 + (r - 44032) / 588, 4449 + (r - 44032) % 588 / 28] ++ (if (r - 44032) % 28 > 0 then [4519 + (r - 44032) % 28] else [])
  else []

theorem w32_in {n : Int} (h1 : -2147483648 ≤ n) (h2 : n ≤ 2147483647) : wrap32 n = n := by unfold wrap32; omega
theorem w64_in {n : Int} (h1 : -2147483648000 ≤ n) (h2 : n ≤ 2147483647000) : wrap64 n = n := by unfold wrap64; omega

theorem i32_wf {a : Int} (h : (Lit.int .i32 a).wf = true) : -2147483648 ≤ a ∧ a ≤ 2147483647 := by
  have h' : IntKind.i32.min ≤ a ∧ a ≤ IntKind.i32.max := by simpa [Lit.wf] using h
  have e1 : IntKind.i32.min = -2147483648 := by decide
  have e2 : IntKind.i32.max = 2147483647 := by decide
  omega
theorem syl (r : Int) : hangul_Syllable.f r = some (decide (44032 ≤ r ∧ r < 55204)) := by
  unfold hangul_Syllable.f
  split <;> simp <;> omega

theorem split_parts (r : Int) : hangul_Split.f r = some (parts r) := by
  unfold hangul_Split.f parts
  rw [syl]
  by_cases h : 44032 ≤ r ∧ r < 55204
  · simp (disch := omega) only [w32_in, Int.tdiv_eq_ediv_of_nonneg, Int.tmod_eq_emod_of_nonneg]
    simp only [h, decide_true, Option.bind_some, if_true, and_self]
    split <;> simp
  · simp [h]

theorem ref_parts (k : Nat) (r : Int) (h1 : -2147483648 ≤ r) (h2 : r ≤ 2147483647) : amanuensisref03_Parts.f (k + 1) r = some (parts r) := by
  unfold amanuensisref03_Parts.f parts
  by_cases h : 44032 ≤ r ∧ r < 55204
  · rw [if_neg (by omega)]
    simp only [amanuensisref03_Parts.j0]
    simp (disch := omega) only [w32_in, w64_in, Int.tdiv_eq_ediv_of_nonneg, Int.tmod_eq_emod_of_nonneg]
    have hd : ¬ (r ≥ 55204) := by omega
    simp only [h, hd, decide_false, Option.bind_some, if_true, and_self, Bool.false_eq_true, if_false]
    split <;> simp
  · rw [if_neg h]
    by_cases h3 : r < 44032
    · rw [if_pos h3]; simp [amanuensisref03_Parts.j0]
    · rw [if_neg h3]
      have hd : (r ≥ 55204) := by omega
      simp [amanuensisref03_Parts.j0, hd]

theorem runes_same (l : List Int) (hn : l.length ≤ 1000000) (d : Nat) : ∀ (k : Nat) (i : Int), 0 ≤ i → (l.length : Int) - i ≤ d → d < k → amanuensisref01_Runes.l0 k l l i = some true := by
  induction d with
  | zero =>
    intro k i h0 hd hk
    obtain ⟨k, rfl⟩ : ∃ m, k = m + 1 := ⟨k - 1, by omega⟩
    simp only [amanuensisref01_Runes.l0]; rw [if_neg (by omega)]
  | succ d ih =>
    intro k i h0 hd hk
    obtain ⟨k, rfl⟩ : ∃ m, k = m + 1 := ⟨k - 1, by omega⟩
    simp only [amanuensisref01_Runes.l0]
    by_cases hlt : i < (l.length : Int)
    · simp only [if_pos hlt, if_pos h0, if_true]; rw [w64_in (by omega) (by omega)]
      exact ih k (i + 1) (by omega) (by omega) (by omega)
    · rw [if_neg hlt]

theorem parts_len (r : Int) : (parts r).length ≤ 3 := by
  unfold parts
  repeat' split
  all_goals simp

theorem runes_parts (r : Int) : amanuensisref01_Runes.f 10 (parts r) (parts r) = some true := by
  unfold amanuensisref01_Runes.f
  have h := parts_len r
  simp only [if_true]
  exact runes_same _ (by omega) 9 _ _ (by omega) (by omega) (by omega)

/-- What two characters are. -/
def joined (a b : Int) : Int × Bool :=
  if 4352 ≤ a ∧ a ≤ 4370 ∧ 4449 ≤ b ∧ b ≤ 4469 then (44032 + ((a - 4352) * 21 + (b - 4449)) * 28, true)
  else if 44032 ≤ a ∧ a < 55204 ∧ (a - 44032) % 28 = 0 ∧ 4519 < b ∧ b < 4547 then (a + b - 4519, true)
  else (0, false)

theorem parts_two (a : Int) : ((parts a).length : Int) = 2 ↔ 44032 ≤ a ∧ a < 55204 ∧ (a - 44032) % 28 = 0 := by
  unfold parts
  by_cases h : 44032 ≤ a ∧ a < 55204
  · rw [if_pos h]
    by_cases g : (a - 44032) % 28 > 0
    · rw [if_pos g]; simp; omega
    · rw [if_neg g]; simp; omega
  · rw [if_neg h]; simp; omega

theorem join_is (k : Nat) (a b : Int) (h1 : -2147483648 ≤ a) (h2 : a ≤ 2147483647) : hangul_Join.f (k + 1) a b = some (joined a b) := by
  unfold hangul_Join.f joined
  by_cases h : 4352 ≤ a ∧ a ≤ 4370 ∧ 4449 ≤ b ∧ b ≤ 4469
  · obtain ⟨p1, p2, p3, p4⟩ := h
    rw [if_pos p1, if_pos (by omega), if_pos p3, if_pos ⟨p1, p2, p3, p4⟩]
    have hd : decide (b < 4470) = true := decide_eq_true (by omega)
    rw [hd]
    simp only [hangul_Join.j0, if_true]
    rw [w32_in (n := a - 4352) (by omega) (by omega), w32_in (n := (a - 4352) * 21) (by omega) (by omega), w32_in (n := (a - 4352) * 21 + b) (by omega) (by omega), w32_in (n := (a - 4352) * 21 + b - 4449) (by omega) (by omega), w32_in (n := ((a - 4352) * 21 + b - 4449) * 28) (by omega) (by omega), w32_in (by omega) (by omega)]
    congr 2
    omega
  · rw [if_neg h]
    have key : (if a ≥ 4352 then (if a < 4371 then (if b ≥ 4449 then (hangul_Join.j0 (k + 1) a b (decide (b < 4470))) else (hangul_Join.j0 (k + 1) a b false)) else (hangul_Join.j0 (k + 1) a b false)) else (hangul_Join.j0 (k + 1) a b false)) = hangul_Join.j0 (k + 1) a b false := by
      by_cases p1 : a ≥ 4352
      · rw [if_pos p1]
        by_cases p2 : a < 4371
        · rw [if_pos p2]
          by_cases p3 : b ≥ 4449
          · rw [if_pos p3, decide_eq_false (by omega)]
          · rw [if_neg p3]
        · rw [if_neg p2]
      · rw [if_neg p1]
    rw [key]
    simp only [hangul_Join.j0]
    rw [syl]
    by_cases q : 44032 ≤ a ∧ a < 55204
    · rw [w32_in (n := a - 44032) (by omega) (by omega), Int.tmod_eq_emod_of_nonneg (a := a - 44032) (by omega)]
      simp only [q, and_self, decide_true, Option.bind_some, if_true, Bool.false_eq_true, if_false, true_and]
      by_cases q1 : (a - 44032) % 28 = 0
      · rw [if_pos q1]
        by_cases q2 : 4519 < b
        · by_cases q3 : b < 4547
          · rw [if_pos q2, if_pos q3, if_pos ⟨q1, q2, q3⟩, w32_in (n := a + b) (by omega) (by omega), w32_in (by omega) (by omega)]
          · rw [if_pos q2, if_neg q3, if_neg (by omega)]
        · rw [if_neg q2, if_neg (by omega)]
      · rw [if_neg q1, if_neg (by omega)]
    · simp only [q, decide_false, Option.bind_some, Bool.false_eq_true, if_false]
      rw [if_neg (by omega)]

theorem ref_join_is (k : Nat) (a b : Int) (h1 : -2147483648 ≤ a) (h2 : a ≤ 2147483647) (h3 : -2147483648 ≤ b) (h4 : b ≤ 2147483647) : amanuensisref03_Syllable.f (k + 2) a b = some (joined a b) := by
  unfold amanuensisref03_Syllable.f joined
  by_cases h : 4352 ≤ a ∧ a ≤ 4370 ∧ 4449 ≤ b ∧ b ≤ 4469
  · obtain ⟨p1, p2, p3, p4⟩ := h
    rw [if_pos p1, if_pos (by omega), if_pos p3, if_pos ⟨p1, p2, p3, p4⟩]
    have hd : decide (b ≤ 4469) = true := decide_eq_true (by omega)
    rw [hd]
    simp only [amanuensisref03_Syllable.j0, if_true]
    rw [w64_in (n := a) (by omega) (by omega), w64_in (n := b) (by omega) (by omega), w64_in (n := a - 4352) (by omega) (by omega), w64_in (n := b - 4449) (by omega) (by omega), w64_in (n := (a - 4352) * 588) (by omega) (by omega), w64_in (n := (b - 4449) * 28) (by omega) (by omega), w64_in (n := 44032 + (a - 4352) * 588) (by omega) (by omega), w64_in (by omega) (by omega), w32_in (by omega) (by omega)]
    congr 2
    omega
  · rw [if_neg h]
    have key : (if a ≥ 4352 then (if a ≤ 4370 then (if b ≥ 4449 then (amanuensisref03_Syllable.j0 (k + 2) a b (decide (b ≤ 4469))) else (amanuensisref03_Syllable.j0 (k + 2) a b false)) else (amanuensisref03_Syllable.j0 (k + 2) a b false)) else (amanuensisref03_Syllable.j0 (k + 2) a b false)) = amanuensisref03_Syllable.j0 (k + 2) a b false := by
      by_cases p1 : a ≥ 4352
      · rw [if_pos p1]
        by_cases p2 : a ≤ 4370
        · rw [if_pos p2]
          by_cases p3 : b ≥ 4449
          · rw [if_pos p3, decide_eq_false (by omega)]
          · rw [if_neg p3]
        · rw [if_neg p2]
      · rw [if_neg p1]
    rw [key]
    simp only [amanuensisref03_Syllable.j0]
    rw [ref_parts k a h1 h2]
    simp only [Option.bind_some, Bool.false_eq_true, if_false]
    by_cases q : ((parts a).length : Int) = 2
    · rw [if_pos q]
      have q' := (parts_two a).1 q
      by_cases q2 : 4520 ≤ b
      · by_cases q3 : b ≤ 4546
        · rw [if_pos q2, if_pos q3, if_pos ⟨q'.1, q'.2.1, q'.2.2, by omega, by omega⟩, w64_in (n := a) (by omega) (by omega), w64_in (n := b) (by omega) (by omega), w64_in (n := a + b) (by omega) (by omega), w64_in (by omega) (by omega), w32_in (by omega) (by omega)]
        · rw [if_pos q2, if_neg q3, if_neg (by omega)]
      · rw [if_neg q2, if_neg (by omega)]
    · rw [if_neg q, if_neg (fun hh => q ((parts_two a).2 ⟨hh.1, hh.2.1, hh.2.2.1⟩))]

theorem answers_is (k : Nat) : amanuensislaw05_answers.f (k + 1) = some true := by
  unfold amanuensislaw05_answers.f
  rw [split_parts, join_is _ _ _ (by omega) (by omega)]
  decide

theorem HangulSplits : amanuensislaw05_HangulSplits.Pure := by
  intro a b ha hb
  have ha' : -2147483648 ≤ a ∧ a ≤ 2147483647 := i32_wf ha
  have hb' : -2147483648 ≤ b ∧ b ≤ 2147483647 := i32_wf hb
  refine ⟨10, ?_⟩
  unfold amanuensislaw05_HangulSplits.f
  rw [join_is 9 _ _ ha'.1 ha'.2, ref_join_is 8 _ _ ha'.1 ha'.2 hb'.1 hb'.2, split_parts, answers_is 9, ref_parts 9 _ ha'.1 ha'.2, syl]
  simp only [Option.bind_some, if_true, runes_parts, beq_self_eq_true]
  unfold parts
  by_cases h : 44032 ≤ a ∧ a < 55204
  · simp [h]; omega
  · simp [h]

end Go.Proofs.Ytcgnojbddclhdaa.Pure
