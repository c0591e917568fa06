/- The statement HangulBack of layer 5, over numbers and lists alone: a syllable's parts, joined one by one, are the syllable, and what any two characters are joined to is split into them.
   Conditions: none; for every number of the kind uint16 and every two characters of the kind int32. -/
import Derived.Test.YtcgnojbddclhdaaPHangulBackx2
namespace Go.Proofs.Ytcgnojbddclhdaa.Pure
open Go.RowKit Go.Proofs.Ytcgnojbddclhdaa.PHangulBack Go.Proofs.YtcgnojbddclhdaaW.PrintWords Go.Proofs.YtcgnojbddclhdaaW.PrintLast

/-- What a character is split into. -/
def parts (r : Int) : List Int :=
  if 44032 ≤ r ∧ r < 55204 then
    [4352 + (r - 44032) / 588, 4449 + (r - 44032) % 588 / 28] ++ (if (r - 44032) % 28 > 0 then [4519 + (r - 44032) % 28] else [])
  else []

theorem w32_in {n : Int} (h1 : -2147483648 ≤ n) (h2 : n ≤ 2147483647) : wrap32 n = n := by unfold wrap32; omega
theorem w64_in {n : Int} (h1 : -2147483648000 ≤ n) (h2 : n ≤ 2147483647000) : wrap64 n = n := by unfold wrap64; omega

theorem i32_wf {a : Int} (h : (Lit.int .i32 a).wf = true) : -2147483648 ≤ a ∧ a ≤ 2147483647 := by
  have h' : IntKind.i32.min ≤ a ∧ a ≤ IntKind.i32.max := by simpa [Lit.wf] using h
  have e1 : IntKind.i32.min = -2147483648 := by decide
  have e2 : IntKind.i32.max = 2147483647 := by decide
  omega
theorem syl (r : Int) : hangul_Syllable.f r = some (decide (44032 ≤ r ∧ r < 55204)) := by
  unfold hangul_Syllable.f
  split <;> simp <;> omega

theorem split_parts (r : Int) : hangul_Split.f r = some (parts r) := by
  unfold hangul_Split.f parts
  rw [syl]
  by_cases h : 44032 ≤ r ∧ r < 55204
  · simp (disch := omega) only [w32_in, Int.tdiv_eq_ediv_of_nonneg, Int.tmod_eq_emod_of_nonneg]
    simp only [h, decide_true, Option.bind_some, if_true, and_self]
    split <;> simp
  · simp [h]

theorem runes_same (l : List Int) (hn : l.length ≤ 1000000) (d : Nat) : ∀ (k : Nat) (i : Int), 0 ≤ i → (l.length : Int) - i ≤ d → d < k → amanuensisref01_Runes.l0 k l l i = some true := by
  induction d with
  | zero =>
    intro k i h0 hd hk
    obtain ⟨k, rfl⟩ : ∃ m, k = m + 1 := ⟨k - 1, by omega⟩
    simp only [amanuensisref01_Runes.l0]; rw [if_neg (by omega)]
  | succ d ih =>
    intro k i h0 hd hk
    obtain ⟨k, rfl⟩ : ∃ m, k = m + 1 := ⟨k - 1, by omega⟩
    simp only [amanuensisref01_Runes.l0]
    by_cases hlt : i < (l.length : Int)
    · simp only [if_pos hlt, if_pos h0, if_true]; rw [w64_in (by omega) (by omega)]
      exact ih k (i + 1) (by omega) (by omega) (by omega)
    · rw [if_neg hlt]

theorem parts_len (r : Int) : (parts r).length ≤ 3 := by
  unfold parts
  repeat' split
  all_goals simp

theorem runes_parts_ (r : Int) : amanuensisref01_Runes.f 10 (parts r) (parts r) = some true := by
  unfold amanuensisref01_Runes.f
  have h := parts_len r
  simp only [if_true]
  exact runes_same _ (by omega) 9 _ _ (by omega) (by omega) (by omega)

theorem runes_two (k : Nat) (x y : Int) : amanuensisref01_Runes.f (k + 10) [x, y] [x, y] = some true := by
  unfold amanuensisref01_Runes.f
  simp only [if_true]
  exact runes_same _ (by simp) 9 _ _ (by omega) (by simp) (by omega)
theorem runes_three (k : Nat) (x y z : Int) : amanuensisref01_Runes.f (k + 10) [x, y, z] [x, y, z] = some true := by
  unfold amanuensisref01_Runes.f
  simp only [if_true]
  exact runes_same _ (by simp) 9 _ _ (by omega) (by simp) (by omega)
/-- What two characters are. -/
def joined (a b : Int) : Int × Bool :=
  if 4352 ≤ a ∧ a ≤ 4370 ∧ 4449 ≤ b ∧ b ≤ 4469 then (44032 + ((a - 4352) * 21 + (b - 4449)) * 28, true)
  else if 44032 ≤ a ∧ a < 55204 ∧ (a - 44032) % 28 = 0 ∧ 4519 < b ∧ b < 4547 then (a + b - 4519, true)
  else (0, false)

theorem join_is (k : Nat) (a b : Int) (h1 : -2147483648 ≤ a) (h2 : a ≤ 2147483647) : hangul_Join.f (k + 1) a b = some (joined a b) := by
  unfold hangul_Join.f joined
  by_cases h : 4352 ≤ a ∧ a ≤ 4370 ∧ 4449 ≤ b ∧ b ≤ 4469
  · obtain ⟨p1, p2, p3, p4⟩ := h
    rw [if_pos p1, if_pos (by omega), if_pos p3, if_pos ⟨p1, p2, p3, p4⟩]
    have hd : decide (b < 4470) = true := decide_eq_true (by omega)
    rw [hd]
    simp only [hangul_Join.j0, if_true]
    rw [w32_in (n := a - 4352) (by omega) (by omega), w32_in (n := (a - 4352) * 21) (by omega) (by omega), w32_in (n := (a - 4352) * 21 + b) (by omega) (by omega), w32_in (n := (a - 4352) * 21 + b - 4449) (by omega) (by omega), w32_in (n := ((a - 4352) * 21 + b - 4449) * 28) (by omega) (by omega), w32_in (by omega) (by omega)]
    congr 2
    omega
  · rw [if_neg h]
    have key : (if a ≥ 4352 then (if a < 4371 then (if b ≥ 4449 then (hangul_Join.j0 (k + 1) a b (decide (b < 4470))) else (hangul_Join.j0 (k + 1) a b false)) else (hangul_Join.j0 (k + 1) a b false)) else (hangul_Join.j0 (k + 1) a b false)) = hangul_Join.j0 (k + 1) a b false := by
      by_cases p1 : a ≥ 4352
      · rw [if_pos p1]
        by_cases p2 : a < 4371
        · rw [if_pos p2]
          by_cases p3 : b ≥ 4449
          · rw [if_pos p3, decide_eq_false (by omega)]
          · rw [if_neg p3]
        · rw [if_neg p2]
      · rw [if_neg p1]
    rw [key]
    simp only [hangul_Join.j0]
    rw [syl]
    by_cases q : 44032 ≤ a ∧ a < 55204
    · rw [w32_in (n := a - 44032) (by omega) (by omega), Int.tmod_eq_emod_of_nonneg (a := a - 44032) (by omega)]
      simp only [q, and_self, decide_true, Option.bind_some, if_true, Bool.false_eq_true, if_false, true_and]
      by_cases q1 : (a - 44032) % 28 = 0
      · rw [if_pos q1]
        by_cases q2 : 4519 < b
        · by_cases q3 : b < 4547
          · rw [if_pos q2, if_pos q3, if_pos ⟨q1, q2, q3⟩, w32_in (n := a + b) (by omega) (by omega), w32_in (by omega) (by omega)]
          · rw [if_pos q2, if_neg q3, if_neg (by omega)]
        · rw [if_neg q2, if_neg (by omega)]
      · rw [if_neg q1, if_neg (by omega)]
    · simp only [q, decide_false, Option.bind_some, Bool.false_eq_true, if_false]
      rw [if_neg (by omega)]

theorem answers_is (k : Nat) : amanuensislaw05_answers.f (k + 1) = some true := by
  unfold amanuensislaw05_answers.f
  rw [split_parts, join_is _ _ _ (by omega) (by omega)]
  decide

theorem u16_wf {a : Int} (h : (Lit.int .u16 a).wf = true) : 0 ≤ a ∧ a ≤ 65535 := by
  have h' : IntKind.u16.min ≤ a ∧ a ≤ IntKind.u16.max := by simpa [Lit.wf] using h
  have e1 : IntKind.u16.min = 0 := by decide
  have e2 : IntKind.u16.max = 65535 := by decide
  omega

theorem i32_wf' {a : Int} (h : (Lit.int .i32 a).wf = true) : -2147483648 ≤ a ∧ a ≤ 2147483647 := i32_wf h

/-- The last part: what any two characters are is split into them. -/
theorem back_last (k : Nat) (hk : 11 ≤ k) (r s c : Int) (hr : -2147483648 ≤ r ∧ r ≤ 2147483647) (hs : -2147483648 ≤ s ∧ s ≤ 2147483647) : amanuensislaw05_HangulBack.j2 k r s c c true = some true := by
  obtain ⟨k, rfl⟩ : ∃ m, k = m + 11 := ⟨k - 11, by omega⟩
  simp only [amanuensislaw05_HangulBack.j2]
  rw [join_is _ _ _ hr.1 hr.2]
  simp only [Option.bind_some, if_true, beq_self_eq_true]
  split
  · rename_i hy
    rw [split_parts, split_parts]
    simp only [Option.bind_some]
    unfold joined at hy ⊢
    by_cases h : 4352 ≤ r ∧ r ≤ 4370 ∧ 4449 ≤ s ∧ s ≤ 4469
    · rw [if_pos h] at hy ⊢
      have hp : parts r = [] := by unfold parts; rw [if_neg (by omega)]
      have hq : parts (44032 + ((r - 4352) * 21 + (s - 4449)) * 28) = [r, s] := by
        unfold parts
        rw [if_pos (by omega), if_neg (by omega)]
        simp only [List.append_nil, List.cons.injEq, and_true]
        omega
      simp only [hp, hq]
      simp [runes_two]
    · rw [if_neg h] at hy ⊢
      by_cases g : 44032 ≤ r ∧ r < 55204 ∧ (r - 44032) % 28 = 0 ∧ 4519 < s ∧ s < 4547
      · rw [if_pos g] at hy ⊢
        have hp : parts r = [4352 + (r - 44032) / 588, 4449 + (r - 44032) % 588 / 28] := by
          unfold parts
          rw [if_pos (by omega), if_neg (by omega)]
          rfl
        have hq : parts (r + s - 4519) = [4352 + (r - 44032) / 588, 4449 + (r - 44032) % 588 / 28, s] := by
          unfold parts
          rw [if_pos (by omega), if_pos (by omega)]
          simp only [List.cons_append, List.nil_append, List.cons.injEq, and_true]
          omega
        simp only [hp, hq]
        simp [runes_three]
      · rw [if_neg g] at hy
        simp at hy
  · rfl

theorem HangulBack : amanuensislaw05_HangulBack.Pure := by
  intro a r s ha hr hs
  have ha' := u16_wf ha
  have hr' := i32_wf hr
  have hs' := i32_wf hs
  refine ⟨20, ?_⟩
  unfold amanuensislaw05_HangulBack.f
  obtain ⟨n, hn⟩ : ∃ n, n = a % 11172 := ⟨_, rfl⟩
  have e1 : Int.tmod (wrap64 a) 11172 = n := by rw [w64_in (by omega) (by omega), Int.tmod_eq_emod_of_nonneg (by omega), hn]
  rw [e1]
  have hb : 0 ≤ n ∧ n < 11172 := by omega
  clear hn e1 ha' ha hr hs
  simp (disch := omega) only [w32_in, w64_in]
  rw [answers_is 19, split_parts]
  have p1 : 44032 ≤ 44032 + n ∧ 44032 + n < 55204 := by omega
  have q1 : 44032 + n - 44032 = n := by omega
  unfold parts
  rw [if_pos p1, q1]
  simp only [Option.bind_some, if_true]
  have j1 : ∀ k, hangul_Join.f (k + 1) (4352 + n / 588) (4449 + n % 588 / 28) = some (44032 + n - n % 28, true) := by
    intro k
    rw [join_is _ _ _ (by omega) (by omega)]
    unfold joined
    rw [if_pos (by omega)]
    congr 2
    omega
  by_cases c1 : n % 28 > 0
  · rw [if_pos c1]
    have j2 : ∀ k, hangul_Join.f (k + 1) (44032 + n - n % 28) (4519 + n % 28) = some (44032 + n, true) := by
      intro k
      rw [join_is _ _ _ (by omega) (by omega)]
      unfold joined
      rw [if_neg (by omega), if_pos (by omega)]
      congr 2
      omega
    simp [amanuensislaw05_HangulBack.j0, amanuensislaw05_HangulBack.j1, rd, j1, j2]
    exact back_last _ (by omega) r s _ hr' hs'
  · rw [if_neg c1]
    have z : n % 28 = 0 := by omega
    simp [amanuensislaw05_HangulBack.j0, amanuensislaw05_HangulBack.j1, rd, j1, z]
    exact back_last _ (by omega) r s _ hr' hs'

end Go.Proofs.Ytcgnojbddclhdaa.Pure
