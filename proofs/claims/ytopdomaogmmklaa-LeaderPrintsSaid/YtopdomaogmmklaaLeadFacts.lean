/- What the leaders' functions tell, over numbers and lists alone: leader.Parse, Sound, Coding and the reference's, by one definition each; and words on bytes and strings.
   Conditions: sizes below 100000000. -/
import Derived.Test.YtopdomaogmmklaaPLeaderParsesx4
namespace Go.Proofs.Ytopdomaogmmklaa.Pure
open Go.RowKit Go.Proofs.Ytopdomaogmmklaa.PLeaderParses Go.Proofs.YtopdomaogmmklaaW.PrintWords Go.Proofs.YtopdomaogmmklaaW.PrintLast Go.Proofs.YtopdomaogmmklaaW.PrintMore

theorem w64_in {n : Int} (h1 : -9223372036854775 ≤ n) (h2 : n ≤ 9223372036854775) : wrap64 n = n := by unfold wrap64; omega
theorem u8_wf {a : Int} (h : (Lit.int .u8 a).wf = true) : 0 ≤ a ∧ a ≤ 255 := by
  have h' : IntKind.u8.min ≤ a ∧ a ≤ IntKind.u8.max := by simpa [Lit.wf] using h
  have e1 : IntKind.u8.min = 0 := by decide
  have e2 : IntKind.u8.max = 255 := by decide
  omega
/-- Does a digit of a number stand at a place? -/
def numAt (i : Int) : Prop := i < 5 ∨ (12 ≤ i ∧ i < 17)
instance (i : Int) : Decidable (numAt i) := by unfold numAt; infer_instance
/-- What has to stand at a place; 0: anything. -/
def mustI (i : Int) : Int := if i = 10 ∨ i = 11 then 50 else if i = 20 then 52 else if i = 21 then 53 else if i = 22 then 48 else if i = 23 then 48 else 0
/-- May a byte stand at a place? -/
def goodB (i c : Int) (p : Bool) : Bool :=
  if numAt i then p || decide (48 ≤ c ∧ c ≤ 57)
  else if mustI i ≠ 0 then decide (c = mustI i)
  else if i = 9 then decide (c = 32 ∨ c = 97) else decide (32 ≤ c ∧ c ≤ 126)

theorem must_is (k : Nat) (hk : 1 ≤ k) (i : Int) : leader_must.f k i = some (mustI i) := by
  obtain ⟨k, rfl⟩ : ∃ m, k = m + 1 := ⟨k - 1, by omega⟩
  unfold leader_must.f mustI
  by_cases h : i = 10 ∨ i = 11
  · rw [if_pos h]
    by_cases h1 : i = 10
    · rw [if_pos h1, h1, leader_must.j0]; rfl
    · rw [if_neg h1, show i = 11 by omega, leader_must.j0]; rfl
  · rw [if_neg h, if_neg (by omega), leader_must.j0]
    have e : (i == 11) = false := by simp; omega
    simp only [e, Bool.false_eq_true, if_false]
    repeat' split
    all_goals rfl

theorem number_is (i : Int) : leader_number.f i = some (decide (numAt i)) := by
  unfold leader_number.f
  by_cases h : numAt i
  · rw [decide_eq_true h]
    unfold numAt at h
    split
    · rfl
    · rw [if_pos (by omega), decide_eq_true (by omega)]
  · rw [decide_eq_false h]
    unfold numAt at h
    rw [if_neg (by omega)]
    split
    · rw [decide_eq_false (by omega)]
    · rfl

theorem good_is (k : Nat) (hk : 1 ≤ k) (i c : Int) (p : Bool) : leader_good.f k i c p = some (goodB i c p) := by
  unfold leader_good.f goodB
  rw [number_is, must_is k hk]
  by_cases h : numAt i
  · simp only [h, decide_true, Option.bind_some, if_true]
    cases p
    · simp only [Bool.false_eq_true, if_false, Bool.false_or]
      by_cases g : c ≥ 48
      · rw [if_pos g]; congr 1; rw [decide_eq_decide]; omega
      · rw [if_neg g]; congr 1; symm; rw [decide_eq_false_iff_not]; omega
    · simp
  · simp only [h, decide_false, Option.bind_some, Bool.false_eq_true, if_false]
    by_cases hm : mustI i = 0
    · simp only [hm, if_true, ne_eq, not_true_eq_false, if_false]
      by_cases h9 : i = 9
      · simp only [h9, if_true]
        by_cases g : c = 32
        · simp [g]
        · simp only [g, if_false, false_or]
          congr 1
      · simp only [h9, if_false]
        by_cases g : c ≥ 32
        · rw [if_pos g]; congr 1; rw [decide_eq_decide]; omega
        · rw [if_neg g]; congr 1; symm; rw [decide_eq_false_iff_not]; omega
    · simp only [hm, if_false, ne_eq, not_false_eq_true, if_true]
      congr 1

theorem ref_at_is (k : Nat) (hk : 2 ≤ k) (i c : Int) (p : Bool) : amanuensisref19_at.f k i c p = some (goodB i c p) := by
  obtain ⟨k, rfl⟩ : ∃ m, k = m + 2 := ⟨k - 2, by omega⟩
  unfold amanuensisref19_at.f goodB
  by_cases h : numAt i
  · have e : (if i < 5 then amanuensisref19_at.j0 (k + 2) i c p true else if i ≥ 12 then amanuensisref19_at.j0 (k + 2) i c p (decide (i < 17)) else amanuensisref19_at.j0 (k + 2) i c p false) = amanuensisref19_at.j0 (k + 2) i c p true := by
      unfold numAt at h
      split
      · rfl
      · rw [if_pos (by omega), decide_eq_true (by omega)]
    rw [e, if_pos h, amanuensisref19_at.j0, if_pos rfl]
    cases p
    · simp only [Bool.false_eq_true, if_false, Bool.false_or]
      by_cases g : c ≥ 48
      · rw [if_pos g]; congr 1; rw [decide_eq_decide]; omega
      · rw [if_neg g]; congr 1; symm; rw [decide_eq_false_iff_not]; omega
    · simp
  · have e : (if i < 5 then amanuensisref19_at.j0 (k + 2) i c p true else if i ≥ 12 then amanuensisref19_at.j0 (k + 2) i c p (decide (i < 17)) else amanuensisref19_at.j0 (k + 2) i c p false) = amanuensisref19_at.j0 (k + 2) i c p false := by
      unfold numAt at h
      rw [if_neg (by omega)]
      split
      · rw [decide_eq_false (by omega)]
      · rfl
    rw [e, if_neg h, amanuensisref19_at.j0]
    simp only [Bool.false_eq_true, if_false]
    by_cases h9 : i = 9
    · subst h9
      have hm : mustI 9 = 0 := by decide
      simp only [hm, if_true, ne_eq, not_true_eq_false, if_false]
      by_cases g : c = 32
      · simp [g]
      · simp only [g, if_false, false_or]
        congr 1
    · rw [if_neg h9]
      have e2 : (if i = 10 then amanuensisref19_at.j1 (k + 1) c i (i == 10) else amanuensisref19_at.j1 (k + 1) c i (i == 11)) = amanuensisref19_at.j1 (k + 1) c i (decide (i = 10 ∨ i = 11)) := by
        split
        · rename_i h10; rw [h10]; rfl
        · rename_i h10
          congr 1
          rw [Bool.eq_iff_iff]; simp [h10]
      rw [e2, amanuensisref19_at.j1]
      unfold mustI
      by_cases g : i = 10 ∨ i = 11
      · simp [g]
        cases hc : decide (c = 50) <;> simp_all
      · simp only [g, decide_false, Bool.false_eq_true, if_false, h9]
        by_cases g1 : i = 20
        · simp only [g1, if_true]; simp; cases hc : decide (c = 52) <;> simp_all
        by_cases g2 : i = 21
        · simp only [g2, if_true]; simp; cases hc : decide (c = 53) <;> simp_all
        by_cases g3 : i = 22
        · simp only [g3, if_true]; simp; cases hc : decide (c = 48) <;> simp_all
        by_cases g4 : i = 23
        · simp only [g4, if_true]; simp; cases hc : decide (c = 48) <;> simp_all
        simp only [g1, g2, g3, g4, if_false, ne_eq, not_true_eq_false]
        by_cases g : c ≥ 32
        · rw [if_pos g]; congr 1; rw [decide_eq_decide]; omega
        · rw [if_neg g]; congr 1; symm; rw [decide_eq_false_iff_not]; omega

/-- What five digits tell. -/
def val5 (l : List Int) : Int := 10000 * (rd l 0 - 48) + 1000 * (rd l 1 - 48) + 100 * (rd l 2 - 48) + 10 * (rd l 3 - 48) + (rd l 4 - 48)
def digits (l : List Int) : Prop := ∀ x ∈ l, 48 ≤ x ∧ x ≤ 57

theorem five_list (l : List Int) (h : l.length = 5) : ∃ a b c d e, l = [a, b, c, d, e] := by
  match l, h with
  | [a, b, c, d, e], _ => exact ⟨a, b, c, d, e, rfl⟩

theorem value_is (k : Nat) (hk : 10 ≤ k) (l : List Int) (h : l.length = 5) (hd : digits l) : leader_value.f k l = some (val5 l) := by
  obtain ⟨k, rfl⟩ : ∃ m, k = m + 10 := ⟨k - 10, by omega⟩
  obtain ⟨a, b, c, d, e, rfl⟩ := five_list l h
  have ha := hd a (by simp)
  have hb := hd b (by simp)
  have hc := hd c (by simp)
  have hdd := hd d (by simp)
  have he := hd e (by simp)
  unfold leader_value.f val5
  have r0 : rd [a, b, c, d, e] 0 = a := rfl
  have r1 : rd [a, b, c, d, e] 1 = b := rfl
  have r2 : rd [a, b, c, d, e] 2 = c := rfl
  have r3 : rd [a, b, c, d, e] 3 = d := rfl
  have r4 : rd [a, b, c, d, e] 4 = e := rfl
  rw [show (([a, b, c, d, e] : List Int).length : Int) = 5 from rfl, r0, r1, r2, r3, r4]
  rw [leader_value.l0, if_pos (by decide), if_pos (by decide), if_pos (by simp), r0, show wrap64 (0 + 1) = 1 from by unfold wrap64; omega]
  rw [leader_value.l0, if_pos (by decide), if_pos (by decide), if_pos (by simp), r1, show wrap64 (1 + 1) = 2 from by unfold wrap64; omega]
  rw [leader_value.l0, if_pos (by decide), if_pos (by decide), if_pos (by simp), r2, show wrap64 (2 + 1) = 3 from by unfold wrap64; omega]
  rw [leader_value.l0, if_pos (by decide), if_pos (by decide), if_pos (by simp), r3, show wrap64 (3 + 1) = 4 from by unfold wrap64; omega]
  rw [leader_value.l0, if_pos (by decide), if_pos (by decide), if_pos (by simp), r4, show wrap64 (4 + 1) = 5 from by unfold wrap64; omega]
  rw [leader_value.l0, if_neg (by decide)]
  rw [Int.emod_eq_of_lt (a := a - 48) (by omega) (by omega), Int.emod_eq_of_lt (a := b - 48) (by omega) (by omega), Int.emod_eq_of_lt (a := c - 48) (by omega) (by omega), Int.emod_eq_of_lt (a := d - 48) (by omega) (by omega), Int.emod_eq_of_lt (a := e - 48) (by omega) (by omega)]
  simp (disch := omega) only [w64_in]
  congr 1
  omega

/-- What a leader's bytes tell, from a place on. -/
def leadL : Nat → List Int → Nat → Int × Int × Int × Int
  | 0, l, _ => if l.length < 24 then (0, 0, 10, (l.length : Int)) else (val5 (l.take 5), val5 ((l.take 17).drop 12), 0, 0)
  | n + 1, l, i => if goodB (i : Int) (rd l (i : Int)) false = true then leadL n l (i + 1) else (0, 0, 10, (i : Int))

theorem good_digit {i : Nat} {c : Int} (h : goodB (i : Int) c false = true) (hi : i < 5 ∨ (12 ≤ i ∧ i < 17)) : 48 ≤ c ∧ c ≤ 57 := by
  unfold goodB at h
  rw [if_pos (by unfold numAt; omega)] at h
  simpa using h

/-- All bytes ahead of a place are as they may be. -/
def upTo (l : List Int) (i : Nat) : Prop := ∀ j, j < i → goodB (j : Int) (rd l (j : Int)) false = true

theorem rd_get (l : List Int) (i : Nat) (h : i < l.length) : rd l (i : Int) = l[i] := by unfold rd; simp [h]
theorem mem_take (l : List Int) (n : Nat) (x : Int) (h : x ∈ l.take n) : ∃ i : Nat, i < n ∧ i < l.length ∧ rd l (i : Int) = x := by
  obtain ⟨i, hi, rfl⟩ := List.getElem_of_mem h
  rw [List.length_take] at hi
  refine ⟨i, by omega, by omega, ?_⟩
  rw [rd_get l i (by omega), List.getElem_take]
theorem digits_low (l : List Int) (h : upTo l 24) : digits (l.take 5) := by
  intro x hx
  obtain ⟨i, h1, _, rfl⟩ := mem_take l 5 x hx
  exact good_digit (h i (by omega)) (Or.inl h1)
theorem digits_high (l : List Int) (h : upTo l 24) (hl : 24 ≤ l.length) : digits ((l.take 17).drop 12) := by
  intro x hx
  obtain ⟨i, hi, rfl⟩ := List.getElem_of_mem hx
  rw [List.length_drop, List.length_take] at hi
  rw [List.getElem_drop, List.getElem_take]
  have := h (12 + i) (by omega)
  rw [rd_get l (12 + i) (by omega)] at this
  exact good_digit this (Or.inr ⟨by omega, by omega⟩)

theorem parse_loop : ∀ (n k : Nat) (l L : List Int) (i : Nat), L = l.take (min l.length 24) → i ≤ min l.length 24 → min l.length 24 - i = n → n + 20 ≤ k → upTo l i → l.length ≤ 100000000 →
    leader_Parse.l0 k l L (L.length : Int) (i : Int) = some (leadL n l i) := by
  intro n
  induction n with
  | zero =>
    intro k l L i hL h1 h2 h3 hu hl
    obtain ⟨k, rfl⟩ : ∃ m, k = m + 1 := ⟨k - 1, by omega⟩
    have hLl : L.length = min l.length 24 := by rw [hL, List.length_take]; omega
    rw [leader_Parse.l0, if_neg (by omega), leadL]
    by_cases h : l.length < 24
    · rw [if_pos (by omega), if_pos h]
    · rw [if_neg (by omega), if_neg h, if_pos (by omega)]
      have hu' : upTo l 24 := fun j hj => hu j (by omega)
      rw [value_is k (by omega) _ (by rw [List.length_take]; omega) (digits_low l hu')]
      simp only [Option.bind_some]
      rw [if_pos (by decide), if_pos (by omega), value_is k (by omega) _ (by rw [List.length_drop, List.length_take]; omega) (digits_high l hu' (by omega))]
      rfl
  | succ n ih =>
    intro k l L i hL h1 h2 h3 hu hl
    obtain ⟨k, rfl⟩ : ∃ m, k = m + 1 := ⟨k - 1, by omega⟩
    have hLl : L.length = min l.length 24 := by rw [hL, List.length_take]; omega
    have hr : rd L (i : Int) = rd l (i : Int) := by
      rw [rd_get L i (by omega), rd_get l i (by omega)]
      subst hL
      rw [List.getElem_take]
    rw [leader_Parse.l0, if_pos (by omega), if_pos (by omega), if_pos (by omega), hr, good_is k (by omega), leadL]
    simp only [Option.bind_some]
    by_cases g : goodB (i : Int) (rd l (i : Int)) false = true
    · rw [if_pos g, if_pos g, w64_in (by omega) (by omega)]
      have hu' : upTo l (i + 1) := by
        intro j hj
        by_cases e : j = i
        · rw [e]; exact g
        · exact hu j (by omega)
      have := ih k l L (i + 1) hL (by omega) (by omega) (by omega) hu' hl
      rw [Int.natCast_add] at this
      exact this
    · rw [if_neg g, if_neg g]

theorem mn_is (n : Nat) : mn (n : Int) 24 = ((min n 24 : Nat) : Int) := by unfold mn; split <;> omega
theorem parse_is (k : Nat) (hk : 60 ≤ k) (l : List Int) (hl : l.length ≤ 100000000) : leader_Parse.f k l = some (leadL (min l.length 24) l 0) := by
  unfold leader_Parse.f
  rw [mn_is, if_pos (by omega), if_pos (by omega), Int.toNat_natCast]
  have := parse_loop (min l.length 24) k l _ 0 rfl (by omega) (by omega) (by omega) (fun j hj => by omega) hl
  exact this

theorem num_is (k : Nat) (hk : 10 ≤ k) (l : List Int) (h : l.length = 5) (hd : digits l) : amanuensisref19_num.f k l = some (val5 l) := by
  obtain ⟨k, rfl⟩ : ∃ m, k = m + 10 := ⟨k - 10, by omega⟩
  obtain ⟨a, b, c, d, e, rfl⟩ := five_list l h
  have ha := hd a (by simp)
  have hb := hd b (by simp)
  have hc := hd c (by simp)
  have hdd := hd d (by simp)
  have he := hd e (by simp)
  unfold amanuensisref19_num.f val5
  have r0 : rd [a, b, c, d, e] 0 = a := rfl
  have r1 : rd [a, b, c, d, e] 1 = b := rfl
  have r2 : rd [a, b, c, d, e] 2 = c := rfl
  have r3 : rd [a, b, c, d, e] 3 = d := rfl
  have r4 : rd [a, b, c, d, e] 4 = e := rfl
  rw [r0, r1, r2, r3, r4]
  have hl5 : (([a, b, c, d, e] : List Int).length : Int) = 5 := rfl
  rw [amanuensisref19_num.l0, hl5, if_pos (by decide), if_pos (by decide), r0, if_neg (by omega), if_neg (by omega), show wrap64 (0 + 1) = 1 from by unfold wrap64; omega]
  rw [amanuensisref19_num.l0, hl5, if_pos (by decide), if_pos (by decide), r1, if_neg (by omega), if_neg (by omega), show wrap64 (1 + 1) = 2 from by unfold wrap64; omega]
  rw [amanuensisref19_num.l0, hl5, if_pos (by decide), if_pos (by decide), r2, if_neg (by omega), if_neg (by omega), show wrap64 (2 + 1) = 3 from by unfold wrap64; omega]
  rw [amanuensisref19_num.l0, hl5, if_pos (by decide), if_pos (by decide), r3, if_neg (by omega), if_neg (by omega), show wrap64 (3 + 1) = 4 from by unfold wrap64; omega]
  rw [amanuensisref19_num.l0, hl5, if_pos (by decide), if_pos (by decide), r4, if_neg (by omega), if_neg (by omega), show wrap64 (4 + 1) = 5 from by unfold wrap64; omega]
  rw [amanuensisref19_num.l0, hl5, if_neg (by decide)]
  rw [Int.emod_eq_of_lt (a := a - 48) (by omega) (by omega), Int.emod_eq_of_lt (a := b - 48) (by omega) (by omega), Int.emod_eq_of_lt (a := c - 48) (by omega) (by omega), Int.emod_eq_of_lt (a := d - 48) (by omega) (by omega), Int.emod_eq_of_lt (a := e - 48) (by omega) (by omega)]
  simp (disch := omega) only [w64_in]
  congr 1
  omega

theorem ref_leader_loop : ∀ (n k : Nat) (l : List Int) (i : Nat), i ≤ min l.length 24 → min l.length 24 - i = n → n + 20 ≤ k → upTo l i → l.length ≤ 100000000 →
    amanuensisref19_Leader.l0 k l (i : Int) = some (leadL n l i) := by
  intro n
  induction n with
  | zero =>
    intro k l i h1 h2 h3 hu hl
    obtain ⟨k, rfl⟩ : ∃ m, k = m + 1 := ⟨k - 1, by omega⟩
    rw [amanuensisref19_Leader.l0, leadL]
    by_cases h : l.length < 24
    · rw [if_pos (by omega), if_pos (by omega), if_pos h, show (i : Int) = (l.length : Int) by omega]
    · have hu' : upTo l 24 := fun j hj => hu j (by omega)
      rw [if_neg (by omega), if_neg h, if_pos (by omega), num_is k (by omega) _ (by rw [List.length_take]; omega) (digits_low l hu')]
      simp only [Option.bind_some]
      rw [if_pos (by decide), if_pos (by omega), num_is k (by omega) _ (by rw [List.length_drop, List.length_take]; omega) (digits_high l hu' (by omega))]
      rfl
  | succ n ih =>
    intro k l i h1 h2 h3 hu hl
    obtain ⟨k, rfl⟩ : ∃ m, k = m + 1 := ⟨k - 1, by omega⟩
    rw [amanuensisref19_Leader.l0, if_pos (by omega), if_neg (by omega), if_pos (by omega), if_pos (by omega), ref_at_is k (by omega), leadL]
    simp only [Option.bind_some]
    by_cases g : goodB (i : Int) (rd l (i : Int)) false = true
    · rw [if_pos g, if_pos g, w64_in (by omega) (by omega)]
      have hu' : upTo l (i + 1) := by
        intro j hj
        by_cases e : j = i
        · rw [e]; exact g
        · exact hu j (by omega)
      have := ih k l (i + 1) (by omega) (by omega) (by omega) hu' hl
      rw [Int.natCast_add] at this
      exact this
    · rw [if_neg g, if_neg g]
theorem ref_leader_is (k : Nat) (hk : 60 ≤ k) (l : List Int) (hl : l.length ≤ 100000000) : amanuensisref19_Leader.f k l = some (leadL (min l.length 24) l 0) := by
  unfold amanuensisref19_Leader.f
  exact ref_leader_loop (min l.length 24) k l 0 (by omega) (by omega) (by omega) (fun j hj => by omega) hl

/-- Are all bytes from a place on as they may be, whatever the numbers are? -/
def soundFrom : Nat → ByteArray → Nat → Bool
  | 0, _, _ => true
  | n + 1, s, i => goodB (i : Int) (bt s (i : Int)) true && soundFrom n s (i + 1)
/-- Is it a leader? -/
def soundB (s : ByteArray) : Bool := decide (s.size = 24) && soundFrom 24 s 0

theorem sound_tail (n : Nat) : ∀ (k : Nat) (s : ByteArray) (i : Nat), 24 ≤ i → i ≤ s.size → s.size - i = n → n + 5 ≤ k → s.size ≤ 100000000 →
    leader_Sound.l0 k s (s.size : Int) (i : Int) = some (decide (s.size = 24)) := by
  induction n with
  | zero =>
    intro k s i h0 h1 h2 h3 hl
    obtain ⟨k, rfl⟩ : ∃ m, k = m + 1 := ⟨k - 1, by omega⟩
    rw [leader_Sound.l0, if_neg (by omega)]
    congr 1
    rw [Bool.eq_iff_iff]; simp; omega
  | succ n ih =>
    intro k s i h0 h1 h2 h3 hl
    obtain ⟨k, rfl⟩ : ∃ m, k = m + 1 := ⟨k - 1, by omega⟩
    rw [leader_Sound.l0, if_pos (by omega), if_neg (by omega), w64_in (by omega) (by omega)]
    have := ih k s (i + 1) (by omega) (by omega) (by omega) (by omega) hl
    rw [Int.natCast_add] at this
    exact this

theorem sound_loop (n : Nat) : ∀ (k : Nat) (s : ByteArray) (i : Nat), i ≤ s.size → i ≤ 24 → min s.size 24 - i = n → n + s.size + 30 ≤ k → s.size ≤ 100000000 →
    leader_Sound.l0 k s (s.size : Int) (i : Int) = some (soundFrom n s i && decide (s.size = 24)) := by
  induction n with
  | zero =>
    intro k s i h1 h2 h3 h4 hl
    rw [soundFrom, Bool.true_and]
    by_cases h : s.size ≤ i
    · obtain ⟨k, rfl⟩ : ∃ m, k = m + 1 := ⟨k - 1, by omega⟩
      rw [leader_Sound.l0, if_neg (by omega)]
      congr 1
      rw [Bool.eq_iff_iff]; simp; omega
    · exact sound_tail (s.size - i) k s i (by omega) h1 rfl (by omega) hl
  | succ n ih =>
    intro k s i h1 h2 h3 h4 hl
    obtain ⟨k, rfl⟩ : ∃ m, k = m + 1 := ⟨k - 1, by omega⟩
    rw [leader_Sound.l0, if_pos (by omega), if_pos (by omega), if_pos (by omega), if_pos (by omega), good_is k (by omega), soundFrom]
    simp only [Option.bind_some]
    by_cases g : goodB (i : Int) (bt s (i : Int)) true = true
    · rw [if_pos g, g, Bool.true_and, w64_in (by omega) (by omega)]
      have := ih k s (i + 1) (by omega) (by omega) (by omega) (by omega) hl
      rw [Int.natCast_add] at this
      exact this
    · rw [if_neg g]
      simp only [Bool.not_eq_true] at g
      rw [g]; simp
theorem sound_is (k : Nat) (s : ByteArray) (hk : s.size + 60 ≤ k) (hl : s.size ≤ 100000000) : leader_Sound.f k s = some (soundB s) := by
  unfold leader_Sound.f
  have := sound_loop (min s.size 24) k s 0 (by omega) (by omega) (by omega) (by omega) hl
  rw [show ((0 : Nat) : Int) = 0 from rfl] at this
  rw [this]
  unfold soundB
  by_cases h : s.size = 24
  · rw [h]; simp
  · simp [h]
theorem coding_is (k : Nat) (s : ByteArray) (hk : s.size + 60 ≤ k) (hl : s.size ≤ 100000000) : leader_Coding.f k s = some (if soundB s then (if bt s 9 = 97 then 2 else 1) else 0) := by
  unfold leader_Coding.f
  rw [sound_is k s hk hl]
  simp only [Option.bind_some]
  by_cases h : soundB s = true
  · rw [if_pos h, if_pos h]
    have h' : s.size = 24 := by unfold soundB at h; simp at h; exact h.1
    rw [if_pos (by omega)]
    split <;> rfl
  · rw [if_neg h, if_neg h]

theorem ref_sound_loop (n : Nat) : ∀ (k : Nat) (s : ByteArray) (i : Nat), s.size = 24 → 24 - i = n → i ≤ 24 → n + 10 ≤ k →
    amanuensisref19_Sound.l0 k s (i : Int) = some (soundFrom n s i) := by
  induction n with
  | zero =>
    intro k s i h1 h2 h3 h4
    obtain ⟨k, rfl⟩ : ∃ m, k = m + 1 := ⟨k - 1, by omega⟩
    rw [amanuensisref19_Sound.l0, if_neg (by omega), soundFrom]
  | succ n ih =>
    intro k s i h1 h2 h3 h4
    obtain ⟨k, rfl⟩ : ∃ m, k = m + 1 := ⟨k - 1, by omega⟩
    rw [amanuensisref19_Sound.l0, if_pos (by omega), if_pos (by omega), if_pos (by omega), ref_at_is k (by omega), soundFrom]
    simp only [Option.bind_some]
    by_cases g : goodB (i : Int) (bt s (i : Int)) true = true
    · rw [if_pos g, g, Bool.true_and, w64_in (by omega) (by omega)]
      have := ih k s (i + 1) h1 (by omega) (by omega) (by omega)
      rw [Int.natCast_add] at this
      exact this
    · rw [if_neg g]
      simp only [Bool.not_eq_true] at g
      rw [g]; simp
theorem ref_sound_is (k : Nat) (s : ByteArray) (hk : 60 ≤ k) : amanuensisref19_Sound.f k s = some (soundB s) := by
  unfold amanuensisref19_Sound.f soundB
  by_cases h : s.size = 24
  · rw [if_pos (by omega)]
    have := ref_sound_loop 24 k s 0 h (by omega) (by omega) (by omega)
    rw [show ((0 : Nat) : Int) = 0 from rfl] at this
    rw [this]; simp [h]
  · rw [if_neg (by omega)]; simp [h]
theorem ref_coding_is (k : Nat) (s : ByteArray) (hk : 60 ≤ k) : amanuensisref19_Coding.f k s = some (if soundB s then (if bt s 9 = 97 then 2 else 1) else 0) := by
  unfold amanuensisref19_Coding.f
  rw [ref_sound_is k s hk]
  simp only [Option.bind_some]
  by_cases h : soundB s = true
  · rw [if_pos h, if_pos h]
    have h' : s.size = 24 := by unfold soundB at h; simp at h; exact h.1
    rw [if_pos (by omega)]
    split <;> rfl
  · rw [if_neg h, if_neg h]

theorem answers_is (k : Nat) (hk : 200 ≤ k) : amanuensislaw19_answers.f k = some true := by
  unfold amanuensislaw19_answers.f
  rw [parse_is k (by omega) _ (by simp), coding_is k _ (by show 24 + 60 ≤ k; omega) (by show 24 ≤ 100000000; omega)]
  have e : leadL (min ([48, 48, 48, 50, 54, 110, 97, 109, 32, 97, 50, 50, 48, 48, 48, 50, 53, 32, 97, 32, 52, 53, 48, 48] : List Int).length 24) [48, 48, 48, 50, 54, 110, 97, 109, 32, 97, 50, 50, 48, 48, 48, 50, 53, 32, 97, 32, 52, 53, 48, 48] 0 = (26, 25, 0, 0) := by decide +kernel
  have e2 : soundB (⟨#[48, 48, 48, 50, 54, 110, 97, 109, 32, 97, 50, 50, 48, 48, 48, 50, 53, 32, 97, 32, 52, 53, 48, 48]⟩ : ByteArray) = true := by decide +kernel
  have e3 : bt (⟨#[48, 48, 48, 50, 54, 110, 97, 109, 32, 97, 50, 50, 48, 48, 48, 50, 53, 32, 97, 32, 52, 53, 48, 48]⟩ : ByteArray) 9 = 97 := by decide +kernel
  rw [e, e2, e3]
  decide


/-! ### strings as rows of bytes -/
theorem bytesOf_append (a b : ByteArray) : bytesOf (a ++ b) = bytesOf a ++ bytesOf b := by
  unfold bytesOf
  rw [ByteArray.data_append, Array.toList_append, List.map_append]
theorem bytesOf_extract (s : ByteArray) (i j : Nat) : bytesOf (s.extract i j) = ((bytesOf s).take j).drop i := by
  unfold bytesOf
  rw [ByteArray.data_extract, Array.toList_extract, List.extract_eq_take_drop, ← List.map_take, ← List.map_drop, List.drop_take]
theorem bytesOf_inj {a b : ByteArray} (h : bytesOf a = bytesOf b) : a = b := by
  apply ByteArray.ext
  apply Array.toList_inj.mp
  unfold bytesOf at h
  refine List.map_inj_right ?_ |>.mp h
  intro x y hxy
  have : x.toNat = y.toNat := by omega
  exact UInt8.toNat_inj.mp this
theorem bytesOf_range (s : ByteArray) : ∀ x ∈ bytesOf s, 0 ≤ x ∧ x ≤ 255 := by
  intro x hx
  unfold bytesOf at hx
  obtain ⟨b, _, rfl⟩ := List.mem_map.mp hx
  have := UInt8.toNat_lt b
  omega
theorem bytesOf_strOfNums (l : List Int) (h : ∀ x ∈ l, 0 ≤ x ∧ x ≤ 255) : bytesOf (strOfNums l) = l := by
  unfold bytesOf strOfNums
  rw [List.toList_toArray, List.map_map]
  conv => rhs; rw [← List.map_id l]
  apply List.map_congr_left
  intro x hx
  have := h x hx
  simp only [Function.comp_apply, id_eq]
  rw [UInt8.toNat_ofNat']
  omega
theorem strOfNums_bytesOf (s : ByteArray) : strOfNums (bytesOf s) = s := bytesOf_inj (bytesOf_strOfNums _ (bytesOf_range s))
theorem strOfNums_append (a b : List Int) : strOfNums (a ++ b) = strOfNums a ++ strOfNums b := by
  apply ByteArray.ext
  show (List.map _ (a ++ b)).toArray = _
  rw [List.map_append, ByteArray.data_append]
  show _ = (List.map _ a).toArray ++ (List.map _ b).toArray
  simp
theorem sound_from (n : Nat) : ∀ (s : ByteArray) (i : Nat), soundFrom n s i = true ↔ ∀ j : Nat, i ≤ j → j < i + n → goodB (j : Int) (bt s (j : Int)) true = true := by
  induction n with
  | zero => intro s i; simp [soundFrom]; omega
  | succ n ih =>
    intro s i
    rw [soundFrom, Bool.and_eq_true, ih]
    constructor
    · rintro ⟨h0, h1⟩ j hj hj2
      by_cases e : j = i
      · rw [e]; exact h0
      · exact h1 j (by omega) (by omega)
    · intro h
      exact ⟨h i (by omega) (by omega), fun j hj hj2 => h j (by omega) (by omega)⟩
theorem sound_iff (s : ByteArray) : soundB s = true ↔ s.size = 24 ∧ ∀ j : Nat, j < 24 → goodB (j : Int) (rd (bytesOf s) (j : Int)) true = true := by
  unfold soundB
  rw [Bool.and_eq_true, decide_eq_true_eq, sound_from]
  constructor
  · rintro ⟨h, g⟩
    exact ⟨h, fun j hj => by rw [rd_bytesOf]; exact g j (by omega) (by omega)⟩
  · rintro ⟨h, g⟩
    exact ⟨h, fun j _ hj => by rw [← rd_bytesOf]; exact g j (by omega)⟩
end Go.Proofs.Ytopdomaogmmklaa.Pure
