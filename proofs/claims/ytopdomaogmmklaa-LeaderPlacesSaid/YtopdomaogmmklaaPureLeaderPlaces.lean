/- The statement LeaderPlaces of layer 19, over numbers and lists alone: one byte of a leader turned is told where it is, unless it may stand there.
   Conditions: none; for every place and every byte of the kind uint8. -/
import Derived.Test.YtopdomaogmmklaaPLeaderPlacesx4
namespace Go.Proofs.Ytopdomaogmmklaa.Pure
open Go.RowKit Go.Proofs.Ytopdomaogmmklaa.PLeaderPlaces Go.Proofs.YtopdomaogmmklaaW.PrintWords Go.Proofs.YtopdomaogmmklaaW.PrintLast Go.Proofs.YtopdomaogmmklaaW.PrintMore

theorem w64_in {n : Int} (h1 : -9223372036854775 ≤ n) (h2 : n ≤ 9223372036854775) : wrap64 n = n := by unfold wrap64; omega
theorem u8_wf {a : Int} (h : (Lit.int .u8 a).wf = true) : 0 ≤ a ∧ a ≤ 255 := by
  have h' : IntKind.u8.min ≤ a ∧ a ≤ IntKind.u8.max := by simpa [Lit.wf] using h
  have e1 : IntKind.u8.min = 0 := by decide
  have e2 : IntKind.u8.max = 255 := by decide
  omega
/-- Does a digit of a number stand at a place? -/
def numAt (i : Int) : Prop := i < 5 ∨ (12 ≤ i ∧ i < 17)
instance (i : Int) : Decidable (numAt i) := by unfold numAt; infer_instance
/-- What has to stand at a place; 0: anything. -/
def mustI (i : Int) : Int := if i = 10 ∨ i = 11 then 50 else if i = 20 then 52 else if i = 21 then 53 else if i = 22 then 48 else if i = 23 then 48 else 0
/-- May a byte stand at a place? -/
def goodB (i c : Int) (p : Bool) : Bool :=
  if numAt i then p || decide (48 ≤ c ∧ c ≤ 57)
  else if mustI i ≠ 0 then decide (c = mustI i)
  else if i = 9 then decide (c = 32 ∨ c = 97) else decide (32 ≤ c ∧ c ≤ 126)

theorem must_is (k : Nat) (hk : 1 ≤ k) (i : Int) : leader_must.f k i = some (mustI i) := by
  obtain ⟨k, rfl⟩ : ∃ m, k = m + 1 := ⟨k - 1, by omega⟩
  unfold leader_must.f mustI
  by_cases h : i = 10 ∨ i = 11
  · rw [if_pos h]
    by_cases h1 : i = 10
    · rw [if_pos h1, h1, leader_must.j0]; rfl
    · rw [if_neg h1, show i = 11 by omega, leader_must.j0]; rfl
  · rw [if_neg h, if_neg (by omega), leader_must.j0]
    have e : (i == 11) = false := by simp; omega
    simp only [e, Bool.false_eq_true, if_false]
    repeat' split
    all_goals rfl

theorem number_is (i : Int) : leader_number.f i = some (decide (numAt i)) := by
  unfold leader_number.f
  by_cases h : numAt i
  · rw [decide_eq_true h]
    unfold numAt at h
    split
    · rfl
    · rw [if_pos (by omega), decide_eq_true (by omega)]
  · rw [decide_eq_false h]
    unfold numAt at h
    rw [if_neg (by omega)]
    split
    · rw [decide_eq_false (by omega)]
    · rfl

theorem good_is (k : Nat) (hk : 1 ≤ k) (i c : Int) (p : Bool) : leader_good.f k i c p = some (goodB i c p) := by
  unfold leader_good.f goodB
  rw [number_is, must_is k hk]
  by_cases h : numAt i
  · simp only [h, decide_true, Option.bind_some, if_true]
    cases p
    · simp only [Bool.false_eq_true, if_false, Bool.false_or]
      by_cases g : c ≥ 48
      · rw [if_pos g]; congr 1; rw [decide_eq_decide]; omega
      · rw [if_neg g]; congr 1; symm; rw [decide_eq_false_iff_not]; omega
    · simp
  · simp only [h, decide_false, Option.bind_some, Bool.false_eq_true, if_false]
    by_cases hm : mustI i = 0
    · simp only [hm, if_true, ne_eq, not_true_eq_false, if_false]
      by_cases h9 : i = 9
      · simp only [h9, if_true]
        by_cases g : c = 32
        · simp [g]
        · simp only [g, if_false, false_or]
          congr 1
      · simp only [h9, if_false]
        by_cases g : c ≥ 32
        · rw [if_pos g]; congr 1; rw [decide_eq_decide]; omega
        · rw [if_neg g]; congr 1; symm; rw [decide_eq_false_iff_not]; omega
    · simp only [hm, if_false, ne_eq, not_false_eq_true, if_true]
      congr 1

/-- What five digits tell. -/
def val5 (l : List Int) : Int := 10000 * (rd l 0 - 48) + 1000 * (rd l 1 - 48) + 100 * (rd l 2 - 48) + 10 * (rd l 3 - 48) + (rd l 4 - 48)
def digits (l : List Int) : Prop := ∀ x ∈ l, 48 ≤ x ∧ x ≤ 57

theorem five_list (l : List Int) (h : l.length = 5) : ∃ a b c d e, l = [a, b, c, d, e] := by
  match l, h with
  | [a, b, c, d, e], _ => exact ⟨a, b, c, d, e, rfl⟩

theorem value_is (k : Nat) (hk : 10 ≤ k) (l : List Int) (h : l.length = 5) (hd : digits l) : leader_value.f k l = some (val5 l) := by
  obtain ⟨k, rfl⟩ : ∃ m, k = m + 10 := ⟨k - 10, by omega⟩
  obtain ⟨a, b, c, d, e, rfl⟩ := five_list l h
  have ha := hd a (by simp)
  have hb := hd b (by simp)
  have hc := hd c (by simp)
  have hdd := hd d (by simp)
  have he := hd e (by simp)
  unfold leader_value.f val5
  have r0 : rd [a, b, c, d, e] 0 = a := rfl
  have r1 : rd [a, b, c, d, e] 1 = b := rfl
  have r2 : rd [a, b, c, d, e] 2 = c := rfl
  have r3 : rd [a, b, c, d, e] 3 = d := rfl
  have r4 : rd [a, b, c, d, e] 4 = e := rfl
  rw [show (([a, b, c, d, e] : List Int).length : Int) = 5 from rfl, r0, r1, r2, r3, r4]
  rw [leader_value.l0, if_pos (by decide), if_pos (by decide), if_pos (by simp), r0, show wrap64 (0 + 1) = 1 from by unfold wrap64; omega]
  rw [leader_value.l0, if_pos (by decide), if_pos (by decide), if_pos (by simp), r1, show wrap64 (1 + 1) = 2 from by unfold wrap64; omega]
  rw [leader_value.l0, if_pos (by decide), if_pos (by decide), if_pos (by simp), r2, show wrap64 (2 + 1) = 3 from by unfold wrap64; omega]
  rw [leader_value.l0, if_pos (by decide), if_pos (by decide), if_pos (by simp), r3, show wrap64 (3 + 1) = 4 from by unfold wrap64; omega]
  rw [leader_value.l0, if_pos (by decide), if_pos (by decide), if_pos (by simp), r4, show wrap64 (4 + 1) = 5 from by unfold wrap64; omega]
  rw [leader_value.l0, if_neg (by decide)]
  rw [Int.emod_eq_of_lt (a := a - 48) (by omega) (by omega), Int.emod_eq_of_lt (a := b - 48) (by omega) (by omega), Int.emod_eq_of_lt (a := c - 48) (by omega) (by omega), Int.emod_eq_of_lt (a := d - 48) (by omega) (by omega), Int.emod_eq_of_lt (a := e - 48) (by omega) (by omega)]
  simp (disch := omega) only [w64_in]
  congr 1
  omega

/-- What a leader's bytes tell, from a place on. -/
def leadL : Nat → List Int → Nat → Int × Int × Int × Int
  | 0, l, _ => if l.length < 24 then (0, 0, 10, (l.length : Int)) else (val5 (l.take 5), val5 ((l.take 17).drop 12), 0, 0)
  | n + 1, l, i => if goodB (i : Int) (rd l (i : Int)) false = true then leadL n l (i + 1) else (0, 0, 10, (i : Int))

theorem good_digit {i : Nat} {c : Int} (h : goodB (i : Int) c false = true) (hi : i < 5 ∨ (12 ≤ i ∧ i < 17)) : 48 ≤ c ∧ c ≤ 57 := by
  unfold goodB at h
  rw [if_pos (by unfold numAt; omega)] at h
  simpa using h

/-- All bytes ahead of a place are as they may be. -/
def upTo (l : List Int) (i : Nat) : Prop := ∀ j, j < i → goodB (j : Int) (rd l (j : Int)) false = true

theorem rd_get (l : List Int) (i : Nat) (h : i < l.length) : rd l (i : Int) = l[i] := by unfold rd; simp [h]
theorem mem_take (l : List Int) (n : Nat) (x : Int) (h : x ∈ l.take n) : ∃ i : Nat, i < n ∧ i < l.length ∧ rd l (i : Int) = x := by
  obtain ⟨i, hi, rfl⟩ := List.getElem_of_mem h
  rw [List.length_take] at hi
  refine ⟨i, by omega, by omega, ?_⟩
  rw [rd_get l i (by omega), List.getElem_take]
theorem digits_low (l : List Int) (h : upTo l 24) : digits (l.take 5) := by
  intro x hx
  obtain ⟨i, h1, _, rfl⟩ := mem_take l 5 x hx
  exact good_digit (h i (by omega)) (Or.inl h1)
theorem digits_high (l : List Int) (h : upTo l 24) (hl : 24 ≤ l.length) : digits ((l.take 17).drop 12) := by
  intro x hx
  obtain ⟨i, hi, rfl⟩ := List.getElem_of_mem hx
  rw [List.length_drop, List.length_take] at hi
  rw [List.getElem_drop, List.getElem_take]
  have := h (12 + i) (by omega)
  rw [rd_get l (12 + i) (by omega)] at this
  exact good_digit this (Or.inr ⟨by omega, by omega⟩)

theorem parse_loop : ∀ (n k : Nat) (l L : List Int) (i : Nat), L = l.take (min l.length 24) → i ≤ min l.length 24 → min l.length 24 - i = n → n + 20 ≤ k → upTo l i → l.length ≤ 100000000 →
    leader_Parse.l0 k l L (L.length : Int) (i : Int) = some (leadL n l i) := by
  intro n
  induction n with
  | zero =>
    intro k l L i hL h1 h2 h3 hu hl
    obtain ⟨k, rfl⟩ : ∃ m, k = m + 1 := ⟨k - 1, by omega⟩
    have hLl : L.length = min l.length 24 := by rw [hL, List.length_take]; omega
    rw [leader_Parse.l0, if_neg (by omega), leadL]
    by_cases h : l.length < 24
    · rw [if_pos (by omega), if_pos h]
    · rw [if_neg (by omega), if_neg h, if_pos (by omega)]
      have hu' : upTo l 24 := fun j hj => hu j (by omega)
      rw [value_is k (by omega) _ (by rw [List.length_take]; omega) (digits_low l hu')]
      simp only [Option.bind_some]
      rw [if_pos (by decide), if_pos (by omega), value_is k (by omega) _ (by rw [List.length_drop, List.length_take]; omega) (digits_high l hu' (by omega))]
      rfl
  | succ n ih =>
    intro k l L i hL h1 h2 h3 hu hl
    obtain ⟨k, rfl⟩ : ∃ m, k = m + 1 := ⟨k - 1, by omega⟩
    have hLl : L.length = min l.length 24 := by rw [hL, List.length_take]; omega
    have hr : rd L (i : Int) = rd l (i : Int) := by
      rw [rd_get L i (by omega), rd_get l i (by omega)]
      subst hL
      rw [List.getElem_take]
    rw [leader_Parse.l0, if_pos (by omega), if_pos (by omega), if_pos (by omega), hr, good_is k (by omega), leadL]
    simp only [Option.bind_some]
    by_cases g : goodB (i : Int) (rd l (i : Int)) false = true
    · rw [if_pos g, if_pos g, w64_in (by omega) (by omega)]
      have hu' : upTo l (i + 1) := by
        intro j hj
        by_cases e : j = i
        · rw [e]; exact g
        · exact hu j (by omega)
      have := ih k l L (i + 1) hL (by omega) (by omega) (by omega) hu' hl
      rw [Int.natCast_add] at this
      exact this
    · rw [if_neg g, if_neg g]

theorem mn_is (n : Nat) : mn (n : Int) 24 = ((min n 24 : Nat) : Int) := by unfold mn; split <;> omega
theorem parse_is (k : Nat) (hk : 60 ≤ k) (l : List Int) (hl : l.length ≤ 100000000) : leader_Parse.f k l = some (leadL (min l.length 24) l 0) := by
  unfold leader_Parse.f
  rw [mn_is, if_pos (by omega), if_pos (by omega), Int.toNat_natCast]
  have := parse_loop (min l.length 24) k l _ 0 rfl (by omega) (by omega) (by omega) (fun j hj => by omega) hl
  exact this

/-- Are all bytes from a place on as they may be, whatever the numbers are? -/
def soundFrom : Nat → ByteArray → Nat → Bool
  | 0, _, _ => true
  | n + 1, s, i => goodB (i : Int) (bt s (i : Int)) true && soundFrom n s (i + 1)
/-- Is it a leader? -/
def soundB (s : ByteArray) : Bool := decide (s.size = 24) && soundFrom 24 s 0

theorem sound_tail (n : Nat) : ∀ (k : Nat) (s : ByteArray) (i : Nat), 24 ≤ i → i ≤ s.size → s.size - i = n → n + 5 ≤ k → s.size ≤ 100000000 →
    leader_Sound.l0 k s (s.size : Int) (i : Int) = some (decide (s.size = 24)) := by
  induction n with
  | zero =>
    intro k s i h0 h1 h2 h3 hl
    obtain ⟨k, rfl⟩ : ∃ m, k = m + 1 := ⟨k - 1, by omega⟩
    rw [leader_Sound.l0, if_neg (by omega)]
    congr 1
    rw [Bool.eq_iff_iff]; simp; omega
  | succ n ih =>
    intro k s i h0 h1 h2 h3 hl
    obtain ⟨k, rfl⟩ : ∃ m, k = m + 1 := ⟨k - 1, by omega⟩
    rw [leader_Sound.l0, if_pos (by omega), if_neg (by omega), w64_in (by omega) (by omega)]
    have := ih k s (i + 1) (by omega) (by omega) (by omega) (by omega) hl
    rw [Int.natCast_add] at this
    exact this

theorem sound_loop (n : Nat) : ∀ (k : Nat) (s : ByteArray) (i : Nat), i ≤ s.size → i ≤ 24 → min s.size 24 - i = n → n + s.size + 30 ≤ k → s.size ≤ 100000000 →
    leader_Sound.l0 k s (s.size : Int) (i : Int) = some (soundFrom n s i && decide (s.size = 24)) := by
  induction n with
  | zero =>
    intro k s i h1 h2 h3 h4 hl
    rw [soundFrom, Bool.true_and]
    by_cases h : s.size ≤ i
    · obtain ⟨k, rfl⟩ : ∃ m, k = m + 1 := ⟨k - 1, by omega⟩
      rw [leader_Sound.l0, if_neg (by omega)]
      congr 1
      rw [Bool.eq_iff_iff]; simp; omega
    · exact sound_tail (s.size - i) k s i (by omega) h1 rfl (by omega) hl
  | succ n ih =>
    intro k s i h1 h2 h3 h4 hl
    obtain ⟨k, rfl⟩ : ∃ m, k = m + 1 := ⟨k - 1, by omega⟩
    rw [leader_Sound.l0, if_pos (by omega), if_pos (by omega), if_pos (by omega), if_pos (by omega), good_is k (by omega), soundFrom]
    simp only [Option.bind_some]
    by_cases g : goodB (i : Int) (bt s (i : Int)) true = true
    · rw [if_pos g, g, Bool.true_and, w64_in (by omega) (by omega)]
      have := ih k s (i + 1) (by omega) (by omega) (by omega) (by omega) hl
      rw [Int.natCast_add] at this
      exact this
    · rw [if_neg g]
      simp only [Bool.not_eq_true] at g
      rw [g]; simp
theorem sound_is (k : Nat) (s : ByteArray) (hk : s.size + 60 ≤ k) (hl : s.size ≤ 100000000) : leader_Sound.f k s = some (soundB s) := by
  unfold leader_Sound.f
  have := sound_loop (min s.size 24) k s 0 (by omega) (by omega) (by omega) (by omega) hl
  rw [show ((0 : Nat) : Int) = 0 from rfl] at this
  rw [this]
  unfold soundB
  by_cases h : s.size = 24
  · rw [h]; simp
  · simp [h]
theorem coding_is (k : Nat) (s : ByteArray) (hk : s.size + 60 ≤ k) (hl : s.size ≤ 100000000) : leader_Coding.f k s = some (if soundB s then (if bt s 9 = 97 then 2 else 1) else 0) := by
  unfold leader_Coding.f
  rw [sound_is k s hk hl]
  simp only [Option.bind_some]
  by_cases h : soundB s = true
  · rw [if_pos h, if_pos h]
    have h' : s.size = 24 := by unfold soundB at h; simp at h; exact h.1
    rw [if_pos (by omega)]
    split <;> rfl
  · rw [if_neg h, if_neg h]

theorem answers_is (k : Nat) (hk : 200 ≤ k) : amanuensislaw19_answers.f k = some true := by
  unfold amanuensislaw19_answers.f
  rw [parse_is k (by omega) _ (by simp), coding_is k _ (by show 24 + 60 ≤ k; omega) (by show 24 ≤ 100000000; omega)]
  have e : leadL (min ([48, 48, 48, 50, 54, 110, 97, 109, 32, 97, 50, 50, 48, 48, 48, 50, 53, 32, 97, 32, 52, 53, 48, 48] : List Int).length 24) [48, 48, 48, 50, 54, 110, 97, 109, 32, 97, 50, 50, 48, 48, 48, 50, 53, 32, 97, 32, 52, 53, 48, 48] 0 = (26, 25, 0, 0) := by decide +kernel
  have e2 : soundB (⟨#[48, 48, 48, 50, 54, 110, 97, 109, 32, 97, 50, 50, 48, 48, 48, 50, 53, 32, 97, 32, 52, 53, 48, 48]⟩ : ByteArray) = true := by decide +kernel
  have e3 : bt (⟨#[48, 48, 48, 50, 54, 110, 97, 109, 32, 97, 50, 50, 48, 48, 48, 50, 53, 32, 97, 32, 52, 53, 48, 48]⟩ : ByteArray) 9 = 97 := by decide +kernel
  rw [e, e2, e3]
  decide

/-- The last test. -/
def finB (e p n : Int) (may : Bool) : Bool := if ((e == 0) == may) = true then (if may = true then true else (e == 10 && (p == n))) else false
/-- What may stand at a place, as the statement tells it. -/
def mayB (n c : Int) : Bool :=
  if n ≥ 20 then (c == bt (⟨#[52, 53, 48, 48]⟩ : ByteArray) (n - 20)) else if n = 10 ∨ n = 11 then (c == 50) else if n = 9 then (c == 32 || c == 97)
  else if numAt n then decide (48 ≤ c ∧ c ≤ 57) else decide (32 ≤ c ∧ c ≤ 126)

theorem j4_is (k : Nat) (hk : 300 ≤ k) (c n : Int) (a b : Bool) (e p : Int) (hn : 0 ≤ n ∧ n < 24) :
    amanuensislaw19_LeaderPlaces.j4 k c n a b e p = some (finB e p n (if n ≥ 20 then (c == bt (⟨#[52, 53, 48, 48]⟩ : ByteArray) (n - 20)) else if b = true then (c == 50) else a)) := by
  obtain ⟨k, rfl⟩ : ∃ m, k = m + 1 := ⟨k - 1, by omega⟩
  rw [amanuensislaw19_LeaderPlaces.j4, answers_is k (by omega)]
  unfold finB
  by_cases h : n ≥ 20
  · rw [w64_in (n := n - 20) (by omega) (by omega)]
    simp only [if_pos h, Option.bind_some, if_true]
    rw [if_pos (show 0 ≤ n - 20 by omega), if_pos (show n - 20 < 4 by omega)]
    cases hb : b <;> cases hc : (c == bt (⟨#[52, 53, 48, 48]⟩ : ByteArray) (n - 20)) <;> (have hc' := hc; simp at hc') <;> by_cases he : e = 0 <;> simp [hc', he]
  · simp only [if_neg h, Option.bind_some, if_true]
    cases hb : b
    · simp only [Bool.false_eq_true, if_false]
      cases ha : a <;> by_cases he : e = 0 <;> simp [he]
    · simp only [if_true]
      cases hc : (c == 50) <;> (have hc' := hc; simp at hc') <;> by_cases he : e = 0 <;> simp [hc', he]

theorem j0_is (k : Nat) (hk : 310 ≤ k) (c n : Int) (a : Bool) (e p : Int) (hn : 0 ≤ n ∧ n < 24) (ha : a = decide (32 ≤ c ∧ c ≤ 126)) :
    amanuensislaw19_LeaderPlaces.j0 k c n a e p = some (finB e p n (mayB n c)) := by
  obtain ⟨k, rfl⟩ : ∃ m, k = m + 4 := ⟨k - 4, by omega⟩
  have s3 : ∀ x, amanuensislaw19_LeaderPlaces.j3 (k + 1) c n x e p = some (finB e p n (if n ≥ 20 then (c == bt (⟨#[52, 53, 48, 48]⟩ : ByteArray) (n - 20)) else if n = 10 ∨ n = 11 then (c == 50) else x)) := by
    intro x
    rw [amanuensislaw19_LeaderPlaces.j3]
    by_cases h : n = 10
    · rw [if_pos h, j4_is k (by omega) _ _ _ _ _ _ hn]; simp [h]
    · rw [if_neg h, j4_is k (by omega) _ _ _ _ _ _ hn]
      by_cases h2 : n = 11
      · simp [h2]
      · have : (n == 11) = false := by simp [h2]
        simp [h, h2]
  have s2 : ∀ x, amanuensislaw19_LeaderPlaces.j2 (k + 2) c n x e p = some (finB e p n (if n ≥ 20 then (c == bt (⟨#[52, 53, 48, 48]⟩ : ByteArray) (n - 20)) else if n = 10 ∨ n = 11 then (c == 50) else if n = 9 then (c == 32 || c == 97) else x)) := by
    intro x
    rw [amanuensislaw19_LeaderPlaces.j2]
    by_cases h : n = 9
    · rw [if_pos h]
      by_cases g : c = 32
      · rw [if_pos g, s3]; simp [h, g]
      · have e2 : (c == 32) = false := by simp [g]
        rw [if_neg g, s3]; simp [h, e2]
    · rw [if_neg h, s3]; simp only [if_neg h]
  have s1 : ∀ b, amanuensislaw19_LeaderPlaces.j1 (k + 3) c n a b e p = some (finB e p n (if n ≥ 20 then (c == bt (⟨#[52, 53, 48, 48]⟩ : ByteArray) (n - 20)) else if n = 10 ∨ n = 11 then (c == 50) else if n = 9 then (c == 32 || c == 97) else if b = true then decide (48 ≤ c ∧ c ≤ 57) else a)) := by
    intro b
    rw [amanuensislaw19_LeaderPlaces.j1]
    cases b
    · simp only [Bool.false_eq_true, if_false]; exact s2 a
    · simp only [if_true]
      by_cases g : c ≥ 48
      · rw [if_pos g, s2]
        have : decide (c ≤ 57) = decide (48 ≤ c ∧ c ≤ 57) := by rw [decide_eq_decide]; omega
        rw [this]
      · rw [if_neg g, s2]
        have : false = decide (48 ≤ c ∧ c ≤ 57) := by symm; rw [decide_eq_false_iff_not]; omega
        rw [← this]
  have hb : amanuensislaw19_LeaderPlaces.j0 (k + 4) c n a e p = amanuensislaw19_LeaderPlaces.j1 (k + 3) c n a (decide (numAt n)) e p := by
    rw [amanuensislaw19_LeaderPlaces.j0]
    by_cases h : numAt n
    · have h' := h
      unfold numAt at h'
      rw [decide_eq_true h]
      split
      · rfl
      · rw [if_pos (by omega), decide_eq_true (by omega)]
    · have h' := h
      unfold numAt at h'
      rw [decide_eq_false h, if_neg (by omega)]
      split
      · rw [decide_eq_false (by omega)]
      · rfl
  rw [hb, s1, ha]
  unfold mayB
  simp only [decide_eq_true_eq]

theorem may_good (n c : Int) (hn : 0 ≤ n ∧ n < 24) : mayB n c = goodB n c false := by
  unfold mayB goodB
  by_cases h20 : n ≥ 20
  · rw [if_pos h20, if_neg (by unfold numAt; omega)]
    have h : n = 20 ∨ n = 21 ∨ n = 22 ∨ n = 23 := by omega
    rcases h with rfl | rfl | rfl | rfl
    · have e1 : bt (⟨#[52, 53, 48, 48]⟩ : ByteArray) (20 - 20) = 52 := by decide +kernel
      have e2 : mustI 20 = 52 := by decide
      rw [e1, e2, if_pos (by decide)]; rfl
    · have e1 : bt (⟨#[52, 53, 48, 48]⟩ : ByteArray) (21 - 20) = 53 := by decide +kernel
      have e2 : mustI 21 = 53 := by decide
      rw [e1, e2, if_pos (by decide)]; rfl
    · have e1 : bt (⟨#[52, 53, 48, 48]⟩ : ByteArray) (22 - 20) = 48 := by decide +kernel
      have e2 : mustI 22 = 48 := by decide
      rw [e1, e2, if_pos (by decide)]; rfl
    · have e1 : bt (⟨#[52, 53, 48, 48]⟩ : ByteArray) (23 - 20) = 48 := by decide +kernel
      have e2 : mustI 23 = 48 := by decide
      rw [e1, e2, if_pos (by decide)]; rfl
  rw [if_neg h20]
  by_cases h10 : n = 10 ∨ n = 11
  · rw [if_pos h10, if_neg (by unfold numAt; omega)]
    have e2 : mustI n = 50 := by unfold mustI; rw [if_pos h10]
    rw [e2, if_pos (by decide)]; rfl
  rw [if_neg h10]
  have e2 : mustI n = 0 := by unfold mustI; rw [if_neg h10, if_neg (by omega), if_neg (by omega), if_neg (by omega), if_neg (by omega)]
  by_cases h9 : n = 9
  · rw [if_pos h9, if_neg (by unfold numAt; omega), e2, if_neg (by decide), if_pos h9]
    by_cases g : c = 32
    · simp [g]
    · simp only [g, false_or]
      have : (c == 32) = false := by simp [g]
      rw [this, Bool.false_or]; rfl
  rw [if_neg h9, e2]
  by_cases hm : numAt n
  · rw [if_pos hm, if_pos hm]; rfl
  · rw [if_neg hm, if_neg hm, if_neg (by decide), if_neg h9]

/-- The leader in which one byte is turned. -/
def lead0 : List Int := [48, 48, 48, 50, 54, 110, 97, 109, 32, 97, 50, 50, 48, 48, 48, 50, 53, 32, 97, 32, 52, 53, 48, 48]
theorem lead0_good : ∀ i : Fin 24, goodB (i.val : Int) (rd lead0 (i.val : Int)) false = true := by decide +kernel
theorem rd_set (i j : Nat) (c : Int) (hi : i < 24) : rd (lead0.set i c) (j : Int) = if j = i then c else rd lead0 (j : Int) := by
  unfold rd
  simp only [Int.toNat_natCast, List.getD_eq_getElem?_getD, List.getElem?_set]
  by_cases h : j = i
  · subst h
    simp [lead0, hi]
  · simp [h, Ne.symm h]

theorem leadL_set (i : Nat) (c : Int) (hi : i < 24) : ∀ (n j : Nat), j + n = 24 →
    (goodB (i : Int) c false = true ∨ i < j → ∃ a b, leadL n (lead0.set i c) j = (a, b, 0, 0)) ∧
    (goodB (i : Int) c false = false → j ≤ i → leadL n (lead0.set i c) j = (0, 0, 10, (i : Int))) := by
  intro n
  induction n with
  | zero =>
    intro j hj
    refine ⟨fun _ => ?_, fun _ h => by omega⟩
    rw [leadL, if_neg (by simp [lead0])]
    exact ⟨_, _, rfl⟩
  | succ n ih =>
    intro j hj
    have ih' := ih (j + 1) (by omega)
    rw [leadL, rd_set i j c hi]
    by_cases e : j = i
    · subst e
      rw [if_pos rfl]
      refine ⟨fun h => ?_, fun h _ => ?_⟩
      · have hg : goodB (j : Int) c false = true := by
          rcases h with h | h
          · exact h
          · omega
        rw [if_pos hg]
        exact ih'.1 (Or.inr (by omega))
      · rw [if_neg (by rw [h]; decide)]
    · rw [if_neg e, if_pos (lead0_good ⟨j, by omega⟩)]
      refine ⟨fun h => ih'.1 ?_, fun h h2 => ih'.2 h (by omega)⟩
      rcases h with h | h
      · exact Or.inl h
      · exact Or.inr (by omega)

theorem LeaderPlaces : amanuensislaw19_LeaderPlaces.Pure := by
  intro a c ha _
  have ha' := u8_wf ha
  obtain ⟨K, hK⟩ : ∃ K : Nat, 400 ≤ K := ⟨400, by omega⟩
  refine ⟨K, ?_⟩
  unfold amanuensislaw19_LeaderPlaces.f
  obtain ⟨i, hi⟩ : ∃ i : Nat, (i : Int) = a % 24 := ⟨(a % 24).toNat, by omega⟩
  have e1 : Int.tmod (wrap64 a) 24 = (i : Int) := by rw [w64_in (by omega) (by omega), Int.tmod_eq_emod_of_nonneg (by omega), hi]
  rw [e1]
  have hi' : i < 24 := by omega
  have hl : ((lead0.set i c).length) = 24 := by simp [lead0]
  simp only [Option.bind_some]
  rw [if_pos (by omega), if_pos (by show (i : Int) < 24; omega), Int.toNat_natCast]
  rw [show ([48, 48, 48, 50, 54, 110, 97, 109, 32, 97, 50, 50, 48, 48, 48, 50, 53, 32, 97, 32, 52, 53, 48, 48] : List Int) = lead0 from rfl]
  rw [parse_is K (by omega) _ (by omega), hl]
  simp only [Option.bind_some]
  have key : ∀ e p, (if c ≥ 32 then amanuensislaw19_LeaderPlaces.j0 K c (i : Int) (decide (c ≤ 126)) e p else amanuensislaw19_LeaderPlaces.j0 K c (i : Int) false e p) = some (finB e p (i : Int) (goodB (i : Int) c false)) := by
    intro e p
    split
    · rw [j0_is K (by omega) c i _ e p (by omega) (by rw [decide_eq_decide]; omega), may_good _ _ (by omega)]
    · rw [j0_is K (by omega) c i _ e p (by omega) (by symm; rw [decide_eq_false_iff_not]; omega), may_good _ _ (by omega)]
  rw [key]
  have hs := leadL_set i c hi' 24 0 (by omega)
  rw [show min 24 24 = 24 from rfl]
  cases hg : goodB (i : Int) c false
  · rw [hs.2 hg (by omega)]
    simp [finB]
  · obtain ⟨x, y, h⟩ := hs.1 (Or.inl hg)
    rw [h]
    simp [finB]

end Go.Proofs.Ytopdomaogmmklaa.Pure
