/- The statement EscapePrints of layer 14, over numbers and lists alone: what is printed from any sets to any that may be makes just these, and is as short as may be.
   Conditions: none; for every two pairs of numbers of the kind int64. -/
import Derived.Test.YtjkgabmhhehhjaaQEscapePrints
namespace Go.Proofs.Ytjkgabmhhehhjaa.Pure
open Go.RowKit Go.Proofs.Ytjkgabmhhehhjaa.PSetsApart Go.Proofs.Ytjkgabmhhehhjaa.PSetsNames Go.Proofs.Ytjkgabmhhehhjaa.PEscapePrints Go.Proofs.YtjkgabmhhehhjaaW.PrintWords Go.Proofs.YtjkgabmhhehhjaaW.PrintLast Go.Proofs.YtjkgabmhhehhjaaW.PrintMore
open Go.Proofs.Ytjkgabmhhehhjaa.PEscapeReads (amanuensislaw14_answers.f amanuensislaw14_answers.mono)
set_option maxRecDepth 100000

theorem w64_in {n : Int} (h1 : -9223372036854775 ≤ n) (h2 : n ≤ 9223372036854775) : wrap64 n = n := by unfold wrap64; omega
/-- More rounds tell the same. -/
theorem more {α : Type} {f : Nat → Option α} (hm : ∀ k, LeO (f k) (f (k + 1))) {a : Nat} {r : α} (h : f a = some r) (k : Nat) (hk : a ≤ k) : f k = some r := by
  obtain ⟨d, rfl⟩ : ∃ d, k = a + d := ⟨k - a, by omega⟩
  induction d with
  | zero => exact h
  | succ d ih => exact hm _ _ (ih (by omega))
/-- A set's last byte. -/
def finI (t : Int) : Int := rd [0, 66, 69, 83, 50, 51, 52, 78, 81, 49, 98, 112, 103] t
/-- The escape that makes a set a side's. -/
def des (s t : Int) : List Int :=
  if t < 1 ∨ 12 < t ∨ s < 0 ∨ 1 < s ∨ (s = 1 ∧ 10 ≤ t) then []
  else if t = 1 ∧ s = 0 then [27, 115]
  else if 10 ≤ t then [27, finI t]
  else [27] ++ ((if t = 9 then [36] else []) ++ (if s = 1 then [41] else if t = 9 then [] else [40]) ++ (if t = 2 then [33] else [])) ++ [finI t]
/-- May a set be a side's? -/
def may (s t : Int) : Bool := decide (1 ≤ t) && decide (t ≤ 12) && (decide (s = 0) || decide (t ≤ 9))

theorem answers_any (k : Nat) (hk : 40 ≤ k) : amanuensislaw14_answers.f k = some true := more (fun k => amanuensislaw14_answers.mono k) (a := 40) (by decide +kernel) k hk

theorem final_out (t : Int) (h : t < 1 ∨ 12 < t) : sets_Final.f t = some (0, false) := by
  unfold sets_Final.f
  simp only [Option.bind_some]
  by_cases h1 : t < 1
  · rw [if_pos h1]
  · rw [if_neg h1, if_pos (by omega)]
theorem des_table : ∀ (s : Fin 2) (t : Fin 12), sets_Designate.f 40 (s.val : Int) ((t.val : Int) + 1) = some (if may (s.val : Int) ((t.val : Int) + 1) then des (s.val : Int) ((t.val : Int) + 1) else [], may (s.val : Int) ((t.val : Int) + 1)) := by decide +kernel
theorem ref_table : ∀ (s : Fin 2) (t : Fin 12), may (s.val : Int) ((t.val : Int) + 1) = true → amanuensisref08_Designate.f 80 (s.val : Int) ((t.val : Int) + 1) = some (des (s.val : Int) ((t.val : Int) + 1), true) := by decide +kernel
/-- What the program's Designate tells of a side's set. -/
theorem des_any (k : Nat) (hk : 40 ≤ k) (s t : Int) (hs : s = 0 ∨ s = 1) : ∃ l, sets_Designate.f k s t = some (l, may s t) ∧ (may s t = true → l = des s t) := by
  by_cases h : 1 ≤ t ∧ t ≤ 12
  · obtain ⟨b, rfl⟩ : ∃ b : Nat, t = (b : Int) + 1 := ⟨(t - 1).toNat, by omega⟩
    obtain ⟨a, rfl, ha⟩ : ∃ a : Nat, s = (a : Int) ∧ a < 2 := ⟨s.toNat, by omega, by omega⟩
    have ht := more (fun k => sets_Designate.mono _ _ k) (des_table ⟨a, ha⟩ ⟨b, by omega⟩) k hk
    exact ⟨_, ht, fun hm => by rw [if_pos hm]⟩
  · have hm : may s t = false := by unfold may; simp; omega
    refine ⟨[], ?_, fun h => absurd h (by rw [hm]; simp)⟩
    rw [hm]
    obtain ⟨k, rfl⟩ : ∃ m, k = m + 1 := ⟨k - 1, by omega⟩
    unfold sets_Designate.f
    rw [final_out t (by omega)]
    simp only [Option.bind_some, Bool.false_eq_true, if_false]
    rw [sets_Designate.j0, if_pos rfl]
theorem ref_any (k : Nat) (hk : 80 ≤ k) (s t : Int) (hs : s = 0 ∨ s = 1) (hm : may s t = true) : amanuensisref08_Designate.f k s t = some (des s t, true) := by
  have h : 1 ≤ t ∧ t ≤ 12 := by unfold may at hm; simp at hm; omega
  obtain ⟨b, rfl⟩ : ∃ b : Nat, t = (b : Int) + 1 := ⟨(t - 1).toNat, by omega⟩
  obtain ⟨a, rfl, ha⟩ : ∃ a : Nat, s = (a : Int) ∧ a < 2 := ⟨s.toNat, by omega, by omega⟩
  exact more (fun k => amanuensisref08_Designate.mono _ _ k) (ref_table ⟨a, ha⟩ ⟨b, by omega⟩ hm) k hk

/-- What an escape does to any two sets. -/
inductive Act where
  | bad (e p : Int)
  | zero (t n : Int)
  | one (t n : Int)
def Act.on (s0 s1 : Int) : Act → Int × Int × Int × Int × Int
  | .bad e p => (0, 0, 0, e, p)
  | .zero t n => (t, s1, n, 0, 0)
  | .one t n => (s0, t, n, 0, 0)
theorem next_l0 (k : Nat) : (∀ x0 x1 x9 x10, ∃ c : Option Act, ∀ s0 s1, amanuensisref08_Next.l0 k x0 x1 x9 x10 s0 s1 = c.map (Act.on s0 s1)) ∧
    (∀ x0 x1 x9 x10 x11 x63, ∃ c : Option Act, ∀ s0 s1, amanuensisref08_Next.j2 k x0 x1 x9 x10 x11 x63 s0 s1 = c.map (Act.on s0 s1)) := by
  induction k with
  | zero => exact ⟨fun _ _ _ _ => ⟨none, fun _ _ => by simp [amanuensisref08_Next.l0]⟩, fun _ _ _ _ _ _ => ⟨none, fun _ _ => by simp [amanuensisref08_Next.j2]⟩⟩
  | succ k ih =>
    obtain ⟨ih0, ih1⟩ := ih
    constructor
    · intro x0 x1 x9 x10
      by_cases c1 : x10 < (x9.length : Int)
      · by_cases c2 : 0 ≤ x10
        · by_cases c3 : (wrap64 (x1 + (((rd_T38 x9 x10).f0).size : Int))) ≤ (x0.length : Int)
          · by_cases c4 : 0 ≤ x1
            · by_cases c5 : x1 ≤ (wrap64 (x1 + (((rd_T38 x9 x10).f0).size : Int)))
              · obtain ⟨c, hc⟩ := ih1 x0 x1 x9 x10 (((rd_T38 x9 x10).f0).size : Int) ((strOfNums ((x0.take ((wrap64 (x1 + (((rd_T38 x9 x10).f0).size : Int))) : Int).toNat).drop (x1 : Int).toNat)).toList == ((rd_T38 x9 x10).f0).toList)
                exact ⟨c, fun s0 s1 => by rw [amanuensisref08_Next.l0, if_pos c1, if_pos c2, if_pos c3, if_pos c4, if_pos c5]; exact hc s0 s1⟩
              · exact ⟨none, fun s0 s1 => by rw [amanuensisref08_Next.l0, if_pos c1, if_pos c2, if_pos c3, if_pos c4, if_neg c5]; rfl⟩
            · exact ⟨none, fun s0 s1 => by rw [amanuensisref08_Next.l0, if_pos c1, if_pos c2, if_pos c3, if_neg c4]; rfl⟩
          · obtain ⟨c, hc⟩ := ih1 x0 x1 x9 x10 (((rd_T38 x9 x10).f0).size : Int) false
            exact ⟨c, fun s0 s1 => by rw [amanuensisref08_Next.l0, if_pos c1, if_pos c2, if_neg c3]; exact hc s0 s1⟩
        · exact ⟨none, fun s0 s1 => by rw [amanuensisref08_Next.l0, if_pos c1, if_neg c2]; rfl⟩
      · exact ⟨some (.bad 5 x1), fun s0 s1 => by rw [amanuensisref08_Next.l0, if_neg c1]; rfl⟩
    · intro x0 x1 x9 x10 x11 x63
      by_cases c1 : x63 = true
      · by_cases c2 : 0 ≤ x10
        · by_cases c3 : x10 < (x9.length : Int)
          · by_cases c4 : ((rd_T38 x9 x10).f1) = 0
            · exact ⟨some (.zero (rd_T38 x9 x10).f2 x11), fun s0 s1 => by rw [amanuensisref08_Next.j2, if_pos c1, if_pos c2, if_pos c3, if_pos c4]; rfl⟩
            · exact ⟨some (.one (rd_T38 x9 x10).f2 x11), fun s0 s1 => by rw [amanuensisref08_Next.j2, if_pos c1, if_pos c2, if_pos c3, if_neg c4]; rfl⟩
          · exact ⟨none, fun s0 s1 => by rw [amanuensisref08_Next.j2, if_pos c1, if_pos c2, if_neg c3]; rfl⟩
        · exact ⟨none, fun s0 s1 => by rw [amanuensisref08_Next.j2, if_pos c1, if_neg c2]; rfl⟩
      · obtain ⟨c, hc⟩ := ih0 x0 x1 x9 (wrap64 (x10 + 1))
        exact ⟨c, fun s0 s1 => by rw [amanuensisref08_Next.j2, if_neg c1]; exact hc s0 s1⟩
theorem next_j0 (k : Nat) (x0 : List Int) (x1 : Int) (x26 : Bool) : ∃ c : Option Act, ∀ s0 s1, amanuensisref08_Next.j0 k x0 x1 x26 s0 s1 = c.map (Act.on s0 s1) := by
  cases k with
  | zero => exact ⟨none, fun _ _ => by simp [amanuensisref08_Next.j0]⟩
  | succ k =>
    by_cases c1 : x26 = true
    · exact ⟨some (.bad 1 x1), fun s0 s1 => by rw [amanuensisref08_Next.j0, if_pos c1]; rfl⟩
    · cases he : amanuensisref08_Escapes.f k with
      | none => exact ⟨none, fun s0 s1 => by rw [amanuensisref08_Next.j0, if_neg c1, he]; rfl⟩
      | some L =>
        obtain ⟨c, hc⟩ := (next_l0 k).1 x0 x1 L 0
        exact ⟨c, fun s0 s1 => by rw [amanuensisref08_Next.j0, if_neg c1, he]; exact hc s0 s1⟩
theorem next_act (k : Nat) (l : List Int) (a : Int) : ∃ c : Option Act, ∀ s0 s1, amanuensisref08_Next.f k l a s0 s1 = c.map (Act.on s0 s1) := by
  by_cases c1 : a < 0
  · obtain ⟨c, hc⟩ := next_j0 k l a true
    exact ⟨c, fun s0 s1 => by rw [amanuensisref08_Next.f, if_pos c1]; exact hc s0 s1⟩
  · by_cases c2 : a ≥ (l.length : Int)
    · obtain ⟨c, hc⟩ := next_j0 k l a true
      exact ⟨c, fun s0 s1 => by rw [amanuensisref08_Next.f, if_neg c1, if_pos c2]; exact hc s0 s1⟩
    · obtain ⟨c, hc⟩ := next_j0 k l a ((rd l a) != 27)
      exact ⟨c, fun s0 s1 => by rw [amanuensisref08_Next.f, if_neg c1, if_neg c2, if_pos (by omega), if_pos (by omega)]; exact hc s0 s1⟩
theorem next_zero {k : Nat} {l : List Int} {a t n : Int} (h0 : amanuensisref08_Next.f k l a 0 0 = some (t, 0, n, 0, 0)) (h1 : amanuensisref08_Next.f k l a (-1) (-1) = some (t, -1, n, 0, 0)) (s0 s1 : Int) : amanuensisref08_Next.f k l a s0 s1 = some (t, s1, n, 0, 0) := by
  obtain ⟨c, hc⟩ := next_act k l a
  rw [hc] at h0 h1 ⊢
  cases c with
  | none => simp at h0
  | some c => cases c <;> simp [Act.on] at h0 h1 ⊢ <;> omega
theorem next_one {k : Nat} {l : List Int} {a t n : Int} (h0 : amanuensisref08_Next.f k l a 0 0 = some (0, t, n, 0, 0)) (h1 : amanuensisref08_Next.f k l a (-1) (-1) = some (-1, t, n, 0, 0)) (s0 s1 : Int) : amanuensisref08_Next.f k l a s0 s1 = some (s0, t, n, 0, 0) := by
  obtain ⟨c, hc⟩ := next_act k l a
  rw [hc] at h0 h1 ⊢
  cases c with
  | none => simp at h0
  | some c => cases c <;> simp [Act.on] at h0 h1 ⊢ <;> omega

theorem des_len : ∀ (s : Fin 2) (t : Fin 12), may (s.val : Int) ((t.val : Int) + 1) = true → 2 ≤ (des (s.val : Int) ((t.val : Int) + 1)).length ∧ (des (s.val : Int) ((t.val : Int) + 1)).length ≤ 4 := by decide +kernel
theorem t0 : ∀ (t : Fin 12), let D := des 0 ((t.val : Int) + 1)
    amanuensisref08_Next.f 90 D 0 0 0 = some ((t.val : Int) + 1, 0, (D.length : Int), 0, 0) ∧ amanuensisref08_Next.f 90 D 0 (-1) (-1) = some ((t.val : Int) + 1, -1, (D.length : Int), 0, 0) := by decide +kernel
theorem t1 : ∀ (u : Fin 9), let D := des 1 ((u.val : Int) + 1)
    amanuensisref08_Next.f 90 D 0 0 0 = some (0, (u.val : Int) + 1, (D.length : Int), 0, 0) ∧ amanuensisref08_Next.f 90 D 0 (-1) (-1) = some (-1, (u.val : Int) + 1, (D.length : Int), 0, 0) := by decide +kernel
theorem t01a : ∀ (t : Fin 12) (u : Fin 9), amanuensisref08_Next.f 90 ((des 0 ((t.val : Int) + 1)) ++ (des 1 ((u.val : Int) + 1))) 0 0 0 = some ((t.val : Int) + 1, 0, ((des 0 ((t.val : Int) + 1)).length : Int), 0, 0) := by decide +kernel
theorem t01b : ∀ (t : Fin 12) (u : Fin 9), amanuensisref08_Next.f 90 ((des 0 ((t.val : Int) + 1)) ++ (des 1 ((u.val : Int) + 1))) 0 (-1) (-1) = some ((t.val : Int) + 1, -1, ((des 0 ((t.val : Int) + 1)).length : Int), 0, 0) := by decide +kernel
theorem t01c : ∀ (t : Fin 12) (u : Fin 9), amanuensisref08_Next.f 90 ((des 0 ((t.val : Int) + 1)) ++ (des 1 ((u.val : Int) + 1))) ((des 0 ((t.val : Int) + 1)).length : Int) 0 0 = some (0, (u.val : Int) + 1, ((des 1 ((u.val : Int) + 1)).length : Int), 0, 0) := by decide +kernel
theorem t01d : ∀ (t : Fin 12) (u : Fin 9), amanuensisref08_Next.f 90 ((des 0 ((t.val : Int) + 1)) ++ (des 1 ((u.val : Int) + 1))) ((des 0 ((t.val : Int) + 1)).length : Int) (-1) (-1) = some (-1, (u.val : Int) + 1, ((des 1 ((u.val : Int) + 1)).length : Int), 0, 0) := by decide +kernel

theorem same_loop (d : Nat) : ∀ (k : Nat) (a b : List Int) (i : Nat), a.length = b.length → a.length ≤ 100000000 → a.length - i ≤ d → i ≤ a.length → d < k →
    a = b → amanuensisref01_Same.l0 k a b (i : Int) = some true := by
  induction d with
  | zero =>
    intro k a b i hl hm hd hi hk hab
    obtain ⟨k, rfl⟩ : ∃ m, k = m + 1 := ⟨k - 1, by omega⟩
    simp only [amanuensisref01_Same.l0]
    rw [if_neg (by omega)]
  | succ d ih =>
    intro k a b i hl hm hd hi hk hab
    obtain ⟨k, rfl⟩ : ∃ m, k = m + 1 := ⟨k - 1, by omega⟩
    simp only [amanuensisref01_Same.l0]
    by_cases h : (i : Int) < (a.length : Int)
    · have hw : wrap64 ((i : Int) + 1) = ((i + 1 : Nat) : Int) := by rw [w64_in (by omega) (by omega)]; omega
      rw [if_pos h, if_pos (by omega), if_pos (by omega), hw, hab, if_pos rfl]
      rw [hab] at hl hm hd hi h
      exact ih k b b (i + 1) rfl hm (by omega) (by omega) (by omega) rfl
    · rw [if_neg h]
theorem same_self (k : Nat) (a : List Int) (hk : a.length + 1 ≤ k) (hl : a.length ≤ 100000000) : amanuensisref01_Same.f k a a = some true := by
  unfold amanuensisref01_Same.f
  rw [if_pos rfl]
  exact same_loop a.length k a a 0 rfl hl (by omega) (by omega) (by omega) rfl

/-- The end of the law, behind the loop. -/
theorem law_end (k : Nat) (hk : 90 ≤ k) (a0 b0 a1 b1 : Int) (h0 : may 0 a1 = true) (h1 : may 1 b1 = true) (l : List Int) (hl : l = (if a0 = a1 then [] else des 0 a1) ++ (if b0 = b1 then [] else des 1 b1)) (hd : l.length ≤ 8) :
    amanuensislaw14_EscapePrints.l0 (k + 1) l (l.length : Int) a0 b0 a1 b1 a1 b1 = some true := by
  rw [amanuensislaw14_EscapePrints.l0, if_neg (by omega), ref_any k (by omega) 0 a1 (Or.inl rfl) h0, ref_any k (by omega) 1 b1 (Or.inr rfl) h1]
  simp only [Option.bind_some]
  obtain ⟨k, rfl⟩ : ∃ m, k = m + 1 := ⟨k - 1, by omega⟩
  have fin : ∀ x15 : List Int, l = (if b0 = b1 then x15 else x15 ++ des 1 b1) → amanuensislaw14_EscapePrints.j1 (k + 1) l (des 1 b1) x15 a0 b0 a1 b1 a1 b1 = some true := by
    intro x15 hx
    rw [amanuensislaw14_EscapePrints.j1]
    have ha := answers_any k (by omega)
    have hs := same_self k l (by omega) (by omega)
    by_cases hb : b0 = b1
    · rw [if_pos hb] at hx ⊢
      rw [ha]
      simp only [Option.bind_some, if_true, beq_self_eq_true, Bool.and_self]
      rw [← hx, hs]
      rfl
    · rw [if_neg hb] at hx ⊢
      have hle : x15.length + (des 1 b1).length = l.length := by rw [hx, List.length_append]
      rw [if_pos (by omega), ha]
      simp only [Option.bind_some, if_true, beq_self_eq_true, Bool.and_self]
      rw [← hx, hs]
      rfl
  by_cases ha : a0 = a1
  · rw [if_pos ha] at hl ⊢
    exact fin [] (by rw [hl]; split <;> simp)
  · rw [if_neg ha] at hl ⊢
    have hle : (des 0 a1).length ≤ l.length := by rw [hl, List.length_append]; omega
    rw [if_pos (by rw [List.length_nil]; omega)]
    refine fin ([] ++ des 0 a1) (by rw [hl]; split <;> simp)
/-- One round of the loop. -/
theorem law_round (k : Nat) (l : List Int) (x : Nat) (hx : x < l.length) (hl : l.length ≤ 8) (a0 b0 a1 b1 s0 s1 t0 t1 : Int) (n : Nat) (hn : 1 ≤ n) (hn2 : n ≤ 8) (h : amanuensisref08_Next.f k l (x : Int) s0 s1 = some (t0, t1, (n : Int), 0, 0)) :
    amanuensislaw14_EscapePrints.l0 (k + 1) l (x : Int) a0 b0 a1 b1 s0 s1 = amanuensislaw14_EscapePrints.l0 k l ((x + n : Nat) : Int) a0 b0 a1 b1 t0 t1 := by
  rw [amanuensislaw14_EscapePrints.l0, if_pos (by omega), h]
  simp only [Option.bind_some, if_true]
  have hw : wrap64 ((x : Int) + (n : Int)) = ((x + n : Nat) : Int) := by rw [w64_in (by omega) (by omega)]; omega
  rw [if_neg (by omega), hw]

theorem sound_is (a b : Int) : amanuensisref08_Sound.f a b = some (may 0 a && may 1 b) := by
  unfold amanuensisref08_Sound.f may
  by_cases c1 : a ≥ 1 <;> by_cases c2 : a ≤ 12 <;> by_cases c3 : b ≥ 1 <;> by_cases c4 : b ≤ 9 <;> simp [c1, c2, c3, c4] <;> omega

theorem EscapePrints : amanuensislaw14_EscapePrints.Pure := by
  intro a0 b0 a1 b1 _ _ _ _
  refine ⟨99 + 1, ?_⟩
  unfold amanuensislaw14_EscapePrints.f
  obtain ⟨D, hD, hD2⟩ := des_any (99 + 1) (by omega) 0 a1 (Or.inl rfl)
  obtain ⟨E, hE, hE2⟩ := des_any (99 + 1) (by omega) 1 b1 (Or.inr rfl)
  rw [sound_is]
  by_cases h0 : may 0 a1 = true
  · by_cases h1 : may 1 b1 = true
    · -- sets that may be
      have ht : 1 ≤ a1 ∧ a1 ≤ 12 := by unfold may at h0; simp at h0; omega
      have hu : 1 ≤ b1 ∧ b1 ≤ 9 := by unfold may at h1; simp at h1; omega
      obtain ⟨t, rfl⟩ : ∃ t : Nat, a1 = (t : Int) + 1 := ⟨(a1 - 1).toNat, by omega⟩
      obtain ⟨u, rfl⟩ : ∃ u : Nat, b1 = (u : Int) + 1 := ⟨(b1 - 1).toNat, by omega⟩
      have htl : t < 12 := by omega
      have hul : u < 9 := by omega
      have dl := des_len 0 ⟨t, htl⟩ h0
      have el := des_len 1 ⟨u, by omega⟩ h1
      have dl' : 2 ≤ (des 0 ((t : Int) + 1)).length ∧ (des 0 ((t : Int) + 1)).length ≤ 4 := dl
      have el' : 2 ≤ (des 1 ((u : Int) + 1)).length ∧ (des 1 ((u : Int) + 1)).length ≤ 4 := el
      have e0 : D = des 0 ((t : Int) + 1) := hD2 h0
      have e1 : E = des 1 ((u : Int) + 1) := hE2 h1
      rw [h0] at hD
      rw [h1] at hE
      have hP : escape_Print.f (99 + 1) a0 b0 ((t : Int) + 1) ((u : Int) + 1) = some ((if a0 = (t : Int) + 1 then [] else des 0 ((t : Int) + 1)) ++ (if b0 = (u : Int) + 1 then [] else des 1 ((u : Int) + 1))) := by
        unfold escape_Print.f
        rw [hD, hE]
        simp only [Option.bind_some, if_true, Bool.not_true]
        rw [escape_Print.j0, if_neg (by simp), e0, e1]
        by_cases c0 : a0 = (t : Int) + 1 <;> by_cases c1 : b0 = (u : Int) + 1
        · rw [if_pos c0, if_pos c1, if_pos c0, if_pos c1]; rfl
        · rw [if_pos c0, if_neg c1, if_pos c0, if_neg c1, if_pos (by rw [List.length_nil]; omega)]
        · rw [if_neg c0, if_pos c1, if_neg c0, if_pos c1, List.append_nil]
        · rw [if_neg c0, if_neg c1, if_neg c0, if_neg c1, if_pos (by omega)]
      rw [hP, h0, h1]
      simp only [Option.bind_some, Bool.and_self, if_true]
      by_cases c0 : a0 = (t : Int) + 1 <;> by_cases c1 : b0 = (u : Int) + 1
      · have := law_end 99 (by omega) a0 b0 _ _ h0 h1 _ rfl (by rw [if_pos c0, if_pos c1]; simp)
        rw [if_pos c0, if_pos c1] at this ⊢
        rw [← c0, ← c1] at this ⊢
        exact this
      · obtain ⟨n0, n1⟩ := t1 ⟨u, hul⟩
        have hn := more (fun k => amanuensisref08_Next.mono _ _ _ _ k) (next_one n0 n1 a0 b0) 99 (by omega)
        have hr := law_round 99 (des 1 ((u : Int) + 1)) 0 (by omega) (by omega) a0 b0 ((t : Int) + 1) ((u : Int) + 1) a0 b0 a0 ((u : Int) + 1) (des 1 ((u : Int) + 1)).length (by omega) (by omega) hn
        rw [if_pos c0, if_neg c1, List.nil_append]
        refine hr.trans ?_
        have := law_end 98 (by omega) a0 b0 _ _ h0 h1 (des 1 ((u : Int) + 1)) (by rw [if_pos c0, if_neg c1]; rfl) (by omega)
        rw [Nat.zero_add]
        rw [← c0] at this ⊢
        exact this
      · obtain ⟨n0, n1⟩ := t0 ⟨t, htl⟩
        have hn := more (fun k => amanuensisref08_Next.mono _ _ _ _ k) (next_zero n0 n1 a0 b0) 99 (by omega)
        have hr := law_round 99 (des 0 ((t : Int) + 1)) 0 (by omega) (by omega) a0 b0 ((t : Int) + 1) ((u : Int) + 1) a0 b0 ((t : Int) + 1) b0 (des 0 ((t : Int) + 1)).length (by omega) (by omega) hn
        rw [if_neg c0, if_pos c1, List.append_nil]
        refine hr.trans ?_
        have := law_end 98 (by omega) a0 b0 _ _ h0 h1 (des 0 ((t : Int) + 1)) (by rw [if_neg c0, if_pos c1, List.append_nil]) (by omega)
        rw [Nat.zero_add]
        rw [← c1] at this ⊢
        exact this
      · have n0 := t01a ⟨t, htl⟩ ⟨u, hul⟩
        have n1 := t01b ⟨t, htl⟩ ⟨u, hul⟩
        have n2 := t01c ⟨t, htl⟩ ⟨u, hul⟩
        have n3 := t01d ⟨t, htl⟩ ⟨u, hul⟩
        have hn := more (fun k => amanuensisref08_Next.mono _ _ _ _ k) (next_zero n0 n1 a0 b0) 99 (by omega)
        have hn2 := more (fun k => amanuensisref08_Next.mono _ _ _ _ k) (next_one n2 n3 ((t : Int) + 1) b0) 98 (by omega)
        have hlen : (des 0 ((t : Int) + 1) ++ des 1 ((u : Int) + 1)).length = (des 0 ((t : Int) + 1)).length + (des 1 ((u : Int) + 1)).length := List.length_append
        have hr := law_round 99 (des 0 ((t : Int) + 1) ++ des 1 ((u : Int) + 1)) 0 (by omega) (by omega) a0 b0 ((t : Int) + 1) ((u : Int) + 1) a0 b0 ((t : Int) + 1) b0 (des 0 ((t : Int) + 1)).length (by omega) (by omega) hn
        have hr2 := law_round 98 (des 0 ((t : Int) + 1) ++ des 1 ((u : Int) + 1)) (des 0 ((t : Int) + 1)).length (by omega) (by omega) a0 b0 ((t : Int) + 1) ((u : Int) + 1) ((t : Int) + 1) b0 ((t : Int) + 1) ((u : Int) + 1) (des 1 ((u : Int) + 1)).length (by omega) (by omega) hn2
        rw [if_neg c0, if_neg c1]
        refine hr.trans ?_
        rw [Nat.zero_add]
        refine hr2.trans ?_
        have := law_end 97 (by omega) a0 b0 _ _ h0 h1 (des 0 ((t : Int) + 1) ++ des 1 ((u : Int) + 1)) (by rw [if_neg c0, if_neg c1]) (by omega)
        rw [hlen] at this
        exact this
    · -- no set of the second side
      have h1' : may 1 b1 = false := Bool.eq_false_iff.mpr h1
      rw [h0] at hD
      rw [h1'] at hE
      have hP : escape_Print.f (99 + 1) a0 b0 a1 b1 = some [] := by
        unfold escape_Print.f
        rw [hD, hE]
        simp only [Option.bind_some, if_true, Bool.not_false]
        rw [escape_Print.j0, if_pos rfl]
      rw [hP, h0, h1']
      simp only [Option.bind_some, Bool.and_false, Bool.false_eq_true, if_false]
      rw [answers_any _ (by omega)]
      rfl
  · have h0' : may 0 a1 = false := Bool.eq_false_iff.mpr h0
    rw [h0'] at hD
    have hP : escape_Print.f (99 + 1) a0 b0 a1 b1 = some [] := by
      unfold escape_Print.f
      rw [hD, hE]
      simp only [Option.bind_some, Bool.false_eq_true, if_false]
      rw [escape_Print.j0, if_pos rfl]
    rw [hP, h0']
    simp only [Option.bind_some, Bool.false_and, Bool.false_eq_true, if_false]
    rw [answers_any _ (by omega)]
    rfl
end Go.Proofs.Ytjkgabmhhehhjaa.Pure
