/- The sort's exchanges over arrays, said of lists: insertion sort is stable. -/
import Derived.Test.YtkadmnabhoijdaaDoorCmp
import Derived.Test.YtkadmnabhoijdaaDoorStab
set_option linter.unusedVariables false
namespace Go.Proofs.YtkadmnabhoijdaaDoor.Look
open Go Go.RowKit Go.Shelf Go.Proofs Go.Lib Go.Sort
open Go.Proofs.YtkadmnabhoijdaaDoor.Stab

theorem at_list {d : Array Int} {P Q : List Int} {x : Int} (h : d.toList = P ++ x :: Q) : d[P.length]! = x := by
  have hs : P.length < d.size := by rw [← Array.length_toList, h]; simp
  rw [getElem!_pos d _ hs, ← Array.getElem_toList]
  simp [h]
theorem swp_list {d : Array Int} {P M Q : List Int} {x y : Int} (h : d.toList = P ++ x :: (M ++ y :: Q)) (i j : Nat) (hi : i = P.length) (hj : j = P.length + 1 + M.length) : (swp d i j).toList = P ++ y :: (M ++ x :: Q) := by
  subst hi hj
  have e1 : d[P.length]! = x := at_list h
  have e2 : d[P.length + 1 + M.length]! = y := by
    have := at_list (d := d) (P := P ++ x :: M) (x := y) (Q := Q) (by rw [h]; simp)
    rw [← this]; congr 1; simp; omega
  unfold swp
  rw [e1, e2, Array.toList_setIfInBounds, Array.toList_setIfInBounds, h]
  rw [List.set_append_right _ _ (by omega), Nat.sub_self, List.set_cons_zero, List.set_append_right _ _ (by omega), show P.length + 1 + M.length - P.length = M.length + 1 by omega, List.set_cons_succ, List.set_append_right _ _ (by omega), Nat.sub_self, List.set_cons_zero]
theorem swp_list' {d : Array Int} {P M Q : List Int} {x y : Int} (h : d.toList = P ++ x :: (M ++ y :: Q)) (i j : Nat) (hi : i = P.length) (hj : j = P.length + 1 + M.length) : (swp d j i).toList = P ++ y :: (M ++ x :: Q) := by
  subst hi hj
  have e1 : d[P.length]! = x := at_list h
  have e2 : d[P.length + 1 + M.length]! = y := by
    have := at_list (d := d) (P := P ++ x :: M) (x := y) (Q := Q) (by rw [h]; simp)
    rw [← this]; congr 1; simp; omega
  unfold swp
  rw [e1, e2, Array.toList_setIfInBounds, Array.toList_setIfInBounds, h]
  rw [List.set_append_right _ _ (by omega), show P.length + 1 + M.length - P.length = M.length + 1 by omega, List.set_cons_succ, List.set_append_right _ _ (by omega), Nat.sub_self, List.set_cons_zero, List.set_append_right _ _ (by omega), Nat.sub_self, List.set_cons_zero]

theorem lt_cf (x y : Int) : ltOf cfO x y = decide (kOf x < kOf y) := by
  unfold ltOf cfO
  congr 1
  exact propext (by omega)

theorem snoc_cases (l : List Int) : l = [] ∨ ∃ s z, l = s ++ [z] := by
  rcases List.eq_nil_or_concat l with h | ⟨s, z, h⟩
  · exact .inl h
  · exact .inr ⟨s, z, by simpa using h⟩

/-- One element goes to its place. -/
theorem inner_list (a : Nat) : ∀ (j : Nat) (d : Array Int) (A S1 S2 : List Int) (x : Int), d.toList = A ++ S1 ++ x :: S2 → A.length = a → A.length + S1.length = j →
    ∃ s1 s2, S1 = s1 ++ s2 ∧ (insInner (ltOf cfO) a j d).toList = A ++ s1 ++ x :: (s2 ++ S2) ∧ (∀ y ∈ s2, kOf x < kOf y) ∧ (∀ s z, s1 = s ++ [z] → kOf z ≤ kOf x)
  | 0, d, A, S1, S2, x, h, ha, hj => by
    have e1 : S1 = [] := List.eq_nil_of_length_eq_zero (by omega)
    subst e1
    exact ⟨[], [], rfl, by simpa [insInner] using h, by simp, by simp⟩
  | j + 1, d, A, S1, S2, x, h, ha, hj => by
    rcases snoc_cases S1 with e | ⟨s, z, e⟩
    · subst e
      refine ⟨[], [], rfl, ?_, by simp, by simp⟩
      have : ¬ (j + 1 > a) := by simp at hj; omega
      simp only [insInner, this, decide_false, Bool.false_and, Bool.false_eq_true, if_false]
      simpa using h
    · subst e
      simp only [List.length_append, List.length_cons, List.length_nil] at hj
      have hx : d[j + 1]! = x := by
        have := at_list h
        rw [← this]; congr 1; simp; omega
      have h' : d.toList = (A ++ s) ++ z :: ([] ++ x :: S2) := by rw [h]; simp
      have hz : d[j]! = z := by
        have := at_list h'
        rw [← this]; congr 1; simp; omega
      have hja : j + 1 > a := by omega
      simp only [insInner, hja, decide_true, Bool.true_and, hx, hz, lt_cf]
      by_cases hlt : kOf x < kOf z
      · rw [if_pos (by simpa using hlt)]
        have hsw := swp_list' h' j (j + 1) (by simp; omega) (by simp; omega)
        obtain ⟨s1, s2, e1, e2, e3, e4⟩ := inner_list a j (swp d (j + 1) j) A s (z :: S2) x (by rw [hsw]; simp) ha (by omega)
        refine ⟨s1, s2 ++ [z], by rw [e1]; simp, by rw [e2]; simp, fun y hy => ?_, e4⟩
        rcases List.mem_append.1 hy with hy | hy
        · exact e3 y hy
        · simp at hy; subst hy; exact hlt
      · rw [if_neg (by simpa using hlt)]
        refine ⟨s ++ [z], [], by simp, by rw [h]; simp, by simp, fun s' z' e' => ?_⟩
        have := (List.append_inj' e' rfl).2
        simp at this
        subst this
        omega

theorem asc_last {s1 : List Int} {c : Int} (h : Asc kOf s1) (hl : ∀ s z, s1 = s ++ [z] → kOf z ≤ c) : ∀ x ∈ s1, kOf x ≤ c := by
  intro x hx
  rcases snoc_cases s1 with e | ⟨s, z, e⟩
  · subst e; simp at hx
  · have hz := hl s z e
    subst e
    rcases List.mem_append.1 hx with hx | hx
    · have := (List.pairwise_append.1 h).2.2 x hx z (by simp); omega
    · simp at hx; subst hx; exact hz

theorem outer_list (a b : Nat) : ∀ (n i : Nat) (d : Array Int) (A S R B : List Int), b - i = n → d.toList = A ++ S ++ R ++ B → A.length = a → A.length + S.length = i → i + R.length = b → Asc kOf S →
    ∃ T, (insOuter (ltOf cfO) a b i d).toList = A ++ T ++ B ∧ Keeps kOf (S ++ R) T ∧ Asc kOf T
  | 0, i, d, A, S, R, B, hn, h, ha, hi, hb, hs => by
    have e : R = [] := List.eq_nil_of_length_eq_zero (by omega)
    subst e
    rw [insOuter, if_neg (by omega)]
    exact ⟨S, by simpa using h, by simpa using Keeps.refl S, hs⟩
  | n + 1, i, d, A, S, R, B, hn, h, ha, hi, hb, hs => by
    cases R with
    | nil => simp at hb; omega
    | cons x R =>
      rw [insOuter, if_pos (by omega)]
      obtain ⟨s1, s2, e1, e2, e3, e4⟩ := inner_list a i d A S (R ++ B) x (by rw [h]; simp) ha hi
      have hs1 : Asc kOf s1 := by rw [e1] at hs; exact (List.pairwise_append.1 hs).1
      have hm := IsMerge.last (k := kOf) (y := x) (u1 := s1) (u2 := s2) (by rw [← e1]; exact hs) (asc_last hs1 e4) e3
      obtain ⟨T, t1, t2, t3⟩ := outer_list a b n (i + 1) (insInner (ltOf cfO) a i d) A (s1 ++ x :: s2) R B (by omega) (by rw [e2]; simp) ha (by rw [e1] at hi; simp at hi ⊢; omega) (by simp at hb; omega) hm.2
      refine ⟨T, t1, ?_, t3⟩
      have := hm.1.append (Keeps.refl R)
      rw [← e1] at this
      exact Keeps.trans (by simpa using this) t2

/-- Insertion sort is the stable sort of its segment. -/
theorem ins_list {d : Array Int} {A U B : List Int} {a b : Nat} (h : d.toList = A ++ U ++ B) (ha : A.length = a) (hb : a + U.length = b) : (insertionSort (ltOf cfO) d a b).toList = A ++ sortK kOf U ++ B := by
  unfold insertionSort
  cases U with
  | nil =>
    rw [insOuter, if_neg (by simp at hb; omega)]
    simpa [sortK] using h
  | cons x R =>
    obtain ⟨T, t1, t2, t3⟩ := outer_list a b _ (a + 1) d A [x] R B rfl (by rw [h]; simp) ha (by simp; omega) (by simp at hb; omega) (by simp [Asc])
    rw [t1, sortK_of (l := x :: R) (by simpa using t2) t3]
end Go.Proofs.YtkadmnabhoijdaaDoor.Look
