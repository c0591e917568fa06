/- Characters taken apart, in plain Lean: what nfd computes, and its laws. -/
import Derived.Test.YtkadmnabhoijdaaDoorBubP
import Derived.Test.YtkadmnabhoijdaaDoorFind
set_option linter.unusedVariables false
namespace Go.Proofs.YtkadmnabhoijdaaDoor.Nfd
open Go.Proofs.YtkadmnabhoijdaaDoor.Stab Go.Proofs.YtkadmnabhoijdaaDoor.Look Go.Proofs.YtkadmnabhoijdaaDoor.New

/-- A syllable's parts. -/
def hanV (r : Int) : List Int :=
  if 44032 ≤ r ∧ r < 55204 then
    (4352 + (r - 44032) / 588) :: (4449 + (r - 44032) % 588 / 28) :: (if 0 < (r - 44032) % 28 then [4519 + (r - 44032) % 28] else [])
  else []
theorem hanV_none {r : Int} (h : ¬ (44032 ≤ r ∧ r < 55204)) : hanV r = [] := if_neg h
theorem hanV_some {r : Int} (h : 44032 ≤ r ∧ r < 55204) : hanV r ≠ [] := by unfold hanV; rw [if_pos h]; simp
/-- What a character is, all the way. -/
def apF : Nat → Int → List Int
  | 0, r => if hanV r = [] then [r] else hanV r
  | n + 1, r => if hanV r = [] then
      (if (splitV tableT r).2.2 = 2 then apF n (splitV tableT r).1 ++ apF n (splitV tableT r).2.1
        else if (splitV tableT r).2.2 = 1 then apF n (splitV tableT r).1 else [r])
    else hanV r
/-- Is nothing left to be split at this depth? -/
def flatF : Nat → Int → Bool
  | 0, r => !decide (hanV r = []) || decide ((splitV tableT r).2.2 = 0)
  | n + 1, r => !decide (hanV r = []) ||
      (if (splitV tableT r).2.2 = 2 then flatF n (splitV tableT r).1 && flatF n (splitV tableT r).2.1
        else if (splitV tableT r).2.2 = 1 then flatF n (splitV tableT r).1 else true)
@[irreducible] def apV (r : Int) : List Int := apF 3 r
def atom (e : Int) : Prop := hanV e = [] ∧ (splitV tableT e).2.2 = 0
def atomB (e : Int) : Bool := decide (hanV e = []) && decide ((splitV tableT e).2.2 = 0)
theorem atom_of {e : Int} (h : atomB e = true) : atom e := by simpa [atomB, atom] using h
def inR32 (e : Int) : Bool := decide (-2147483648 ≤ e) && decide (e ≤ 2147483647)

theorem split_none {r : Int} (h : ∀ p ∈ tableT, p.1 ≠ r) : splitV tableT r = (0, 0, 0) := by unfold splitV; rw [find_none h]
theorem key_or (r : Int) : (∃ p ∈ tableT, p.1 = r) ∨ splitV tableT r = (0, 0, 0) := by
  by_cases h : ∃ p ∈ tableT, p.1 = r
  · exact .inl h
  · exact .inr (split_none fun p hp e => h ⟨p, hp, e⟩)
/-- All the table's parts. -/
def partsL : List Int := [0, 59, 65, 66, 67, 68, 69, 70, 71, 72, 73, 74, 75, 76, 77, 78, 79, 80, 82, 83, 84, 85, 86, 87, 88, 89, 90, 97, 98, 99, 100, 101, 102, 103, 104, 105, 106, 107, 108, 109, 110, 111, 112, 114, 115, 116, 117, 118, 119, 120, 121, 122, 183, 194, 196, 197, 198, 202, 212, 213, 214, 216, 220, 226, 228, 230, 234, 244, 245, 246, 248, 252, 258, 259, 274, 275, 332, 333, 416, 417, 431, 432, 439, 658, 697, 768, 769, 770, 771, 772, 774, 775, 776, 777, 778, 779, 780, 787, 788, 795, 803, 807, 808, 817, 834, 837, 913, 917, 919, 921, 927, 933, 937, 940, 942, 945, 949, 951, 953, 959, 961, 965, 969, 970, 971, 974, 1030, 1040, 1043, 1045, 1046, 1047, 1048, 1050, 1054, 1059, 1063, 1067, 1069, 1072, 1075, 1077, 1078, 1079, 1080, 1082, 1086, 1091, 1095, 1099, 1101, 1110, 1463, 1464, 1488, 1575, 1608, 1610, 1619, 1620, 1621, 7840, 7841, 7864, 7865, 7884, 7885, 8118, 8134, 8182, 12363, 12365, 12367, 12369, 12371, 12373, 12375, 12377, 12379, 12381, 12383, 12385, 12388, 12390, 12392, 12399, 12402, 12405, 12408, 12411, 12441, 12442, 12454, 12459, 12461, 12463, 12465, 12467, 12469, 12471, 12473, 12475, 12477, 12479, 12481, 12484, 12486, 12488, 12495, 12498, 12501, 12504, 12507]
def inL (a : Int) : List Int → Bool
  | [] => false
  | b :: l => if a = b then true else inL a l
theorem inL_mem {a : Int} : ∀ {l : List Int}, inL a l = true → a ∈ l
  | [], h => by cases h
  | b :: l, h => by
    unfold inL at h
    split at h
    · rename_i e; subst e; simp
    · exact List.mem_cons_of_mem _ (inL_mem h)
def oneP (a : Int) : Bool := !(tableT.any fun q => decide (q.1 = a))
def okPart (a : Int) : Bool := match tableT.find? (fun q => decide (q.1 = a)) with
  | none => true
  | some q => oneP q.2.1 && oneP q.2.2.1
theorem parts_in : tableT.all (fun p => inL p.2.1 partsL && inL p.2.2.1 partsL) = true := by decide +kernel
theorem parts_ok : partsL.all okPart = true := by decide +kernel
theorem parts_range : partsL.all inR32 = true := by decide +kernel
def okKey (p : P4) : Bool := decide (p.1 < 4352 ∨ 4607 < p.1) && decide (p.1 < 44032 ∨ 55204 ≤ p.1)
theorem keys_ok : tableT.all okKey = true := by decide +kernel
theorem oneP_none {a : Int} (h : oneP a = true) : splitV tableT a = (0, 0, 0) := by
  refine split_none fun p hp e => ?_
  unfold oneP at h
  simp only [Bool.not_eq_true', List.any_eq_false, decide_eq_true_eq] at h
  exact h p hp e
theorem flat_none {r : Int} (h : (splitV tableT r).2.2 = 0) : ∀ n, flatF n r = true
  | 0 => by simp [flatF, h]
  | n + 1 => by simp [flatF, h]
theorem flat_part {a : Int} (h : a ∈ partsL) : flatF 2 a = true := by
  have hp := List.all_eq_true.1 parts_ok a h
  unfold okPart at hp
  show (!decide (hanV a = []) || _) = true
  unfold splitV
  split at hp
  · rename_i hf
    rw [hf]; simp
  · rename_i q hf
    rw [hf]
    simp only [Bool.and_eq_true] at hp
    have h1 := flat_none (by rw [oneP_none hp.1]) 1
    have h2 := flat_none (by rw [oneP_none hp.2]) 1
    by_cases hz : q.2.2.1 = 0
    · simp [hz, h1]
    · simp [hz, h1, h2]
theorem row_ok {p : P4} (hp : p ∈ tableT) : (flatF 2 p.2.1 = true ∧ (p.2.2.1 = 0 ∨ flatF 2 p.2.2.1 = true)) ∧ (p.1 < 4352 ∨ 4607 < p.1) ∧ (p.1 < 44032 ∨ 55204 ≤ p.1) ∧ inR32 p.2.1 = true ∧ inR32 p.2.2.1 = true := by
  have h1 := List.all_eq_true.1 parts_in p hp
  have h2 := List.all_eq_true.1 keys_ok p hp
  simp only [okKey, Bool.and_eq_true, decide_eq_true_eq] at h1 h2
  have a := inL_mem h1.1
  have b := inL_mem h1.2
  exact ⟨⟨flat_part a, .inr (flat_part b)⟩, h2.1, h2.2, List.all_eq_true.1 parts_range _ a, List.all_eq_true.1 parts_range _ b⟩
theorem split_row {p : P4} (hp : p ∈ tableT) : splitV tableT p.1 = if p.2.2.1 = 0 then (p.2.1, 0, 1) else (p.2.1, p.2.2.1, 2) := by
  unfold splitV
  rw [find_of table_rising hp rfl]
theorem flat_all (r : Int) : flatF 3 r = true := by
  rcases key_or r with ⟨p, hp, rfl⟩ | h
  · have h1 := (row_ok hp).1
    show (!decide (hanV p.1 = []) || _) = true
    rw [split_row hp]
    by_cases hz : p.2.2.1 = 0
    · rw [if_pos hz]
      simp [h1.1]
    · rw [if_neg hz]
      simp [h1.1, h1.2.resolve_left hz]
  · exact flat_none (by rw [h]) 3
theorem ap_none {r : Int} (h : hanV r = []) (hs : (splitV tableT r).2.2 = 0) : ∀ n, apF n r = [r]
  | 0 => by simp [apF, h]
  | n + 1 => by simp [apF, h, hs]
theorem ap_han {r : Int} (h : hanV r ≠ []) : ∀ n, apF n r = hanV r
  | 0 => by simp [apF, h]
  | n + 1 => by simp [apF, h]
theorem ap_atom {e : Int} (h : atom e) : apV e = [e] := by unfold apV; exact ap_none h.1 h.2 3
theorem jamo_atom {e : Int} (h1 : 4352 ≤ e) (h2 : e ≤ 4607) : atom e := by
  refine ⟨hanV_none (by omega), ?_⟩
  rw [split_none]
  rintro p hp rfl
  have := (row_ok hp).2.1
  omega
theorem han_mem {r e : Int} (he : e ∈ hanV r) : 4352 ≤ e ∧ e ≤ 4607 := by
  unfold hanV at he
  split at he
  · split at he <;> simp at he <;> omega
  · simp at he
theorem split_range (r : Int) : (-2147483648 ≤ (splitV tableT r).1 ∧ (splitV tableT r).1 ≤ 2147483647) ∧ (-2147483648 ≤ (splitV tableT r).2.1 ∧ (splitV tableT r).2.1 ≤ 2147483647) := by
  rcases key_or r with ⟨p, hp, rfl⟩ | h
  · have := row_ok hp
    have a := this.2.2.2.1
    have b := this.2.2.2.2
    simp only [inR32, Bool.and_eq_true, decide_eq_true_eq] at a b
    rw [split_row hp]
    split
    · exact ⟨a, by simp⟩
    · exact ⟨a, b⟩
  · rw [h]; simp
theorem split_n (r : Int) : (splitV tableT r).2.2 = 0 ∨ (splitV tableT r).2.2 = 1 ∨ (splitV tableT r).2.2 = 2 := by
  unfold splitV
  split
  · exact .inl rfl
  · split
    · exact .inr (.inl rfl)
    · exact .inr (.inr rfl)
theorem apF_mem : ∀ (n : Nat) (r e : Int), flatF n r = true → e ∈ apF n r → atom e
  | 0, r, e, hf, he => by
    simp only [apF] at he
    split at he
    · rename_i hh
      simp at he
      subst he
      exact ⟨hh, by simpa [flatF, hh] using hf⟩
    · have := han_mem he
      exact jamo_atom this.1 this.2
  | n + 1, r, e, hf, he => by
    simp only [apF] at he
    split at he
    · rename_i hh
      simp only [flatF, hh, decide_true, Bool.not_true, Bool.false_or] at hf
      split at he
      · rename_i h2
        rw [if_pos h2] at hf
        simp only [Bool.and_eq_true] at hf
        rcases List.mem_append.1 he with he | he
        · exact apF_mem n _ e hf.1 he
        · exact apF_mem n _ e hf.2 he
      · rename_i h2
        rw [if_neg h2] at hf
        split at he
        · rename_i h1
          rw [if_pos h1] at hf
          exact apF_mem n _ e hf he
        · rename_i h1
          simp at he
          subst he
          refine ⟨hh, ?_⟩
          rcases split_n e with h | h | h
          · exact h
          · exact absurd h h1
          · exact absurd h h2
    · have := han_mem he
      exact jamo_atom this.1 this.2
theorem apF_range : ∀ (n : Nat) (r e : Int), -2147483648 ≤ r → r ≤ 2147483647 → e ∈ apF n r → -2147483648 ≤ e ∧ e ≤ 2147483647
  | 0, r, e, h1, h2, he => by
    simp only [apF] at he
    split at he
    · simp at he; subst he; exact ⟨h1, h2⟩
    · have := han_mem he; omega
  | n + 1, r, e, h1, h2, he => by
    have hs := split_range r
    simp only [apF] at he
    split at he
    · split at he
      · rcases List.mem_append.1 he with he | he
        · exact apF_range n _ e hs.1.1 hs.1.2 he
        · exact apF_range n _ e hs.2.1 hs.2.2 he
      · split at he
        · exact apF_range n _ e hs.1.1 hs.1.2 he
        · simp at he; subst he; exact ⟨h1, h2⟩
    · have := han_mem he; omega
theorem apF_ne : ∀ (n : Nat) (r : Int), apF n r ≠ []
  | 0, r => by
    simp only [apF]
    split
    · simp
    · assumption
  | n + 1, r => by
    simp only [apF]
    split
    · split
      · exact fun h => apF_ne n _ (List.append_eq_nil_iff.1 h).1
      · split
        · exact apF_ne n _
        · simp
    · assumption
theorem apF_more : ∀ (n : Nat) (r : Int), flatF n r = true → apF (n + 1) r = apF n r
  | 0, r, hf => by
    by_cases hh : hanV r = []
    · have hs : (splitV tableT r).2.2 = 0 := by simpa [flatF, hh] using hf
      rw [ap_none hh hs, ap_none hh hs]
    · rw [ap_han hh, ap_han hh]
  | n + 1, r, hf => by
    by_cases hh : hanV r = []
    · simp only [flatF, hh, decide_true, Bool.not_true, Bool.false_or] at hf
      rw [apF, if_pos hh]
      conv => rhs; rw [apF, if_pos hh]
      split
      · rename_i h2
        rw [if_pos h2] at hf
        simp only [Bool.and_eq_true] at hf
        rw [apF_more n _ hf.1, apF_more n _ hf.2]
      · rename_i h2
        rw [if_neg h2] at hf
        split
        · rename_i h1
          rw [if_pos h1] at hf
          rw [apF_more n _ hf]
        · rfl
    · rw [ap_han hh, ap_han hh]
theorem ap_mem {r e : Int} (he : e ∈ apV r) : atom e := by unfold apV at he; exact apF_mem 3 r e (flat_all r) he
theorem ap_range {r e : Int} (h1 : -2147483648 ≤ r) (h2 : r ≤ 2147483647) (he : e ∈ apV r) : -2147483648 ≤ e ∧ e ≤ 2147483647 := by unfold apV at he; exact apF_range 3 r e h1 h2 he
theorem ap_ne (r : Int) : apV r ≠ [] := by unfold apV; exact apF_ne 3 r
theorem apF_len : ∀ n r, (apF n r).length ≤ 3 * 2 ^ n := by
  have hh : ∀ r, (hanV r).length ≤ 3 := fun r => by
    unfold hanV
    split
    · split <;> simp
    · simp
  intro n
  induction n with
  | zero =>
    intro r
    simp only [apF]
    split
    · simp
    · exact hh r
  | succ n ih =>
    intro r
    simp only [apF]
    have a := ih (splitV tableT r).1
    have b := ih (splitV tableT r).2.1
    have p : 1 ≤ 2 ^ n := Nat.one_le_two_pow
    split
    · split
      · rw [List.length_append]; omega
      · split
        · omega
        · simp; omega
    · have := hh r; omega
theorem ap_len (r : Int) : (apV r).length ≤ 24 := by unfold apV; exact apF_len 3 r

/-- The classes. -/
theorem k_zero {r lo hi : Int} (h1 : lo ≤ r) (h2 : r ≤ hi) (hs : ∀ x ∈ spansL, x.2.1 < lo ∨ hi < x.1) : kOf r = 0 := by
  have key : ∀ l : List (Int × Int × Int × Int), (∀ x ∈ l, x.2.1 < lo ∨ hi < x.1) → classL r l = 0 := by
    intro l
    induction l with
    | nil => intro _; rfl
    | cons x l ih =>
      intro h
      have := h x (by simp)
      show (if x.1 ≤ r ∧ r ≤ x.2.1 then _ else classL r l) = 0
      rw [if_neg (by omega)]
      exact ih fun y hy => h y (by simp [hy])
  unfold kOf classV
  exact key _ hs
theorem k_jamo {r : Int} (h1 : 4352 ≤ r) (h2 : r ≤ 4607) : kOf r = 0 := k_zero h1 h2 (by decide +kernel)
theorem k_syl {r : Int} (h1 : 44032 ≤ r) (h2 : r < 55204) : kOf r = 0 := k_zero (hi := 55203) h1 (by omega) (by decide +kernel)
theorem k_nonneg (r : Int) : 0 ≤ kOf r := by unfold kOf; exact (classV_bound r).1

/-- How the reference splits those that are not joined: into how many. -/
def refN (r : Int) : Int := if r = 832 ∨ r = 833 ∨ r = 835 ∨ r = 884 ∨ r = 894 ∨ r = 903 ∨ r = 8486 ∨ r = 8490 ∨ r = 8491 then 1 else if r = 836 ∨ r = 64302 ∨ r = 64303 then 2 else 0
theorem refN_atom {e : Int} (h : atom e) : refN e = 0 := by
  have key : ∀ r ∈ ([832, 833, 835, 884, 894, 903, 8486, 8490, 8491, 836, 64302, 64303] : List Int), (splitV tableT r).2.2 ≠ 0 := by decide +kernel
  unfold refN
  have h2 := h.2
  split
  · rename_i hr
    exact absurd h2 (key e (by simp; omega))
  · split
    · rename_i hr
      exact absurd h2 (key e (by simp; omega))
    · rfl
def okMark (p : P4) : Bool := decide (classV p.1 = 0) || decide (refN p.1 ≠ 0)
theorem marks_ok : tableT.all okMark = true := by decide +kernel
theorem mark_atom {m : Int} (hk : 0 < kOf m) (hn : refN m = 0) : atom m := by
  constructor
  · refine hanV_none fun h => ?_
    have := k_syl h.1 h.2
    omega
  · rcases key_or m with ⟨p, hp, rfl⟩ | h
    · have := List.all_eq_true.1 marks_ok p hp
      simp [okMark, hn] at this
      unfold kOf at hk
      omega
    · rw [h]

/-- Order. -/
theorem order_starter : ∀ (A acc R : List Int) (b : Int), ¬ 0 < kOf b → orderA acc (A ++ b :: R) = orderA acc A ++ b :: orderA [] R
  | [], acc, R, b, h => by
    have e : orderA acc (b :: R) = sortK kOf acc ++ b :: orderA [] R := by rw [orderA, if_neg h]
    exact e
  | y :: A, acc, R, b, h => by
    show orderA acc (y :: (A ++ b :: R)) = _
    rw [orderA, orderA]
    split
    · exact order_starter A _ R b h
    · rw [order_starter A [] R b h]; simp
theorem sortK_twice (l : List Int) : sortK kOf (sortK kOf l) = sortK kOf l := (sortK_of (Keeps.refl _) (sortK_ok l).2).symm
theorem sortK_pos {l : List Int} (h : ∀ x ∈ l, 0 < kOf x) : ∀ x ∈ sortK kOf l, 0 < kOf x := fun x hx => h x ((sortK_ok l).1.mem.1 hx)
/-- What is ahead of the last run is done; the last run is sorted with what follows. -/
theorem order_parts : ∀ (X acc : List Int), (∀ x ∈ acc, 0 < kOf x) → ∃ P S, (∀ x ∈ S, 0 < kOf x) ∧ (∀ Y, orderA acc (X ++ Y) = P ++ orderA S Y) ∧ ∀ Y, orderA [] (P ++ (sortK kOf S ++ Y)) = P ++ orderA S Y
  | [], acc, h => ⟨[], acc, h, fun Y => rfl, fun Y => by
    rw [List.nil_append, orderA_run _ _ _ (sortK_pos h), List.nil_append]
    exact orderA_keeps Y _ _ (fun c => ((sortK_ok (k := kOf) acc).1 c).symm)⟩
  | y :: X, acc, h => by
    by_cases hy : 0 < kOf y
    · obtain ⟨P, S, h1, h2, h3⟩ := order_parts X (acc ++ [y]) (fun x hx => by
        rcases List.mem_append.1 hx with hx | hx
        · exact h x hx
        · simp at hx; rw [hx]; exact hy)
      refine ⟨P, S, h1, fun Y => ?_, h3⟩
      show orderA acc (y :: (X ++ Y)) = _
      rw [orderA, if_pos hy, h2]
    · obtain ⟨P, S, h1, h2, h3⟩ := order_parts X [] (by simp)
      refine ⟨sortK kOf acc ++ y :: P, S, h1, fun Y => ?_, fun Y => ?_⟩
      · show orderA acc (y :: (X ++ Y)) = _
        rw [orderA, if_neg hy, h2]; simp
      · rw [List.append_assoc, List.cons_append, order_starter _ _ _ _ hy, h3]
        have := orderA_run (sortK kOf acc) [] [] (sortK_pos h)
        rw [List.append_nil] at this
        rw [this, List.nil_append]
        show sortK kOf (sortK kOf acc) ++ _ = _
        rw [sortK_twice]; simp
theorem orderV_more (X Y : List Int) : orderV (orderV X ++ Y) = orderV (X ++ Y) := by
  obtain ⟨P, S, h1, h2, h3⟩ := order_parts X [] (by simp)
  have e := h2 []
  rw [List.append_nil] at e
  unfold orderV
  rw [e, h2 Y]
  show orderA [] (P ++ sortK kOf S ++ Y) = _
  rw [List.append_assoc, h3]
theorem orderV_twice (X : List Int) : orderV (orderV X) = orderV X := by
  have := orderV_more X []
  simpa using this
theorem orderA_mem : ∀ (X acc : List Int) (x : Int), x ∈ orderA acc X ↔ x ∈ acc ∨ x ∈ X
  | [], acc, x => by
    show x ∈ sortK kOf acc ↔ _
    rw [(sortK_ok (k := kOf) acc).1.mem]; simp
  | y :: X, acc, x => by
    rw [orderA]
    split
    · rw [orderA_mem X]; simp; exact or_assoc
    · rw [List.mem_append, (sortK_ok (k := kOf) acc).1.mem, List.mem_cons, orderA_mem X]; simp
theorem orderV_mem (X : List Int) (x : Int) : x ∈ orderV X ↔ x ∈ X := by unfold orderV; rw [orderA_mem]; simp
theorem orderA_len : ∀ (X acc : List Int), (orderA acc X).length = acc.length + X.length
  | [], acc => by
    show (sortK kOf acc).length = _
    rw [(sortK_ok (k := kOf) acc).1.length]; rfl
  | y :: X, acc => by
    rw [orderA]
    split
    · rw [orderA_len X]; simp; omega
    · rw [List.length_append, (sortK_ok (k := kOf) acc).1.length, List.length_cons, orderA_len X]; simp
theorem orderV_len (X : List Int) : (orderV X).length = X.length := by unfold orderV; rw [orderA_len]; simp

/-- Good lists. -/
theorem good_append : ∀ (A : List Int) (R : List Int), Look.Good A → Look.Good R → (∀ z s y r, A = s ++ [z] → R = y :: r → ¬ (0 < kOf y ∧ kOf y < kOf z)) → Look.Good (A ++ R)
  | [], R, _, h2, _ => h2
  | [x], [], _, _, _ => trivial
  | [x], y :: R, _, h2, h3 => ⟨h3 x [] y R rfl rfl, h2⟩
  | x :: y :: A, R, h1, h2, h3 => ⟨h1.1, good_append (y :: A) R h1.2 h2 fun z s a r e1 e2 => h3 z (x :: s) a r (by rw [e1]; rfl) e2⟩
theorem good_asc : ∀ l : List Int, Asc kOf l → Look.Good l
  | [], _ => trivial
  | [_], _ => trivial
  | x :: y :: r, h => by
    have h1 := List.pairwise_cons.1 h
    exact ⟨fun hh => by have := h1.1 y (by simp); omega, good_asc (y :: r) h1.2⟩
theorem good_orderA : ∀ (X acc : List Int), Look.Good (orderA acc X)
  | [], acc => good_asc _ (sortK_ok acc).2
  | y :: X, acc => by
    rw [orderA]
    split
    · exact good_orderA X _
    · rename_i hy
      refine good_append _ _ (good_asc _ (sortK_ok acc).2) ?_ fun z s a r e1 e2 hh => ?_
      · have := good_append [y] (orderA [] X) trivial (good_orderA X []) fun z s a r e1 e2 hh => by
          have : z = y := by
            have := (List.append_inj' (s₁ := []) e1 rfl).2
            simpa using this.symm
          subst this
          have := k_nonneg z
          omega
        exact this
      · injection e2 with e2 _
        subst e2
        exact hy hh.1
theorem good_of_orderV (X : List Int) : Look.Good (orderV X) := good_orderA X []
theorem good_at : ∀ (l : List Int), Look.Good l → ∀ i x y, l[i]? = some x → l[i + 1]? = some y → ¬ (0 < kOf y ∧ kOf y < kOf x)
  | [], _, i, x, y, h, _ => by simp at h
  | [a], _, i, x, y, h, h2 => by simp at h2
  | a :: b :: r, h, 0, x, y, h1, h2 => by simp at h1 h2; subst h1 h2; exact h.1
  | a :: b :: r, h, i + 1, x, y, h1, h2 => good_at (b :: r) h.2 i x y (by simpa using h1) (by simpa using h2)
theorem good_left : ∀ (A B : List Int), Look.Good (A ++ B) → Look.Good A
  | [], _, _ => trivial
  | [_], _, _ => trivial
  | x :: y :: A, B, h => ⟨h.1, good_left (y :: A) B h.2⟩

/-- All of them taken apart. -/
def nfdV (l : List Int) : List Int := orderV (l.flatMap apV)
theorem flat_atoms : ∀ l : List Int, (∀ e ∈ l, atom e) → l.flatMap apV = l
  | [], _ => rfl
  | x :: l, h => by
    rw [List.flatMap_cons, ap_atom (h x (by simp)), flat_atoms l fun e he => h e (by simp [he])]; rfl
theorem nfd_atoms {l : List Int} {e : Int} (he : e ∈ nfdV l) : atom e := by
  unfold nfdV at he
  rw [orderV_mem] at he
  obtain ⟨r, _, hr⟩ := List.mem_flatMap.1 he
  exact ap_mem hr
theorem nfd_range {l : List Int} (hl : ∀ x ∈ l, -2147483648 ≤ x ∧ x ≤ 2147483647) : ∀ e ∈ nfdV l, -2147483648 ≤ e ∧ e ≤ 2147483647 := by
  intro e he
  unfold nfdV at he
  rw [orderV_mem] at he
  obtain ⟨r, h, hr⟩ := List.mem_flatMap.1 he
  exact ap_range (hl r h).1 (hl r h).2 hr
theorem flat_len : ∀ l : List Int, l.length ≤ (l.flatMap apV).length ∧ (l.flatMap apV).length ≤ 24 * l.length
  | [] => by simp
  | x :: l => by
    have h := flat_len l
    have h1 := ap_len x
    have h2 : 0 < (apV x).length := List.length_pos_iff.2 (ap_ne x)
    simp only [List.flatMap_cons, List.length_append, List.length_cons]
    omega
theorem nfd_len (l : List Int) : l.length ≤ (nfdV l).length ∧ (nfdV l).length ≤ 24 * l.length := by
  unfold nfdV
  rw [orderV_len]
  exact flat_len l
theorem nfd_good (l : List Int) : Look.Good (nfdV l) := good_of_orderV _
theorem nfd_twice (l : List Int) : nfdV (nfdV l) = nfdV l := by
  have h := flat_atoms (nfdV l) fun e he => nfd_atoms he
  show orderV ((nfdV l).flatMap apV) = _
  rw [h]
  exact orderV_twice _
/-- Two texts, the second one beginning with a starter. -/
theorem orderA_head : ∀ (R acc : List Int), (∀ x ∈ acc, 0 < kOf x) → acc ≠ [] → ∃ y r, orderA acc R = y :: r ∧ 0 < kOf y
  | [], acc, h, hn => by
    show ∃ y r, sortK kOf acc = y :: r ∧ _
    cases hs : sortK kOf acc with
    | nil => have := (sortK_ok (k := kOf) acc).1.length; rw [hs] at this; exact absurd (List.eq_nil_of_length_eq_zero this.symm) hn
    | cons y r => exact ⟨y, r, rfl, sortK_pos h y (by rw [hs]; simp)⟩
  | y :: R, acc, h, hn => by
    rw [orderA]
    split
    · rename_i hy
      exact orderA_head R _ (fun x hx => by
        rcases List.mem_append.1 hx with hx | hx
        · exact h x hx
        · simp at hx; rw [hx]; exact hy) (by simp)
    · cases hs : sortK kOf acc with
      | nil => have := (sortK_ok (k := kOf) acc).1.length; rw [hs] at this; exact absurd (List.eq_nil_of_length_eq_zero this.symm) hn
      | cons z r => exact ⟨z, _, rfl, sortK_pos h z (by rw [hs]; simp)⟩
theorem nfd_joins (a b : List Int) (y : Int) (r : List Int) (hy : nfdV b = y :: r) (hk : ¬ 0 < kOf y) : nfdV (a ++ b) = nfdV a ++ nfdV b := by
  unfold nfdV at hy ⊢
  rw [List.flatMap_append]
  cases hb : b.flatMap apV with
  | nil => simp [orderV, orderA, sortK]
  | cons z R =>
    rw [hb] at hy
    by_cases hz : 0 < kOf z
    · exfalso
      unfold orderV at hy
      rw [orderA, if_pos hz] at hy
      obtain ⟨y', r', h1, h2⟩ := orderA_head R ([] ++ [z]) (by simpa using hz) (by simp)
      rw [h1] at hy
      injection hy with h3 _
      subst h3
      exact hk h2
    · unfold orderV
      rw [order_starter _ _ _ _ hz]
      have := order_starter [] [] R z hz
      simp only [List.nil_append] at this
      rw [this]
      rfl

/-- Two marks change about. -/
theorem orderV_swap (A Q : List Int) (x y : Int) (hx : 0 < kOf x) (hy : 0 < kOf y) (hn : kOf x ≠ kOf y) : orderV (A ++ x :: y :: Q) = orderV (A ++ y :: x :: Q) := by
  unfold orderV
  rcases Int.lt_or_gt_of_ne hn with h | h
  · exact (orderA_swap A [] Q y x hx h).symm
  · exact orderA_swap A [] Q x y hy h
theorem nfd_swap (A Q : List Int) (x y : Int) (hx : 0 < kOf x) (hy : 0 < kOf y) (nx : refN x = 0) (ny : refN y = 0) (hn : kOf x ≠ kOf y) : nfdV (A ++ x :: y :: Q) = nfdV (A ++ y :: x :: Q) := by
  unfold nfdV
  have ax := ap_atom (mark_atom hx nx)
  have ay := ap_atom (mark_atom hy ny)
  simp only [List.flatMap_append, List.flatMap_cons, ax, ay]
  exact orderV_swap _ _ x y hx hy hn
theorem nfd_parts (base : Int) : ∃ P S, ∀ M : List Int, (∀ m ∈ M, 0 < kOf m ∧ refN m = 0) → nfdV (base :: M) = P ++ sortK kOf (S ++ M) := by
  obtain ⟨P, S, h1, h2, h3⟩ := order_parts (apV base) [] (by simp)
  refine ⟨P, S, fun M hM => ?_⟩
  unfold nfdV orderV
  rw [List.flatMap_cons, flat_atoms M fun e he => mark_atom (hM e he).1 (hM e he).2, h2]
  have := orderA_run M S [] fun e he => (hM e he).1
  rw [List.append_nil] at this
  rw [this]
  rfl
theorem nfd_moves (base x y : Int) (A Q : List Int) (hM : ∀ m ∈ A ++ x :: y :: Q, 0 < kOf m ∧ refN m = 0) (hk : kOf x = kOf y) (he : nfdV (base :: (A ++ x :: y :: Q)) = nfdV (base :: (A ++ y :: x :: Q))) : x = y := by
  obtain ⟨P, S, h⟩ := nfd_parts base
  rw [h _ hM, h (A ++ y :: x :: Q) (fun m hm => hM m (by simp at hm ⊢; rcases hm with h | h | h | h <;> simp [h]))] at he
  have e := List.append_cancel_left he
  have k1 := (sortK_ok (k := kOf) (S ++ (A ++ x :: y :: Q))).1 (kOf x)
  have k2 := (sortK_ok (k := kOf) (S ++ (A ++ y :: x :: Q))).1 (kOf x)
  rw [e, k2] at k1
  have p1 : ofKey kOf (kOf x) (x :: y :: Q) = x :: y :: ofKey kOf (kOf x) Q := by simp [ofKey, hk]
  have p2 : ofKey kOf (kOf x) (y :: x :: Q) = y :: x :: ofKey kOf (kOf x) Q := by simp [ofKey, hk]
  rw [ofKey_append, ofKey_append, ofKey_append, ofKey_append, p1, p2] at k1
  have := List.append_cancel_left (List.append_cancel_left k1)
  injection this with a _
  exact a.symm
end Go.Proofs.YtkadmnabhoijdaaDoor.Nfd
