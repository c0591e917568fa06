/- class.spans, and what a class is, in plain Lean. -/
import Derived.Test.YtkadmnabhoijdaaDoorCls
set_option linter.unusedVariables false
namespace Go.Proofs.YtkadmnabhoijdaaDoor.Look
open Go Go.RowKit Go.Shelf Go.Proofs

def spans2L : List (Int × Int × Int × Int) := [(768, 788, 230, 0), (789, 789, 232, 0), (790, 793, 220, 0), (794, 794, 232, 0), (795, 795, 216, 0), (796, 800, 220, 0), (801, 802, 202, 0), (803, 806, 220, 0), (807, 808, 202, 0), (809, 819, 220, 0), (820, 824, 1, 0), (825, 828, 220, 0), (829, 836, 230, 0), (837, 837, 240, 0), (838, 838, 230, 0), (839, 841, 220, 0), (842, 844, 230, 0), (845, 846, 220, 0), (848, 850, 230, 0), (851, 854, 220, 0), (855, 855, 230, 0), (859, 859, 230, 0), (860, 860, 233, 0), (861, 862, 234, 0), (863, 863, 233, 0), (864, 865, 234, 0), (866, 866, 233, 0), (867, 879, 230, 0), (1456, 1464, 10, 1), (1465, 1466, 19, 0), (1467, 1467, 20, 0), (1468, 1468, 21, 0), (1469, 1469, 22, 0), (1471, 1471, 23, 0), (1473, 1473, 24, 0), (1474, 1474, 25, 0), (1611, 1618, 27, 1), (1619, 1620, 230, 0), (1621, 1622, 220, 0), (1648, 1648, 35, 0), (12441, 12442, 8, 0), (64286, 64286, 26, 0), (65056, 65059, 230, 0)]
def rows2V (l : List (Int × Int × Int × Int)) : List Value := l.flatMap fun x => [.int .i32 x.1, .int .i32 x.2.1, .int .i64 x.2.2.1, .int .i64 x.2.2.2]

theorem i47 : (Tryd.prog.info? 47).map (fun i => (i.zero, i.size, i.bytes)) = some (some (.agg #[.int .i32 0, .int .i32 0, .int .i64 0, .int .i64 0]), 4, 24) := by kernel_rfl

set_option maxHeartbeats 8000000 in
set_option maxRecDepth 1000000 in
theorem spans2 (w : World) : Calls Tryd.prog 26 #[] w fun e w' => e = .returned (.slice (some ⟨w.heap.size, 0, none⟩) 43 43) ∧ w' = w.alloc (.cells (rows2V spans2L).toArray 47) := by
  obtain ⟨ie, hi, hz, hs, _⟩ := info_parts i47
  go_enter Tryd.func26, Tryd.ntmps26
  go_wp2
  refine wp_buildSlice 44 47 43 _ rfl (rows2V spans2L).toArray ie _ (by kernel_rfl) hi hz (by rw [hs]; decide) (by rw [hs]; decide) (by rw [hs]; kernel_rfl) ?_
  simp only [Act.put]
  go_wp2
  go_ret
  exact ⟨rfl, rfl⟩

theorem rows2V_at : ∀ (l : List (Int × Int × Int × Int)) (i : Nat) (x : Int × Int × Int × Int), l[i]? = some x →
    (rows2V l)[i * 4]? = some (.int .i32 x.1) ∧ (rows2V l)[i * 4 + 1]? = some (.int .i32 x.2.1) ∧ (rows2V l)[i * 4 + 2]? = some (.int .i64 x.2.2.1) ∧ (rows2V l)[i * 4 + 3]? = some (.int .i64 x.2.2.2)
  | [], i, x, h => by simp at h
  | y :: t, 0, x, h => by
    simp at h
    subst h
    simp [rows2V]
  | y :: t, i + 1, x, h => by
    have ih := rows2V_at t i x (by simpa using h)
    have e : rows2V (y :: t) = .int .i32 y.1 :: .int .i32 y.2.1 :: .int .i64 y.2.2.1 :: .int .i64 y.2.2.2 :: rows2V t := by simp [rows2V]
    rw [e, show (i + 1) * 4 = i * 4 + 1 + 1 + 1 + 1 by omega, show i * 4 + 1 + 1 + 1 + 1 + 1 = i * 4 + 1 + 1 + 1 + 1 + 1 from rfl]
    refine ⟨by simpa using ih.1, ?_, ?_, ?_⟩
    · rw [show i * 4 + 1 + 1 + 1 + 1 + 1 = (i * 4 + 1) + 1 + 1 + 1 + 1 by omega]; simpa using ih.2.1
    · rw [show i * 4 + 1 + 1 + 1 + 1 + 2 = (i * 4 + 2) + 1 + 1 + 1 + 1 by omega]; simpa using ih.2.2.1
    · rw [show i * 4 + 1 + 1 + 1 + 1 + 3 = (i * 4 + 3) + 1 + 1 + 1 + 1 by omega]; simpa using ih.2.2.2

theorem spans2_bound : ∀ x ∈ spans2L, 0 ≤ x.1 ∧ x.1 ≤ x.2.1 ∧ x.2.1 ≤ 70000 ∧ 0 ≤ x.2.2.1 ∧ x.2.2.1 ≤ 255 ∧ 0 ≤ x.2.2.2 ∧ x.2.2.2 ≤ 1 := by decide +kernel

/-- The first span that holds a rune gives its class. -/
def hits (r : Int) (x : Int × Int × Int × Int) : Bool := decide (x.1 ≤ r) && decide (r ≤ x.2.1)
def valOf (r : Int) (x : Int × Int × Int × Int) : Int := x.2.2.1 + x.2.2.2 * (r - x.1)
theorem classL_find (r : Int) : ∀ l, classL r l = ((l.find? (hits r)).map (valOf r)).getD 0
  | [] => rfl
  | x :: l => by
    unfold classL
    by_cases h : x.1 ≤ r ∧ r ≤ x.2.1
    · rw [if_pos h, List.find?_cons_of_pos (by simpa [hits] using h)]; rfl
    · rw [if_neg h, List.find?_cons_of_neg (by simpa [hits] using h), classL_find r l]
theorem spans_same : ∀ x ∈ spans2L, x ∈ spansL := by decide +kernel
theorem spans_same' : ∀ x ∈ spansL, x ∈ spans2L := by decide +kernel
theorem spans_apart : ∀ x ∈ spansL, ∀ y ∈ spansL, x = y ∨ x.2.1 < y.1 ∨ y.2.1 < x.1 := by decide +kernel
theorem class_same (r : Int) : classL r spans2L = classV r := by
  unfold classV
  rw [classL_find, classL_find]
  cases h2 : spans2L.find? (hits r) with
  | none =>
    have h1 : spansL.find? (hits r) = none := List.find?_eq_none.2 fun x hx => List.find?_eq_none.1 h2 x (spans_same' x hx)
    rw [h1]
  | some y =>
    have hy := List.find?_some h2
    have hym := spans_same y (List.mem_of_find?_eq_some h2)
    cases h1 : spansL.find? (hits r) with
    | none => exact absurd hy (List.find?_eq_none.1 h1 y hym)
    | some x =>
      have hx := List.find?_some h1
      have hxm := List.mem_of_find?_eq_some h1
      simp only [hits, Bool.and_eq_true, decide_eq_true_eq] at hx hy
      rcases spans_apart x hxm y hym with e | e | e
      · rw [e]
      · omega
      · omega
theorem classV_bound (r : Int) : 0 ≤ classV r ∧ classV r ≤ 255 + 255 := by
  unfold classV
  rw [classL_find]
  cases h : spansL.find? (hits r) with
  | none => simp
  | some x =>
    have hx := List.find?_some h
    have hxm := List.mem_of_find?_eq_some h
    have hb : ∀ x ∈ spansL, 0 ≤ x.2.2.1 ∧ x.2.2.1 ≤ 255 ∧ 0 ≤ x.2.2.2 ∧ x.2.2.2 ≤ 1 ∧ (x.2.2.2 = 1 → x.2.1 - x.1 ≤ 10) := by decide +kernel
    obtain ⟨b1, b2, b3, b4, b5⟩ := hb x hxm
    simp only [hits, Bool.and_eq_true, decide_eq_true_eq] at hx
    simp only [Option.map_some, Option.getD_some, valOf]
    have : x.2.2.2 = 0 ∨ x.2.2.2 = 1 := by omega
    rcases this with e | e
    · rw [e]; omega
    · have := b5 e; rw [e]; omega

end Go.Proofs.YtkadmnabhoijdaaDoor.Look
