/- class.Mark: which characters are marks. -/
import Derived.Great.BuildSlice
import Derived.WalkKit
import Derived.Deep.LoopGhost
import Derived.Lib.Hide
import Derived.Lib.SmallJoins
import Derived.Test.YtemhfcgkfdklhaaGreatDoorEachP
set_option linter.unusedVariables false
namespace Go.Proofs.YtemhfcgkfdklhaaGreatDoor.Look
open Go Go.RowKit Go.Shelf Go.Proofs

def spans2L : List (Int × Int × Int × Int) := [(768, 788, 230, 0), (789, 789, 232, 0), (790, 793, 220, 0), (794, 794, 232, 0), (795, 795, 216, 0), (796, 800, 220, 0), (801, 802, 202, 0), (803, 806, 220, 0), (807, 808, 202, 0), (809, 819, 220, 0), (820, 824, 1, 0), (825, 828, 220, 0), (829, 836, 230, 0), (837, 837, 240, 0), (838, 838, 230, 0), (839, 841, 220, 0), (842, 844, 230, 0), (845, 846, 220, 0), (848, 850, 230, 0), (851, 854, 220, 0), (855, 855, 230, 0), (859, 859, 230, 0), (860, 860, 233, 0), (861, 862, 234, 0), (863, 863, 233, 0), (864, 865, 234, 0), (866, 866, 233, 0), (867, 879, 230, 0), (1456, 1464, 10, 1), (1465, 1466, 19, 0), (1467, 1467, 20, 0), (1468, 1468, 21, 0), (1469, 1469, 22, 0), (1471, 1471, 23, 0), (1473, 1473, 24, 0), (1474, 1474, 25, 0), (1611, 1618, 27, 1), (1619, 1620, 230, 0), (1621, 1622, 220, 0), (1648, 1648, 35, 0), (12441, 12442, 8, 0), (64286, 64286, 26, 0), (65056, 65059, 230, 0)]
def rows2V (l : List (Int × Int × Int × Int)) : List Value := l.flatMap fun x => [.int .i32 x.1, .int .i32 x.2.1, .int .i64 x.2.2.1, .int .i64 x.2.2.2]

theorem i47 : (Tryz.prog.info? 151).map (fun i => (i.zero, i.size, i.bytes)) = some (some (.agg #[.int .i32 0, .int .i32 0, .int .i64 0, .int .i64 0]), 4, 24) := by kernel_rfl

set_option maxHeartbeats 8000000 in
set_option maxRecDepth 1000000 in
theorem spans2 (w : World) : Calls Tryz.prog 98 #[] w fun e w' => e = .returned (.slice (some ⟨w.heap.size, 0, none⟩) 43 43) ∧ w' = w.alloc (.cells (rows2V spans2L).toArray 151) := by
  obtain ⟨ie, hi, hz, hs, _⟩ := info_parts i47
  go_enter Tryz.func98, Tryz.ntmps98
  go_wp2
  refine wp_buildSlice 148 151 43 _ rfl (rows2V spans2L).toArray ie _ (by kernel_rfl) hi hz (by rw [hs]; decide) (by rw [hs]; decide) (by rw [hs]; kernel_rfl) ?_
  simp only [Act.put]
  go_wp2
  go_ret
  exact ⟨rfl, rfl⟩

theorem rows2V_at : ∀ (l : List (Int × Int × Int × Int)) (i : Nat) (x : Int × Int × Int × Int), l[i]? = some x →
    (rows2V l)[i * 4]? = some (.int .i32 x.1) ∧ (rows2V l)[i * 4 + 1]? = some (.int .i32 x.2.1) ∧ (rows2V l)[i * 4 + 2]? = some (.int .i64 x.2.2.1) ∧ (rows2V l)[i * 4 + 3]? = some (.int .i64 x.2.2.2)
  | [], i, x, h => by simp at h
  | y :: t, 0, x, h => by
    simp at h
    subst h
    simp [rows2V]
  | y :: t, i + 1, x, h => by
    have ih := rows2V_at t i x (by simpa using h)
    have e : rows2V (y :: t) = .int .i32 y.1 :: .int .i32 y.2.1 :: .int .i64 y.2.2.1 :: .int .i64 y.2.2.2 :: rows2V t := by simp [rows2V]
    rw [e, show (i + 1) * 4 = i * 4 + 1 + 1 + 1 + 1 by omega, show i * 4 + 1 + 1 + 1 + 1 + 1 = i * 4 + 1 + 1 + 1 + 1 + 1 from rfl]
    refine ⟨by simpa using ih.1, ?_, ?_, ?_⟩
    · rw [show i * 4 + 1 + 1 + 1 + 1 + 1 = (i * 4 + 1) + 1 + 1 + 1 + 1 by omega]; simpa using ih.2.1
    · rw [show i * 4 + 1 + 1 + 1 + 1 + 2 = (i * 4 + 2) + 1 + 1 + 1 + 1 by omega]; simpa using ih.2.2.1
    · rw [show i * 4 + 1 + 1 + 1 + 1 + 3 = (i * 4 + 3) + 1 + 1 + 1 + 1 by omega]; simpa using ih.2.2.2

theorem spans2_bound : ∀ x ∈ spans2L, 0 ≤ x.1 ∧ x.1 ≤ x.2.1 ∧ x.2.1 ≤ 70000 ∧ 0 ≤ x.2.2.1 ∧ x.2.2.1 ≤ 255 ∧ 0 ≤ x.2.2.2 ∧ x.2.2.2 ≤ 1 := by decide +kernel

def classL (r : Int) : List (Int × Int × Int × Int) → Int
  | [] => 0
  | x :: l => if x.1 ≤ r ∧ r ≤ x.2.1 then x.2.2.1 + x.2.2.2 * (r - x.1) else classL r l
def classV (r : Int) : Int := classL r spans2L
def markV (r : Int) : Bool := decide (0 < classV r)
theorem classL_bound (r : Int) : ∀ l : List (Int × Int × Int × Int), (∀ x ∈ l, 0 ≤ x.2.2.1 ∧ x.2.2.1 ≤ 255 ∧ 0 ≤ x.2.2.2 ∧ x.2.2.2 ≤ 1 ∧ (x.2.2.2 = 1 → x.2.1 - x.1 ≤ 10)) → 0 ≤ classL r l ∧ classL r l ≤ 510
  | [], _ => by simp [classL]
  | x :: l, h => by
    unfold classL
    split
    · rename_i hx
      obtain ⟨b1, b2, b3, b4, b5⟩ := h x (.head _)
      have : x.2.2.2 = 0 ∨ x.2.2.2 = 1 := by omega
      rcases this with e | e
      · rw [e]; omega
      · have := b5 e; rw [e]; omega
    · exact classL_bound r l fun y hy => h y (.tail _ hy)
theorem classV_bound (r : Int) : 0 ≤ classV r ∧ classV r ≤ 510 := classL_bound r spans2L (by decide +kernel)

set_option maxHeartbeats 8000000 in
set_option maxRecDepth 1000000 in
theorem ofc (r : Int) (w : World) : Calls Tryz.prog 90 #[.int .i32 r] w fun e w' => e = .returned (.int .i64 (classV r)) ∧ Below w.heap.size w w' := by
  have hlen : spans2L.length = 43 := rfl
  unfold classV
  go_enter Tryz.func90, Tryz.ntmps90
  go_wp2_with (go_at_call 98; refine (spans2 _).mono ?_; rintro e w' ⟨rfl, rfl⟩)
  have hB2 : ∀ i x, spans2L[i]? = some x → ∀ W, Below (w.alloc (.cells (rows2V spans2L).toArray 151)).heap.size (w.alloc (.cells (rows2V spans2L).toArray 151)) W → W.cell? ⟨w.heap.size, i * 4, none⟩ = some (.int .i32 x.1) ∧ W.cell? ⟨w.heap.size, i * 4 + 1, none⟩ = some (.int .i32 x.2.1) ∧ W.cell? ⟨w.heap.size, i * 4 + 2, none⟩ = some (.int .i64 x.2.2.1) ∧ W.cell? ⟨w.heap.size, i * 4 + 3, none⟩ = some (.int .i64 x.2.2.2) := fun i x h W hW => by
    obtain ⟨h1, h2, h3, h4⟩ := rows2V_at _ i x h
    have hs : w.heap.size < (w.alloc (.cells (rows2V spans2L).toArray 151)).heap.size := by simp
    have hn : W.heap[w.heap.size]? = some (.cells (rows2V spans2L).toArray 151) := (hW.block _ hs).trans (World.alloc_heap_new w _)
    simp only [World.cell?, hn]
    simp [h1, h2, h3, h4]
  have hg : Below w.heap.size w (w.alloc (.cells (rows2V spans2L).toArray 151)) := (Below.refl _ _).alloc (Nat.le_refl _) _
  generalize w.alloc (.cells (rows2V spans2L).toArray 151) = W0 at hB2 hg ⊢
  go_loopg [7] 43 (fun g1 vi wr => ∃ (i : Nat), vi = .int .i64 i ∧ i ≤ 43 ∧ 43 - i ≤ g1 ∧ classL r spans2L = classL r (spans2L.drop i) ∧ Aside (Below W0.heap.size W0 wr))
  case atStart => exact ⟨0, rfl, by omega, by omega, rfl, Below.refl _ _⟩
  case round =>
    obtain ⟨i, rfl, hi, hg1, hcl, HW⟩ := hrel
    have HW2 : ∀ o, Aside (Below W0.heap.size W0 (wr.alloc o)) := fun o => HW.out.alloc HW.out.size o
    have HW3 : ∀ o, Aside (Below w.heap.size w (wr.alloc o)) := fun o => hg.trans ((HW.out.alloc HW.out.size o).mono hg.size)
    by_cases hlt : i < 43
    · obtain ⟨x, hx⟩ : ∃ x, spans2L[i]? = some x := ⟨_, List.getElem?_eq_getElem (by omega)⟩
      obtain ⟨c0, c1, c2, c3⟩ := hB2 i x hx wr HW.out
      have hdrop : spans2L.drop i = x :: spans2L.drop (i + 1) := by
        obtain ⟨h, e⟩ := List.getElem?_eq_some_iff.1 hx
        rw [List.drop_eq_getElem_cons h, e]
      obtain ⟨b0, b1, b2, b3, b4, b5, b6⟩ := spans2_bound x (List.mem_of_getElem? hx)
      obtain ⟨x0, x1, x2, x3⟩ := x
      simp only at c0 c1 c2 c3 b0 b1 b2 b3 b4 b5 b6
      have hlz : (i : Int) < 43 := by omega
      rw [hdrop] at hcl
      clear hB2 hdrop hx hlen
      by_cases h0 : x0 ≤ r
      · by_cases h1 : r ≤ x1
        · have hv : classL r ((x0, x1, x2, x3) :: spans2L.drop (i + 1)) = x2 + x3 * (r - x0) := if_pos ⟨h0, h1⟩
          rw [hv] at hcl
          have hx3 : x3 = 0 ∨ x3 = 1 := by omega
          have hnum : wrap64 (x2 + wrap64 (x3 * (r - x0))) = x2 + x3 * (r - x0) := by
            have w64 : ∀ z : Int, 0 ≤ z → z < 1000000 → wrap64 z = z := fun z h1 h2 => by unfold wrap64; omega
            rcases hx3 with rfl | rfl
            · rw [Int.zero_mul, w64 0 (by omega) (by omega), w64 _ (by omega) (by omega)]
            · rw [Int.one_mul, w64 (r - x0) (by omega) (by omega), w64 _ (by omega) (by omega)]
          have HN : Aside (wrap64 (x2 + wrap64 (x3 * (r - x0))) = x2 + x3 * (r - x0)) := hnum
          go_wp2
          go_ret
          exact ⟨by rw [hcl, ← HN.out]; rfl, (HW3 _).out⟩
        · have hv : classL r ((x0, x1, x2, x3) :: spans2L.drop (i + 1)) = classL r (spans2L.drop (i + 1)) := if_neg fun h => h1 h.2
          rw [hv] at hcl
          have h1' : x1 < r := by omega
          go_wp2
          go_roundg (42 - i)
          case measure => omega
          case rel => exact ⟨i + 1, by first | rfl | go_num, by omega, by omega, hcl, HW2 _⟩
      · have hv : classL r ((x0, x1, x2, x3) :: spans2L.drop (i + 1)) = classL r (spans2L.drop (i + 1)) := if_neg fun h => h0 h.1
        rw [hv] at hcl
        have h1' : r < x0 := by omega
        go_wp2
        go_roundg (42 - i)
        case measure => omega
        case rel => exact ⟨i + 1, by first | rfl | go_num, by omega, by omega, hcl, HW2 _⟩
    · obtain rfl : i = 43 := by omega
      rw [List.drop_eq_nil_of_le (by omega)] at hcl
      go_wp2
      go_ret
      exact ⟨by rw [hcl]; rfl, hg.trans (HW.out.mono hg.size)⟩
set_option maxHeartbeats 8000000 in
set_option maxRecDepth 1000000 in
theorem mark (x : Int) (w : World) : Calls Tryz.prog 66 #[.int .i32 x] w fun e w' => e = .returned (.bool (markV x)) ∧ Below w.heap.size w w' := by
  obtain ⟨bx1, bx2⟩ := classV_bound x
  have H := fun W => ofc x W
  unfold markV
  generalize classV x = c at H bx1 bx2 ⊢
  go_enter Tryz.func66, Tryz.ntmps66
  go_wp2_with (go_at_call 90; refine (H _).mono ?_; rintro e w' ⟨rfl, hb⟩)
  go_ret
  exact ⟨rfl, hb⟩
end Go.Proofs.YtemhfcgkfdklhaaGreatDoor.Look
