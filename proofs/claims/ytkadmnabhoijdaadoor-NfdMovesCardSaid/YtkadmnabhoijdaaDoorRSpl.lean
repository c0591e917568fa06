/- amanuensisref03.Split and .Parts: into how many, and of what is no syllable. -/
import Derived.Test.YtkadmnabhoijdaaDoorAppS
set_option linter.unusedVariables false
namespace Go.Proofs.YtkadmnabhoijdaaDoor.Nfd
open Go Go.RowKit Go.Shelf Go.Proofs Go.Lib Go.Sort
open Go.Proofs.YtkadmnabhoijdaaDoor.Look Go.Proofs.YtkadmnabhoijdaaDoor.New

def keysA : List Int := [832, 833, 835, 836, 884, 894, 903, 8486, 8490, 8491, 64302, 64303]
set_option maxHeartbeats 4000000 in
set_option maxRecDepth 100000 in
theorem rsplit (r : Int) (w : World) : Calls Tryd.prog 13 #[.int .i32 r] w fun e w' => ∃ a b, e = .returned (.tuple #[.int .i32 a, .int .i32 b, .int .i64 (refN r)]) ∧ w = w' := by
  by_cases hk : r ∈ keysA
  · simp only [keysA, List.mem_cons, List.not_mem_nil, or_false] at hk
    rcases hk with rfl | rfl | rfl | rfl | rfl | rfl | rfl | rfl | rfl | rfl | rfl | rfl
    all_goals
      go_enter Tryd.func13, Tryd.ntmps13
      go_wp2
      go_ret3
      exact ⟨_, _, rfl, rfl⟩
  · have hn : refN r = 0 := by
      simp [keysA] at hk
      unfold refN
      rw [if_neg (by omega), if_neg (by omega)]
    rw [hn]
    simp only [keysA, List.mem_cons, List.not_mem_nil, or_false, not_or] at hk
    obtain ⟨h1, h2, h3, h4, h5, h6, h7, h8, h9, h10, h11, h12⟩ := hk
    have k1 : (r == 832) = false := by simpa using h1
    have k2 : (r == 833) = false := by simpa using h2
    have k3 : (r == 835) = false := by simpa using h3
    have k4 : (r == 836) = false := by simpa using h4
    have k5 : (r == 884) = false := by simpa using h5
    have k6 : (r == 894) = false := by simpa using h6
    have k7 : (r == 903) = false := by simpa using h7
    have k8 : (r == 8486) = false := by simpa using h8
    have k9 : (r == 8490) = false := by simpa using h9
    have k10 : (r == 8491) = false := by simpa using h10
    have k11 : (r == 64302) = false := by simpa using h11
    have k12 : (r == 64303) = false := by simpa using h12
    clear hn
    go_enter Tryd.func13, Tryd.ntmps13
    go_wp2
    go_ret3
    exact ⟨0, 0, rfl, rfl⟩
theorem refN_range (r : Int) : 0 ≤ refN r ∧ refN r ≤ 2 := by
  unfold refN
  split
  · omega
  · split <;> omega
/-- Two neighbours of a list. -/
theorem at_two {l : List Int} {k : Nat} (h : k + 1 < l.length) : ∃ A x y Q, l = A ++ x :: y :: Q ∧ A.length = k := by
  refine ⟨l.take k, l[k], l[k + 1], l.drop (k + 2), ?_, by simp; omega⟩
  rw [← List.drop_eq_getElem_cons (by omega), ← List.drop_eq_getElem_cons (by omega), List.take_append_drop]

theorem set_pair (x y : Int) (A Q : List Int) (k : Nat) (hA : A.length = k) : ((A ++ x :: y :: Q).set k y).set (k + 1) x = A ++ y :: x :: Q := by
  subst hA
  rw [List.set_append_right _ _ (Nat.le_refl _), Nat.sub_self, List.set_cons_zero, List.set_append_right _ _ (by omega), show A.length + 1 - A.length = 1 by omega, List.set_cons_succ, List.set_cons_zero]
end Go.Proofs.YtkadmnabhoijdaaDoor.Nfd
