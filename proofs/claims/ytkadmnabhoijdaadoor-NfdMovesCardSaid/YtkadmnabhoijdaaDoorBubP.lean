/- The reference's order in plain Lean: an exchange of neighbours that stand wrongly changes nothing of `orderV`, and lessens the inversions; a row with none is in order. -/
import Derived.Test.YtkadmnabhoijdaaDoorClsG
set_option linter.unusedVariables false
namespace Go.Proofs.YtkadmnabhoijdaaDoor.Look
open Go Go.RowKit Go.Shelf Go.Proofs Go.Lib Go.Sort
open Go.Proofs.YtkadmnabhoijdaaDoor.Stab

theorem orderA_keeps : ∀ (Q acc acc' : List Int), Keeps kOf acc acc' → orderA acc Q = orderA acc' Q
  | [], acc, acc', h => by
    show sortK kOf acc = sortK kOf acc'
    exact (sortK_of (Keeps.trans h (sortK_ok acc').1) (sortK_ok acc').2).symm
  | y :: r, acc, acc', h => by
    rw [orderA, orderA]
    have e : sortK kOf acc = sortK kOf acc' := (sortK_of (Keeps.trans h (sortK_ok acc').1) (sortK_ok acc').2).symm
    rw [e, orderA_keeps r (acc ++ [y]) (acc' ++ [y]) (h.append (Keeps.refl [y]))]
theorem orderA_swap : ∀ (A acc Q : List Int) (x y : Int), 0 < kOf y → kOf y < kOf x → orderA acc (A ++ x :: y :: Q) = orderA acc (A ++ y :: x :: Q)
  | [], acc, Q, x, y, h1, h2 => by
    have hx : 0 < kOf x := by omega
    simp only [List.nil_append]
    rw [orderA, if_pos hx, orderA, if_pos h1, orderA, if_pos h1, orderA, if_pos hx]
    refine orderA_keeps Q _ _ ?_
    rw [List.append_assoc, List.append_assoc]
    refine (Keeps.refl acc).append ?_
    exact swap_keeps (u := [x]) (v := [y]) (by intro a ha b hb; simp at ha hb; subst ha hb; exact h2)
  | z :: A, acc, Q, x, y, h1, h2 => by
    simp only [List.cons_append]
    rw [orderA, orderA, orderA_swap A _ Q x y h1 h2, orderA_swap A _ Q x y h1 h2]

/-- The inversions. -/
def invs : List Int → Nat
  | [] => 0
  | x :: r => (r.filter fun y => decide (kOf y < kOf x)).length + invs r
theorem invs_swap : ∀ (A Q : List Int) (x y : Int), kOf y < kOf x → invs (A ++ x :: y :: Q) = invs (A ++ y :: x :: Q) + 1
  | [], Q, x, y, h => by
    have h' : ¬ kOf x < kOf y := by omega
    simp only [List.nil_append, invs, List.filter_cons, h, h', decide_true, decide_false, if_true, List.length_cons]
    simp
    omega
  | z :: A, Q, x, y, h => by
    simp only [List.cons_append, invs]
    rw [invs_swap A Q x y h]
    have : ((A ++ x :: y :: Q).filter fun y => decide (kOf y < kOf z)).length = ((A ++ y :: x :: Q).filter fun y => decide (kOf y < kOf z)).length := by
      simp only [List.filter_append, List.filter_cons, List.length_append]
      split <;> split <;> simp
    omega

/-- No neighbours stand wrongly. -/
def Good : List Int → Prop
  | [] => True
  | [_] => True
  | x :: y :: r => ¬ (0 < kOf y ∧ kOf y < kOf x) ∧ Good (y :: r)
theorem good_order : ∀ (R acc : List Int), Asc kOf acc → Good R → (∀ z s y r, acc = s ++ [z] → R = y :: r → ¬ (0 < kOf y ∧ kOf y < kOf z)) → (∀ z ∈ acc, 0 < kOf z) → orderA acc R = acc ++ R
  | [], acc, h1, h2, h3, h4 => by
    rw [orderA, List.append_nil]
    exact (sortK_of (Keeps.refl acc) h1).symm
  | y :: r, acc, h1, h2, h3, h4 => by
    rw [orderA]
    have hr : Good r := by
      cases r with
      | nil => exact trivial
      | cons a r => exact h2.2
    split
    · rename_i hy
      have hasc : Asc kOf (acc ++ [y]) := by
        refine asc_append h1 (by simp [Asc]) fun x hx z hz => ?_
        simp at hz
        subst hz
        rcases snoc_cases acc with e | ⟨s, w, e⟩
        · subst e; simp at hx
        · have hw := h3 w s z r e rfl
          have hzw : kOf w ≤ kOf z := by omega
          subst e
          rcases List.mem_append.1 hx with hx | hx
          · have := (List.pairwise_append.1 h1).2.2 x hx w (by simp); omega
          · simp at hx; subst hx; exact hzw
      rw [good_order r (acc ++ [y]) hasc hr (fun z s a r' e1 e2 => ?_) (fun z hz => ?_)]
      · simp
      · have : z = y := by have := (List.append_inj' e1 rfl).2; simp at this; exact this.symm
        subst this
        subst e2
        exact h2.1
      · rcases List.mem_append.1 hz with hz | hz
        · exact h4 z hz
        · simp at hz; rw [hz]; exact hy
    · rename_i hy
      rw [good_order r [] asc_nil hr (fun z s a r' e1 => by simp at e1) (by simp), ← sortK_of (Keeps.refl acc) h1]
      rfl
theorem good_orderV {l : List Int} (h : Good l) : orderV l = l := good_order l [] asc_nil h (fun z s a r' e1 => by simp at e1) (by simp)
end Go.Proofs.YtkadmnabhoijdaaDoor.Look
