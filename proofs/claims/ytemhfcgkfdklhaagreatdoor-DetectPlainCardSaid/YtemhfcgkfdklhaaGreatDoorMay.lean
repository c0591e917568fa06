/- sets.Designate (whether it is one), sets.Default, read.may. -/
import Derived.Lib.AppendStr
import Derived.Deep.AppendLies
import Derived.Test.YtemhfcgkfdklhaaGreatDoorSetsR
set_option linter.unusedVariables false
namespace Go.Proofs.YtemhfcgkfdklhaaGreatDoor.Look
open Go Go.RowKit Go.Shelf Go.Proofs Go.Proofs.YtemhfcgkfdklhaaGreatDoor.Rd

theorem iByte : (Tryz.prog.info? 5).map (fun i => (i.zero, i.size, i.bytes)) = some (some (.int .u8 0), 1, 1) := by kernel_rfl
theorem append_str_at {ops : Array Oper} {rest : List Oper} {o : Oper} {a : Act} {Q : Exit → Act → World → Prop} {w : World} (hgd : o.guard = none) (s x : Operand)
    (ho : o.op = .call { callee := .builtin .append, args := #[s, x], argTypes := #[22, 9] })
    (base : Nat) (v : Value) (n : Nat) (xs : List Value) (hs : a.eval s = v) (hown : w.ownsRow base 5 1 v n xs) (y : ByteArray) (hx : a.eval x = .string y) (hl : n + y.size ≤ 1000000) (hbase : base ≤ w.heap.size)
    (h : ∀ v' w', w'.ownsRow base 5 1 v' (n + y.size) (xs ++ Lib.strCells y) → Below base w w' → wpList Tryz.prog ops Q rest (a.put o.dst v') w') : wpList Tryz.prog ops Q (o :: rest) a w := by
  obtain ⟨ie, hi, hz, hsz, hby⟩ := info_parts iByte
  refine Lib.wpList_append_own_string w hgd s x 22 9 ho base 5 ie Tryz.underlying22 Tryz.underlying9 hi hz hsz hby v n xs hs hown y hx (by unfold maxLen; omega) (by omega) hbase ?_
  intro v' w' h1 h2 _
  exact h v' w' h1 ((Below.refl _ _).grown h2 hbase fun k hk => (hown.lt k hk).1)
theorem append_byte_at {ops : Array Oper} {rest : List Oper} {o : Oper} {a : Act} {Q : Exit → Act → World → Prop} {w : World} (hgd : o.guard = none) (s x : Operand)
    (ho : o.op = .call { callee := .builtin .append, args := #[s, x], argTypes := #[22, 22] })
    (base : Nat) (v : Value) (n : Nat) (xs : List Value) (hs : a.eval s = v) (hown : w.ownsRow base 5 1 v n xs) (ad : Addr) (c : Nat) (u : Value) (hx : a.eval x = .slice (some ad) 1 c) (hu : ∀ j z, [u][j]? = some z → w.cell? (ad.add j) = some z) (h1 : u.oneCell' = true) (hl : n ≤ 1000000) (hbase : base ≤ w.heap.size)
    (h : ∀ v' w', w'.ownsRow base 5 1 v' (n + 1) (xs ++ [u]) → Below base w w' → wpList Tryz.prog ops Q rest (a.put o.dst v') w') : wpList Tryz.prog ops Q (o :: rest) a w := by
  obtain ⟨ie, hi, hz, hsz, hby⟩ := info_parts iByte
  refine wpList_append_own_at w hgd s x 22 ho base 5 ie (.int .u8 0) 1 1 Tryz.underlying22 hi hz hsz hby rfl (by omega) v n xs hs hown ad 1 c [u] hx rfl hu (by simpa using h1) (by unfold maxLen; omega) (by omega) hbase ?_
  intro v' w' h1 h2 _ _
  exact h v' w' h1 ((Below.refl _ _).grown h2 hbase fun k hk => (hown.lt k hk).1)
theorem row1 (W : World) (x : Int) : (W.alloc (.cells #[.int .u8 x] 5)).ownsRow W.heap.size 5 1 (.slice (some ⟨W.heap.size, 0, none⟩) 1 1) 1 [.int .u8 x] :=
  ⟨rfl, .inr ⟨W.heap.size, 1, #[.int .u8 x], rfl, Nat.le_refl _, (MapKept.heap_alloc W _).1, Nat.le_refl _, by unfold maxLen; omega, rfl, rfl⟩⟩

def desV (side set : Int) : Bool := decide ((1 ≤ set ∧ set ≤ 12) ∧ ¬ (side = 1 ∧ 10 ≤ set ∧ set ≤ 12))
theorem middle_size (side set : Int) : (middleV side set).size ≤ 2 := by
  unfold middleV
  repeat' split
  all_goals decide
set_option maxHeartbeats 4000000 in
set_option maxRecDepth 100000 in
theorem cDes (side set : Int) (hs : side = 0 ∨ side = 1) (w : World) : Calls Tryz.prog 38 #[.int .i64 side, .int .i64 set] w fun e w' => ∃ v, e = .returned (.tuple #[v, .bool (desV side set)]) ∧ Below w.heap.size w w' := by
  by_cases h0 : 1 ≤ set ∧ set ≤ 12
  · have cF := fun W => cFinal set h0 W
    have cQ := fun W => cSmallQ set W
    obtain ⟨h1, h2⟩ := h0
    by_cases h3 : side = 1 ∧ 10 ≤ set
    · obtain ⟨rfl, h3⟩ := h3
      have e : desV 1 set = false := decide_eq_false (fun h => h.2 ⟨rfl, h3, h2⟩)
      rw [e]
      simp only [decide_eq_true (show 10 ≤ set ∧ set ≤ 12 from ⟨h3, h2⟩)] at cQ
      go_enter Tryz.func38, Tryz.ntmps38
      go_wp2_with (first | (go_at_call 54; refine (cF _).mono ?_; rintro e w1 ⟨rfl, hb⟩) | (go_at_call 55; refine (cQ _).mono ?_; rintro e w' ⟨rfl, rfl⟩))
      go_ret2
      exact ⟨_, rfl, hb⟩
    · have e : desV side set = true := decide_eq_true ⟨⟨h1, h2⟩, fun h => h3 ⟨h.1, h.2.1⟩⟩
      rw [e]
      by_cases h4 : set = 1 ∧ side = 0
      · obtain ⟨rfl, rfl⟩ := h4
        go_enter Tryz.func38, Tryz.ntmps38
        go_wp2_with (go_at_call 54; refine (cF _).mono ?_; rintro e w1 ⟨rfl, hb⟩)
        go_ret2
        exact ⟨_, rfl, hb.alloc hb.size _⟩
      · by_cases h5 : 10 ≤ set
        · have h6 : side = 0 := by omega
          subst h6
          simp only [decide_eq_true (show 10 ≤ set ∧ set ≤ 12 from ⟨h5, h2⟩)] at cQ
          have h7 : (set == 1) = false := by simp; omega
          go_enter Tryz.func38, Tryz.ntmps38
          go_wp2_with (first | (go_at_call 54; refine (cF _).mono ?_; rintro e w1 ⟨rfl, hb⟩) | (go_at_call 55; refine (cQ _).mono ?_; rintro e w' ⟨rfl, rfl⟩))
          go_ret2
          exact ⟨_, rfl, hb.alloc hb.size _⟩
        · simp only [decide_eq_false (show ¬ (10 ≤ set ∧ set ≤ 12) from fun h => h5 h.1)] at cQ
          have cM := fun W => cMiddle side set hs W
          have hms := middle_size side set
          generalize middleV side set = M at cM hms
          have fin : ∀ W1, Below w.heap.size w W1 → Below w.heap.size w (W1.alloc (.cells #[.int .u8 27] 5)) := fun W1 h => h.alloc h.size _
          have go : ∀ (W1 : World), Below w.heap.size w W1 → True := fun _ _ => trivial
          rcases hs with rfl | rfl
          · have h7 : (set == 1) = false := by simp; omega
            go_enter Tryz.func38, Tryz.ntmps38
            go_wp2_with (first
              | (at_builtin; refine append_str_at rfl _ _ rfl w1.heap.size _ 1 _ rfl (row1 w1 27) M rfl (by omega) (by simp) ?_; intro v1 w2 ho1 hb2; have hb3 := (hb.alloc hb.size _).trans (hb2.mono hb.size))
              | (at_builtin; refine append_byte_at rfl _ _ rfl w1.heap.size _ _ _ rfl (World.ownsRow.alloc ho1 _) ⟨w2.heap.size, 0, none⟩ 1 (.int .u8 (finalV set)) rfl (cell_one_new _ _ _) rfl (by omega) (by have := hb2.size; simp at this ⊢; omega) ?_; intro v2 w3 ho2 hb4; have hb5 := (hb3.alloc hb3.size _).trans (hb4.mono hb.size))
              | (go_at_call 54; refine (cF _).mono ?_; rintro e w1 ⟨rfl, hb⟩)
              | (go_at_call 55; refine (cQ _).mono ?_; rintro e w' ⟨rfl, rfl⟩)
              | (go_at_call 56; refine (cM _).mono ?_; rintro e w' ⟨rfl, rfl⟩))
            go_ret2
            exact ⟨_, rfl, hb5⟩
          · by_cases h9 : set = 1
            · subst h9
              go_enter Tryz.func38, Tryz.ntmps38
              go_wp2_with (first
                | (at_builtin; refine append_str_at rfl _ _ rfl w1.heap.size _ 1 _ rfl (row1 w1 27) M rfl (by omega) (by simp) ?_; intro v1 w2 ho1 hb2; have hb3 := (hb.alloc hb.size _).trans (hb2.mono hb.size))
                | (at_builtin; refine append_byte_at rfl _ _ rfl w1.heap.size _ _ _ rfl (World.ownsRow.alloc ho1 _) ⟨w2.heap.size, 0, none⟩ 1 (.int .u8 (finalV 1)) rfl (cell_one_new _ _ _) rfl (by omega) (by have := hb2.size; simp at this ⊢; omega) ?_; intro v2 w3 ho2 hb4; have hb5 := (hb3.alloc hb3.size _).trans (hb4.mono hb.size))
                | (go_at_call 54; refine (cF _).mono ?_; rintro e w1 ⟨rfl, hb⟩)
                | (go_at_call 55; refine (cQ _).mono ?_; rintro e w' ⟨rfl, rfl⟩)
                | (go_at_call 56; refine (cM _).mono ?_; rintro e w' ⟨rfl, rfl⟩))
              all_goals go_ret2
              all_goals exact ⟨_, rfl, hb5⟩
            · have h7 : (set == 1) = false := by simpa using h9
              go_enter Tryz.func38, Tryz.ntmps38
              go_wp2_with (first
                | (at_builtin; refine append_str_at rfl _ _ rfl w1.heap.size _ 1 _ rfl (row1 w1 27) M rfl (by omega) (by simp) ?_; intro v1 w2 ho1 hb2; have hb3 := (hb.alloc hb.size _).trans (hb2.mono hb.size))
                | (at_builtin; refine append_byte_at rfl _ _ rfl w1.heap.size _ _ _ rfl (World.ownsRow.alloc ho1 _) ⟨w2.heap.size, 0, none⟩ 1 (.int .u8 (finalV set)) rfl (cell_one_new _ _ _) rfl (by omega) (by have := hb2.size; simp at this ⊢; omega) ?_; intro v2 w3 ho2 hb4; have hb5 := (hb3.alloc hb3.size _).trans (hb4.mono hb.size))
                | (go_at_call 54; refine (cF _).mono ?_; rintro e w1 ⟨rfl, hb⟩)
                | (go_at_call 55; refine (cQ _).mono ?_; rintro e w' ⟨rfl, rfl⟩)
                | (go_at_call 56; refine (cM _).mono ?_; rintro e w' ⟨rfl, rfl⟩))
              all_goals go_ret2
              all_goals exact ⟨_, rfl, hb5⟩
  · have e : desV side set = false := decide_eq_false (fun h => h0 h.1)
    have cF := fun W => cFinalNo set (by omega) W
    rw [e]
    clear h0 e
    go_enter Tryz.func38, Tryz.ntmps38
    go_wp2_with (go_at_call 54; refine (cF _).mono ?_; rintro e w1 ⟨rfl, hb⟩)
    go_ret2
    exact ⟨_, rfl, hb⟩
set_option maxHeartbeats 4000000 in
set_option maxRecDepth 100000 in
theorem cMay (g0 g1 : Int) (w : World) : Calls Tryz.prog 31 #[.agg #[.int .i64 g0, .int .i64 g1]] w fun e w' => e = .returned (.bool (mayV g0 g1)) ∧ Below w.heap.size w w' := by
  have hb0 : ∀ o, Below w.heap.size w (w.alloc o) := fun o => (Below.refl _ w).alloc (Nat.le_refl _) o
  have hx0 : (w.alloc (.cells #[.int .i64 g0, .int .i64 g1] 53)).heap[w.heap.size]? = some (.cells #[.int .i64 g0, .int .i64 g1] 53) := (MapKept.heap_alloc w _).1
  have cA : ∀ W, Aside (Below w.heap.size w W) → W.heap[w.heap.size]? = some (.cells #[.int .i64 g0, .int .i64 g1] 53) → Calls Tryz.prog 38 #[.int .i64 0, .int .i64 g0] W fun e w' => ∃ v, e = .returned (.tuple #[v, .bool (desV 0 g0)]) ∧ Aside (Below w.heap.size w w') ∧ w'.heap[w.heap.size]? = some (.cells #[.int .i64 g0, .int .i64 g1] 53) := fun W h1 h2 => by
    refine (cDes 0 g0 (.inl rfl) W).mono ?_
    rintro e w' ⟨v, rfl, hb⟩
    exact ⟨v, rfl, h1.out.trans (hb.mono h1.out.size), (hb.block _ (Array.getElem?_eq_some_iff.1 h2).1).trans h2⟩
  have cB : ∀ W, Aside (Below w.heap.size w W) → Calls Tryz.prog 38 #[.int .i64 1, .int .i64 g1] W fun e w' => ∃ v, e = .returned (.tuple #[v, .bool (desV 1 g1)]) ∧ Aside (Below w.heap.size w w') := fun W h1 => by
    refine (cDes 1 g1 (.inr rfl) W).mono ?_
    rintro e w' ⟨v, rfl, hb⟩
    exact ⟨v, rfl, h1.out.trans (hb.mono h1.out.size)⟩
  have e : mayV g0 g1 = (desV 0 g0 && desV 1 g1) := by
    unfold mayV desV
    rw [← Bool.decide_and]
    exact decide_eq_decide.2 (by omega)
  rw [e]
  generalize desV 0 g0 = D0 at cA ⊢
  generalize desV 1 g1 = D1 at cB ⊢
  have H1 := Lib.hid (cA _ (hb0 (.cells #[.int .i64 g0, .int .i64 g1] 53)) hx0)
  have H2 := Lib.hid cB
  clear cA cB hb0 hx0 e
  cases D0 <;> cases D1
  all_goals
    go_enter Tryz.func31, Tryz.ntmps31
    go_wp2_with (first
      | (go_at_call 38; refine H1.out.mono ?_; rintro e w1 ⟨v, rfl, hb1, hx1⟩; have c0 : w1.cell? ⟨w.heap.size, 1, none⟩ = some (.int .i64 g1) := (by simp [World.cell?, hx1]); clear H1 hx1)
      | (go_at_call 38; refine (H2.out _ hb1).mono ?_; rintro e w2 ⟨v2, rfl, hb2⟩))
    go_ret
    exact ⟨rfl, hb2.out⟩
set_option maxHeartbeats 4000000 in
set_option maxRecDepth 100000 in
theorem cDefault (w : World) : Calls Tryz.prog 18 #[] w fun e w' => e = .returned (.agg #[.int .i64 1, .int .i64 2]) ∧ Below w.heap.size w w' := by
  have hb0 : ∀ o, Below w.heap.size w (w.alloc o) := fun o => (Below.refl _ w).alloc (Nat.le_refl _) o
  go_enter Tryz.func18, Tryz.ntmps18
  go_wp2
  exact bodyPost_ret (v := .agg #[.int .i64 1, .int .i64 2]) (by simp [results, Tryz.results18, go_sem]) rfl ⟨rfl, hb0 _⟩
end Go.Proofs.YtemhfcgkfdklhaaGreatDoor.Look
