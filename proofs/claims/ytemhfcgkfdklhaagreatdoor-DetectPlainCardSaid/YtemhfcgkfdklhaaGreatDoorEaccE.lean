/- eacc.Each. -/
import Derived.Test.YtemhfcgkfdklhaaGreatDoorEacc
set_option linter.unusedVariables false
namespace Go.Proofs.YtemhfcgkfdklhaaGreatDoor.Look
open Go Go.RowKit Go.Shelf Go.Proofs

theorem eaccL_len : eaccL.length = 354 := by decide +kernel
theorem eaccL_all : eaccL.all (fun x => decide (0 ≤ x.1 ∧ x.1 ≤ 16777215 ∧ -2147483648 ≤ x.2 ∧ x.2 ≤ 2147483647)) = true := by decide +kernel
theorem encC_at : ∀ (l : List (Int × Int)) (k : Nat) (x : Int × Int), l[k]? = some x → (encC l)[k * 2]? = some (.int .i64 x.1) ∧ (encC l)[k * 2 + 1]? = some (.int .i32 x.2)
  | [], k, x, h => by simp at h
  | a :: l, 0, x, h => by
    simp only [List.getElem?_cons_zero, Option.some.injEq] at h
    subst h
    simp [encC]
  | a :: l, k + 1, x, h => by
    have ih := encC_at l k x (by simpa using h)
    rw [show (k + 1) * 2 = k * 2 + 1 + 1 by omega]
    simpa [encC] using ih
/-- Between two rounds. -/
structure ER (J : World → List (Int × Int) → (Nat → Prop) → Prop) (X1 : World) (L0 : List (Int × Int)) (O0 : Nat → Prop) (A : Nat) (wr : World) (k : Nat) : Prop where
  ex : ∃ O, J wr (L0 ++ eaccL.take k) O ∧ (∀ i, O i → i < X1.heap.size → O0 i) ∧ ¬ O A
  free : Idx.Free O0 X1 wr
  lt : A < X1.heap.size
  no : ¬ O0 A
theorem ER.below {gf : Nat} {lb : Array Value} {J : World → List (Int × Int) → (Nat → Prop) → Prop} (hS : Steps gf lb J) {X1 : World} {L0 : List (Int × Int)} {O0 : Nat → Prop} {A k : Nat} {wr wr' : World} (h : ER J X1 L0 O0 A wr k) (hb : Below wr.heap.size wr wr') : ER J X1 L0 O0 A wr' k := by
  obtain ⟨⟨O, hJ, h1, h2⟩, hf, hl, hn⟩ := h
  exact ⟨⟨O, hS.kept hJ hb.size fun k hk => hb.block k (hS.lt hJ hk), h1, h2⟩, hf.trans (Idx.Free.of_below hb (O := fun _ => False)) (fun _ h _ => h.elim), hl, hn⟩

set_option maxHeartbeats 8000000 in
set_option maxRecDepth 100000 in
theorem eaccEach (px cs : Nat) (J : World → List (Int × Int) → (Nat → Prop) → Prop) (hS : Steps 40 #[.pointer (some ⟨px, 0, none⟩), .pointer (some ⟨cs, 0, none⟩)] J)
    (L0 : List (Int × Int)) (hlen : L0.length ≤ 90000) (O0 : Nat → Prop) (w : World) (hJ : J w L0 O0) :
    Calls Tryz.prog 43 #[.func (.func 40) #[] #[.pointer (some ⟨px, 0, none⟩), .pointer (some ⟨cs, 0, none⟩)]] w fun e w' => e = .returned (.tuple #[]) ∧ Idx.Free O0 w w' ∧ ∃ O, J w' (L0 ++ eaccL) O ∧ ∀ k, O k → k < w.heap.size → O0 k := by
  have cA : Calls Tryz.prog 58 #[] w fun e w' => ∃ A cap, e = .returned (.slice (some ⟨A, 0, none⟩) 354 cap) ∧ Aside (ER J w' L0 O0 A w' 0 ∧ Below w.heap.size w w' ∧ (∀ k x, eaccL[k]? = some x → w'.cell? ⟨A, k * 2, none⟩ = some (.int .i64 x.1) ∧ w'.cell? ⟨A, k * 2 + 1, none⟩ = some (.int .i32 x.2)) ∧ ∀ k, O0 k → k < w.heap.size) := by
    refine (all w).mono ?_
    rintro e w' ⟨v, rfl, hown, hb⟩
    have hO0 : ∀ k, O0 k → k < w.heap.size := fun k hk => hS.lt hJ hk
    have hcells := fun (g : Nat) hg => World.ownsRow.cells hown (g := g) hg
    rcases hown.2 with ⟨rfl, h0⟩ | ⟨g, cap, cur, rfl, hg, hh, _⟩
    · rw [eaccL_len] at h0; cases h0
    · rw [eaccL_len]
      have hlt := (Array.getElem?_eq_some_iff.1 hh).1
      refine ⟨g, cap, rfl, ⟨⟨O0, ?_, fun i h _ => h, fun h => by have := hO0 g h; omega⟩, Idx.Free.refl _ _, hlt, fun h => by have := hO0 g h; omega⟩, hb, fun k x hx => ?_, hO0⟩
      · simpa using hS.kept hJ hb.size fun k hk => hb.block k (hO0 k hk)
      · have h1 := encC_at eaccL k x hx
        have h2 := hcells g rfl _ _ h1.1
        have h3 := hcells g rfl _ _ h1.2
        rw [Addr.add_lit, Nat.zero_add] at h2 h3
        exact ⟨h2, h3⟩
  go_enter Tryz.func43, Tryz.ntmps43
  go_wp2_with (go_at_call 58; refine cA.mono ?_; rintro e X1 ⟨A, cap, rfl, hA⟩; clear cA)
  have HF := Lib.hid hA.out.2
  have HE : Aside (ER J X1 L0 O0 A X1 0) := hA.out.1
  clear hA
  go_loopg [6] 354 (fun g1 vi wr => ∃ (k : Nat), vi = .int .i64 k ∧ k ≤ 354 ∧ 354 - k ≤ g1 ∧ Aside (ER J X1 L0 O0 A wr k))
  case atStart => exact ⟨0, rfl, by omega, by omega, HE⟩
  case round =>
    clear HE
    obtain ⟨k, rfl, hk, hg1, HA⟩ := hrel
    by_cases hlt : k < 354
    · have hltz : (k : Int) < 354 := by omega
      obtain ⟨x, hx⟩ : ∃ x, eaccL[k]? = some x := ⟨_, List.getElem?_eq_getElem (by rw [eaccL_len]; exact hlt)⟩
      have hxb := List.all_eq_true.1 eaccL_all x (List.mem_of_getElem? hx)
      simp only [decide_eq_true_eq] at hxb
      have e1 : wr.heap[A]? = X1.heap[A]? := HA.out.free.block A HA.out.lt HA.out.no
      have c0 : wr.cell? ⟨A, k * 2, none⟩ = some (.int .i64 x.1) := (World.cell?_of_block (w := X1) (a := ⟨A, k * 2, none⟩) e1).trans (HF.out.2.1 k x hx).1
      have c1 : wr.cell? ⟨A, k * 2 + 1, none⟩ = some (.int .i32 x.2) := (World.cell?_of_block (w := X1) (a := ⟨A, k * 2 + 1, none⟩) e1).trans (HF.out.2.1 k x hx).2
      obtain ⟨n, r⟩ := x
      simp only at c0 c1 hxb
      have hdo : ∀ Y, ER J X1 L0 O0 A Y k → Calls Tryz.prog 40 #[.int .i64 n, .int .i32 r, .pointer (some ⟨px, 0, none⟩), .pointer (some ⟨cs, 0, none⟩)] Y fun e w' => e = .returned (.tuple #[]) ∧ Aside (ER J X1 L0 O0 A w' (k + 1)) := fun Y hY => by
        obtain ⟨⟨O2, j1, j2, j3⟩, hY2, hY3, hY4⟩ := hY
        have hl1 : (L0 ++ eaccL.take k).length ≤ 100000 := by rw [List.length_append, List.length_take]; omega
        refine (hS.step n r j1 hl1 hxb.2.2.1 hxb.2.2.2 hxb.1 hxb.2.1).mono ?_
        rintro e w' ⟨rfl, hf, O3, j4, j5⟩
        have hAY : A < Y.heap.size := Nat.lt_of_lt_of_le hY3 hY2.size
        refine ⟨rfl, ⟨O3, ?_, fun i hi hl => j2 i (j5 i hi (Nat.lt_of_lt_of_le hl hY2.size)) hl, fun h => j3 (j5 A h hAY)⟩, hY2.trans hf fun i hi hl => j2 i hi hl, hY3, hY4⟩
        rw [List.take_add_one, hx, ← List.append_assoc]
        exact j4
      have HD := Lib.hid hdo
      clear hdo hx e1 hxb
      go_wp2_with (go_at_call 40; refine (HD.out _ (HA.out.below hS ((Below.refl _ _).alloc (Nat.le_refl _) _))).mono ?_; rintro e X3 ⟨rfl, hA3⟩; clear HD)
      go_roundg (354 - (k + 1))
      case measure => omega
      case rel => exact ⟨k + 1, by first | rfl | go_num, by omega, by omega, hA3⟩
    · have hltz : ¬ (k : Int) < 354 := by omega
      obtain rfl : k = 354 := by omega
      go_wp2
      go_end0
      obtain ⟨O2, j1, j2, j3⟩ := HA.out.ex
      have hfr := HA.out.free
      have hO0 := HF.out.2.2
      have hb := HF.out.1
      rw [show eaccL.take 354 = eaccL by rw [← eaccL_len]; exact List.take_length] at j1
      exact ⟨rfl, (Idx.Free.of_below hb).trans hfr fun i h _ => h, O2, j1, fun k hk hl => j2 k hk (Nat.lt_of_lt_of_le hl hb.size)⟩
end Go.Proofs.YtemhfcgkfdklhaaGreatDoor.Look
