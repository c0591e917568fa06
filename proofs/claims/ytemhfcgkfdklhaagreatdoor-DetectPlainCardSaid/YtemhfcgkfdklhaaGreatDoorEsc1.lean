/- escape.one, small, east. -/
import Derived.Deep.LoopGhost
import Derived.Lib.Hide
import Derived.Test.YtemhfcgkfdklhaaGreatDoorSetsR
set_option linter.unusedVariables false
namespace Go.Proofs.YtemhfcgkfdklhaaGreatDoor.Look
open Go Go.RowKit Go.Shelf Go.Proofs Go.Proofs.YtemhfcgkfdklhaaGreatDoor.Rd

/-- A slice's address leads to these bytes. -/
def RowB (w : World) (a : Option Addr) (l : List Int) : Prop := l ≠ [] → ∃ b off, a = some ⟨b, off, none⟩ ∧ b < w.heap.size ∧ ∀ j x, l[j]? = some x → w.cell? ⟨b, off + j, none⟩ = some (.int .u8 x)
theorem RowB.below {w w' : World} {a : Option Addr} {l : List Int} (h : RowB w a l) (hb : Below w.heap.size w w') : RowB w' a l := fun hl => by
  obtain ⟨b, off, rfl, h1, h2⟩ := h hl
  exact ⟨b, off, rfl, Nat.lt_of_lt_of_le h1 hb.size, fun j x hx => (hb.cell (p := ⟨b, off + j, none⟩) h1).trans (h2 j x hx)⟩
theorem one_hit (i : Nat) (hi : i < 8) : i ≠ 1 → oneC (finalV (1 + (i : Int))) = (1 + (i : Int), 1) := by
  have : ∀ i : Fin 8, i.val ≠ 1 → oneC (finalV (1 + (i.val : Int))) = (1 + (i.val : Int), 1) := by decide +kernel
  exact this ⟨i, hi⟩
theorem one_next {c : Int} {i : Nat} (h : finalV (1 + (i : Int)) ≠ c) (hI : ∀ j : Nat, j < i → j ≠ 1 → finalV (1 + (j : Int)) ≠ c) : ∀ j : Nat, j < i + 1 → j ≠ 1 → finalV (1 + (j : Int)) ≠ c := fun j hj h1 => by
  by_cases e : j = i
  · rw [e]; exact h
  · exact hI j (by omega) h1
theorem one_skip {c : Int} {i : Nat} (h : i = 1) (hI : ∀ j : Nat, j < i → j ≠ 1 → finalV (1 + (j : Int)) ≠ c) : ∀ j : Nat, j < i + 1 → j ≠ 1 → finalV (1 + (j : Int)) ≠ c := fun j hj h1 => hI j (by omega) h1
theorem one_none {c : Int} (h : ∀ j : Nat, j < 8 → j ≠ 1 → finalV (1 + (j : Int)) ≠ c) : oneC c = (0, 0) := by
  unfold oneC
  have : [1, 3, 4, 5, 6, 7, 8].find? (fun j : Int => decide (finalV j = c)) = none := by
    rw [List.find?_eq_none]
    intro x hx
    simp only [List.mem_cons, List.not_mem_nil, or_false] at hx
    have hk : ∃ j : Nat, j < 8 ∧ j ≠ 1 ∧ x = 1 + (j : Int) := ⟨(x - 1).toNat, by omega, by omega, by omega⟩
    obtain ⟨j, h1, h2, rfl⟩ := hk
    simpa using h j h1 h2
  rw [this]

set_option maxHeartbeats 8000000 in
set_option maxRecDepth 100000 in
theorem cOne (a : Option Addr) (cp : Nat) (l : List Int) (w : World) (hl : RowB w a l) (hn : l.length ≤ 2000000) : Calls Tryz.prog 87 #[.slice a l.length cp] w fun e w' => e = .returned (.tuple #[.int .i64 (oneV l).1, .int .i64 (oneV l).2]) ∧ Below w.heap.size w w' := by
  match l with
  | [] =>
    clear hl
    show Calls _ _ #[.slice a 0 cp] w _
    go_enter Tryz.func87, Tryz.ntmps87
    go_wp2
    go_ret2
    exact ⟨rfl, Below.refl _ _⟩
  | [c] =>
    obtain ⟨b, off, rfl, hb, hc⟩ := hl (by simp)
    have hc0 : w.cell? ⟨b, off, none⟩ = some (.int .u8 c) := hc 0 c rfl
    have HC : Aside (∀ W, Below w.heap.size w W → W.cell? ⟨b, off, none⟩ = some (.int .u8 c)) := fun W h => (h.cell (p := ⟨b, off, none⟩) hb).trans hc0
    show Calls _ _ #[.slice (some ⟨b, off, none⟩) 1 cp] w fun e w' => e = .returned (.tuple #[.int .i64 (oneC c).1, .int .i64 (oneC c).2]) ∧ Below w.heap.size w w'
    clear hc hl
    go_enter Tryz.func87, Tryz.ntmps87
    go_wp2
    go_loopg [4] 8 (fun g v4 wr => ∃ (i : Nat), v4 = .int .i64 (1 + (i : Int)) ∧ i ≤ 8 ∧ 8 - i ≤ g ∧ Aside (Below w.heap.size w wr ∧ ∀ j : Nat, j < i → j ≠ 1 → finalV (1 + (j : Int)) ≠ c))
    case atStart => exact ⟨0, rfl, by omega, by omega, Below.refl _ _, fun j hj => by omega⟩
    case round =>
      obtain ⟨i, rfl, hi, hg1, HI⟩ := hrel
      by_cases hlt : i < 8
      · have hle : 1 + (i : Int) ≤ 8 := by omega
        have cF : Calls Tryz.prog 54 #[.int .i64 (1 + (i : Int))] wr fun e w' => e = .returned (.tuple #[.int .u8 (finalV (1 + (i : Int))), .bool true]) ∧ w'.cell? ⟨b, off, none⟩ = some (.int .u8 c) ∧ Aside (Below w.heap.size w w') := by
          refine (cFinal (1 + (i : Int)) ⟨by omega, by omega⟩ wr).mono ?_
          rintro e w' ⟨rfl, hb⟩
          have h := HI.out.1.trans (hb.mono HI.out.1.size)
          exact ⟨rfl, HC.out _ h, h⟩
        have HH := Lib.hid (one_hit i hlt)
        have HS := Lib.hid (fun h : finalV (1 + (i : Int)) ≠ c => one_next h HI.out.2)
        have HT := Lib.hid (fun h : i = 1 => one_skip (c := c) h HI.out.2)
        generalize finalV (1 + (i : Int)) = F at cF HH HS
        by_cases h1 : i = 1
        · subst h1
          have h2 : ((1 : Int) + ((1 : Nat) : Int) != 2) = false := by decide
          go_wp2_with (go_at_call 54; refine cF.mono ?_; rintro e w1 ⟨rfl, c1, hb1⟩)
          go_roundg (8 - (1 + 1))
          case measure => omega
          case rel => exact ⟨1 + 1, by first | rfl | go_num, by omega, by omega, hb1.out, HT.out (by trivial)⟩
        · have h2 : ((1 : Int) + (i : Int) != 2) = true := by simp; omega
          by_cases h3 : c = F
          · have h4 : (c == F) = true := by simpa using h3
            have HR : Aside (oneC c = (1 + (i : Int), 1)) := by rw [h3]; exact HH.out h1
            clear h3
            go_wp2_with (go_at_call 54; refine cF.mono ?_; rintro e w1 ⟨rfl, c1, hb1⟩)
            go_ret2
            exact ⟨by rw [HR.out]; rfl, hb1.out⟩
          · have h4 : (c == F) = false := by simpa using h3
            go_wp2_with (go_at_call 54; refine cF.mono ?_; rintro e w1 ⟨rfl, c1, hb1⟩)
            go_roundg (8 - (i + 1))
            case measure => omega
            case rel => exact ⟨i + 1, by first | rfl | go_num, by omega, by omega, hb1.out, HS.out fun e => h3 e.symm⟩
      · have hle : ¬ 1 + (i : Int) ≤ 8 := by omega
        obtain rfl : i = 8 := by omega
        have HR : Aside (oneC c = (0, 0)) := one_none HI.out.2
        go_wp2
        go_ret2
        exact ⟨by rw [HR.out]; rfl, HI.out.1⟩
  | c :: d :: t =>
    obtain ⟨b, off, rfl, hb, hc⟩ := hl (by simp)
    have hc0 : w.cell? ⟨b, off, none⟩ = some (.int .u8 c) := hc 0 c rfl
    have hc1 : w.cell? ⟨b, off + 1, none⟩ = some (.int .u8 d) := hc 1 d rfl
    have HC : Aside (∀ W, Below w.heap.size w W → W.cell? ⟨b, off, none⟩ = some (.int .u8 c)) := fun W h => (h.cell (p := ⟨b, off, none⟩) hb).trans hc0
    rw [oneV_two]
    obtain ⟨N, hN⟩ : ∃ N, N = (c :: d :: t).length := ⟨_, rfl⟩
    rw [← hN] at hn ⊢
    have hN1 : 1 < (N : Int) := by rw [hN]; simp only [List.length_cons]; omega
    have hN0 : 0 < (N : Int) := by omega
    have hN0n : 0 < N := by omega
    have hN0d : decide (0 < N) = true := decide_eq_true hN0n
    clear hN hc hl
    by_cases h1 : c = 33
    · have h1b : (c == 33) = true := by simpa using h1
      by_cases h2 : d = 69
      · have h2b : (d == 69) = true := by simpa using h2
        rw [if_pos ⟨h1, h2⟩]
        clear h1 h2
        go_enter Tryz.func87, Tryz.ntmps87
        go_wp2
        go_ret2
        exact ⟨rfl, Below.refl _ _⟩
      · have h2b : (d == 69) = false := by simpa using h2
        rw [if_neg (fun h => h2 h.2)]
        clear h1
        go_enter Tryz.func87, Tryz.ntmps87
        go_wp2
        go_loopg [4] 8 (fun g v4 wr => ∃ (i : Nat), v4 = .int .i64 (1 + (i : Int)) ∧ i ≤ 8 ∧ 8 - i ≤ g ∧ Aside (Below w.heap.size w wr ∧ ∀ j : Nat, j < i → j ≠ 1 → finalV (1 + (j : Int)) ≠ c))
        case atStart => exact ⟨0, rfl, by omega, by omega, Below.refl _ _, fun j hj => by omega⟩
        case round =>
          obtain ⟨i, rfl, hi, hg1, HI⟩ := hrel
          by_cases hlt : i < 8
          · have hle : 1 + (i : Int) ≤ 8 := by omega
            have cF : Calls Tryz.prog 54 #[.int .i64 (1 + (i : Int))] wr fun e w' => e = .returned (.tuple #[.int .u8 (finalV (1 + (i : Int))), .bool true]) ∧ w'.cell? ⟨b, off, none⟩ = some (.int .u8 c) ∧ Aside (Below w.heap.size w w') := by
              refine (cFinal (1 + (i : Int)) ⟨by omega, by omega⟩ wr).mono ?_
              rintro e w' ⟨rfl, hb⟩
              have h := HI.out.1.trans (hb.mono HI.out.1.size)
              exact ⟨rfl, HC.out _ h, h⟩
            have HH := Lib.hid (one_hit i hlt)
            have HS := Lib.hid (fun h : finalV (1 + (i : Int)) ≠ c => one_next h HI.out.2)
            have HT := Lib.hid (fun h : i = 1 => one_skip (c := c) h HI.out.2)
            generalize finalV (1 + (i : Int)) = F at cF HH HS
            by_cases h1 : i = 1
            · subst h1
              have h2 : ((1 : Int) + ((1 : Nat) : Int) != 2) = false := by decide
              go_wp2_with (go_at_call 54; refine cF.mono ?_; rintro e w1 ⟨rfl, c1, hb1⟩)
              go_roundg (8 - (1 + 1))
              case measure => omega
              case rel => exact ⟨1 + 1, by first | rfl | go_num, by omega, by omega, hb1.out, HT.out (by trivial)⟩
            · have h2 : ((1 : Int) + (i : Int) != 2) = true := by simp; omega
              by_cases h3 : c = F
              · have h4 : (c == F) = true := by simpa using h3
                have HR : Aside (oneC c = (1 + (i : Int), 1)) := by rw [h3]; exact HH.out h1
                clear h3
                go_wp2_with (go_at_call 54; refine cF.mono ?_; rintro e w1 ⟨rfl, c1, hb1⟩)
                go_ret2
                exact ⟨by rw [HR.out]; rfl, hb1.out⟩
              · have h4 : (c == F) = false := by simpa using h3
                go_wp2_with (go_at_call 54; refine cF.mono ?_; rintro e w1 ⟨rfl, c1, hb1⟩)
                go_roundg (8 - (i + 1))
                case measure => omega
                case rel => exact ⟨i + 1, by first | rfl | go_num, by omega, by omega, hb1.out, HS.out fun e => h3 e.symm⟩
          · have hle : ¬ 1 + (i : Int) ≤ 8 := by omega
            obtain rfl : i = 8 := by omega
            have HR : Aside (oneC c = (0, 0)) := one_none HI.out.2
            go_wp2
            go_ret2
            exact ⟨by rw [HR.out]; rfl, HI.out.1⟩
    · have h1b : (c == 33) = false := by simpa using h1
      rw [if_neg (fun h => h1 h.1)]
      go_enter Tryz.func87, Tryz.ntmps87
      go_wp2
      go_loopg [4] 8 (fun g v4 wr => ∃ (i : Nat), v4 = .int .i64 (1 + (i : Int)) ∧ i ≤ 8 ∧ 8 - i ≤ g ∧ Aside (Below w.heap.size w wr ∧ ∀ j : Nat, j < i → j ≠ 1 → finalV (1 + (j : Int)) ≠ c))
      case atStart => exact ⟨0, rfl, by omega, by omega, Below.refl _ _, fun j hj => by omega⟩
      case round =>
        obtain ⟨i, rfl, hi, hg1, HI⟩ := hrel
        by_cases hlt : i < 8
        · have hle : 1 + (i : Int) ≤ 8 := by omega
          have cF : Calls Tryz.prog 54 #[.int .i64 (1 + (i : Int))] wr fun e w' => e = .returned (.tuple #[.int .u8 (finalV (1 + (i : Int))), .bool true]) ∧ w'.cell? ⟨b, off, none⟩ = some (.int .u8 c) ∧ Aside (Below w.heap.size w w') := by
            refine (cFinal (1 + (i : Int)) ⟨by omega, by omega⟩ wr).mono ?_
            rintro e w' ⟨rfl, hb⟩
            have h := HI.out.1.trans (hb.mono HI.out.1.size)
            exact ⟨rfl, HC.out _ h, h⟩
          have HH := Lib.hid (one_hit i hlt)
          have HS := Lib.hid (fun h : finalV (1 + (i : Int)) ≠ c => one_next h HI.out.2)
          have HT := Lib.hid (fun h : i = 1 => one_skip (c := c) h HI.out.2)
          generalize finalV (1 + (i : Int)) = F at cF HH HS
          by_cases h1 : i = 1
          · subst h1
            have h2 : ((1 : Int) + ((1 : Nat) : Int) != 2) = false := by decide
            go_wp2_with (go_at_call 54; refine cF.mono ?_; rintro e w1 ⟨rfl, c1, hb1⟩)
            go_roundg (8 - (1 + 1))
            case measure => omega
            case rel => exact ⟨1 + 1, by first | rfl | go_num, by omega, by omega, hb1.out, HT.out (by trivial)⟩
          · have h2 : ((1 : Int) + (i : Int) != 2) = true := by simp; omega
            by_cases h3 : c = F
            · have h4 : (c == F) = true := by simpa using h3
              have HR : Aside (oneC c = (1 + (i : Int), 1)) := by rw [h3]; exact HH.out h1
              clear h3
              go_wp2_with (go_at_call 54; refine cF.mono ?_; rintro e w1 ⟨rfl, c1, hb1⟩)
              go_ret2
              exact ⟨by rw [HR.out]; rfl, hb1.out⟩
            · have h4 : (c == F) = false := by simpa using h3
              go_wp2_with (go_at_call 54; refine cF.mono ?_; rintro e w1 ⟨rfl, c1, hb1⟩)
              go_roundg (8 - (i + 1))
              case measure => omega
              case rel => exact ⟨i + 1, by first | rfl | go_num, by omega, by omega, hb1.out, HS.out fun e => h3 e.symm⟩
        · have hle : ¬ 1 + (i : Int) ≤ 8 := by omega
          obtain rfl : i = 8 := by omega
          have HR : Aside (oneC c = (0, 0)) := one_none HI.out.2
          go_wp2
          go_ret2
          exact ⟨by rw [HR.out]; rfl, HI.out.1⟩
end Go.Proofs.YtemhfcgkfdklhaaGreatDoor.Look
