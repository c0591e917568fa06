/- LatinApart (f4). -/
import Derived.Test.YtlakeehjchmkdaaDoorAnsel
set_option linter.unusedVariables false
namespace Go.Proofs.YtlakeehjchmkdaaDoor.Look
open Go Go.RowKit Go.Shelf Go.Proofs

/-- A table as one row of numbers: -1 where there is none. -/
def rowOf (T : List (List ByteArray)) : List Int := (List.range 256).map fun (k : Nat) => let r := lookT T (k : Int); if r.2 then r.1 else -1
/-- Each found character stands at one place. -/
def distinctFrom : List Int → Bool
  | [] => true
  | x :: l => (decide (x = -1) || l.all fun y => decide (y ≠ x)) && distinctFrom l
theorem distinct_at : ∀ (l : List Int), distinctFrom l = true → ∀ (i j : Nat) (x y : Int), i < j → l[i]? = some x → l[j]? = some y → x ≠ -1 → y ≠ x
  | [], _, i, j, x, y, _, h, _, _ => by simp at h
  | z :: l, hd, 0, j + 1, x, y, _, hx, hy, hn => by
    simp only [distinctFrom, Bool.and_eq_true, Bool.or_eq_true, decide_eq_true_eq] at hd
    simp at hx hy
    subst hx
    rcases hd.1 with h | h
    · exact absurd h hn
    · have := List.all_eq_true.1 h y (List.mem_of_getElem? hy)
      simpa using this
  | z :: l, hd, i + 1, j + 1, x, y, hij, hx, hy, hn => by
    simp only [distinctFrom, Bool.and_eq_true] at hd
    exact distinct_at l hd.2 i j x y (by omega) (by simpa using hx) (by simpa using hy) hn
/-- Two numbers that are found are one just if their characters are. -/
theorem apart_of {T : List (List ByteArray)} (L : List Int) (hL : rowOf T = L) (hd : distinctFrom L = true) (a b : Nat) (ha : a < 256) (hb : b < 256) (h1 : (lookT T a).2 = true) (h2 : (lookT T b).2 = true) (hp1 : 0 ≤ (lookT T a).1) (hp2 : 0 ≤ (lookT T b).1) :
    decide ((lookT T a).1 = (lookT T b).1) = decide (a = b) := by
  have key : ∀ k : Nat, k < 256 → (lookT T k).2 = true → L[k]? = some (lookT T k).1 := fun k hk h => by
    rw [← hL]
    simp [rowOf, hk, h]
  apply decide_eq_decide.2
  constructor
  · intro he
    rcases Nat.lt_trichotomy a b with h | h | h
    · exact absurd he.symm (distinct_at L hd a b _ _ h (key a ha h1) (key b hb h2) (by omega))
    · exact h
    · exact absurd he (distinct_at L hd b a _ _ h (key b hb h2) (key a ha h1) (by omega))
  · rintro rfl
    rfl

def anselR : List Int := [-1, -1, -1, -1, -1, -1, -1, -1, -1, -1, -1, -1, -1, -1, -1, -1, -1, -1, -1, -1, -1, -1, -1, -1, -1, -1, -1, -1, -1, -1, -1, -1, -1, 321, 216, 272, 222, 198, 338, 697, 183, 9837, 174, 177, 416, 431, 700, -1, 699, 322, 248, 273, 254, 230, 339, 698, 305, 163, 240, -1, 417, 432, -1, -1, 176, 8467, 8471, 169, 9839, 191, 161, 223, 8364, -1, -1, -1, -1, -1, -1, -1, -1, -1, -1, -1, -1, -1, -1, -1, -1, -1, -1, -1, -1, -1, -1, -1, 777, 768, 769, 770, 771, 772, 774, 775, 776, 780, 778, 65056, 65057, 789, 779, 784, 807, 808, 803, 804, 805, 819, 818, 806, 796, 814, 65058, 65059, -1, -1, 787, -1, -1, -1, -1, -1, -1, -1, -1, -1, -1, -1, -1, -1, -1, -1, -1, -1, -1, -1, -1, -1, -1, -1, -1, -1, -1, -1, -1, -1, -1, -1, -1, -1, -1, -1, -1, -1, -1, -1, -1, -1, -1, -1, -1, -1, -1, -1, -1, -1, -1, -1, -1, -1, -1, -1, -1, -1, -1, -1, -1, -1, -1, -1, -1, -1, -1, -1, -1, -1, -1, -1, -1, -1, -1, -1, -1, -1, -1, -1, -1, -1, -1, -1, -1, -1, -1, -1, -1, -1, -1, -1, -1, -1, -1, -1, -1, -1, -1, -1, -1, -1, -1, -1, -1, -1, -1, -1, -1, -1, -1, -1, -1, -1, -1, -1, -1, -1, -1, -1, -1, -1, -1, -1, -1, -1, -1, -1, -1, -1]
theorem ansel_row : rowOf anselT = anselR := by decide +kernel
theorem ansel_distinct : distinctFrom anselR = true := by decide +kernel
theorem ansel_found : ∀ k : Fin 256, (lookT anselT k).2 = true → 128 ≤ (lookT anselT k).1 ∧ (lookT anselT k).1 ≤ 1114111 := by decide +kernel


/-- The four worlds of the calls, one behind the other. -/
theorem below4 {w W1 W2 W3 W4 : World} (h1 : Below w.heap.size w W1) (h2 : Below W1.heap.size W1 W2) (h3 : Below W2.heap.size W2 W3) (h4 : Below W3.heap.size W3 W4) : Below w.heap.size w W4 := by
  have k2 := h1.trans (h2.mono h1.size)
  have k3 := k2.trans (h3.mono k2.size)
  exact k3.trans (h4.mono k3.size)

section
variable (i j : Nat) (hi : i < 256) (hj : j < 256) (w : World) (hT : Tabs w) (x y z : Int)
set_option maxHeartbeats 8000000 in
set_option maxRecDepth 100000 in
include hi hj hT in
theorem walk4core (ok yes fine : Bool) (f1 : ok = true → 128 ≤ x ∧ x ≤ 1114111) (hz : fine = true → z = j)
    (cA : Calls Tryd.prog 8 #[.int .i64 i] w fun e w' => e = .returned (.tuple #[.int .i32 x, .bool ok]) ∧ Below w.heap.size w w')
    (cB : ∀ W, Below w.heap.size w W → Calls Tryd.prog 8 #[.int .i64 j] W fun e w' => e = .returned (.tuple #[.int .i32 y, .bool yes]) ∧ Below W.heap.size W w')
    (cZ : ∀ W, Calls Tryd.prog 11 #[.int .i64 j] W fun e w' => e = .returned (.tuple #[.int .i32 z, .bool fine]) ∧ Below W.heap.size W w')
    (hxy : ok = true → yes = true → (i = j ∧ x = y ∨ i ≠ j ∧ x ≠ y)) :
    Calls Tryd.prog 4 #[.int .u8 i, .int .u8 j] w fun e w' => e = .returned (.bool true) ∧ Below w.heap.size w w' := by
  have c9 := fun W (hb : Below w.heap.size w W) => answers9 W (hT.below hb)
  have hw32 : wrap32 (j : Int) = j := by unfold wrap32; omega
  clear hT
  cases ok with
  | false =>
    clear f1 hxy
    cases fine with
    | false =>
      clear hz
      go_enter Tryd.func4, Tryd.ntmps4
      go_wp2_with (first | (go_at_call 8; first | (refine cA.mono ?_; rintro e w1 ⟨rfl, hb1⟩) | (refine (cB _ hb1).mono ?_; rintro e w2 ⟨rfl, hb2⟩; have hb2' := hb1.trans (hb2.mono hb1.size))) | (go_at_call 11; refine (cZ _).mono ?_; rintro e w3 ⟨rfl, hb3⟩; have hb3' := hb2'.trans (hb3.mono hb2'.size)) | (go_at_call 9; refine (c9 _ hb3').mono ?_; rintro e w4 ⟨rfl, hb4⟩))
      go_ret
      exact ⟨rfl, below4 hb1 hb2 hb3 hb4⟩
    | true =>
      obtain rfl := hz rfl
      clear hz
      go_enter Tryd.func4, Tryd.ntmps4
      go_wp2_with (first | (go_at_call 8; first | (refine cA.mono ?_; rintro e w1 ⟨rfl, hb1⟩) | (refine (cB _ hb1).mono ?_; rintro e w2 ⟨rfl, hb2⟩; have hb2' := hb1.trans (hb2.mono hb1.size))) | (go_at_call 11; refine (cZ _).mono ?_; rintro e w3 ⟨rfl, hb3⟩; have hb3' := hb2'.trans (hb3.mono hb2'.size)) | (go_at_call 9; refine (c9 _ hb3').mono ?_; rintro e w4 ⟨rfl, hb4⟩))
      go_ret
      exact ⟨rfl, below4 hb1 hb2 hb3 hb4⟩
  | true =>
    obtain ⟨f0, f2⟩ := f1 rfl
    clear f1
    have f3 : (128 : Int) ≤ x := f0
    cases yes with
    | false =>
      clear hxy
      cases fine with
      | false =>
        clear hz
        go_enter Tryd.func4, Tryd.ntmps4
        go_wp2_with (first | (go_at_call 8; first | (refine cA.mono ?_; rintro e w1 ⟨rfl, hb1⟩) | (refine (cB _ hb1).mono ?_; rintro e w2 ⟨rfl, hb2⟩; have hb2' := hb1.trans (hb2.mono hb1.size))) | (go_at_call 11; refine (cZ _).mono ?_; rintro e w3 ⟨rfl, hb3⟩; have hb3' := hb2'.trans (hb3.mono hb2'.size)) | (go_at_call 9; refine (c9 _ hb3').mono ?_; rintro e w4 ⟨rfl, hb4⟩))
        go_ret
        exact ⟨rfl, below4 hb1 hb2 hb3 hb4⟩
      | true =>
        obtain rfl := hz rfl
        clear hz
        go_enter Tryd.func4, Tryd.ntmps4
        go_wp2_with (first | (go_at_call 8; first | (refine cA.mono ?_; rintro e w1 ⟨rfl, hb1⟩) | (refine (cB _ hb1).mono ?_; rintro e w2 ⟨rfl, hb2⟩; have hb2' := hb1.trans (hb2.mono hb1.size))) | (go_at_call 11; refine (cZ _).mono ?_; rintro e w3 ⟨rfl, hb3⟩; have hb3' := hb2'.trans (hb3.mono hb2'.size)) | (go_at_call 9; refine (c9 _ hb3').mono ?_; rintro e w4 ⟨rfl, hb4⟩))
        go_ret
        exact ⟨rfl, below4 hb1 hb2 hb3 hb4⟩
    | true =>
      rcases hxy rfl rfl with ⟨rfl, rfl⟩ | ⟨hij, hne⟩
      · skip
        cases fine with
        | false =>
          clear hz
          go_enter Tryd.func4, Tryd.ntmps4
          go_wp2_with (first | (go_at_call 8; first | (refine cA.mono ?_; rintro e w1 ⟨rfl, hb1⟩) | (refine (cB _ hb1).mono ?_; rintro e w2 ⟨rfl, hb2⟩; have hb2' := hb1.trans (hb2.mono hb1.size))) | (go_at_call 11; refine (cZ _).mono ?_; rintro e w3 ⟨rfl, hb3⟩; have hb3' := hb2'.trans (hb3.mono hb2'.size)) | (go_at_call 9; refine (c9 _ hb3').mono ?_; rintro e w4 ⟨rfl, hb4⟩))
          go_ret
          exact ⟨rfl, below4 hb1 hb2 hb3 hb4⟩
        | true =>
          obtain rfl := hz rfl
          clear hz
          go_enter Tryd.func4, Tryd.ntmps4
          go_wp2_with (first | (go_at_call 8; first | (refine cA.mono ?_; rintro e w1 ⟨rfl, hb1⟩) | (refine (cB _ hb1).mono ?_; rintro e w2 ⟨rfl, hb2⟩; have hb2' := hb1.trans (hb2.mono hb1.size))) | (go_at_call 11; refine (cZ _).mono ?_; rintro e w3 ⟨rfl, hb3⟩; have hb3' := hb2'.trans (hb3.mono hb2'.size)) | (go_at_call 9; refine (c9 _ hb3').mono ?_; rintro e w4 ⟨rfl, hb4⟩))
          go_ret
          exact ⟨rfl, below4 hb1 hb2 hb3 hb4⟩
      · have hijz : ¬ ((i : Int) = (j : Int)) := by omega
        have hq1 : (x == y) = false := by simpa using hne
        have hq2 : ((i : Int) == (j : Int)) = false := by simpa using hijz
        clear hij hxy hne hijz
        cases fine with
        | false =>
          clear hz
          go_enter Tryd.func4, Tryd.ntmps4
          go_wp2_with (first | (go_at_call 8; first | (refine cA.mono ?_; rintro e w1 ⟨rfl, hb1⟩) | (refine (cB _ hb1).mono ?_; rintro e w2 ⟨rfl, hb2⟩; have hb2' := hb1.trans (hb2.mono hb1.size))) | (go_at_call 11; refine (cZ _).mono ?_; rintro e w3 ⟨rfl, hb3⟩; have hb3' := hb2'.trans (hb3.mono hb2'.size)) | (go_at_call 9; refine (c9 _ hb3').mono ?_; rintro e w4 ⟨rfl, hb4⟩))
          go_ret
          exact ⟨rfl, below4 hb1 hb2 hb3 hb4⟩
        | true =>
          obtain rfl := hz rfl
          clear hz
          go_enter Tryd.func4, Tryd.ntmps4
          go_wp2_with (first | (go_at_call 8; first | (refine cA.mono ?_; rintro e w1 ⟨rfl, hb1⟩) | (refine (cB _ hb1).mono ?_; rintro e w2 ⟨rfl, hb2⟩; have hb2' := hb1.trans (hb2.mono hb1.size))) | (go_at_call 11; refine (cZ _).mono ?_; rintro e w3 ⟨rfl, hb3⟩; have hb3' := hb2'.trans (hb3.mono hb2'.size)) | (go_at_call 9; refine (c9 _ hb3').mono ?_; rintro e w4 ⟨rfl, hb4⟩))
          go_ret
          exact ⟨rfl, below4 hb1 hb2 hb3 hb4⟩
end
theorem walk4 (a : Int) (a0 : 0 ≤ a) (a1 : a ≤ 255) (b : Int) (b0 : 0 ≤ b) (b1 : b ≤ 255) (w : World) (hT : Tabs w) : Calls Tryd.prog 4 #[.int .u8 a, .int .u8 b] w fun e w' => e = .returned (.bool true) ∧ Below w.heap.size w w' := by
  obtain ⟨i, rfl⟩ : ∃ i : Nat, a = i := ⟨a.toNat, by omega⟩
  obtain ⟨j, rfl⟩ : ∃ j : Nat, b = j := ⟨b.toNat, by omega⟩
  have hi : i < 256 := by omega
  have hj : j < 256 := by omega
  refine walk4core i j hi hj w hT _ _ _ _ _ _ (fun h => ansel_found ⟨i, hi⟩ h) ?_ (ansel i w hT) (fun W hb => ansel j W (hT.below hb)) (fun W => basic j W) ?_
  · unfold basicV
    split
    · intro h; cases h
    · intro _; rfl
  · intro h1 h2
    have p1 := (ansel_found ⟨i, hi⟩ h1).1
    have p2 := (ansel_found ⟨j, hj⟩ h2).1
    have hap := decide_eq_decide.1 (apart_of anselR ansel_row ansel_distinct i j hi hj h1 h2 (by simp only at p1; omega) (by simp only at p2; omega))
    by_cases hq : i = j
    · exact .inl ⟨hq, hap.2 hq⟩
    · exact .inr ⟨hq, fun e => hq (hap.1 e)⟩
end Go.Proofs.YtlakeehjchmkdaaDoor.Look
