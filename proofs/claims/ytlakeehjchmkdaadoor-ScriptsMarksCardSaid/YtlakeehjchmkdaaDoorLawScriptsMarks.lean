/- ScriptsMarks (f6). -/
import Derived.Test.YtlakeehjchmkdaaDoorMarksT
set_option linter.unusedVariables false
namespace Go.Proofs.YtlakeehjchmkdaaDoor.Look
open Go Go.RowKit Go.Shelf Go.Proofs

set_option maxHeartbeats 8000000 in
set_option maxRecDepth 100000 in
theorem marks_0_0 (s n : Int) (hs : s % 6 = 0) (s0 : 0 ≤ s) (s1 : s ≤ 255) (hr1 : 0 ≤ n) (hr2 : n ≤ 39) (w : World) (hT : Tabs w) (x : Int) (ok : Bool)
    (cA : Calls Tryd.prog 12 #[.int .i64 3, .int .i64 n] w fun e w' => e = .returned (.tuple #[.int .i32 x, .bool ok]) ∧ Below w.heap.size w w')
    (hx : ok = true → (0 ≤ x ∧ x ≤ 1114111) ∧ 0 < classV x) :
    Calls Tryd.prog 6 #[.int .u8 s, .int .u8 n] w fun e w' => e = .returned (.bool true) ∧ Below w.heap.size w w' := by
  have c9 := fun W (hb : Below w.heap.size w W) => answers13 W (hT.below hb)
  clear hT
  have hf0 : n ≤ 39 := by omega
  cases ok with
  | false =>
    clear hx
    go_enter Tryd.func6, Tryd.ntmps6
    go_wp2_with (first | (go_at_call 12; refine cA.mono ?_; rintro e w1 ⟨rfl, hb⟩) | (go_at_call 13; refine (c9 _ hb).mono ?_; rintro e w2 ⟨rfl, hb2⟩))
    go_ret
    exact ⟨rfl, hb.trans (hb2.mono hb.size)⟩
  | true =>
    obtain ⟨⟨hx0, hx1⟩, hcl⟩ := hx rfl
    have cC := fun W => cls x (by omega) (by omega) W
    generalize classV x = K at hcl cC
    clear hx
    go_enter Tryd.func6, Tryd.ntmps6
    go_wp2_with (first | (go_at_call 12; refine cA.mono ?_; rintro e w1 ⟨rfl, hb⟩) | (go_at_call 13; refine (c9 _ hb).mono ?_; rintro e w2 ⟨rfl, hb2⟩) | (go_at_call 10; refine (cC _).mono ?_; rintro e w3 ⟨rfl, hb3⟩))
    go_ret
    exact ⟨by first | rfl | (simp; omega) | (have hq : (n == 116) = false := (by simp; omega); simp [hq, hcl]; done) | (have hq : (n == 116) = false := (by simp; omega); simp [hq]; omega), (hb.trans (hb2.mono hb.size)).trans (hb3.mono (hb.trans (hb2.mono hb.size)).size)⟩
set_option maxHeartbeats 8000000 in
set_option maxRecDepth 100000 in
theorem marks_0_1 (s n : Int) (hs : s % 6 = 0) (s0 : 0 ≤ s) (s1 : s ≤ 255) (hr1 : 40 ≤ n) (hr2 : n ≤ 255) (w : World) (hT : Tabs w) (x : Int) (ok : Bool)
    (cA : Calls Tryd.prog 12 #[.int .i64 3, .int .i64 n] w fun e w' => e = .returned (.tuple #[.int .i32 x, .bool ok]) ∧ Below w.heap.size w w')
    (hx : ok = true → (0 ≤ x ∧ x ≤ 1114111) ∧ ¬ 0 < classV x) :
    Calls Tryd.prog 6 #[.int .u8 s, .int .u8 n] w fun e w' => e = .returned (.bool true) ∧ Below w.heap.size w w' := by
  have c9 := fun W (hb : Below w.heap.size w W) => answers13 W (hT.below hb)
  clear hT
  have hf0 : 39 < n := by omega
  cases ok with
  | false =>
    clear hx
    go_enter Tryd.func6, Tryd.ntmps6
    go_wp2_with (first | (go_at_call 12; refine cA.mono ?_; rintro e w1 ⟨rfl, hb⟩) | (go_at_call 13; refine (c9 _ hb).mono ?_; rintro e w2 ⟨rfl, hb2⟩))
    go_ret
    exact ⟨rfl, hb.trans (hb2.mono hb.size)⟩
  | true =>
    obtain ⟨⟨hx0, hx1⟩, hcl⟩ := hx rfl
    have cC := fun W => cls x (by omega) (by omega) W
    generalize classV x = K at hcl cC
    clear hx
    go_enter Tryd.func6, Tryd.ntmps6
    go_wp2_with (first | (go_at_call 12; refine cA.mono ?_; rintro e w1 ⟨rfl, hb⟩) | (go_at_call 13; refine (c9 _ hb).mono ?_; rintro e w2 ⟨rfl, hb2⟩) | (go_at_call 10; refine (cC _).mono ?_; rintro e w3 ⟨rfl, hb3⟩))
    go_ret
    exact ⟨by first | rfl | (simp; omega) | (have hq : (n == 116) = false := (by simp; omega); simp [hq, hcl]; done) | (have hq : (n == 116) = false := (by simp; omega); simp [hq]; omega), (hb.trans (hb2.mono hb.size)).trans (hb3.mono (hb.trans (hb2.mono hb.size)).size)⟩
set_option maxHeartbeats 8000000 in
set_option maxRecDepth 100000 in
theorem marks_1_0 (s n : Int) (hs : s % 6 = 1) (s0 : 0 ≤ s) (s1 : s ≤ 255) (hr1 : 0 ≤ n) (hr2 : n ≤ 63) (w : World) (hT : Tabs w) (x : Int) (ok : Bool)
    (cA : Calls Tryd.prog 12 #[.int .i64 4, .int .i64 n] w fun e w' => e = .returned (.tuple #[.int .i32 x, .bool ok]) ∧ Below w.heap.size w w')
    (hx : ok = true → (0 ≤ x ∧ x ≤ 1114111) ∧ ¬ 0 < classV x) :
    Calls Tryd.prog 6 #[.int .u8 s, .int .u8 n] w fun e w' => e = .returned (.bool true) ∧ Below w.heap.size w w' := by
  have c9 := fun W (hb : Below w.heap.size w W) => answers13 W (hT.below hb)
  clear hT
  have hf0 : n < 64 := by omega
  cases ok with
  | false =>
    clear hx
    go_enter Tryd.func6, Tryd.ntmps6
    go_wp2_with (first | (go_at_call 12; refine cA.mono ?_; rintro e w1 ⟨rfl, hb⟩) | (go_at_call 13; refine (c9 _ hb).mono ?_; rintro e w2 ⟨rfl, hb2⟩))
    go_ret
    exact ⟨rfl, hb.trans (hb2.mono hb.size)⟩
  | true =>
    obtain ⟨⟨hx0, hx1⟩, hcl⟩ := hx rfl
    have cC := fun W => cls x (by omega) (by omega) W
    generalize classV x = K at hcl cC
    clear hx
    go_enter Tryd.func6, Tryd.ntmps6
    go_wp2_with (first | (go_at_call 12; refine cA.mono ?_; rintro e w1 ⟨rfl, hb⟩) | (go_at_call 13; refine (c9 _ hb).mono ?_; rintro e w2 ⟨rfl, hb2⟩) | (go_at_call 10; refine (cC _).mono ?_; rintro e w3 ⟨rfl, hb3⟩))
    go_ret
    exact ⟨by first | rfl | (simp; omega) | (have hq : (n == 116) = false := (by simp; omega); simp [hq, hcl]; done) | (have hq : (n == 116) = false := (by simp; omega); simp [hq]; omega), (hb.trans (hb2.mono hb.size)).trans (hb3.mono (hb.trans (hb2.mono hb.size)).size)⟩
set_option maxHeartbeats 8000000 in
set_option maxRecDepth 100000 in
theorem marks_1_1 (s n : Int) (hs : s % 6 = 1) (s0 : 0 ≤ s) (s1 : s ≤ 255) (hr1 : 64 ≤ n) (hr2 : n ≤ 78) (w : World) (hT : Tabs w) (x : Int) (ok : Bool)
    (cA : Calls Tryd.prog 12 #[.int .i64 4, .int .i64 n] w fun e w' => e = .returned (.tuple #[.int .i32 x, .bool ok]) ∧ Below w.heap.size w w')
    (hx : ok = true → (0 ≤ x ∧ x ≤ 1114111) ∧ 0 < classV x) :
    Calls Tryd.prog 6 #[.int .u8 s, .int .u8 n] w fun e w' => e = .returned (.bool true) ∧ Below w.heap.size w w' := by
  have c9 := fun W (hb : Below w.heap.size w W) => answers13 W (hT.below hb)
  clear hT
  have hf0 : 64 ≤ n := by omega
  have hf1 : n ≤ 78 := by omega
  cases ok with
  | false =>
    clear hx
    go_enter Tryd.func6, Tryd.ntmps6
    go_wp2_with (first | (go_at_call 12; refine cA.mono ?_; rintro e w1 ⟨rfl, hb⟩) | (go_at_call 13; refine (c9 _ hb).mono ?_; rintro e w2 ⟨rfl, hb2⟩))
    go_ret
    exact ⟨rfl, hb.trans (hb2.mono hb.size)⟩
  | true =>
    obtain ⟨⟨hx0, hx1⟩, hcl⟩ := hx rfl
    have cC := fun W => cls x (by omega) (by omega) W
    generalize classV x = K at hcl cC
    clear hx
    go_enter Tryd.func6, Tryd.ntmps6
    go_wp2_with (first | (go_at_call 12; refine cA.mono ?_; rintro e w1 ⟨rfl, hb⟩) | (go_at_call 13; refine (c9 _ hb).mono ?_; rintro e w2 ⟨rfl, hb2⟩) | (go_at_call 10; refine (cC _).mono ?_; rintro e w3 ⟨rfl, hb3⟩))
    go_ret
    exact ⟨by first | rfl | (simp; omega) | (have hq : (n == 116) = false := (by simp; omega); simp [hq, hcl]; done) | (have hq : (n == 116) = false := (by simp; omega); simp [hq]; omega), (hb.trans (hb2.mono hb.size)).trans (hb3.mono (hb.trans (hb2.mono hb.size)).size)⟩
set_option maxHeartbeats 8000000 in
set_option maxRecDepth 100000 in
theorem marks_1_2 (s n : Int) (hs : s % 6 = 1) (s0 : 0 ≤ s) (s1 : s ≤ 255) (hr1 : 79 ≤ n) (hr2 : n ≤ 255) (w : World) (hT : Tabs w) (x : Int) (ok : Bool)
    (cA : Calls Tryd.prog 12 #[.int .i64 4, .int .i64 n] w fun e w' => e = .returned (.tuple #[.int .i32 x, .bool ok]) ∧ Below w.heap.size w w')
    (hx : ok = true → (0 ≤ x ∧ x ≤ 1114111) ∧ ¬ 0 < classV x) :
    Calls Tryd.prog 6 #[.int .u8 s, .int .u8 n] w fun e w' => e = .returned (.bool true) ∧ Below w.heap.size w w' := by
  have c9 := fun W (hb : Below w.heap.size w W) => answers13 W (hT.below hb)
  clear hT
  have hf0 : 64 ≤ n := by omega
  have hf1 : 78 < n := by omega
  cases ok with
  | false =>
    clear hx
    go_enter Tryd.func6, Tryd.ntmps6
    go_wp2_with (first | (go_at_call 12; refine cA.mono ?_; rintro e w1 ⟨rfl, hb⟩) | (go_at_call 13; refine (c9 _ hb).mono ?_; rintro e w2 ⟨rfl, hb2⟩))
    go_ret
    exact ⟨rfl, hb.trans (hb2.mono hb.size)⟩
  | true =>
    obtain ⟨⟨hx0, hx1⟩, hcl⟩ := hx rfl
    have cC := fun W => cls x (by omega) (by omega) W
    generalize classV x = K at hcl cC
    clear hx
    go_enter Tryd.func6, Tryd.ntmps6
    go_wp2_with (first | (go_at_call 12; refine cA.mono ?_; rintro e w1 ⟨rfl, hb⟩) | (go_at_call 13; refine (c9 _ hb).mono ?_; rintro e w2 ⟨rfl, hb2⟩) | (go_at_call 10; refine (cC _).mono ?_; rintro e w3 ⟨rfl, hb3⟩))
    go_ret
    exact ⟨by first | rfl | (simp; omega) | (have hq : (n == 116) = false := (by simp; omega); simp [hq, hcl]; done) | (have hq : (n == 116) = false := (by simp; omega); simp [hq]; omega), (hb.trans (hb2.mono hb.size)).trans (hb3.mono (hb.trans (hb2.mono hb.size)).size)⟩
set_option maxHeartbeats 8000000 in
set_option maxRecDepth 100000 in
theorem marks_2_0 (s n : Int) (hs : s % 6 = 2) (s0 : 0 ≤ s) (s1 : s ≤ 255) (hr1 : 0 ≤ n) (hr2 : n ≤ 106) (w : World) (hT : Tabs w) (x : Int) (ok : Bool)
    (cA : Calls Tryd.prog 12 #[.int .i64 5, .int .i64 n] w fun e w' => e = .returned (.tuple #[.int .i32 x, .bool ok]) ∧ Below w.heap.size w w')
    (hx : ok = true → (0 ≤ x ∧ x ≤ 1114111) ∧ ¬ 0 < classV x) :
    Calls Tryd.prog 6 #[.int .u8 s, .int .u8 n] w fun e w' => e = .returned (.bool true) ∧ Below w.heap.size w w' := by
  have c9 := fun W (hb : Below w.heap.size w W) => answers13 W (hT.below hb)
  clear hT
  have hf0 : n < 107 := by omega
  have hf1 : ¬ n = 116 := by omega
  cases ok with
  | false =>
    clear hx
    go_enter Tryd.func6, Tryd.ntmps6
    go_wp2_with (first | (go_at_call 12; refine cA.mono ?_; rintro e w1 ⟨rfl, hb⟩) | (go_at_call 13; refine (c9 _ hb).mono ?_; rintro e w2 ⟨rfl, hb2⟩))
    go_ret
    exact ⟨rfl, hb.trans (hb2.mono hb.size)⟩
  | true =>
    obtain ⟨⟨hx0, hx1⟩, hcl⟩ := hx rfl
    have cC := fun W => cls x (by omega) (by omega) W
    generalize classV x = K at hcl cC
    clear hx
    go_enter Tryd.func6, Tryd.ntmps6
    go_wp2_with (first | (go_at_call 12; refine cA.mono ?_; rintro e w1 ⟨rfl, hb⟩) | (go_at_call 13; refine (c9 _ hb).mono ?_; rintro e w2 ⟨rfl, hb2⟩) | (go_at_call 10; refine (cC _).mono ?_; rintro e w3 ⟨rfl, hb3⟩))
    go_ret
    exact ⟨by first | rfl | (simp; omega) | (have hq : (n == 116) = false := (by simp; omega); simp [hq, hcl]; done) | (have hq : (n == 116) = false := (by simp; omega); simp [hq]; omega), (hb.trans (hb2.mono hb.size)).trans (hb3.mono (hb.trans (hb2.mono hb.size)).size)⟩
set_option maxHeartbeats 8000000 in
set_option maxRecDepth 100000 in
theorem marks_2_1 (s n : Int) (hs : s % 6 = 2) (s0 : 0 ≤ s) (s1 : s ≤ 255) (hr1 : 107 ≤ n) (hr2 : n ≤ 114) (w : World) (hT : Tabs w) (x : Int) (ok : Bool)
    (cA : Calls Tryd.prog 12 #[.int .i64 5, .int .i64 n] w fun e w' => e = .returned (.tuple #[.int .i32 x, .bool ok]) ∧ Below w.heap.size w w')
    (hx : ok = true → (0 ≤ x ∧ x ≤ 1114111) ∧ 0 < classV x) :
    Calls Tryd.prog 6 #[.int .u8 s, .int .u8 n] w fun e w' => e = .returned (.bool true) ∧ Below w.heap.size w w' := by
  have c9 := fun W (hb : Below w.heap.size w W) => answers13 W (hT.below hb)
  clear hT
  have hf0 : 107 ≤ n := by omega
  have hf1 : n ≤ 114 := by omega
  have hf2 : ¬ n = 116 := by omega
  cases ok with
  | false =>
    clear hx
    go_enter Tryd.func6, Tryd.ntmps6
    go_wp2_with (first | (go_at_call 12; refine cA.mono ?_; rintro e w1 ⟨rfl, hb⟩) | (go_at_call 13; refine (c9 _ hb).mono ?_; rintro e w2 ⟨rfl, hb2⟩))
    go_ret
    exact ⟨rfl, hb.trans (hb2.mono hb.size)⟩
  | true =>
    obtain ⟨⟨hx0, hx1⟩, hcl⟩ := hx rfl
    have cC := fun W => cls x (by omega) (by omega) W
    generalize classV x = K at hcl cC
    clear hx
    go_enter Tryd.func6, Tryd.ntmps6
    go_wp2_with (first | (go_at_call 12; refine cA.mono ?_; rintro e w1 ⟨rfl, hb⟩) | (go_at_call 13; refine (c9 _ hb).mono ?_; rintro e w2 ⟨rfl, hb2⟩) | (go_at_call 10; refine (cC _).mono ?_; rintro e w3 ⟨rfl, hb3⟩))
    go_ret
    exact ⟨by first | rfl | (simp; omega) | (have hq : (n == 116) = false := (by simp; omega); simp [hq, hcl]; done) | (have hq : (n == 116) = false := (by simp; omega); simp [hq]; omega), (hb.trans (hb2.mono hb.size)).trans (hb3.mono (hb.trans (hb2.mono hb.size)).size)⟩
set_option maxHeartbeats 8000000 in
set_option maxRecDepth 100000 in
theorem marks_2_2 (s n : Int) (hs : s % 6 = 2) (s0 : 0 ≤ s) (s1 : s ≤ 255) (hr1 : 115 ≤ n) (hr2 : n ≤ 115) (w : World) (hT : Tabs w) (x : Int) (ok : Bool)
    (cA : Calls Tryd.prog 12 #[.int .i64 5, .int .i64 n] w fun e w' => e = .returned (.tuple #[.int .i32 x, .bool ok]) ∧ Below w.heap.size w w')
    (hx : ok = true → (0 ≤ x ∧ x ≤ 1114111) ∧ ¬ 0 < classV x) :
    Calls Tryd.prog 6 #[.int .u8 s, .int .u8 n] w fun e w' => e = .returned (.bool true) ∧ Below w.heap.size w w' := by
  have c9 := fun W (hb : Below w.heap.size w W) => answers13 W (hT.below hb)
  clear hT
  have hf0 : 107 ≤ n := by omega
  have hf1 : 114 < n := by omega
  have hf2 : ¬ n = 116 := by omega
  cases ok with
  | false =>
    clear hx
    go_enter Tryd.func6, Tryd.ntmps6
    go_wp2_with (first | (go_at_call 12; refine cA.mono ?_; rintro e w1 ⟨rfl, hb⟩) | (go_at_call 13; refine (c9 _ hb).mono ?_; rintro e w2 ⟨rfl, hb2⟩))
    go_ret
    exact ⟨rfl, hb.trans (hb2.mono hb.size)⟩
  | true =>
    obtain ⟨⟨hx0, hx1⟩, hcl⟩ := hx rfl
    have cC := fun W => cls x (by omega) (by omega) W
    generalize classV x = K at hcl cC
    clear hx
    go_enter Tryd.func6, Tryd.ntmps6
    go_wp2_with (first | (go_at_call 12; refine cA.mono ?_; rintro e w1 ⟨rfl, hb⟩) | (go_at_call 13; refine (c9 _ hb).mono ?_; rintro e w2 ⟨rfl, hb2⟩) | (go_at_call 10; refine (cC _).mono ?_; rintro e w3 ⟨rfl, hb3⟩))
    go_ret
    exact ⟨by first | rfl | (simp; omega) | (have hq : (n == 116) = false := (by simp; omega); simp [hq, hcl]; done) | (have hq : (n == 116) = false := (by simp; omega); simp [hq]; omega), (hb.trans (hb2.mono hb.size)).trans (hb3.mono (hb.trans (hb2.mono hb.size)).size)⟩
set_option maxHeartbeats 8000000 in
set_option maxRecDepth 100000 in
theorem marks_2_3 (s n : Int) (hs : s % 6 = 2) (s0 : 0 ≤ s) (s1 : s ≤ 255) (hr1 : 116 ≤ n) (hr2 : n ≤ 116) (w : World) (hT : Tabs w) (x : Int) (ok : Bool)
    (cA : Calls Tryd.prog 12 #[.int .i64 5, .int .i64 n] w fun e w' => e = .returned (.tuple #[.int .i32 x, .bool ok]) ∧ Below w.heap.size w w')
    (hx : ok = true → (0 ≤ x ∧ x ≤ 1114111) ∧ 0 < classV x) :
    Calls Tryd.prog 6 #[.int .u8 s, .int .u8 n] w fun e w' => e = .returned (.bool true) ∧ Below w.heap.size w w' := by
  have c9 := fun W (hb : Below w.heap.size w W) => answers13 W (hT.below hb)
  clear hT
  obtain rfl : n = 116 := by omega
  clear hr1 hr2
  cases ok with
  | false =>
    clear hx
    go_enter Tryd.func6, Tryd.ntmps6
    go_wp2_with (first | (go_at_call 12; refine cA.mono ?_; rintro e w1 ⟨rfl, hb⟩) | (go_at_call 13; refine (c9 _ hb).mono ?_; rintro e w2 ⟨rfl, hb2⟩))
    go_ret
    exact ⟨rfl, hb.trans (hb2.mono hb.size)⟩
  | true =>
    obtain ⟨⟨hx0, hx1⟩, hcl⟩ := hx rfl
    have cC := fun W => cls x (by omega) (by omega) W
    generalize classV x = K at hcl cC
    clear hx
    go_enter Tryd.func6, Tryd.ntmps6
    go_wp2_with (first | (go_at_call 12; refine cA.mono ?_; rintro e w1 ⟨rfl, hb⟩) | (go_at_call 13; refine (c9 _ hb).mono ?_; rintro e w2 ⟨rfl, hb2⟩) | (go_at_call 10; refine (cC _).mono ?_; rintro e w3 ⟨rfl, hb3⟩))
    go_ret
    exact ⟨by first | rfl | (simp; omega) | (have hq : (n == 116) = false := (by simp; omega); simp [hq, hcl]; done) | (have hq : (n == 116) = false := (by simp; omega); simp [hq]; omega), (hb.trans (hb2.mono hb.size)).trans (hb3.mono (hb.trans (hb2.mono hb.size)).size)⟩
set_option maxHeartbeats 8000000 in
set_option maxRecDepth 100000 in
theorem marks_2_4 (s n : Int) (hs : s % 6 = 2) (s0 : 0 ≤ s) (s1 : s ≤ 255) (hr1 : 117 ≤ n) (hr2 : n ≤ 255) (w : World) (hT : Tabs w) (x : Int) (ok : Bool)
    (cA : Calls Tryd.prog 12 #[.int .i64 5, .int .i64 n] w fun e w' => e = .returned (.tuple #[.int .i32 x, .bool ok]) ∧ Below w.heap.size w w')
    (hx : ok = true → (0 ≤ x ∧ x ≤ 1114111) ∧ ¬ 0 < classV x) :
    Calls Tryd.prog 6 #[.int .u8 s, .int .u8 n] w fun e w' => e = .returned (.bool true) ∧ Below w.heap.size w w' := by
  have c9 := fun W (hb : Below w.heap.size w W) => answers13 W (hT.below hb)
  clear hT
  have hf0 : 107 ≤ n := by omega
  have hf1 : 114 < n := by omega
  have hf2 : ¬ n = 116 := by omega
  cases ok with
  | false =>
    clear hx
    go_enter Tryd.func6, Tryd.ntmps6
    go_wp2_with (first | (go_at_call 12; refine cA.mono ?_; rintro e w1 ⟨rfl, hb⟩) | (go_at_call 13; refine (c9 _ hb).mono ?_; rintro e w2 ⟨rfl, hb2⟩))
    go_ret
    exact ⟨rfl, hb.trans (hb2.mono hb.size)⟩
  | true =>
    obtain ⟨⟨hx0, hx1⟩, hcl⟩ := hx rfl
    have cC := fun W => cls x (by omega) (by omega) W
    generalize classV x = K at hcl cC
    clear hx
    go_enter Tryd.func6, Tryd.ntmps6
    go_wp2_with (first | (go_at_call 12; refine cA.mono ?_; rintro e w1 ⟨rfl, hb⟩) | (go_at_call 13; refine (c9 _ hb).mono ?_; rintro e w2 ⟨rfl, hb2⟩) | (go_at_call 10; refine (cC _).mono ?_; rintro e w3 ⟨rfl, hb3⟩))
    go_ret
    exact ⟨by first | rfl | (simp; omega) | (have hq : (n == 116) = false := (by simp; omega); simp [hq, hcl]; done) | (have hq : (n == 116) = false := (by simp; omega); simp [hq]; omega), (hb.trans (hb2.mono hb.size)).trans (hb3.mono (hb.trans (hb2.mono hb.size)).size)⟩
set_option maxHeartbeats 8000000 in
set_option maxRecDepth 100000 in
theorem marks_3_0 (s n : Int) (hs : s % 6 = 3) (s0 : 0 ≤ s) (s1 : s ≤ 255) (hr1 : 0 ≤ n) (hr2 : n ≤ 255) (w : World) (hT : Tabs w) (x : Int) (ok : Bool)
    (cA : Calls Tryd.prog 12 #[.int .i64 6, .int .i64 n] w fun e w' => e = .returned (.tuple #[.int .i32 x, .bool ok]) ∧ Below w.heap.size w w')
    (hx : ok = true → (0 ≤ x ∧ x ≤ 1114111) ∧ ¬ 0 < classV x) :
    Calls Tryd.prog 6 #[.int .u8 s, .int .u8 n] w fun e w' => e = .returned (.bool true) ∧ Below w.heap.size w w' := by
  have c9 := fun W (hb : Below w.heap.size w W) => answers13 W (hT.below hb)
  clear hT
  cases ok with
  | false =>
    clear hx
    go_enter Tryd.func6, Tryd.ntmps6
    go_wp2_with (first | (go_at_call 12; refine cA.mono ?_; rintro e w1 ⟨rfl, hb⟩) | (go_at_call 13; refine (c9 _ hb).mono ?_; rintro e w2 ⟨rfl, hb2⟩))
    go_ret
    exact ⟨rfl, hb.trans (hb2.mono hb.size)⟩
  | true =>
    obtain ⟨⟨hx0, hx1⟩, hcl⟩ := hx rfl
    have cC := fun W => cls x (by omega) (by omega) W
    generalize classV x = K at hcl cC
    clear hx
    go_enter Tryd.func6, Tryd.ntmps6
    go_wp2_with (first | (go_at_call 12; refine cA.mono ?_; rintro e w1 ⟨rfl, hb⟩) | (go_at_call 13; refine (c9 _ hb).mono ?_; rintro e w2 ⟨rfl, hb2⟩) | (go_at_call 10; refine (cC _).mono ?_; rintro e w3 ⟨rfl, hb3⟩))
    go_ret
    exact ⟨by first | rfl | (simp; omega) | (have hq : (n == 116) = false := (by simp; omega); simp [hq, hcl]; done) | (have hq : (n == 116) = false := (by simp; omega); simp [hq]; omega), (hb.trans (hb2.mono hb.size)).trans (hb3.mono (hb.trans (hb2.mono hb.size)).size)⟩
set_option maxHeartbeats 8000000 in
set_option maxRecDepth 100000 in
theorem marks_4_0 (s n : Int) (hs : s % 6 = 4) (s0 : 0 ≤ s) (s1 : s ≤ 255) (hr1 : 0 ≤ n) (hr2 : n ≤ 255) (w : World) (hT : Tabs w) (x : Int) (ok : Bool)
    (cA : Calls Tryd.prog 12 #[.int .i64 7, .int .i64 n] w fun e w' => e = .returned (.tuple #[.int .i32 x, .bool ok]) ∧ Below w.heap.size w w')
    (hx : ok = true → (0 ≤ x ∧ x ≤ 1114111) ∧ ¬ 0 < classV x) :
    Calls Tryd.prog 6 #[.int .u8 s, .int .u8 n] w fun e w' => e = .returned (.bool true) ∧ Below w.heap.size w w' := by
  have c9 := fun W (hb : Below w.heap.size w W) => answers13 W (hT.below hb)
  clear hT
  cases ok with
  | false =>
    clear hx
    go_enter Tryd.func6, Tryd.ntmps6
    go_wp2_with (first | (go_at_call 12; refine cA.mono ?_; rintro e w1 ⟨rfl, hb⟩) | (go_at_call 13; refine (c9 _ hb).mono ?_; rintro e w2 ⟨rfl, hb2⟩))
    go_ret
    exact ⟨rfl, hb.trans (hb2.mono hb.size)⟩
  | true =>
    obtain ⟨⟨hx0, hx1⟩, hcl⟩ := hx rfl
    have cC := fun W => cls x (by omega) (by omega) W
    generalize classV x = K at hcl cC
    clear hx
    go_enter Tryd.func6, Tryd.ntmps6
    go_wp2_with (first | (go_at_call 12; refine cA.mono ?_; rintro e w1 ⟨rfl, hb⟩) | (go_at_call 13; refine (c9 _ hb).mono ?_; rintro e w2 ⟨rfl, hb2⟩) | (go_at_call 10; refine (cC _).mono ?_; rintro e w3 ⟨rfl, hb3⟩))
    go_ret
    exact ⟨by first | rfl | (simp; omega) | (have hq : (n == 116) = false := (by simp; omega); simp [hq, hcl]; done) | (have hq : (n == 116) = false := (by simp; omega); simp [hq]; omega), (hb.trans (hb2.mono hb.size)).trans (hb3.mono (hb.trans (hb2.mono hb.size)).size)⟩
set_option maxHeartbeats 8000000 in
set_option maxRecDepth 100000 in
theorem marks_5_0 (s n : Int) (hs : s % 6 = 5) (s0 : 0 ≤ s) (s1 : s ≤ 255) (hr1 : 0 ≤ n) (hr2 : n ≤ 255) (w : World) (hT : Tabs w) (x : Int) (ok : Bool)
    (cA : Calls Tryd.prog 12 #[.int .i64 8, .int .i64 n] w fun e w' => e = .returned (.tuple #[.int .i32 x, .bool ok]) ∧ Below w.heap.size w w')
    (hx : ok = true → (0 ≤ x ∧ x ≤ 1114111) ∧ ¬ 0 < classV x) :
    Calls Tryd.prog 6 #[.int .u8 s, .int .u8 n] w fun e w' => e = .returned (.bool true) ∧ Below w.heap.size w w' := by
  have c9 := fun W (hb : Below w.heap.size w W) => answers13 W (hT.below hb)
  clear hT
  cases ok with
  | false =>
    clear hx
    go_enter Tryd.func6, Tryd.ntmps6
    go_wp2_with (first | (go_at_call 12; refine cA.mono ?_; rintro e w1 ⟨rfl, hb⟩) | (go_at_call 13; refine (c9 _ hb).mono ?_; rintro e w2 ⟨rfl, hb2⟩))
    go_ret
    exact ⟨rfl, hb.trans (hb2.mono hb.size)⟩
  | true =>
    obtain ⟨⟨hx0, hx1⟩, hcl⟩ := hx rfl
    have cC := fun W => cls x (by omega) (by omega) W
    generalize classV x = K at hcl cC
    clear hx
    go_enter Tryd.func6, Tryd.ntmps6
    go_wp2_with (first | (go_at_call 12; refine cA.mono ?_; rintro e w1 ⟨rfl, hb⟩) | (go_at_call 13; refine (c9 _ hb).mono ?_; rintro e w2 ⟨rfl, hb2⟩) | (go_at_call 10; refine (cC _).mono ?_; rintro e w3 ⟨rfl, hb3⟩))
    go_ret
    exact ⟨by first | rfl | (simp; omega) | (have hq : (n == 116) = false := (by simp; omega); simp [hq, hcl]; done) | (have hq : (n == 116) = false := (by simp; omega); simp [hq]; omega), (hb.trans (hb2.mono hb.size)).trans (hb3.mono (hb.trans (hb2.mono hb.size)).size)⟩

theorem wants_0 : ∀ k : Fin 256, want 0 k = ((decide (0 ≤ k.val) && decide (k.val ≤ 39))) := by decide +kernel
theorem want_0_0 (k : Nat) (h1 : 0 ≤ k) (h2 : k ≤ 39) : want 0 k = true := by
  have h := wants_0 ⟨k, by omega⟩
  simp only at h
  rw [h]
  simp
  omega
theorem want_0_1 (k : Nat) (h1 : 40 ≤ k) (h2 : k ≤ 255) : want 0 k = false := by
  have h := wants_0 ⟨k, by omega⟩
  simp only at h
  rw [h]
  simp
  omega
theorem wants_1 : ∀ k : Fin 256, want 1 k = ((decide (64 ≤ k.val) && decide (k.val ≤ 78))) := by decide +kernel
theorem want_1_0 (k : Nat) (h1 : 0 ≤ k) (h2 : k ≤ 63) : want 1 k = false := by
  have h := wants_1 ⟨k, by omega⟩
  simp only at h
  rw [h]
  simp
  omega
theorem want_1_1 (k : Nat) (h1 : 64 ≤ k) (h2 : k ≤ 78) : want 1 k = true := by
  have h := wants_1 ⟨k, by omega⟩
  simp only at h
  rw [h]
  simp
  omega
theorem want_1_2 (k : Nat) (h1 : 79 ≤ k) (h2 : k ≤ 255) : want 1 k = false := by
  have h := wants_1 ⟨k, by omega⟩
  simp only at h
  rw [h]
  simp
  omega
theorem wants_2 : ∀ k : Fin 256, want 2 k = ((decide (107 ≤ k.val) && decide (k.val ≤ 114)) || (decide (116 ≤ k.val) && decide (k.val ≤ 116))) := by decide +kernel
theorem want_2_0 (k : Nat) (h1 : 0 ≤ k) (h2 : k ≤ 106) : want 2 k = false := by
  have h := wants_2 ⟨k, by omega⟩
  simp only at h
  rw [h]
  simp
  omega
theorem want_2_1 (k : Nat) (h1 : 107 ≤ k) (h2 : k ≤ 114) : want 2 k = true := by
  have h := wants_2 ⟨k, by omega⟩
  simp only at h
  rw [h]
  simp
  omega
theorem want_2_2 (k : Nat) (h1 : 115 ≤ k) (h2 : k ≤ 115) : want 2 k = false := by
  have h := wants_2 ⟨k, by omega⟩
  simp only at h
  rw [h]
  simp
  omega
theorem want_2_3 (k : Nat) (h1 : 116 ≤ k) (h2 : k ≤ 116) : want 2 k = true := by
  have h := wants_2 ⟨k, by omega⟩
  simp only at h
  rw [h]
  simp
  omega
theorem want_2_4 (k : Nat) (h1 : 117 ≤ k) (h2 : k ≤ 255) : want 2 k = false := by
  have h := wants_2 ⟨k, by omega⟩
  simp only at h
  rw [h]
  simp
  omega
theorem wants_3 : ∀ k : Fin 256, want 3 k = (false) := by decide +kernel
theorem want_3_0 (k : Nat) (h1 : 0 ≤ k) (h2 : k ≤ 255) : want 3 k = false := by
  have h := wants_3 ⟨k, by omega⟩
  simp only at h
  exact h
theorem wants_4 : ∀ k : Fin 256, want 4 k = (false) := by decide +kernel
theorem want_4_0 (k : Nat) (h1 : 0 ≤ k) (h2 : k ≤ 255) : want 4 k = false := by
  have h := wants_4 ⟨k, by omega⟩
  simp only at h
  exact h
theorem wants_5 : ∀ k : Fin 256, want 5 k = (false) := by decide +kernel
theorem want_5_0 (k : Nat) (h1 : 0 ≤ k) (h2 : k ≤ 255) : want 5 k = false := by
  have h := wants_5 ⟨k, by omega⟩
  simp only at h
  exact h
theorem marks_at {m : Nat} {T : List (List ByteArray)} (h : marksOk m T = true) (k : Nat) (hk : k < 256) (hok : (lookT T k).2 = true) : (0 ≤ (lookT T k).1 ∧ (lookT T k).1 ≤ 1114111) ∧ decide (0 < classV (lookT T k).1) = want m k := by
  have := List.all_eq_true.1 h k (List.mem_range.2 hk)
  simp only [hok, Bool.not_true, Bool.false_or, Bool.and_eq_true, decide_eq_true_eq, beq_iff_eq] at this
  exact this

theorem walk6 (s : Int) (s0 : 0 ≤ s) (s1 : s ≤ 255) (n : Int) (n0 : 0 ≤ n) (n1 : n ≤ 255) (w : World) (hT : Tabs w) : Calls Tryd.prog 6 #[.int .u8 s, .int .u8 n] w fun e w' => e = .returned (.bool true) ∧ Below w.heap.size w w' := by
  obtain ⟨k, rfl⟩ : ∃ k : Nat, n = k := ⟨n.toNat, by omega⟩
  have hk : k < 256 := by omega
  have h6 : s % 6 = 0 ∨ s % 6 = 1 ∨ s % 6 = 2 ∨ s % 6 = 3 ∨ s % 6 = 4 ∨ s % 6 = 5 := by omega
  rcases h6 with h | h | h | h | h | h
  · have ht := marks_at marks0 k hk
    have cA := rune3 k w hT
    by_cases q0 : k ≤ 39
    · exact marks_0_0 s k h s0 s1 (by omega) (by omega) w hT _ _ cA (fun hok => ⟨(ht hok).1, of_decide_eq_true ((ht hok).2.trans (want_0_0 k (by omega) (by omega)))⟩)
    exact marks_0_1 s k h s0 s1 (by omega) (by omega) w hT _ _ cA (fun hok => ⟨(ht hok).1, of_decide_eq_false ((ht hok).2.trans (want_0_1 k (by omega) (by omega)))⟩)
  · have ht := marks_at marks1 k hk
    have cA := rune4 k w hT
    by_cases q0 : k ≤ 63
    · exact marks_1_0 s k h s0 s1 (by omega) (by omega) w hT _ _ cA (fun hok => ⟨(ht hok).1, of_decide_eq_false ((ht hok).2.trans (want_1_0 k (by omega) (by omega)))⟩)
    by_cases q1 : k ≤ 78
    · exact marks_1_1 s k h s0 s1 (by omega) (by omega) w hT _ _ cA (fun hok => ⟨(ht hok).1, of_decide_eq_true ((ht hok).2.trans (want_1_1 k (by omega) (by omega)))⟩)
    exact marks_1_2 s k h s0 s1 (by omega) (by omega) w hT _ _ cA (fun hok => ⟨(ht hok).1, of_decide_eq_false ((ht hok).2.trans (want_1_2 k (by omega) (by omega)))⟩)
  · have ht := marks_at marks2 k hk
    have cA := rune5 k w hT
    by_cases q0 : k ≤ 106
    · exact marks_2_0 s k h s0 s1 (by omega) (by omega) w hT _ _ cA (fun hok => ⟨(ht hok).1, of_decide_eq_false ((ht hok).2.trans (want_2_0 k (by omega) (by omega)))⟩)
    by_cases q1 : k ≤ 114
    · exact marks_2_1 s k h s0 s1 (by omega) (by omega) w hT _ _ cA (fun hok => ⟨(ht hok).1, of_decide_eq_true ((ht hok).2.trans (want_2_1 k (by omega) (by omega)))⟩)
    by_cases q2 : k ≤ 115
    · exact marks_2_2 s k h s0 s1 (by omega) (by omega) w hT _ _ cA (fun hok => ⟨(ht hok).1, of_decide_eq_false ((ht hok).2.trans (want_2_2 k (by omega) (by omega)))⟩)
    by_cases q3 : k ≤ 116
    · exact marks_2_3 s k h s0 s1 (by omega) (by omega) w hT _ _ cA (fun hok => ⟨(ht hok).1, of_decide_eq_true ((ht hok).2.trans (want_2_3 k (by omega) (by omega)))⟩)
    exact marks_2_4 s k h s0 s1 (by omega) (by omega) w hT _ _ cA (fun hok => ⟨(ht hok).1, of_decide_eq_false ((ht hok).2.trans (want_2_4 k (by omega) (by omega)))⟩)
  · have ht := marks_at marks3 k hk
    have cA := rune6 k w hT
    exact marks_3_0 s k h s0 s1 (by omega) (by omega) w hT _ _ cA (fun hok => ⟨(ht hok).1, of_decide_eq_false ((ht hok).2.trans (want_3_0 k (by omega) (by omega)))⟩)
  · have ht := marks_at marks4 k hk
    have cA := rune7 k w hT
    exact marks_4_0 s k h s0 s1 (by omega) (by omega) w hT _ _ cA (fun hok => ⟨(ht hok).1, of_decide_eq_false ((ht hok).2.trans (want_4_0 k (by omega) (by omega)))⟩)
  · have ht := marks_at marks5 k hk
    have cA := rune8 k w hT
    exact marks_5_0 s k h s0 s1 (by omega) (by omega) w hT _ _ cA (fun hok => ⟨(ht hok).1, of_decide_eq_false ((ht hok).2.trans (want_5_0 k (by omega) (by omega)))⟩)
end Go.Proofs.YtlakeehjchmkdaaDoor.Look
