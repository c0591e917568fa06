/- PairsBack: the walk. -/
import Derived.Test.YtpoidncgbidlaaaDoorFind
import Derived.Test.YtpoidncgbidlaaaDoorCls
set_option linter.unusedVariables false
namespace Go.Proofs.YtpoidncgbidlaaaDoor.New
open Go Go.RowKit Go.Shelf Go.Proofs Go.Proofs.YtpoidncgbidlaaaDoor.Look

theorem split_e9 : splitV tableT 233 = (101, 769, 2) := by decide +kernel
theorem join_e9 : joinV tableT 101 769 = (233, true) := by decide +kernel

set_option maxHeartbeats 4000000 in
set_option maxRecDepth 100000 in
theorem answersP (w : World) (hT : TabsN w) : Calls Tryd.prog 7 #[] w fun e w' => e = .returned (.bool true) ∧ Below w.heap.size w w' := by
  have cS := psplit 233 (by decide) (by decide) w hT
  rw [split_e9] at cS
  have cJ := fun W (hb : Below w.heap.size w W) => pjoin 101 769 W (hT.below hb)
  rw [join_e9] at cJ
  go_enter Tryd.func7, Tryd.ntmps7
  go_wp2_with (first | (go_at_call 5; refine cS.mono ?_; rintro e w1 ⟨rfl, hb1⟩) | (go_at_call 6; refine (cJ _ hb1).mono ?_; rintro e w2 ⟨rfl, hb2⟩))
  go_ret
  exact ⟨rfl, hb1.trans (hb2.mono hb1.size)⟩

set_option maxHeartbeats 8000000 in
set_option maxRecDepth 100000 in
theorem back_0f (r s : Int) (w : World) (hT : TabsN w)
    (cS : Calls Tryd.prog 5 #[.int .i32 r] w fun e w' => e = .returned (.tuple #[.int .i32 0, .int .i32 0, .int .i64 0]) ∧ Below w.heap.size w w')
    (cJ : ∀ W, Below w.heap.size w W → Calls Tryd.prog 6 #[.int .i32 r, .int .i32 s] W fun e w' => e = .returned (.tuple #[.int .i32 0, .bool false]) ∧ Below W.heap.size W w') :
    Calls Tryd.prog 3 #[.int .i32 r, .int .i32 s] w fun e w' => e = .returned (.bool true) ∧ Below w.heap.size w w' := by
  have c9 := fun W (hb : Below w.heap.size w W) => answersP W (hT.below hb)
  clear hT
  go_enter Tryd.func3, Tryd.ntmps3
  go_wp2_with (first | (go_at_call 5; refine cS.mono ?_; rintro e w1 ⟨rfl, hb1⟩) | (go_at_call 6; refine (cJ _ hb1).mono ?_; rintro e w2 ⟨rfl, hc2⟩; have hb2 := hb1.trans (hc2.mono hb1.size)) | (go_at_call 7; refine (c9 _ hb2).mono ?_; rintro e w3 ⟨rfl, hc3⟩; have hb3 := hb2.trans (hc3.mono hb2.size)))
  go_ret
  exact ⟨by first | rfl | simp, hb3⟩

set_option maxHeartbeats 8000000 in
set_option maxRecDepth 100000 in
theorem back_0t (r s x ks : Int) (hks : 0 < ks) (w : World) (hT : TabsN w)
    (cS : Calls Tryd.prog 5 #[.int .i32 r] w fun e w' => e = .returned (.tuple #[.int .i32 0, .int .i32 0, .int .i64 0]) ∧ Below w.heap.size w w')
    (cJ : ∀ W, Below w.heap.size w W → Calls Tryd.prog 6 #[.int .i32 r, .int .i32 s] W fun e w' => e = .returned (.tuple #[.int .i32 x, .bool true]) ∧ Below W.heap.size W w')
    (cS2 : ∀ W, Below w.heap.size w W → Calls Tryd.prog 5 #[.int .i32 x] W fun e w' => e = .returned (.tuple #[.int .i32 r, .int .i32 s, .int .i64 2]) ∧ Below W.heap.size W w')
    (cCr : ∀ W, Below w.heap.size w W → Calls Tryd.prog 8 #[.int .i32 r] W fun e w' => e = .returned (.int .i64 0) ∧ Below W.heap.size W w')
    (cCs : ∀ W, Below w.heap.size w W → Calls Tryd.prog 8 #[.int .i32 s] W fun e w' => e = .returned (.int .i64 ks) ∧ Below W.heap.size W w') :
    Calls Tryd.prog 3 #[.int .i32 r, .int .i32 s] w fun e w' => e = .returned (.bool true) ∧ Below w.heap.size w w' := by
  have c9 := fun W (hb : Below w.heap.size w W) => answersP W (hT.below hb)
  clear hT
  go_enter Tryd.func3, Tryd.ntmps3
  go_wp2_with (first | (go_at_call 5; first | (refine (cS2 _ hb3).mono ?_; rintro e w4 ⟨rfl, hc4⟩; have hb4 := hb3.trans (hc4.mono hb3.size)) | (refine cS.mono ?_; rintro e w1 ⟨rfl, hb1⟩)) | (go_at_call 6; refine (cJ _ hb1).mono ?_; rintro e w2 ⟨rfl, hc2⟩; have hb2 := hb1.trans (hc2.mono hb1.size)) | (go_at_call 7; refine (c9 _ hb2).mono ?_; rintro e w3 ⟨rfl, hc3⟩; have hb3 := hb2.trans (hc3.mono hb2.size)) | (go_at_call 8; first | (refine (cCs _ hb5).mono ?_; rintro e w6 ⟨rfl, hc6⟩; have hb6 := hb5.trans (hc6.mono hb5.size)) | (refine (cCr _ hb4).mono ?_; rintro e w5 ⟨rfl, hc5⟩; have hb5 := hb4.trans (hc5.mono hb4.size))))
  go_ret
  exact ⟨by first | rfl | simp, hb6⟩

set_option maxHeartbeats 8000000 in
set_option maxRecDepth 100000 in
theorem back_1f (r s a : Int) (w : World) (hT : TabsN w)
    (cS : Calls Tryd.prog 5 #[.int .i32 r] w fun e w' => e = .returned (.tuple #[.int .i32 a, .int .i32 0, .int .i64 1]) ∧ Below w.heap.size w w')
    (cJ : ∀ W, Below w.heap.size w W → Calls Tryd.prog 6 #[.int .i32 r, .int .i32 s] W fun e w' => e = .returned (.tuple #[.int .i32 0, .bool false]) ∧ Below W.heap.size W w') :
    Calls Tryd.prog 3 #[.int .i32 r, .int .i32 s] w fun e w' => e = .returned (.bool true) ∧ Below w.heap.size w w' := by
  have c9 := fun W (hb : Below w.heap.size w W) => answersP W (hT.below hb)
  clear hT
  go_enter Tryd.func3, Tryd.ntmps3
  go_wp2_with (first | (go_at_call 5; refine cS.mono ?_; rintro e w1 ⟨rfl, hb1⟩) | (go_at_call 6; refine (cJ _ hb1).mono ?_; rintro e w2 ⟨rfl, hc2⟩; have hb2 := hb1.trans (hc2.mono hb1.size)) | (go_at_call 7; refine (c9 _ hb2).mono ?_; rintro e w3 ⟨rfl, hc3⟩; have hb3 := hb2.trans (hc3.mono hb2.size)))
  go_ret
  exact ⟨by first | rfl | simp, hb3⟩

set_option maxHeartbeats 8000000 in
set_option maxRecDepth 100000 in
theorem back_1t (r s a x ks : Int) (hks : 0 < ks) (w : World) (hT : TabsN w)
    (cS : Calls Tryd.prog 5 #[.int .i32 r] w fun e w' => e = .returned (.tuple #[.int .i32 a, .int .i32 0, .int .i64 1]) ∧ Below w.heap.size w w')
    (cJ : ∀ W, Below w.heap.size w W → Calls Tryd.prog 6 #[.int .i32 r, .int .i32 s] W fun e w' => e = .returned (.tuple #[.int .i32 x, .bool true]) ∧ Below W.heap.size W w')
    (cS2 : ∀ W, Below w.heap.size w W → Calls Tryd.prog 5 #[.int .i32 x] W fun e w' => e = .returned (.tuple #[.int .i32 r, .int .i32 s, .int .i64 2]) ∧ Below W.heap.size W w')
    (cCr : ∀ W, Below w.heap.size w W → Calls Tryd.prog 8 #[.int .i32 r] W fun e w' => e = .returned (.int .i64 0) ∧ Below W.heap.size W w')
    (cCs : ∀ W, Below w.heap.size w W → Calls Tryd.prog 8 #[.int .i32 s] W fun e w' => e = .returned (.int .i64 ks) ∧ Below W.heap.size W w') :
    Calls Tryd.prog 3 #[.int .i32 r, .int .i32 s] w fun e w' => e = .returned (.bool true) ∧ Below w.heap.size w w' := by
  have c9 := fun W (hb : Below w.heap.size w W) => answersP W (hT.below hb)
  clear hT
  go_enter Tryd.func3, Tryd.ntmps3
  go_wp2_with (first | (go_at_call 5; first | (refine (cS2 _ hb3).mono ?_; rintro e w4 ⟨rfl, hc4⟩; have hb4 := hb3.trans (hc4.mono hb3.size)) | (refine cS.mono ?_; rintro e w1 ⟨rfl, hb1⟩)) | (go_at_call 6; refine (cJ _ hb1).mono ?_; rintro e w2 ⟨rfl, hc2⟩; have hb2 := hb1.trans (hc2.mono hb1.size)) | (go_at_call 7; refine (c9 _ hb2).mono ?_; rintro e w3 ⟨rfl, hc3⟩; have hb3 := hb2.trans (hc3.mono hb2.size)) | (go_at_call 8; first | (refine (cCs _ hb5).mono ?_; rintro e w6 ⟨rfl, hc6⟩; have hb6 := hb5.trans (hc6.mono hb5.size)) | (refine (cCr _ hb4).mono ?_; rintro e w5 ⟨rfl, hc5⟩; have hb5 := hb4.trans (hc5.mono hb4.size))))
  go_ret
  exact ⟨by first | rfl | simp, hb6⟩

set_option maxHeartbeats 8000000 in
set_option maxRecDepth 100000 in
theorem back_2f (r s a b ka kb : Int) (h1 : ¬ r = 836) (h2 : ¬ r = 64302) (h3 : ¬ r = 64303) (hkb : 0 < kb) (hka : ¬ 0 < ka) (w : World) (hT : TabsN w)
    (cS : Calls Tryd.prog 5 #[.int .i32 r] w fun e w' => e = .returned (.tuple #[.int .i32 a, .int .i32 b, .int .i64 2]) ∧ Below w.heap.size w w')
    (cJ : ∀ W, Below w.heap.size w W → Calls Tryd.prog 6 #[.int .i32 r, .int .i32 s] W fun e w' => e = .returned (.tuple #[.int .i32 0, .bool false]) ∧ Below W.heap.size W w')
    (cJ2 : ∀ W, Below w.heap.size w W → Calls Tryd.prog 6 #[.int .i32 a, .int .i32 b] W fun e w' => e = .returned (.tuple #[.int .i32 r, .bool true]) ∧ Below W.heap.size W w')
    (cCb : ∀ W, Below w.heap.size w W → Calls Tryd.prog 8 #[.int .i32 b] W fun e w' => e = .returned (.int .i64 kb) ∧ Below W.heap.size W w')
    (cCa : ∀ W, Below w.heap.size w W → Calls Tryd.prog 8 #[.int .i32 a] W fun e w' => e = .returned (.int .i64 ka) ∧ Below W.heap.size W w') :
    Calls Tryd.prog 3 #[.int .i32 r, .int .i32 s] w fun e w' => e = .returned (.bool true) ∧ Below w.heap.size w w' := by
  have c9 := fun W (hb : Below w.heap.size w W) => answersP W (hT.below hb)
  have q1 : (r == 836) = false := by simpa using h1
  have q2 : (r == 64302) = false := by simpa using h2
  have q3 : (r == 64303) = false := by simpa using h3
  have q4 : (kb == 0) = false := by simp; omega
  clear hT
  go_enter Tryd.func3, Tryd.ntmps3
  go_wp2_with (first | (go_at_call 5; refine cS.mono ?_; rintro e w1 ⟨rfl, hb1⟩) | (go_at_call 6; first | (refine (cJ2 _ hb3).mono ?_; rintro e w4 ⟨rfl, hc4⟩; have hb4 := hb3.trans (hc4.mono hb3.size)) | (refine (cJ _ hb1).mono ?_; rintro e w2 ⟨rfl, hc2⟩; have hb2 := hb1.trans (hc2.mono hb1.size))) | (go_at_call 7; refine (c9 _ hb2).mono ?_; rintro e w3 ⟨rfl, hc3⟩; have hb3 := hb2.trans (hc3.mono hb2.size)) | (go_at_call 8; first | (refine (cCa _ hb5).mono ?_; rintro e w6 ⟨rfl, hc6⟩; have hb6 := hb5.trans (hc6.mono hb5.size)) | (refine (cCb _ hb4).mono ?_; rintro e w5 ⟨rfl, hc5⟩; have hb5 := hb4.trans (hc5.mono hb4.size))))
  go_ret
  exact ⟨by first | rfl | simp, hb6⟩

set_option maxHeartbeats 8000000 in
set_option maxRecDepth 100000 in
theorem back_2t (r s a b ka kb x ks : Int) (hks : 0 < ks) (h1 : ¬ r = 836) (h2 : ¬ r = 64302) (h3 : ¬ r = 64303) (hkb : 0 < kb) (hka : ¬ 0 < ka) (w : World) (hT : TabsN w)
    (cS : Calls Tryd.prog 5 #[.int .i32 r] w fun e w' => e = .returned (.tuple #[.int .i32 a, .int .i32 b, .int .i64 2]) ∧ Below w.heap.size w w')
    (cJ : ∀ W, Below w.heap.size w W → Calls Tryd.prog 6 #[.int .i32 r, .int .i32 s] W fun e w' => e = .returned (.tuple #[.int .i32 x, .bool true]) ∧ Below W.heap.size W w')
    (cJ2 : ∀ W, Below w.heap.size w W → Calls Tryd.prog 6 #[.int .i32 a, .int .i32 b] W fun e w' => e = .returned (.tuple #[.int .i32 r, .bool true]) ∧ Below W.heap.size W w')
    (cCb : ∀ W, Below w.heap.size w W → Calls Tryd.prog 8 #[.int .i32 b] W fun e w' => e = .returned (.int .i64 kb) ∧ Below W.heap.size W w')
    (cCa : ∀ W, Below w.heap.size w W → Calls Tryd.prog 8 #[.int .i32 a] W fun e w' => e = .returned (.int .i64 ka) ∧ Below W.heap.size W w')
    (cS2 : ∀ W, Below w.heap.size w W → Calls Tryd.prog 5 #[.int .i32 x] W fun e w' => e = .returned (.tuple #[.int .i32 r, .int .i32 s, .int .i64 2]) ∧ Below W.heap.size W w')
    (cCr : ∀ W, Below w.heap.size w W → Calls Tryd.prog 8 #[.int .i32 r] W fun e w' => e = .returned (.int .i64 0) ∧ Below W.heap.size W w')
    (cCs : ∀ W, Below w.heap.size w W → Calls Tryd.prog 8 #[.int .i32 s] W fun e w' => e = .returned (.int .i64 ks) ∧ Below W.heap.size W w') :
    Calls Tryd.prog 3 #[.int .i32 r, .int .i32 s] w fun e w' => e = .returned (.bool true) ∧ Below w.heap.size w w' := by
  have c9 := fun W (hb : Below w.heap.size w W) => answersP W (hT.below hb)
  have q1 : (r == 836) = false := by simpa using h1
  have q2 : (r == 64302) = false := by simpa using h2
  have q3 : (r == 64303) = false := by simpa using h3
  have q4 : (kb == 0) = false := by simp; omega
  clear hT
  go_enter Tryd.func3, Tryd.ntmps3
  go_wp2_with (first | (go_at_call 5; first | (refine (cS2 _ hb6).mono ?_; rintro e w7 ⟨rfl, hc7⟩; have hb7 := hb6.trans (hc7.mono hb6.size)) | (refine cS.mono ?_; rintro e w1 ⟨rfl, hb1⟩)) | (go_at_call 6; first | (refine (cJ2 _ hb3).mono ?_; rintro e w4 ⟨rfl, hc4⟩; have hb4 := hb3.trans (hc4.mono hb3.size)) | (refine (cJ _ hb1).mono ?_; rintro e w2 ⟨rfl, hc2⟩; have hb2 := hb1.trans (hc2.mono hb1.size))) | (go_at_call 7; refine (c9 _ hb2).mono ?_; rintro e w3 ⟨rfl, hc3⟩; have hb3 := hb2.trans (hc3.mono hb2.size)) | (go_at_call 8; first | (refine (cCs _ hb8).mono ?_; rintro e w9 ⟨rfl, hc9⟩; have hb9 := hb8.trans (hc9.mono hb8.size)) | (refine (cCr _ hb7).mono ?_; rintro e w8 ⟨rfl, hc8⟩; have hb8 := hb7.trans (hc8.mono hb7.size)) | (refine (cCa _ hb5).mono ?_; rintro e w6 ⟨rfl, hc6⟩; have hb6 := hb5.trans (hc6.mono hb5.size)) | (refine (cCb _ hb4).mono ?_; rintro e w5 ⟨rfl, hc5⟩; have hb5 := hb4.trans (hc5.mono hb4.size))))
  go_ret
  exact ⟨by first | rfl | simp, hb9⟩

set_option maxHeartbeats 8000000 in
set_option maxRecDepth 100000 in
theorem back_836 (s a b ka kb : Int) (hkb : 0 < kb) (hka : 0 < ka) (w : World) (hT : TabsN w)
    (cS : Calls Tryd.prog 5 #[.int .i32 836] w fun e w' => e = .returned (.tuple #[.int .i32 a, .int .i32 b, .int .i64 2]) ∧ Below w.heap.size w w')
    (cJ : ∀ W, Below w.heap.size w W → Calls Tryd.prog 6 #[.int .i32 836, .int .i32 s] W fun e w' => e = .returned (.tuple #[.int .i32 0, .bool false]) ∧ Below W.heap.size W w')
    (cJ2 : ∀ W, Below w.heap.size w W → Calls Tryd.prog 6 #[.int .i32 a, .int .i32 b] W fun e w' => e = .returned (.tuple #[.int .i32 0, .bool false]) ∧ Below W.heap.size W w')
    (cCb : ∀ W, Below w.heap.size w W → Calls Tryd.prog 8 #[.int .i32 b] W fun e w' => e = .returned (.int .i64 kb) ∧ Below W.heap.size W w')
    (cCa : ∀ W, Below w.heap.size w W → Calls Tryd.prog 8 #[.int .i32 a] W fun e w' => e = .returned (.int .i64 ka) ∧ Below W.heap.size W w') :
    Calls Tryd.prog 3 #[.int .i32 836, .int .i32 s] w fun e w' => e = .returned (.bool true) ∧ Below w.heap.size w w' := by
  have c9 := fun W (hb : Below w.heap.size w W) => answersP W (hT.below hb)
  have q4 : (kb == 0) = false := by simp; omega
  clear hT
  go_enter Tryd.func3, Tryd.ntmps3
  go_wp2_with (first | (go_at_call 5; refine cS.mono ?_; rintro e w1 ⟨rfl, hb1⟩) | (go_at_call 6; first | (refine (cJ2 _ hb3).mono ?_; rintro e w4 ⟨rfl, hc4⟩; have hb4 := hb3.trans (hc4.mono hb3.size)) | (refine (cJ _ hb1).mono ?_; rintro e w2 ⟨rfl, hc2⟩; have hb2 := hb1.trans (hc2.mono hb1.size))) | (go_at_call 7; refine (c9 _ hb2).mono ?_; rintro e w3 ⟨rfl, hc3⟩; have hb3 := hb2.trans (hc3.mono hb2.size)) | (go_at_call 8; first | (refine (cCa _ hb5).mono ?_; rintro e w6 ⟨rfl, hc6⟩; have hb6 := hb5.trans (hc6.mono hb5.size)) | (refine (cCb _ hb4).mono ?_; rintro e w5 ⟨rfl, hc5⟩; have hb5 := hb4.trans (hc5.mono hb4.size))))
  go_ret
  exact ⟨by first | rfl | simp, hb6⟩

set_option maxHeartbeats 8000000 in
set_option maxRecDepth 100000 in
theorem back_64302 (s a b ka kb : Int) (hkb : 0 < kb) (hka : ¬ 0 < ka) (w : World) (hT : TabsN w)
    (cS : Calls Tryd.prog 5 #[.int .i32 64302] w fun e w' => e = .returned (.tuple #[.int .i32 a, .int .i32 b, .int .i64 2]) ∧ Below w.heap.size w w')
    (cJ : ∀ W, Below w.heap.size w W → Calls Tryd.prog 6 #[.int .i32 64302, .int .i32 s] W fun e w' => e = .returned (.tuple #[.int .i32 0, .bool false]) ∧ Below W.heap.size W w')
    (cJ2 : ∀ W, Below w.heap.size w W → Calls Tryd.prog 6 #[.int .i32 a, .int .i32 b] W fun e w' => e = .returned (.tuple #[.int .i32 0, .bool false]) ∧ Below W.heap.size W w')
    (cCb : ∀ W, Below w.heap.size w W → Calls Tryd.prog 8 #[.int .i32 b] W fun e w' => e = .returned (.int .i64 kb) ∧ Below W.heap.size W w')
    (cCa : ∀ W, Below w.heap.size w W → Calls Tryd.prog 8 #[.int .i32 a] W fun e w' => e = .returned (.int .i64 ka) ∧ Below W.heap.size W w') :
    Calls Tryd.prog 3 #[.int .i32 64302, .int .i32 s] w fun e w' => e = .returned (.bool true) ∧ Below w.heap.size w w' := by
  have c9 := fun W (hb : Below w.heap.size w W) => answersP W (hT.below hb)
  have q4 : (kb == 0) = false := by simp; omega
  clear hT
  go_enter Tryd.func3, Tryd.ntmps3
  go_wp2_with (first | (go_at_call 5; refine cS.mono ?_; rintro e w1 ⟨rfl, hb1⟩) | (go_at_call 6; first | (refine (cJ2 _ hb3).mono ?_; rintro e w4 ⟨rfl, hc4⟩; have hb4 := hb3.trans (hc4.mono hb3.size)) | (refine (cJ _ hb1).mono ?_; rintro e w2 ⟨rfl, hc2⟩; have hb2 := hb1.trans (hc2.mono hb1.size))) | (go_at_call 7; refine (c9 _ hb2).mono ?_; rintro e w3 ⟨rfl, hc3⟩; have hb3 := hb2.trans (hc3.mono hb2.size)) | (go_at_call 8; first | (refine (cCa _ hb5).mono ?_; rintro e w6 ⟨rfl, hc6⟩; have hb6 := hb5.trans (hc6.mono hb5.size)) | (refine (cCb _ hb4).mono ?_; rintro e w5 ⟨rfl, hc5⟩; have hb5 := hb4.trans (hc5.mono hb4.size))))
  go_ret
  exact ⟨by first | rfl | simp, hb6⟩

set_option maxHeartbeats 8000000 in
set_option maxRecDepth 100000 in
theorem back_64303 (s a b ka kb : Int) (hkb : 0 < kb) (hka : ¬ 0 < ka) (w : World) (hT : TabsN w)
    (cS : Calls Tryd.prog 5 #[.int .i32 64303] w fun e w' => e = .returned (.tuple #[.int .i32 a, .int .i32 b, .int .i64 2]) ∧ Below w.heap.size w w')
    (cJ : ∀ W, Below w.heap.size w W → Calls Tryd.prog 6 #[.int .i32 64303, .int .i32 s] W fun e w' => e = .returned (.tuple #[.int .i32 0, .bool false]) ∧ Below W.heap.size W w')
    (cJ2 : ∀ W, Below w.heap.size w W → Calls Tryd.prog 6 #[.int .i32 a, .int .i32 b] W fun e w' => e = .returned (.tuple #[.int .i32 0, .bool false]) ∧ Below W.heap.size W w')
    (cCb : ∀ W, Below w.heap.size w W → Calls Tryd.prog 8 #[.int .i32 b] W fun e w' => e = .returned (.int .i64 kb) ∧ Below W.heap.size W w')
    (cCa : ∀ W, Below w.heap.size w W → Calls Tryd.prog 8 #[.int .i32 a] W fun e w' => e = .returned (.int .i64 ka) ∧ Below W.heap.size W w') :
    Calls Tryd.prog 3 #[.int .i32 64303, .int .i32 s] w fun e w' => e = .returned (.bool true) ∧ Below w.heap.size w w' := by
  have c9 := fun W (hb : Below w.heap.size w W) => answersP W (hT.below hb)
  have q4 : (kb == 0) = false := by simp; omega
  clear hT
  go_enter Tryd.func3, Tryd.ntmps3
  go_wp2_with (first | (go_at_call 5; refine cS.mono ?_; rintro e w1 ⟨rfl, hb1⟩) | (go_at_call 6; first | (refine (cJ2 _ hb3).mono ?_; rintro e w4 ⟨rfl, hc4⟩; have hb4 := hb3.trans (hc4.mono hb3.size)) | (refine (cJ _ hb1).mono ?_; rintro e w2 ⟨rfl, hc2⟩; have hb2 := hb1.trans (hc2.mono hb1.size))) | (go_at_call 7; refine (c9 _ hb2).mono ?_; rintro e w3 ⟨rfl, hc3⟩; have hb3 := hb2.trans (hc3.mono hb2.size)) | (go_at_call 8; first | (refine (cCa _ hb5).mono ?_; rintro e w6 ⟨rfl, hc6⟩; have hb6 := hb5.trans (hc6.mono hb5.size)) | (refine (cCb _ hb4).mono ?_; rintro e w5 ⟨rfl, hc5⟩; have hb5 := hb4.trans (hc5.mono hb4.size))))
  go_ret
  exact ⟨by first | rfl | simp, hb6⟩
end Go.Proofs.YtpoidncgbidlaaaDoor.New
