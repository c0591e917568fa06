/- scripts.text (f16), Rune (f12), answers (f13). -/
import Derived.Test.YtlakeehjchmkdaaDoorAnsel
set_option linter.unusedVariables false
namespace Go.Proofs.YtlakeehjchmkdaaDoor.Look
open Go Go.RowKit Go.Shelf Go.Proofs


set_option maxHeartbeats 4000000 in
set_option maxRecDepth 100000 in
theorem text3 (w : World) : Calls Tryd.prog 16 #[.int .i64 3] w fun e w' => e = .returned (.string greekS) ∧ w' = w := by
  go_enter Tryd.func16, Tryd.ntmps16
  go_wp2
  go_ret
  exact ⟨by kernel_rfl, rfl⟩

set_option maxHeartbeats 4000000 in
set_option maxRecDepth 100000 in
theorem rune3 (n : Int) (w : World) (hT : Tabs w) : Calls Tryd.prog 12 #[.int .i64 3, .int .i64 n] w fun e w' => e = .returned (.tuple #[.int .i32 (lookT greekT n).1, .bool (lookT greekT n).2]) ∧ Below w.heap.size w w' := by
  have cX := fun W => text3 W
  have cL := fun W hW => look_tab (text := greekS) rfl greek_tab n W hW
  have he : greekS.toList.isEmpty = false := by decide +kernel
  generalize greekS = S at cX cL he
  generalize lookT greekT n = R at cL ⊢
  obtain ⟨rx, ry⟩ := R
  go_enter Tryd.func12, Tryd.ntmps12
  go_wp2_with (first | (go_at_call 16; refine (cX _).mono ?_; rintro e w' ⟨rfl, rfl⟩) | (go_at_call 14; refine (cL _ hT).mono ?_; rintro e w2 ⟨rfl, hb⟩))
  all_goals go_ret2
  all_goals exact ⟨rfl, hb⟩

set_option maxHeartbeats 4000000 in
set_option maxRecDepth 100000 in
theorem text4 (w : World) : Calls Tryd.prog 16 #[.int .i64 4] w fun e w' => e = .returned (.string hebrewS) ∧ w' = w := by
  go_enter Tryd.func16, Tryd.ntmps16
  go_wp2
  go_ret
  exact ⟨by kernel_rfl, rfl⟩

set_option maxHeartbeats 4000000 in
set_option maxRecDepth 100000 in
theorem rune4 (n : Int) (w : World) (hT : Tabs w) : Calls Tryd.prog 12 #[.int .i64 4, .int .i64 n] w fun e w' => e = .returned (.tuple #[.int .i32 (lookT hebrewT n).1, .bool (lookT hebrewT n).2]) ∧ Below w.heap.size w w' := by
  have cX := fun W => text4 W
  have cL := fun W hW => look_tab (text := hebrewS) rfl hebrew_tab n W hW
  have he : hebrewS.toList.isEmpty = false := by decide +kernel
  generalize hebrewS = S at cX cL he
  generalize lookT hebrewT n = R at cL ⊢
  obtain ⟨rx, ry⟩ := R
  go_enter Tryd.func12, Tryd.ntmps12
  go_wp2_with (first | (go_at_call 16; refine (cX _).mono ?_; rintro e w' ⟨rfl, rfl⟩) | (go_at_call 14; refine (cL _ hT).mono ?_; rintro e w2 ⟨rfl, hb⟩))
  all_goals go_ret2
  all_goals exact ⟨rfl, hb⟩

set_option maxHeartbeats 4000000 in
set_option maxRecDepth 100000 in
theorem text5 (w : World) : Calls Tryd.prog 16 #[.int .i64 5] w fun e w' => e = .returned (.string arabicS) ∧ w' = w := by
  go_enter Tryd.func16, Tryd.ntmps16
  go_wp2
  go_ret
  exact ⟨by kernel_rfl, rfl⟩

set_option maxHeartbeats 4000000 in
set_option maxRecDepth 100000 in
theorem rune5 (n : Int) (w : World) (hT : Tabs w) : Calls Tryd.prog 12 #[.int .i64 5, .int .i64 n] w fun e w' => e = .returned (.tuple #[.int .i32 (lookT arabicT n).1, .bool (lookT arabicT n).2]) ∧ Below w.heap.size w w' := by
  have cX := fun W => text5 W
  have cL := fun W hW => look_tab (text := arabicS) rfl arabic_tab n W hW
  have he : arabicS.toList.isEmpty = false := by decide +kernel
  generalize arabicS = S at cX cL he
  generalize lookT arabicT n = R at cL ⊢
  obtain ⟨rx, ry⟩ := R
  go_enter Tryd.func12, Tryd.ntmps12
  go_wp2_with (first | (go_at_call 16; refine (cX _).mono ?_; rintro e w' ⟨rfl, rfl⟩) | (go_at_call 14; refine (cL _ hT).mono ?_; rintro e w2 ⟨rfl, hb⟩))
  all_goals go_ret2
  all_goals exact ⟨rfl, hb⟩

set_option maxHeartbeats 4000000 in
set_option maxRecDepth 100000 in
theorem text6 (w : World) : Calls Tryd.prog 16 #[.int .i64 6] w fun e w' => e = .returned (.string moreArabicS) ∧ w' = w := by
  go_enter Tryd.func16, Tryd.ntmps16
  go_wp2
  go_ret
  exact ⟨by kernel_rfl, rfl⟩

set_option maxHeartbeats 4000000 in
set_option maxRecDepth 100000 in
theorem rune6 (n : Int) (w : World) (hT : Tabs w) : Calls Tryd.prog 12 #[.int .i64 6, .int .i64 n] w fun e w' => e = .returned (.tuple #[.int .i32 (lookT moreArabicT n).1, .bool (lookT moreArabicT n).2]) ∧ Below w.heap.size w w' := by
  have cX := fun W => text6 W
  have cL := fun W hW => look_tab (text := moreArabicS) rfl moreArabic_tab n W hW
  have he : moreArabicS.toList.isEmpty = false := by decide +kernel
  generalize moreArabicS = S at cX cL he
  generalize lookT moreArabicT n = R at cL ⊢
  obtain ⟨rx, ry⟩ := R
  go_enter Tryd.func12, Tryd.ntmps12
  go_wp2_with (first | (go_at_call 16; refine (cX _).mono ?_; rintro e w' ⟨rfl, rfl⟩) | (go_at_call 14; refine (cL _ hT).mono ?_; rintro e w2 ⟨rfl, hb⟩))
  all_goals go_ret2
  all_goals exact ⟨rfl, hb⟩

set_option maxHeartbeats 4000000 in
set_option maxRecDepth 100000 in
theorem text7 (w : World) : Calls Tryd.prog 16 #[.int .i64 7] w fun e w' => e = .returned (.string cyrillicS) ∧ w' = w := by
  go_enter Tryd.func16, Tryd.ntmps16
  go_wp2
  go_ret
  exact ⟨by kernel_rfl, rfl⟩

set_option maxHeartbeats 4000000 in
set_option maxRecDepth 100000 in
theorem rune7 (n : Int) (w : World) (hT : Tabs w) : Calls Tryd.prog 12 #[.int .i64 7, .int .i64 n] w fun e w' => e = .returned (.tuple #[.int .i32 (lookT cyrillicT n).1, .bool (lookT cyrillicT n).2]) ∧ Below w.heap.size w w' := by
  have cX := fun W => text7 W
  have cL := fun W hW => look_tab (text := cyrillicS) rfl cyrillic_tab n W hW
  have he : cyrillicS.toList.isEmpty = false := by decide +kernel
  generalize cyrillicS = S at cX cL he
  generalize lookT cyrillicT n = R at cL ⊢
  obtain ⟨rx, ry⟩ := R
  go_enter Tryd.func12, Tryd.ntmps12
  go_wp2_with (first | (go_at_call 16; refine (cX _).mono ?_; rintro e w' ⟨rfl, rfl⟩) | (go_at_call 14; refine (cL _ hT).mono ?_; rintro e w2 ⟨rfl, hb⟩))
  all_goals go_ret2
  all_goals exact ⟨rfl, hb⟩

set_option maxHeartbeats 4000000 in
set_option maxRecDepth 100000 in
theorem text8 (w : World) : Calls Tryd.prog 16 #[.int .i64 8] w fun e w' => e = .returned (.string moreCyrillS) ∧ w' = w := by
  go_enter Tryd.func16, Tryd.ntmps16
  go_wp2
  go_ret
  exact ⟨by kernel_rfl, rfl⟩

set_option maxHeartbeats 4000000 in
set_option maxRecDepth 100000 in
theorem rune8 (n : Int) (w : World) (hT : Tabs w) : Calls Tryd.prog 12 #[.int .i64 8, .int .i64 n] w fun e w' => e = .returned (.tuple #[.int .i32 (lookT moreCyrillT n).1, .bool (lookT moreCyrillT n).2]) ∧ Below w.heap.size w w' := by
  have cX := fun W => text8 W
  have cL := fun W hW => look_tab (text := moreCyrillS) rfl moreCyrill_tab n W hW
  have he : moreCyrillS.toList.isEmpty = false := by decide +kernel
  generalize moreCyrillS = S at cX cL he
  generalize lookT moreCyrillT n = R at cL ⊢
  obtain ⟨rx, ry⟩ := R
  go_enter Tryd.func12, Tryd.ntmps12
  go_wp2_with (first | (go_at_call 16; refine (cX _).mono ?_; rintro e w' ⟨rfl, rfl⟩) | (go_at_call 14; refine (cL _ hT).mono ?_; rintro e w2 ⟨rfl, hb⟩))
  all_goals go_ret2
  all_goals exact ⟨rfl, hb⟩

theorem cyr65 : lookT cyrillicT 65 = (1072, true) := by decide +kernel
set_option maxHeartbeats 4000000 in
set_option maxRecDepth 100000 in
theorem answers13 (w : World) (hT : Tabs w) : Calls Tryd.prog 13 #[] w fun e w' => e = .returned (.bool true) ∧ Below w.heap.size w w' := by
  have cA := rune7 65 w hT
  rw [cyr65] at cA
  go_enter Tryd.func13, Tryd.ntmps13
  go_wp2_with (go_at_call 12; refine cA.mono ?_; rintro e w' ⟨rfl, hb⟩)
  go_ret
  exact ⟨rfl, hb⟩
end Go.Proofs.YtlakeehjchmkdaaDoor.Look
