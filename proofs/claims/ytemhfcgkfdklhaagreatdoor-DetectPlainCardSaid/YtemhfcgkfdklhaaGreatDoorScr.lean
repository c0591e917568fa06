/- latin.EachAnsel, scripts.text and scripts.Each. -/
import Derived.Test.YtemhfcgkfdklhaaGreatDoorConstE
set_option linter.unusedVariables false
namespace Go.Proofs.YtemhfcgkfdklhaaGreatDoor.Look
open Go Go.RowKit Go.Shelf Go.Proofs

/-- What the three Each leave. -/
def EachOk (J : World → List (Int × Int) → (Nat → Prop) → Prop) (L0 add : List (Int × Int)) (O0 : Nat → Prop) (w : World) (e : Ending) (w' : World) : Prop :=
  e = .returned (.tuple #[]) ∧ Idx.Free O0 w w' ∧ ∃ O, J w' (L0 ++ add) O ∧ ∀ k, O k → k < w.heap.size → O0 k
set_option maxHeartbeats 4000000 in
set_option maxRecDepth 100000 in
theorem eachAnsel (px cs : Nat) (J : World → List (Int × Int) → (Nat → Prop) → Prop) (hS : Steps 40 #[.pointer (some ⟨px, 0, none⟩), .pointer (some ⟨cs, 0, none⟩)] J) (L0 : List (Int × Int)) (hlen : L0.length ≤ 90000) (O0 : Nat → Prop) (w00 w : World) (hT : Tabs w00) (hB : Below w00.heap.size w00 w) (hOB : ∀ k, O0 k → w00.heap.size ≤ k) (hJ : J w L0 O0) : Calls Tryz.prog 42 #[.func (.func 40) #[] #[.pointer (some ⟨px, 0, none⟩), .pointer (some ⟨cs, 0, none⟩)]] w (EachOk J L0 (eachT anselT) O0 w) := by
  have cE := fun text e => each_tab (text := text) e ansel_tab ansel_len px cs J hS L0 hlen O0 w00 w hT hB hOB hJ
  have H := Lib.hid cE
  clear cE
  go_enter Tryz.func42, Tryz.ntmps42
  go_wp2_with (go_at_call 57; refine (H.out _ (by kernel_rfl)).mono ?_; rintro e w' ⟨rfl, h1, h2⟩)
  go_end0
  exact ⟨rfl, h1, h2⟩

set_option maxHeartbeats 4000000 in
set_option maxRecDepth 100000 in
theorem text3 (w : World) : Calls Tryz.prog 59 #[.int .i64 3] w fun e w' => e = .returned (.string greekS) ∧ w' = w := by
  go_enter Tryz.func59, Tryz.ntmps59
  go_wp2
  go_ret
  exact ⟨by kernel_rfl, rfl⟩
set_option maxHeartbeats 4000000 in
set_option maxRecDepth 100000 in
theorem scr3 (px cs : Nat) (J : World → List (Int × Int) → (Nat → Prop) → Prop) (hS : Steps 40 #[.pointer (some ⟨px, 0, none⟩), .pointer (some ⟨cs, 0, none⟩)] J) (L0 : List (Int × Int)) (hlen : L0.length ≤ 90000) (O0 : Nat → Prop) (w00 w : World) (hT : Tabs w00) (hB : Below w00.heap.size w00 w) (hOB : ∀ k, O0 k → w00.heap.size ≤ k) (hJ : J w L0 O0) : Calls Tryz.prog 44 #[.int .i64 3, .func (.func 40) #[] #[.pointer (some ⟨px, 0, none⟩), .pointer (some ⟨cs, 0, none⟩)]] w (EachOk J L0 (eachT greekT) O0 w) := by
  have cX := fun W => text3 W
  have cE := each_tab (text := greekS) rfl greek_tab greek_len px cs J hS L0 hlen O0 w00 w hT hB hOB hJ
  have he : greekS.toList.isEmpty = false := by decide +kernel
  generalize greekS = S at cX cE he
  generalize eachT greekT = R at cE ⊢
  have H := Lib.hid cE
  clear cE
  go_enter Tryz.func44, Tryz.ntmps44
  go_wp2_with (first | (go_at_call 59; refine (cX _).mono ?_; rintro e w' ⟨rfl, rfl⟩) | (go_at_call 57; refine H.out.mono ?_; rintro e w2 ⟨rfl, h1, h2⟩))
  all_goals go_end0
  all_goals exact ⟨rfl, h1, h2⟩

set_option maxHeartbeats 4000000 in
set_option maxRecDepth 100000 in
theorem text4 (w : World) : Calls Tryz.prog 59 #[.int .i64 4] w fun e w' => e = .returned (.string hebrewS) ∧ w' = w := by
  go_enter Tryz.func59, Tryz.ntmps59
  go_wp2
  go_ret
  exact ⟨by kernel_rfl, rfl⟩
set_option maxHeartbeats 4000000 in
set_option maxRecDepth 100000 in
theorem scr4 (px cs : Nat) (J : World → List (Int × Int) → (Nat → Prop) → Prop) (hS : Steps 40 #[.pointer (some ⟨px, 0, none⟩), .pointer (some ⟨cs, 0, none⟩)] J) (L0 : List (Int × Int)) (hlen : L0.length ≤ 90000) (O0 : Nat → Prop) (w00 w : World) (hT : Tabs w00) (hB : Below w00.heap.size w00 w) (hOB : ∀ k, O0 k → w00.heap.size ≤ k) (hJ : J w L0 O0) : Calls Tryz.prog 44 #[.int .i64 4, .func (.func 40) #[] #[.pointer (some ⟨px, 0, none⟩), .pointer (some ⟨cs, 0, none⟩)]] w (EachOk J L0 (eachT hebrewT) O0 w) := by
  have cX := fun W => text4 W
  have cE := each_tab (text := hebrewS) rfl hebrew_tab hebrew_len px cs J hS L0 hlen O0 w00 w hT hB hOB hJ
  have he : hebrewS.toList.isEmpty = false := by decide +kernel
  generalize hebrewS = S at cX cE he
  generalize eachT hebrewT = R at cE ⊢
  have H := Lib.hid cE
  clear cE
  go_enter Tryz.func44, Tryz.ntmps44
  go_wp2_with (first | (go_at_call 59; refine (cX _).mono ?_; rintro e w' ⟨rfl, rfl⟩) | (go_at_call 57; refine H.out.mono ?_; rintro e w2 ⟨rfl, h1, h2⟩))
  all_goals go_end0
  all_goals exact ⟨rfl, h1, h2⟩

set_option maxHeartbeats 4000000 in
set_option maxRecDepth 100000 in
theorem text5 (w : World) : Calls Tryz.prog 59 #[.int .i64 5] w fun e w' => e = .returned (.string arabicS) ∧ w' = w := by
  go_enter Tryz.func59, Tryz.ntmps59
  go_wp2
  go_ret
  exact ⟨by kernel_rfl, rfl⟩
set_option maxHeartbeats 4000000 in
set_option maxRecDepth 100000 in
theorem scr5 (px cs : Nat) (J : World → List (Int × Int) → (Nat → Prop) → Prop) (hS : Steps 40 #[.pointer (some ⟨px, 0, none⟩), .pointer (some ⟨cs, 0, none⟩)] J) (L0 : List (Int × Int)) (hlen : L0.length ≤ 90000) (O0 : Nat → Prop) (w00 w : World) (hT : Tabs w00) (hB : Below w00.heap.size w00 w) (hOB : ∀ k, O0 k → w00.heap.size ≤ k) (hJ : J w L0 O0) : Calls Tryz.prog 44 #[.int .i64 5, .func (.func 40) #[] #[.pointer (some ⟨px, 0, none⟩), .pointer (some ⟨cs, 0, none⟩)]] w (EachOk J L0 (eachT arabicT) O0 w) := by
  have cX := fun W => text5 W
  have cE := each_tab (text := arabicS) rfl arabic_tab arabic_len px cs J hS L0 hlen O0 w00 w hT hB hOB hJ
  have he : arabicS.toList.isEmpty = false := by decide +kernel
  generalize arabicS = S at cX cE he
  generalize eachT arabicT = R at cE ⊢
  have H := Lib.hid cE
  clear cE
  go_enter Tryz.func44, Tryz.ntmps44
  go_wp2_with (first | (go_at_call 59; refine (cX _).mono ?_; rintro e w' ⟨rfl, rfl⟩) | (go_at_call 57; refine H.out.mono ?_; rintro e w2 ⟨rfl, h1, h2⟩))
  all_goals go_end0
  all_goals exact ⟨rfl, h1, h2⟩

set_option maxHeartbeats 4000000 in
set_option maxRecDepth 100000 in
theorem text6 (w : World) : Calls Tryz.prog 59 #[.int .i64 6] w fun e w' => e = .returned (.string moreArabicS) ∧ w' = w := by
  go_enter Tryz.func59, Tryz.ntmps59
  go_wp2
  go_ret
  exact ⟨by kernel_rfl, rfl⟩
set_option maxHeartbeats 4000000 in
set_option maxRecDepth 100000 in
theorem scr6 (px cs : Nat) (J : World → List (Int × Int) → (Nat → Prop) → Prop) (hS : Steps 40 #[.pointer (some ⟨px, 0, none⟩), .pointer (some ⟨cs, 0, none⟩)] J) (L0 : List (Int × Int)) (hlen : L0.length ≤ 90000) (O0 : Nat → Prop) (w00 w : World) (hT : Tabs w00) (hB : Below w00.heap.size w00 w) (hOB : ∀ k, O0 k → w00.heap.size ≤ k) (hJ : J w L0 O0) : Calls Tryz.prog 44 #[.int .i64 6, .func (.func 40) #[] #[.pointer (some ⟨px, 0, none⟩), .pointer (some ⟨cs, 0, none⟩)]] w (EachOk J L0 (eachT moreArabicT) O0 w) := by
  have cX := fun W => text6 W
  have cE := each_tab (text := moreArabicS) rfl moreArabic_tab moreArabic_len px cs J hS L0 hlen O0 w00 w hT hB hOB hJ
  have he : moreArabicS.toList.isEmpty = false := by decide +kernel
  generalize moreArabicS = S at cX cE he
  generalize eachT moreArabicT = R at cE ⊢
  have H := Lib.hid cE
  clear cE
  go_enter Tryz.func44, Tryz.ntmps44
  go_wp2_with (first | (go_at_call 59; refine (cX _).mono ?_; rintro e w' ⟨rfl, rfl⟩) | (go_at_call 57; refine H.out.mono ?_; rintro e w2 ⟨rfl, h1, h2⟩))
  all_goals go_end0
  all_goals exact ⟨rfl, h1, h2⟩

set_option maxHeartbeats 4000000 in
set_option maxRecDepth 100000 in
theorem text7 (w : World) : Calls Tryz.prog 59 #[.int .i64 7] w fun e w' => e = .returned (.string cyrillicS) ∧ w' = w := by
  go_enter Tryz.func59, Tryz.ntmps59
  go_wp2
  go_ret
  exact ⟨by kernel_rfl, rfl⟩
set_option maxHeartbeats 4000000 in
set_option maxRecDepth 100000 in
theorem scr7 (px cs : Nat) (J : World → List (Int × Int) → (Nat → Prop) → Prop) (hS : Steps 40 #[.pointer (some ⟨px, 0, none⟩), .pointer (some ⟨cs, 0, none⟩)] J) (L0 : List (Int × Int)) (hlen : L0.length ≤ 90000) (O0 : Nat → Prop) (w00 w : World) (hT : Tabs w00) (hB : Below w00.heap.size w00 w) (hOB : ∀ k, O0 k → w00.heap.size ≤ k) (hJ : J w L0 O0) : Calls Tryz.prog 44 #[.int .i64 7, .func (.func 40) #[] #[.pointer (some ⟨px, 0, none⟩), .pointer (some ⟨cs, 0, none⟩)]] w (EachOk J L0 (eachT cyrillicT) O0 w) := by
  have cX := fun W => text7 W
  have cE := each_tab (text := cyrillicS) rfl cyrillic_tab cyrillic_len px cs J hS L0 hlen O0 w00 w hT hB hOB hJ
  have he : cyrillicS.toList.isEmpty = false := by decide +kernel
  generalize cyrillicS = S at cX cE he
  generalize eachT cyrillicT = R at cE ⊢
  have H := Lib.hid cE
  clear cE
  go_enter Tryz.func44, Tryz.ntmps44
  go_wp2_with (first | (go_at_call 59; refine (cX _).mono ?_; rintro e w' ⟨rfl, rfl⟩) | (go_at_call 57; refine H.out.mono ?_; rintro e w2 ⟨rfl, h1, h2⟩))
  all_goals go_end0
  all_goals exact ⟨rfl, h1, h2⟩

set_option maxHeartbeats 4000000 in
set_option maxRecDepth 100000 in
theorem text8 (w : World) : Calls Tryz.prog 59 #[.int .i64 8] w fun e w' => e = .returned (.string moreCyrillS) ∧ w' = w := by
  go_enter Tryz.func59, Tryz.ntmps59
  go_wp2
  go_ret
  exact ⟨by kernel_rfl, rfl⟩
set_option maxHeartbeats 4000000 in
set_option maxRecDepth 100000 in
theorem scr8 (px cs : Nat) (J : World → List (Int × Int) → (Nat → Prop) → Prop) (hS : Steps 40 #[.pointer (some ⟨px, 0, none⟩), .pointer (some ⟨cs, 0, none⟩)] J) (L0 : List (Int × Int)) (hlen : L0.length ≤ 90000) (O0 : Nat → Prop) (w00 w : World) (hT : Tabs w00) (hB : Below w00.heap.size w00 w) (hOB : ∀ k, O0 k → w00.heap.size ≤ k) (hJ : J w L0 O0) : Calls Tryz.prog 44 #[.int .i64 8, .func (.func 40) #[] #[.pointer (some ⟨px, 0, none⟩), .pointer (some ⟨cs, 0, none⟩)]] w (EachOk J L0 (eachT moreCyrillT) O0 w) := by
  have cX := fun W => text8 W
  have cE := each_tab (text := moreCyrillS) rfl moreCyrill_tab moreCyrill_len px cs J hS L0 hlen O0 w00 w hT hB hOB hJ
  have he : moreCyrillS.toList.isEmpty = false := by decide +kernel
  generalize moreCyrillS = S at cX cE he
  generalize eachT moreCyrillT = R at cE ⊢
  have H := Lib.hid cE
  clear cE
  go_enter Tryz.func44, Tryz.ntmps44
  go_wp2_with (first | (go_at_call 59; refine (cX _).mono ?_; rintro e w' ⟨rfl, rfl⟩) | (go_at_call 57; refine H.out.mono ?_; rintro e w2 ⟨rfl, h1, h2⟩))
  all_goals go_end0
  all_goals exact ⟨rfl, h1, h2⟩

def scrT : Nat → List (List ByteArray)
  | 0 => greekT
  | 1 => hebrewT
  | 2 => arabicT
  | 3 => moreArabicT
  | 4 => cyrillicT
  | _ => moreCyrillT

theorem scrEach (m : Nat) (hm : m < 6) (px cs : Nat) (J : World → List (Int × Int) → (Nat → Prop) → Prop) (hS : Steps 40 #[.pointer (some ⟨px, 0, none⟩), .pointer (some ⟨cs, 0, none⟩)] J) (L0 : List (Int × Int)) (hlen : L0.length ≤ 90000) (O0 : Nat → Prop) (w00 w : World) (hT : Tabs w00) (hB : Below w00.heap.size w00 w) (hOB : ∀ k, O0 k → w00.heap.size ≤ k) (hJ : J w L0 O0) : Calls Tryz.prog 44 #[.int .i64 (3 + (m : Int)), .func (.func 40) #[] #[.pointer (some ⟨px, 0, none⟩), .pointer (some ⟨cs, 0, none⟩)]] w (EachOk J L0 (eachT (scrT m)) O0 w) := by
  match m, hm with
  | 0, _ => exact scr3 px cs J hS L0 hlen O0 w00 w hT hB hOB hJ
  | 1, _ => exact scr4 px cs J hS L0 hlen O0 w00 w hT hB hOB hJ
  | 2, _ => exact scr5 px cs J hS L0 hlen O0 w00 w hT hB hOB hJ
  | 3, _ => exact scr6 px cs J hS L0 hlen O0 w00 w hT hB hOB hJ
  | 4, _ => exact scr7 px cs J hS L0 hlen O0 w00 w hT hB hOB hJ
  | 5, _ => exact scr8 px cs J hS L0 hlen O0 w00 w hT hB hOB hJ
theorem scr_len (m : Nat) : (eachT (scrT m)).length ≤ 100 := by
  match m with
  | 0 => exact greek_len
  | 1 => exact hebrew_len
  | 2 => exact arabic_len
  | 3 => exact moreArabic_len
  | 4 => exact cyrillic_len
  | _ + 5 => exact moreCyrill_len
end Go.Proofs.YtemhfcgkfdklhaaGreatDoor.Look
