/- Leaders: leader.Sound, Coding; amanuensisref19.Sound, Coding. -/
import Derived.Test.YtemhfcgkfdklhaaGreatDoorDet4
set_option linter.all false
namespace Go.Proofs.YtemhfcgkfdklhaaGreatDoor.Look
open Go Go.RowKit Go.Shelf Go.Proofs Go.Proofs.YtemhfcgkfdklhaaGreatDoor.Rd

/-- Could all texts be of one coding, of the other one? -/
def evM (fs : List Fld) : Bool := fs.all fun f => (textsF f).all mV
def evU (fs : List Fld) : Bool := fs.all fun f => (textsF f).all uV
structure Recs (w : World) (fv : Value) (fs : List Fld) : Prop where
  at_ : FieldsAt w fv fs
  len : fs.length ≤ 1000000
  ok : ∀ f ∈ fs, Small f
theorem Recs.below {w w' : World} {v : Value} {s : List Fld} (h : Recs w v s) (hb : Below w.heap.size w w') : Recs w' v s := ⟨h.at_.below hb, h.len, h.ok⟩

set_option maxHeartbeats 8000000 in
set_option maxRecDepth 100000 in
theorem cEvM (w : World) (hT : Tabs w) (fv : Value) (fs : List Fld) (rb : Nat) (h : Recs w fv fs) (hk : w.cell? ⟨rb, 1, none⟩ = some fv) :
    Calls Tryz.prog 23 #[.func (.func 28) #[] #[], .pointer (some ⟨rb, 0, none⟩)] w fun e w' => e = .returned (.bool (evM fs)) ∧ Below w.heap.size w w' := by
  obtain ⟨h1, h2, h3⟩ := h
  have hrl : rb < w.heap.size := World.block_lt_of_cell? w ⟨rb, 1, none⟩ hk
  have hF := h1
  obtain ⟨a, c, rfl, _⟩ := h1
  obtain ⟨W0, hW0⟩ : ∃ W0, W0 = w.alloc (.cells #[.func (.func 28) #[] #[]] 66) := ⟨_, rfl⟩
  have hb0 : Below w.heap.size w W0 := by rw [hW0]; exact (Below.refl _ w).alloc (Nat.le_refl _) _
  have hbx : W0.cell? ⟨w.heap.size, 0, none⟩ = some (.func (.func 28) #[] #[]) := by rw [hW0]; exact one_box w _ _
  have hk0 : W0.cell? ⟨rb, 1, none⟩ = some (.slice a fs.length c) := (hb0.cell (p := ⟨rb, 1, none⟩) hrl).trans hk
  have HC : Hid (Calls Tryz.prog 24 #[.slice a fs.length c, .func (.func 25) #[] #[.pointer (some ⟨w.heap.size, 0, none⟩)]] W0 fun e w' => e = .returned (.bool (evM fs)) ∧ Below W0.heap.size W0 w') := cFieldsM W0 (hT.below hb0) _ fs w.heap.size (hF.below hb0) h2 h3 hbx
  have HB : Aside (Below w.heap.size w W0) := hb0
  obtain ⟨M, hM⟩ : ∃ M, M = fs.length := ⟨_, rfl⟩
  obtain ⟨res, hres⟩ : ∃ r, r = evM fs := ⟨_, rfl⟩
  rw [← hM, ← hres] at HC
  rw [← hM] at hk0
  rw [← hres]
  clear hF h2 h3 hb0 hbx hk hrl hM hres
  rw [hW0] at HC hk0
  replace hW0 := Lib.hid hW0
  go_enter Tryz.func23, Tryz.ntmps23
  go_wp2_with (go_at_call 24; refine HC.out.mono ?_; rintro e w2 ⟨rfl, hb2⟩; clear HC)
  go_ret
  rw [← hW0.out] at hb2
  exact ⟨rfl, HB.out.trans (hb2.mono HB.out.size)⟩

set_option maxHeartbeats 8000000 in
set_option maxRecDepth 100000 in
theorem cEvU (w : World) (fv : Value) (fs : List Fld) (rb : Nat) (h : Recs w fv fs) (hk : w.cell? ⟨rb, 1, none⟩ = some fv) :
    Calls Tryz.prog 23 #[.func (.func 29) #[] #[], .pointer (some ⟨rb, 0, none⟩)] w fun e w' => e = .returned (.bool (evU fs)) ∧ Below w.heap.size w w' := by
  obtain ⟨h1, h2, h3⟩ := h
  have hrl : rb < w.heap.size := World.block_lt_of_cell? w ⟨rb, 1, none⟩ hk
  have hF := h1
  obtain ⟨a, c, rfl, _⟩ := h1
  obtain ⟨W0, hW0⟩ : ∃ W0, W0 = w.alloc (.cells #[.func (.func 29) #[] #[]] 66) := ⟨_, rfl⟩
  have hb0 : Below w.heap.size w W0 := by rw [hW0]; exact (Below.refl _ w).alloc (Nat.le_refl _) _
  have hbx : W0.cell? ⟨w.heap.size, 0, none⟩ = some (.func (.func 29) #[] #[]) := by rw [hW0]; exact one_box w _ _
  have hk0 : W0.cell? ⟨rb, 1, none⟩ = some (.slice a fs.length c) := (hb0.cell (p := ⟨rb, 1, none⟩) hrl).trans hk
  have HC : Hid (Calls Tryz.prog 24 #[.slice a fs.length c, .func (.func 25) #[] #[.pointer (some ⟨w.heap.size, 0, none⟩)]] W0 fun e w' => e = .returned (.bool (evU fs)) ∧ Below W0.heap.size W0 w') := cFieldsU W0 _ fs w.heap.size (hF.below hb0) h2 h3 hbx
  have HB : Aside (Below w.heap.size w W0) := hb0
  obtain ⟨M, hM⟩ : ∃ M, M = fs.length := ⟨_, rfl⟩
  obtain ⟨res, hres⟩ : ∃ r, r = evU fs := ⟨_, rfl⟩
  rw [← hM, ← hres] at HC
  rw [← hM] at hk0
  rw [← hres]
  clear hF h2 h3 hb0 hbx hk hrl hM hres
  rw [hW0] at HC hk0
  replace hW0 := Lib.hid hW0
  go_enter Tryz.func23, Tryz.ntmps23
  go_wp2_with (go_at_call 24; refine HC.out.mono ?_; rintro e w2 ⟨rfl, hb2⟩; clear HC)
  go_ret
  rw [← hW0.out] at hb2
  exact ⟨rfl, HB.out.trans (hb2.mono HB.out.size)⟩

set_option maxHeartbeats 8000000 in
set_option maxRecDepth 100000 in
theorem cEvidence (w : World) (hT : Tabs w) (lead : ByteArray) (fv : Value) (fs : List Fld) (h : Recs w fv fs) :
    Calls Tryz.prog 14 #[.agg #[.string lead, fv]] w fun e w' => e = .returned (.tuple #[.bool (evM fs), .bool (evU fs)]) ∧ Below w.heap.size w w' := by
  obtain ⟨W0, hW0⟩ : ∃ W0, W0 = w.alloc (.cells #[.string lead, fv] 36) := ⟨_, rfl⟩
  have hb0 : Below w.heap.size w W0 := by rw [hW0]; exact (Below.refl _ w).alloc (Nat.le_refl _) _
  have hx : W0.heap[w.heap.size]? = some (.cells #[.string lead, fv] 36) := by rw [hW0]; exact (MapKept.heap_alloc w _).1
  have hk0 : W0.cell? ⟨w.heap.size, 1, none⟩ = some fv := by
    unfold World.cell?
    simp only [hx]
    rfl
  have hl0 : w.heap.size < W0.heap.size := (Array.getElem?_eq_some_iff.1 hx).1
  obtain ⟨bm, hbm⟩ : ∃ r, r = evM fs := ⟨_, rfl⟩
  obtain ⟨bu, hbu⟩ : ∃ r, r = evU fs := ⟨_, rfl⟩
  have H1 : Hid (Calls Tryz.prog 23 #[.func (.func 28) #[] #[], .pointer (some ⟨w.heap.size, 0, none⟩)] W0 fun e w' => e = .returned (.bool bm) ∧ Aside (Below W0.heap.size W0 w')) := by
    rw [hbm]
    exact cEvM W0 (hT.below hb0) fv fs w.heap.size (h.below hb0) hk0
  have H2 : Hid (∀ X, Below W0.heap.size W0 X → Calls Tryz.prog 23 #[.func (.func 29) #[] #[], .pointer (some ⟨w.heap.size, 0, none⟩)] X fun e w' => e = .returned (.bool bu) ∧ Aside (Below X.heap.size X w')) := by
    intro X hX
    rw [hbu]
    exact cEvU X fv fs w.heap.size (h.below (hb0.trans (hX.mono hb0.size))) ((hX.cell (p := ⟨w.heap.size, 1, none⟩) hl0).trans hk0)
  rw [← hbm, ← hbu]
  have HB : Aside (Below w.heap.size w W0) := hb0
  obtain ⟨h1, h2, h3⟩ := h
  obtain ⟨a, c, rfl, _⟩ := h1
  clear hbm hbu hx hk0 hl0 hb0 hT h2 h3
  rw [hW0] at H1
  replace hW0 := Lib.hid hW0
  go_enter Tryz.func14, Tryz.ntmps14
  go_wp2_with (first
    | (have q2 := hA2; go_at_call 23; refine (H2.out _ hA2.out).mono ?_; rintro e w3 ⟨rfl, hA3⟩; clear q2)
    | (go_at_call 23; refine H1.out.mono ?_; rintro e w2 ⟨rfl, hA1⟩; have hA2 : Aside (Below W0.heap.size W0 w2) := (by rw [hW0.out]; exact hA1.out); clear H1 hA1))
  go_ret2
  have hB2 := HB.out.trans (hA2.out.mono HB.out.size)
  exact ⟨rfl, hB2.trans (hA3.out.mono hB2.size)⟩
end Go.Proofs.YtemhfcgkfdklhaaGreatDoor.Look
set_option linter.all false
namespace Go.Proofs.YtemhfcgkfdklhaaGreatDoor.Look
open Go Go.RowKit Go.Shelf Go.Proofs Go.Proofs.YtemhfcgkfdklhaaGreatDoor.Rd

/-- May a byte stand at a place of a leader? (numbers may be anything) -/
def atP (i : Nat) (c : Int) : Prop := (i < 5 ∨ 12 ≤ i ∧ i < 17) ∨ (i = 9 ∧ (c = 32 ∨ c = 97)) ∨ ((i = 10 ∨ i = 11) ∧ c = 50) ∨ (i = 20 ∧ c = 52) ∨ (i = 21 ∧ c = 53) ∨ ((i = 22 ∨ i = 23) ∧ c = 48) ∨ ((i = 5 ∨ i = 6 ∨ i = 7 ∨ i = 8 ∨ i = 17 ∨ i = 18 ∨ i = 19) ∧ 32 ≤ c ∧ c ≤ 126)
instance (i : Nat) (c : Int) : Decidable (atP i c) := by unfold atP; infer_instance
def atV (i : Nat) (c : Int) : Bool := decide (atP i c)
def numB (i : Nat) : Bool := decide (i < 5) || (decide (12 ≤ i) && decide (i < 17))
def mustB (i : Nat) : Int := if i = 10 then 50 else if i = 11 then 50 else if i = 20 then 52 else if i = 21 then 53 else if i = 22 then 48 else if i = 23 then 48 else 0

set_option maxHeartbeats 8000000 in
set_option maxRecDepth 100000 in
theorem cNumber (i : Nat) (hi : i < 24) (w : World) : Calls Tryz.prog 73 #[.int .i64 (i : Int)] w fun e w' => e = .returned (.bool (numB i)) ∧ w = w' := by
  obtain rfl | rfl | rfl | rfl | rfl | rfl | rfl | rfl | rfl | rfl | rfl | rfl | rfl | rfl | rfl | rfl | rfl | rfl | rfl | rfl | rfl | rfl | rfl | rfl : i = 0 ∨ i = 1 ∨ i = 2 ∨ i = 3 ∨ i = 4 ∨ i = 5 ∨ i = 6 ∨ i = 7 ∨ i = 8 ∨ i = 9 ∨ i = 10 ∨ i = 11 ∨ i = 12 ∨ i = 13 ∨ i = 14 ∨ i = 15 ∨ i = 16 ∨ i = 17 ∨ i = 18 ∨ i = 19 ∨ i = 20 ∨ i = 21 ∨ i = 22 ∨ i = 23 := by omega
  all_goals
    go_enter Tryz.func73, Tryz.ntmps73
    go_wp2
    go_ret
    exact ⟨rfl, rfl⟩

set_option maxHeartbeats 8000000 in
set_option maxRecDepth 100000 in
theorem cMust (i : Nat) (hi : i < 24) (w : World) : Calls Tryz.prog 74 #[.int .i64 (i : Int)] w fun e w' => e = .returned (.int .u8 (mustB i)) ∧ w = w' := by
  obtain rfl | rfl | rfl | rfl | rfl | rfl | rfl | rfl | rfl | rfl | rfl | rfl | rfl | rfl | rfl | rfl | rfl | rfl | rfl | rfl | rfl | rfl | rfl | rfl : i = 0 ∨ i = 1 ∨ i = 2 ∨ i = 3 ∨ i = 4 ∨ i = 5 ∨ i = 6 ∨ i = 7 ∨ i = 8 ∨ i = 9 ∨ i = 10 ∨ i = 11 ∨ i = 12 ∨ i = 13 ∨ i = 14 ∨ i = 15 ∨ i = 16 ∨ i = 17 ∨ i = 18 ∨ i = 19 ∨ i = 20 ∨ i = 21 ∨ i = 22 ∨ i = 23 := by omega
  all_goals
    go_enter Tryz.func74, Tryz.ntmps74
    go_wp2
    go_ret
    exact ⟨rfl, rfl⟩

set_option maxHeartbeats 8000000 in
set_option maxRecDepth 100000 in
theorem cGoodL (i : Nat) (hi : i < 24) (c : Int) (w : World) : Calls Tryz.prog 53 #[.int .i64 (i : Int), .int .u8 c, .bool true] w fun e w' => e = .returned (.bool (atV i c)) ∧ w = w' := by
  have hN := fun X => cNumber i hi X
  have hM := fun X => cMust i hi X
  obtain rfl | rfl | rfl | rfl | rfl | rfl | rfl | rfl | rfl | rfl | rfl | rfl | rfl | rfl | rfl | rfl | rfl | rfl | rfl | rfl | rfl | rfl | rfl | rfl : i = 0 ∨ i = 1 ∨ i = 2 ∨ i = 3 ∨ i = 4 ∨ i = 5 ∨ i = 6 ∨ i = 7 ∨ i = 8 ∨ i = 9 ∨ i = 10 ∨ i = 11 ∨ i = 12 ∨ i = 13 ∨ i = 14 ∨ i = 15 ∨ i = 16 ∨ i = 17 ∨ i = 18 ∨ i = 19 ∨ i = 20 ∨ i = 21 ∨ i = 22 ∨ i = 23 := by omega
  · rw [show atV 0 c = true from decide_eq_true (by unfold atP; omega)]
    go_enter Tryz.func53, Tryz.ntmps53
    go_wp2_with (first | (go_at_call 73; refine (hN _).mono ?_; rintro _ w9 ⟨rfl, rfl⟩) | (go_at_call 74; refine (hM _).mono ?_; rintro _ w9 ⟨rfl, rfl⟩))
    go_ret
    exact ⟨by first | rfl | (simp [*]; done), rfl⟩
  · rw [show atV 1 c = true from decide_eq_true (by unfold atP; omega)]
    go_enter Tryz.func53, Tryz.ntmps53
    go_wp2_with (first | (go_at_call 73; refine (hN _).mono ?_; rintro _ w9 ⟨rfl, rfl⟩) | (go_at_call 74; refine (hM _).mono ?_; rintro _ w9 ⟨rfl, rfl⟩))
    go_ret
    exact ⟨by first | rfl | (simp [*]; done), rfl⟩
  · rw [show atV 2 c = true from decide_eq_true (by unfold atP; omega)]
    go_enter Tryz.func53, Tryz.ntmps53
    go_wp2_with (first | (go_at_call 73; refine (hN _).mono ?_; rintro _ w9 ⟨rfl, rfl⟩) | (go_at_call 74; refine (hM _).mono ?_; rintro _ w9 ⟨rfl, rfl⟩))
    go_ret
    exact ⟨by first | rfl | (simp [*]; done), rfl⟩
  · rw [show atV 3 c = true from decide_eq_true (by unfold atP; omega)]
    go_enter Tryz.func53, Tryz.ntmps53
    go_wp2_with (first | (go_at_call 73; refine (hN _).mono ?_; rintro _ w9 ⟨rfl, rfl⟩) | (go_at_call 74; refine (hM _).mono ?_; rintro _ w9 ⟨rfl, rfl⟩))
    go_ret
    exact ⟨by first | rfl | (simp [*]; done), rfl⟩
  · rw [show atV 4 c = true from decide_eq_true (by unfold atP; omega)]
    go_enter Tryz.func53, Tryz.ntmps53
    go_wp2_with (first | (go_at_call 73; refine (hN _).mono ?_; rintro _ w9 ⟨rfl, rfl⟩) | (go_at_call 74; refine (hM _).mono ?_; rintro _ w9 ⟨rfl, rfl⟩))
    go_ret
    exact ⟨by first | rfl | (simp [*]; done), rfl⟩
  · by_cases h1 : 32 ≤ c
    · by_cases h2 : c ≤ 126
      · rw [show atV 5 c = true from decide_eq_true (by unfold atP; omega)]
        go_enter Tryz.func53, Tryz.ntmps53
        go_wp2_with (first | (go_at_call 73; refine (hN _).mono ?_; rintro _ w9 ⟨rfl, rfl⟩) | (go_at_call 74; refine (hM _).mono ?_; rintro _ w9 ⟨rfl, rfl⟩))
        go_ret
        exact ⟨by first | rfl | (simp [*]; done), rfl⟩
      · rw [show atV 5 c = false from decide_eq_false (by unfold atP; omega)]
        go_enter Tryz.func53, Tryz.ntmps53
        go_wp2_with (first | (go_at_call 73; refine (hN _).mono ?_; rintro _ w9 ⟨rfl, rfl⟩) | (go_at_call 74; refine (hM _).mono ?_; rintro _ w9 ⟨rfl, rfl⟩))
        go_ret
        exact ⟨by first | rfl | (simp [*]; done), rfl⟩
    · rw [show atV 5 c = false from decide_eq_false (by unfold atP; omega)]
      go_enter Tryz.func53, Tryz.ntmps53
      go_wp2_with (first | (go_at_call 73; refine (hN _).mono ?_; rintro _ w9 ⟨rfl, rfl⟩) | (go_at_call 74; refine (hM _).mono ?_; rintro _ w9 ⟨rfl, rfl⟩))
      go_ret
      exact ⟨by first | rfl | (simp [*]; done), rfl⟩
  · by_cases h1 : 32 ≤ c
    · by_cases h2 : c ≤ 126
      · rw [show atV 6 c = true from decide_eq_true (by unfold atP; omega)]
        go_enter Tryz.func53, Tryz.ntmps53
        go_wp2_with (first | (go_at_call 73; refine (hN _).mono ?_; rintro _ w9 ⟨rfl, rfl⟩) | (go_at_call 74; refine (hM _).mono ?_; rintro _ w9 ⟨rfl, rfl⟩))
        go_ret
        exact ⟨by first | rfl | (simp [*]; done), rfl⟩
      · rw [show atV 6 c = false from decide_eq_false (by unfold atP; omega)]
        go_enter Tryz.func53, Tryz.ntmps53
        go_wp2_with (first | (go_at_call 73; refine (hN _).mono ?_; rintro _ w9 ⟨rfl, rfl⟩) | (go_at_call 74; refine (hM _).mono ?_; rintro _ w9 ⟨rfl, rfl⟩))
        go_ret
        exact ⟨by first | rfl | (simp [*]; done), rfl⟩
    · rw [show atV 6 c = false from decide_eq_false (by unfold atP; omega)]
      go_enter Tryz.func53, Tryz.ntmps53
      go_wp2_with (first | (go_at_call 73; refine (hN _).mono ?_; rintro _ w9 ⟨rfl, rfl⟩) | (go_at_call 74; refine (hM _).mono ?_; rintro _ w9 ⟨rfl, rfl⟩))
      go_ret
      exact ⟨by first | rfl | (simp [*]; done), rfl⟩
  · by_cases h1 : 32 ≤ c
    · by_cases h2 : c ≤ 126
      · rw [show atV 7 c = true from decide_eq_true (by unfold atP; omega)]
        go_enter Tryz.func53, Tryz.ntmps53
        go_wp2_with (first | (go_at_call 73; refine (hN _).mono ?_; rintro _ w9 ⟨rfl, rfl⟩) | (go_at_call 74; refine (hM _).mono ?_; rintro _ w9 ⟨rfl, rfl⟩))
        go_ret
        exact ⟨by first | rfl | (simp [*]; done), rfl⟩
      · rw [show atV 7 c = false from decide_eq_false (by unfold atP; omega)]
        go_enter Tryz.func53, Tryz.ntmps53
        go_wp2_with (first | (go_at_call 73; refine (hN _).mono ?_; rintro _ w9 ⟨rfl, rfl⟩) | (go_at_call 74; refine (hM _).mono ?_; rintro _ w9 ⟨rfl, rfl⟩))
        go_ret
        exact ⟨by first | rfl | (simp [*]; done), rfl⟩
    · rw [show atV 7 c = false from decide_eq_false (by unfold atP; omega)]
      go_enter Tryz.func53, Tryz.ntmps53
      go_wp2_with (first | (go_at_call 73; refine (hN _).mono ?_; rintro _ w9 ⟨rfl, rfl⟩) | (go_at_call 74; refine (hM _).mono ?_; rintro _ w9 ⟨rfl, rfl⟩))
      go_ret
      exact ⟨by first | rfl | (simp [*]; done), rfl⟩
  · by_cases h1 : 32 ≤ c
    · by_cases h2 : c ≤ 126
      · rw [show atV 8 c = true from decide_eq_true (by unfold atP; omega)]
        go_enter Tryz.func53, Tryz.ntmps53
        go_wp2_with (first | (go_at_call 73; refine (hN _).mono ?_; rintro _ w9 ⟨rfl, rfl⟩) | (go_at_call 74; refine (hM _).mono ?_; rintro _ w9 ⟨rfl, rfl⟩))
        go_ret
        exact ⟨by first | rfl | (simp [*]; done), rfl⟩
      · rw [show atV 8 c = false from decide_eq_false (by unfold atP; omega)]
        go_enter Tryz.func53, Tryz.ntmps53
        go_wp2_with (first | (go_at_call 73; refine (hN _).mono ?_; rintro _ w9 ⟨rfl, rfl⟩) | (go_at_call 74; refine (hM _).mono ?_; rintro _ w9 ⟨rfl, rfl⟩))
        go_ret
        exact ⟨by first | rfl | (simp [*]; done), rfl⟩
    · rw [show atV 8 c = false from decide_eq_false (by unfold atP; omega)]
      go_enter Tryz.func53, Tryz.ntmps53
      go_wp2_with (first | (go_at_call 73; refine (hN _).mono ?_; rintro _ w9 ⟨rfl, rfl⟩) | (go_at_call 74; refine (hM _).mono ?_; rintro _ w9 ⟨rfl, rfl⟩))
      go_ret
      exact ⟨by first | rfl | (simp [*]; done), rfl⟩
  · by_cases h1 : c = 32
    · subst h1
      rw [show atV 9 32 = true from rfl]
      go_enter Tryz.func53, Tryz.ntmps53
      go_wp2_with (first | (go_at_call 73; refine (hN _).mono ?_; rintro _ w9 ⟨rfl, rfl⟩) | (go_at_call 74; refine (hM _).mono ?_; rintro _ w9 ⟨rfl, rfl⟩))
      go_ret
      exact ⟨by first | rfl | (simp [*]; done), rfl⟩
    · have hb1 : (c == 32) = false := by simpa using h1
      by_cases h2 : c = 97
      · subst h2
        rw [show atV 9 97 = true from rfl]
        go_enter Tryz.func53, Tryz.ntmps53
        go_wp2_with (first | (go_at_call 73; refine (hN _).mono ?_; rintro _ w9 ⟨rfl, rfl⟩) | (go_at_call 74; refine (hM _).mono ?_; rintro _ w9 ⟨rfl, rfl⟩))
        go_ret
        exact ⟨by first | rfl | (simp [*]; done), rfl⟩
      · have hb2 : (c == 97) = false := by simpa using h2
        rw [show atV 9 c = false from decide_eq_false (by unfold atP; omega)]
        go_enter Tryz.func53, Tryz.ntmps53
        go_wp2_with (first | (go_at_call 73; refine (hN _).mono ?_; rintro _ w9 ⟨rfl, rfl⟩) | (go_at_call 74; refine (hM _).mono ?_; rintro _ w9 ⟨rfl, rfl⟩))
        go_ret
        exact ⟨by first | rfl | (simp [*]; done), rfl⟩
  · by_cases h1 : c = 50
    · subst h1
      rw [show atV 10 50 = true from rfl]
      go_enter Tryz.func53, Tryz.ntmps53
      go_wp2_with (first | (go_at_call 73; refine (hN _).mono ?_; rintro _ w9 ⟨rfl, rfl⟩) | (go_at_call 74; refine (hM _).mono ?_; rintro _ w9 ⟨rfl, rfl⟩))
      go_ret
      exact ⟨by first | rfl | (simp [*]; done), rfl⟩
    · have hb1 : (c == 50) = false := by simpa using h1
      have hm1 : mustB 10 = 50 := rfl
      rw [show atV 10 c = false from decide_eq_false (by unfold atP; omega)]
      go_enter Tryz.func53, Tryz.ntmps53
      go_wp2_with (first | (go_at_call 73; refine (hN _).mono ?_; rintro _ w9 ⟨rfl, rfl⟩) | (go_at_call 74; refine (hM _).mono ?_; rintro _ w9 ⟨rfl, rfl⟩))
      go_ret
      exact ⟨by first | rfl | (simp [*]; done), rfl⟩
  · by_cases h1 : c = 50
    · subst h1
      rw [show atV 11 50 = true from rfl]
      go_enter Tryz.func53, Tryz.ntmps53
      go_wp2_with (first | (go_at_call 73; refine (hN _).mono ?_; rintro _ w9 ⟨rfl, rfl⟩) | (go_at_call 74; refine (hM _).mono ?_; rintro _ w9 ⟨rfl, rfl⟩))
      go_ret
      exact ⟨by first | rfl | (simp [*]; done), rfl⟩
    · have hb1 : (c == 50) = false := by simpa using h1
      have hm1 : mustB 11 = 50 := rfl
      rw [show atV 11 c = false from decide_eq_false (by unfold atP; omega)]
      go_enter Tryz.func53, Tryz.ntmps53
      go_wp2_with (first | (go_at_call 73; refine (hN _).mono ?_; rintro _ w9 ⟨rfl, rfl⟩) | (go_at_call 74; refine (hM _).mono ?_; rintro _ w9 ⟨rfl, rfl⟩))
      go_ret
      exact ⟨by first | rfl | (simp [*]; done), rfl⟩
  · rw [show atV 12 c = true from decide_eq_true (by unfold atP; omega)]
    go_enter Tryz.func53, Tryz.ntmps53
    go_wp2_with (first | (go_at_call 73; refine (hN _).mono ?_; rintro _ w9 ⟨rfl, rfl⟩) | (go_at_call 74; refine (hM _).mono ?_; rintro _ w9 ⟨rfl, rfl⟩))
    go_ret
    exact ⟨by first | rfl | (simp [*]; done), rfl⟩
  · rw [show atV 13 c = true from decide_eq_true (by unfold atP; omega)]
    go_enter Tryz.func53, Tryz.ntmps53
    go_wp2_with (first | (go_at_call 73; refine (hN _).mono ?_; rintro _ w9 ⟨rfl, rfl⟩) | (go_at_call 74; refine (hM _).mono ?_; rintro _ w9 ⟨rfl, rfl⟩))
    go_ret
    exact ⟨by first | rfl | (simp [*]; done), rfl⟩
  · rw [show atV 14 c = true from decide_eq_true (by unfold atP; omega)]
    go_enter Tryz.func53, Tryz.ntmps53
    go_wp2_with (first | (go_at_call 73; refine (hN _).mono ?_; rintro _ w9 ⟨rfl, rfl⟩) | (go_at_call 74; refine (hM _).mono ?_; rintro _ w9 ⟨rfl, rfl⟩))
    go_ret
    exact ⟨by first | rfl | (simp [*]; done), rfl⟩
  · rw [show atV 15 c = true from decide_eq_true (by unfold atP; omega)]
    go_enter Tryz.func53, Tryz.ntmps53
    go_wp2_with (first | (go_at_call 73; refine (hN _).mono ?_; rintro _ w9 ⟨rfl, rfl⟩) | (go_at_call 74; refine (hM _).mono ?_; rintro _ w9 ⟨rfl, rfl⟩))
    go_ret
    exact ⟨by first | rfl | (simp [*]; done), rfl⟩
  · rw [show atV 16 c = true from decide_eq_true (by unfold atP; omega)]
    go_enter Tryz.func53, Tryz.ntmps53
    go_wp2_with (first | (go_at_call 73; refine (hN _).mono ?_; rintro _ w9 ⟨rfl, rfl⟩) | (go_at_call 74; refine (hM _).mono ?_; rintro _ w9 ⟨rfl, rfl⟩))
    go_ret
    exact ⟨by first | rfl | (simp [*]; done), rfl⟩
  · by_cases h1 : 32 ≤ c
    · by_cases h2 : c ≤ 126
      · rw [show atV 17 c = true from decide_eq_true (by unfold atP; omega)]
        go_enter Tryz.func53, Tryz.ntmps53
        go_wp2_with (first | (go_at_call 73; refine (hN _).mono ?_; rintro _ w9 ⟨rfl, rfl⟩) | (go_at_call 74; refine (hM _).mono ?_; rintro _ w9 ⟨rfl, rfl⟩))
        go_ret
        exact ⟨by first | rfl | (simp [*]; done), rfl⟩
      · rw [show atV 17 c = false from decide_eq_false (by unfold atP; omega)]
        go_enter Tryz.func53, Tryz.ntmps53
        go_wp2_with (first | (go_at_call 73; refine (hN _).mono ?_; rintro _ w9 ⟨rfl, rfl⟩) | (go_at_call 74; refine (hM _).mono ?_; rintro _ w9 ⟨rfl, rfl⟩))
        go_ret
        exact ⟨by first | rfl | (simp [*]; done), rfl⟩
    · rw [show atV 17 c = false from decide_eq_false (by unfold atP; omega)]
      go_enter Tryz.func53, Tryz.ntmps53
      go_wp2_with (first | (go_at_call 73; refine (hN _).mono ?_; rintro _ w9 ⟨rfl, rfl⟩) | (go_at_call 74; refine (hM _).mono ?_; rintro _ w9 ⟨rfl, rfl⟩))
      go_ret
      exact ⟨by first | rfl | (simp [*]; done), rfl⟩
  · by_cases h1 : 32 ≤ c
    · by_cases h2 : c ≤ 126
      · rw [show atV 18 c = true from decide_eq_true (by unfold atP; omega)]
        go_enter Tryz.func53, Tryz.ntmps53
        go_wp2_with (first | (go_at_call 73; refine (hN _).mono ?_; rintro _ w9 ⟨rfl, rfl⟩) | (go_at_call 74; refine (hM _).mono ?_; rintro _ w9 ⟨rfl, rfl⟩))
        go_ret
        exact ⟨by first | rfl | (simp [*]; done), rfl⟩
      · rw [show atV 18 c = false from decide_eq_false (by unfold atP; omega)]
        go_enter Tryz.func53, Tryz.ntmps53
        go_wp2_with (first | (go_at_call 73; refine (hN _).mono ?_; rintro _ w9 ⟨rfl, rfl⟩) | (go_at_call 74; refine (hM _).mono ?_; rintro _ w9 ⟨rfl, rfl⟩))
        go_ret
        exact ⟨by first | rfl | (simp [*]; done), rfl⟩
    · rw [show atV 18 c = false from decide_eq_false (by unfold atP; omega)]
      go_enter Tryz.func53, Tryz.ntmps53
      go_wp2_with (first | (go_at_call 73; refine (hN _).mono ?_; rintro _ w9 ⟨rfl, rfl⟩) | (go_at_call 74; refine (hM _).mono ?_; rintro _ w9 ⟨rfl, rfl⟩))
      go_ret
      exact ⟨by first | rfl | (simp [*]; done), rfl⟩
  · by_cases h1 : 32 ≤ c
    · by_cases h2 : c ≤ 126
      · rw [show atV 19 c = true from decide_eq_true (by unfold atP; omega)]
        go_enter Tryz.func53, Tryz.ntmps53
        go_wp2_with (first | (go_at_call 73; refine (hN _).mono ?_; rintro _ w9 ⟨rfl, rfl⟩) | (go_at_call 74; refine (hM _).mono ?_; rintro _ w9 ⟨rfl, rfl⟩))
        go_ret
        exact ⟨by first | rfl | (simp [*]; done), rfl⟩
      · rw [show atV 19 c = false from decide_eq_false (by unfold atP; omega)]
        go_enter Tryz.func53, Tryz.ntmps53
        go_wp2_with (first | (go_at_call 73; refine (hN _).mono ?_; rintro _ w9 ⟨rfl, rfl⟩) | (go_at_call 74; refine (hM _).mono ?_; rintro _ w9 ⟨rfl, rfl⟩))
        go_ret
        exact ⟨by first | rfl | (simp [*]; done), rfl⟩
    · rw [show atV 19 c = false from decide_eq_false (by unfold atP; omega)]
      go_enter Tryz.func53, Tryz.ntmps53
      go_wp2_with (first | (go_at_call 73; refine (hN _).mono ?_; rintro _ w9 ⟨rfl, rfl⟩) | (go_at_call 74; refine (hM _).mono ?_; rintro _ w9 ⟨rfl, rfl⟩))
      go_ret
      exact ⟨by first | rfl | (simp [*]; done), rfl⟩
  · by_cases h1 : c = 52
    · subst h1
      rw [show atV 20 52 = true from rfl]
      go_enter Tryz.func53, Tryz.ntmps53
      go_wp2_with (first | (go_at_call 73; refine (hN _).mono ?_; rintro _ w9 ⟨rfl, rfl⟩) | (go_at_call 74; refine (hM _).mono ?_; rintro _ w9 ⟨rfl, rfl⟩))
      go_ret
      exact ⟨by first | rfl | (simp [*]; done), rfl⟩
    · have hb1 : (c == 52) = false := by simpa using h1
      have hm1 : mustB 20 = 52 := rfl
      rw [show atV 20 c = false from decide_eq_false (by unfold atP; omega)]
      go_enter Tryz.func53, Tryz.ntmps53
      go_wp2_with (first | (go_at_call 73; refine (hN _).mono ?_; rintro _ w9 ⟨rfl, rfl⟩) | (go_at_call 74; refine (hM _).mono ?_; rintro _ w9 ⟨rfl, rfl⟩))
      go_ret
      exact ⟨by first | rfl | (simp [*]; done), rfl⟩
  · by_cases h1 : c = 53
    · subst h1
      rw [show atV 21 53 = true from rfl]
      go_enter Tryz.func53, Tryz.ntmps53
      go_wp2_with (first | (go_at_call 73; refine (hN _).mono ?_; rintro _ w9 ⟨rfl, rfl⟩) | (go_at_call 74; refine (hM _).mono ?_; rintro _ w9 ⟨rfl, rfl⟩))
      go_ret
      exact ⟨by first | rfl | (simp [*]; done), rfl⟩
    · have hb1 : (c == 53) = false := by simpa using h1
      have hm1 : mustB 21 = 53 := rfl
      rw [show atV 21 c = false from decide_eq_false (by unfold atP; omega)]
      go_enter Tryz.func53, Tryz.ntmps53
      go_wp2_with (first | (go_at_call 73; refine (hN _).mono ?_; rintro _ w9 ⟨rfl, rfl⟩) | (go_at_call 74; refine (hM _).mono ?_; rintro _ w9 ⟨rfl, rfl⟩))
      go_ret
      exact ⟨by first | rfl | (simp [*]; done), rfl⟩
  · by_cases h1 : c = 48
    · subst h1
      rw [show atV 22 48 = true from rfl]
      go_enter Tryz.func53, Tryz.ntmps53
      go_wp2_with (first | (go_at_call 73; refine (hN _).mono ?_; rintro _ w9 ⟨rfl, rfl⟩) | (go_at_call 74; refine (hM _).mono ?_; rintro _ w9 ⟨rfl, rfl⟩))
      go_ret
      exact ⟨by first | rfl | (simp [*]; done), rfl⟩
    · have hb1 : (c == 48) = false := by simpa using h1
      have hm1 : mustB 22 = 48 := rfl
      rw [show atV 22 c = false from decide_eq_false (by unfold atP; omega)]
      go_enter Tryz.func53, Tryz.ntmps53
      go_wp2_with (first | (go_at_call 73; refine (hN _).mono ?_; rintro _ w9 ⟨rfl, rfl⟩) | (go_at_call 74; refine (hM _).mono ?_; rintro _ w9 ⟨rfl, rfl⟩))
      go_ret
      exact ⟨by first | rfl | (simp [*]; done), rfl⟩
  · by_cases h1 : c = 48
    · subst h1
      rw [show atV 23 48 = true from rfl]
      go_enter Tryz.func53, Tryz.ntmps53
      go_wp2_with (first | (go_at_call 73; refine (hN _).mono ?_; rintro _ w9 ⟨rfl, rfl⟩) | (go_at_call 74; refine (hM _).mono ?_; rintro _ w9 ⟨rfl, rfl⟩))
      go_ret
      exact ⟨by first | rfl | (simp [*]; done), rfl⟩
    · have hb1 : (c == 48) = false := by simpa using h1
      have hm1 : mustB 23 = 48 := rfl
      rw [show atV 23 c = false from decide_eq_false (by unfold atP; omega)]
      go_enter Tryz.func53, Tryz.ntmps53
      go_wp2_with (first | (go_at_call 73; refine (hN _).mono ?_; rintro _ w9 ⟨rfl, rfl⟩) | (go_at_call 74; refine (hM _).mono ?_; rintro _ w9 ⟨rfl, rfl⟩))
      go_ret
      exact ⟨by first | rfl | (simp [*]; done), rfl⟩

set_option maxHeartbeats 8000000 in
set_option maxRecDepth 100000 in
theorem cAtR (i : Nat) (hi : i < 24) (c : Int) (w : World) : Calls Tryz.prog 22 #[.int .i64 (i : Int), .int .u8 c, .bool true] w fun e w' => e = .returned (.bool (atV i c)) ∧ w = w' := by
  obtain rfl | rfl | rfl | rfl | rfl | rfl | rfl | rfl | rfl | rfl | rfl | rfl | rfl | rfl | rfl | rfl | rfl | rfl | rfl | rfl | rfl | rfl | rfl | rfl : i = 0 ∨ i = 1 ∨ i = 2 ∨ i = 3 ∨ i = 4 ∨ i = 5 ∨ i = 6 ∨ i = 7 ∨ i = 8 ∨ i = 9 ∨ i = 10 ∨ i = 11 ∨ i = 12 ∨ i = 13 ∨ i = 14 ∨ i = 15 ∨ i = 16 ∨ i = 17 ∨ i = 18 ∨ i = 19 ∨ i = 20 ∨ i = 21 ∨ i = 22 ∨ i = 23 := by omega
  · rw [show atV 0 c = true from decide_eq_true (by unfold atP; omega)]
    go_enter Tryz.func22, Tryz.ntmps22
    go_wp2
    go_ret
    exact ⟨by first | rfl | (simp [*]; done), rfl⟩
  · rw [show atV 1 c = true from decide_eq_true (by unfold atP; omega)]
    go_enter Tryz.func22, Tryz.ntmps22
    go_wp2
    go_ret
    exact ⟨by first | rfl | (simp [*]; done), rfl⟩
  · rw [show atV 2 c = true from decide_eq_true (by unfold atP; omega)]
    go_enter Tryz.func22, Tryz.ntmps22
    go_wp2
    go_ret
    exact ⟨by first | rfl | (simp [*]; done), rfl⟩
  · rw [show atV 3 c = true from decide_eq_true (by unfold atP; omega)]
    go_enter Tryz.func22, Tryz.ntmps22
    go_wp2
    go_ret
    exact ⟨by first | rfl | (simp [*]; done), rfl⟩
  · rw [show atV 4 c = true from decide_eq_true (by unfold atP; omega)]
    go_enter Tryz.func22, Tryz.ntmps22
    go_wp2
    go_ret
    exact ⟨by first | rfl | (simp [*]; done), rfl⟩
  · by_cases h1 : 32 ≤ c
    · by_cases h2 : c ≤ 126
      · rw [show atV 5 c = true from decide_eq_true (by unfold atP; omega)]
        go_enter Tryz.func22, Tryz.ntmps22
        go_wp2
        go_ret
        exact ⟨by first | rfl | (simp [*]; done), rfl⟩
      · rw [show atV 5 c = false from decide_eq_false (by unfold atP; omega)]
        go_enter Tryz.func22, Tryz.ntmps22
        go_wp2
        go_ret
        exact ⟨by first | rfl | (simp [*]; done), rfl⟩
    · rw [show atV 5 c = false from decide_eq_false (by unfold atP; omega)]
      go_enter Tryz.func22, Tryz.ntmps22
      go_wp2
      go_ret
      exact ⟨by first | rfl | (simp [*]; done), rfl⟩
  · by_cases h1 : 32 ≤ c
    · by_cases h2 : c ≤ 126
      · rw [show atV 6 c = true from decide_eq_true (by unfold atP; omega)]
        go_enter Tryz.func22, Tryz.ntmps22
        go_wp2
        go_ret
        exact ⟨by first | rfl | (simp [*]; done), rfl⟩
      · rw [show atV 6 c = false from decide_eq_false (by unfold atP; omega)]
        go_enter Tryz.func22, Tryz.ntmps22
        go_wp2
        go_ret
        exact ⟨by first | rfl | (simp [*]; done), rfl⟩
    · rw [show atV 6 c = false from decide_eq_false (by unfold atP; omega)]
      go_enter Tryz.func22, Tryz.ntmps22
      go_wp2
      go_ret
      exact ⟨by first | rfl | (simp [*]; done), rfl⟩
  · by_cases h1 : 32 ≤ c
    · by_cases h2 : c ≤ 126
      · rw [show atV 7 c = true from decide_eq_true (by unfold atP; omega)]
        go_enter Tryz.func22, Tryz.ntmps22
        go_wp2
        go_ret
        exact ⟨by first | rfl | (simp [*]; done), rfl⟩
      · rw [show atV 7 c = false from decide_eq_false (by unfold atP; omega)]
        go_enter Tryz.func22, Tryz.ntmps22
        go_wp2
        go_ret
        exact ⟨by first | rfl | (simp [*]; done), rfl⟩
    · rw [show atV 7 c = false from decide_eq_false (by unfold atP; omega)]
      go_enter Tryz.func22, Tryz.ntmps22
      go_wp2
      go_ret
      exact ⟨by first | rfl | (simp [*]; done), rfl⟩
  · by_cases h1 : 32 ≤ c
    · by_cases h2 : c ≤ 126
      · rw [show atV 8 c = true from decide_eq_true (by unfold atP; omega)]
        go_enter Tryz.func22, Tryz.ntmps22
        go_wp2
        go_ret
        exact ⟨by first | rfl | (simp [*]; done), rfl⟩
      · rw [show atV 8 c = false from decide_eq_false (by unfold atP; omega)]
        go_enter Tryz.func22, Tryz.ntmps22
        go_wp2
        go_ret
        exact ⟨by first | rfl | (simp [*]; done), rfl⟩
    · rw [show atV 8 c = false from decide_eq_false (by unfold atP; omega)]
      go_enter Tryz.func22, Tryz.ntmps22
      go_wp2
      go_ret
      exact ⟨by first | rfl | (simp [*]; done), rfl⟩
  · by_cases h1 : c = 32
    · subst h1
      rw [show atV 9 32 = true from rfl]
      go_enter Tryz.func22, Tryz.ntmps22
      go_wp2
      go_ret
      exact ⟨by first | rfl | (simp [*]; done), rfl⟩
    · have hb1 : (c == 32) = false := by simpa using h1
      by_cases h2 : c = 97
      · subst h2
        rw [show atV 9 97 = true from rfl]
        go_enter Tryz.func22, Tryz.ntmps22
        go_wp2
        go_ret
        exact ⟨by first | rfl | (simp [*]; done), rfl⟩
      · have hb2 : (c == 97) = false := by simpa using h2
        rw [show atV 9 c = false from decide_eq_false (by unfold atP; omega)]
        go_enter Tryz.func22, Tryz.ntmps22
        go_wp2
        go_ret
        exact ⟨by first | rfl | (simp [*]; done), rfl⟩
  · by_cases h1 : c = 50
    · subst h1
      rw [show atV 10 50 = true from rfl]
      go_enter Tryz.func22, Tryz.ntmps22
      go_wp2
      go_ret
      exact ⟨by first | rfl | (simp [*]; done), rfl⟩
    · have hb1 : (c == 50) = false := by simpa using h1
      have hm1 : mustB 10 = 50 := rfl
      rw [show atV 10 c = false from decide_eq_false (by unfold atP; omega)]
      go_enter Tryz.func22, Tryz.ntmps22
      go_wp2
      go_ret
      exact ⟨by first | rfl | (simp [*]; done), rfl⟩
  · by_cases h1 : c = 50
    · subst h1
      rw [show atV 11 50 = true from rfl]
      go_enter Tryz.func22, Tryz.ntmps22
      go_wp2
      go_ret
      exact ⟨by first | rfl | (simp [*]; done), rfl⟩
    · have hb1 : (c == 50) = false := by simpa using h1
      have hm1 : mustB 11 = 50 := rfl
      rw [show atV 11 c = false from decide_eq_false (by unfold atP; omega)]
      go_enter Tryz.func22, Tryz.ntmps22
      go_wp2
      go_ret
      exact ⟨by first | rfl | (simp [*]; done), rfl⟩
  · rw [show atV 12 c = true from decide_eq_true (by unfold atP; omega)]
    go_enter Tryz.func22, Tryz.ntmps22
    go_wp2
    go_ret
    exact ⟨by first | rfl | (simp [*]; done), rfl⟩
  · rw [show atV 13 c = true from decide_eq_true (by unfold atP; omega)]
    go_enter Tryz.func22, Tryz.ntmps22
    go_wp2
    go_ret
    exact ⟨by first | rfl | (simp [*]; done), rfl⟩
  · rw [show atV 14 c = true from decide_eq_true (by unfold atP; omega)]
    go_enter Tryz.func22, Tryz.ntmps22
    go_wp2
    go_ret
    exact ⟨by first | rfl | (simp [*]; done), rfl⟩
  · rw [show atV 15 c = true from decide_eq_true (by unfold atP; omega)]
    go_enter Tryz.func22, Tryz.ntmps22
    go_wp2
    go_ret
    exact ⟨by first | rfl | (simp [*]; done), rfl⟩
  · rw [show atV 16 c = true from decide_eq_true (by unfold atP; omega)]
    go_enter Tryz.func22, Tryz.ntmps22
    go_wp2
    go_ret
    exact ⟨by first | rfl | (simp [*]; done), rfl⟩
  · by_cases h1 : 32 ≤ c
    · by_cases h2 : c ≤ 126
      · rw [show atV 17 c = true from decide_eq_true (by unfold atP; omega)]
        go_enter Tryz.func22, Tryz.ntmps22
        go_wp2
        go_ret
        exact ⟨by first | rfl | (simp [*]; done), rfl⟩
      · rw [show atV 17 c = false from decide_eq_false (by unfold atP; omega)]
        go_enter Tryz.func22, Tryz.ntmps22
        go_wp2
        go_ret
        exact ⟨by first | rfl | (simp [*]; done), rfl⟩
    · rw [show atV 17 c = false from decide_eq_false (by unfold atP; omega)]
      go_enter Tryz.func22, Tryz.ntmps22
      go_wp2
      go_ret
      exact ⟨by first | rfl | (simp [*]; done), rfl⟩
  · by_cases h1 : 32 ≤ c
    · by_cases h2 : c ≤ 126
      · rw [show atV 18 c = true from decide_eq_true (by unfold atP; omega)]
        go_enter Tryz.func22, Tryz.ntmps22
        go_wp2
        go_ret
        exact ⟨by first | rfl | (simp [*]; done), rfl⟩
      · rw [show atV 18 c = false from decide_eq_false (by unfold atP; omega)]
        go_enter Tryz.func22, Tryz.ntmps22
        go_wp2
        go_ret
        exact ⟨by first | rfl | (simp [*]; done), rfl⟩
    · rw [show atV 18 c = false from decide_eq_false (by unfold atP; omega)]
      go_enter Tryz.func22, Tryz.ntmps22
      go_wp2
      go_ret
      exact ⟨by first | rfl | (simp [*]; done), rfl⟩
  · by_cases h1 : 32 ≤ c
    · by_cases h2 : c ≤ 126
      · rw [show atV 19 c = true from decide_eq_true (by unfold atP; omega)]
        go_enter Tryz.func22, Tryz.ntmps22
        go_wp2
        go_ret
        exact ⟨by first | rfl | (simp [*]; done), rfl⟩
      · rw [show atV 19 c = false from decide_eq_false (by unfold atP; omega)]
        go_enter Tryz.func22, Tryz.ntmps22
        go_wp2
        go_ret
        exact ⟨by first | rfl | (simp [*]; done), rfl⟩
    · rw [show atV 19 c = false from decide_eq_false (by unfold atP; omega)]
      go_enter Tryz.func22, Tryz.ntmps22
      go_wp2
      go_ret
      exact ⟨by first | rfl | (simp [*]; done), rfl⟩
  · by_cases h1 : c = 52
    · subst h1
      rw [show atV 20 52 = true from rfl]
      go_enter Tryz.func22, Tryz.ntmps22
      go_wp2
      go_ret
      exact ⟨by first | rfl | (simp [*]; done), rfl⟩
    · have hb1 : (c == 52) = false := by simpa using h1
      have hm1 : mustB 20 = 52 := rfl
      rw [show atV 20 c = false from decide_eq_false (by unfold atP; omega)]
      go_enter Tryz.func22, Tryz.ntmps22
      go_wp2
      go_ret
      exact ⟨by first | rfl | (simp [*]; done), rfl⟩
  · by_cases h1 : c = 53
    · subst h1
      rw [show atV 21 53 = true from rfl]
      go_enter Tryz.func22, Tryz.ntmps22
      go_wp2
      go_ret
      exact ⟨by first | rfl | (simp [*]; done), rfl⟩
    · have hb1 : (c == 53) = false := by simpa using h1
      have hm1 : mustB 21 = 53 := rfl
      rw [show atV 21 c = false from decide_eq_false (by unfold atP; omega)]
      go_enter Tryz.func22, Tryz.ntmps22
      go_wp2
      go_ret
      exact ⟨by first | rfl | (simp [*]; done), rfl⟩
  · by_cases h1 : c = 48
    · subst h1
      rw [show atV 22 48 = true from rfl]
      go_enter Tryz.func22, Tryz.ntmps22
      go_wp2
      go_ret
      exact ⟨by first | rfl | (simp [*]; done), rfl⟩
    · have hb1 : (c == 48) = false := by simpa using h1
      have hm1 : mustB 22 = 48 := rfl
      rw [show atV 22 c = false from decide_eq_false (by unfold atP; omega)]
      go_enter Tryz.func22, Tryz.ntmps22
      go_wp2
      go_ret
      exact ⟨by first | rfl | (simp [*]; done), rfl⟩
  · by_cases h1 : c = 48
    · subst h1
      rw [show atV 23 48 = true from rfl]
      go_enter Tryz.func22, Tryz.ntmps22
      go_wp2
      go_ret
      exact ⟨by first | rfl | (simp [*]; done), rfl⟩
    · have hb1 : (c == 48) = false := by simpa using h1
      have hm1 : mustB 23 = 48 := rfl
      rw [show atV 23 c = false from decide_eq_false (by unfold atP; omega)]
      go_enter Tryz.func22, Tryz.ntmps22
      go_wp2
      go_ret
      exact ⟨by first | rfl | (simp [*]; done), rfl⟩
end Go.Proofs.YtemhfcgkfdklhaaGreatDoor.Look
