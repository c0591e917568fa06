/- amanuensislaw07.answers; NfcTwice, walked. -/
import Derived.Test.YtkadmnabhoijdaaGreatDoorNfcV
set_option linter.unusedVariables false
namespace Go.Proofs.YtkadmnabhoijdaaGreatDoor.Nfd
open Go Go.RowKit Go.Shelf Go.Proofs Go.Lib Go.Sort
open Go.Proofs.YtkadmnabhoijdaaGreatDoor.Look Go.Proofs.YtkadmnabhoijdaaGreatDoor.New

set_option maxHeartbeats 4000000 in
set_option maxRecDepth 100000 in
theorem answersC (w : World) (hT : TabsN w) : Calls Tryz.prog 6 #[] w fun e w' => e = .returned (.bool true) ∧ Below w.heap.size w w' := by
  have b1 : ∀ o, Below w.heap.size w (w.alloc o) := fun o => (Below.refl _ w).alloc (Nat.le_refl _) o
  have cN : Calls Tryz.prog 8 #[.slice (some ⟨w.heap.size, 0, none⟩) 2 2] (w.alloc (.cells #[.int .i32 101, .int .i32 769] 21)) fun e w' => ∃ g cap, e = .returned (.slice (some ⟨g, 0, none⟩) 1 cap) ∧ w'.cell? ⟨g, 0, none⟩ = some (.int .i32 233) ∧ Below w.heap.size w w' := by
    refine (nfc _ [101, 769] _ (hT.below (b1 _)) (SlN.lit w [101, 769]) (by decide) (by simp)).mono ?_
    rintro e w' ⟨v', rfl, h1, h2⟩
    rw [nfc_e9] at h1
    obtain ⟨g, cap, rfl, _, _⟩ := h1.form (by simp)
    exact ⟨g, cap, rfl, h1.cellAt (x := 233) (by simp), (b1 _).trans (h2.mono (by simp))⟩
  have cI : ∀ w1, Below w.heap.size w w1 → Calls Tryz.prog 9 #[.slice (some ⟨w1.heap.size, 0, none⟩) 1 1, .slice (some ⟨w1.heap.size + 1, 0, none⟩) 2 2] ((w1.alloc (.cells #[.int .i32 233] 21)).alloc (.cells #[.int .i32 101, .int .i32 769] 21)) fun e w' => e = .returned (.bool true) ∧ Below w.heap.size w w' := fun w1 hb => by
    have hb2 := hb.alloc hb.size (.cells #[.int .i32 233] 21)
    have hb3 := hb2.alloc hb2.size (.cells #[.int .i32 101, .int .i32 769] 21)
    have s1 : SlN ((w1.alloc (.cells #[.int .i32 233] 21)).alloc (.cells #[.int .i32 101, .int .i32 769] 21)) (.slice (some ⟨w1.heap.size, 0, none⟩) 1 1) [233] := (SlN.lit w1 [233]).below ((Below.refl _ _).alloc (Nat.le_refl _) _)
    have s2 := SlN.lit (w1.alloc (.cells #[.int .i32 233] 21)) [101, 769]
    have e1 : (w1.alloc (.cells #[.int .i32 233] 21)).heap.size = w1.heap.size + 1 := by simp
    rw [e1] at s2
    refine (csame _ _ [233] [101, 769] _ (hT.below hb3) s1 s2 (by decide) (by decide) (by simp) (by simp)).mono ?_
    rintro e w' ⟨rfl, h2⟩
    rw [nfd_e9.1, nfd_e9.2]
    exact ⟨rfl, hb3.trans (h2.mono hb3.size)⟩
  clear b1 hT
  go_enter Tryz.func6, Tryz.ntmps6
  go_wp2_with (first | (go_at_call 8; refine cN.mono ?_; rintro e w1 ⟨g, cap, rfl, h1, h2⟩; have c2 := cI w1 h2; clear cN cI) | (go_at_call 9; refine c2.mono ?_; rintro e w2 ⟨rfl, hO⟩; clear c2))
  go_ret
  exact ⟨rfl, hO⟩

/-- Two rows that are kept while the walk goes on. -/
structure St2 (w wr : World) (x y : Value) (X Y : List Int) : Prop where
  one : StR w wr x X
  two : StR w wr y Y
theorem St2.go {w w2 w3 : World} {x y : Value} {X Y : List Int} (h : St2 w w2 x y X Y) (hb : Below w2.heap.size w2 w3) : St2 w w3 x y X Y := ⟨h.one.go hb, h.two.go hb⟩

set_option maxHeartbeats 16000000 in
set_option maxRecDepth 1000000 in
theorem ctwiceLaw (v : Value) (l : List Int) (w : World) (hT : TabsN w) (h : SlN w v l) (hn : l.length ≤ 35184372087808) (hr : ∀ x ∈ l, -2147483648 ≤ x ∧ x ≤ 2147483647) :
    Calls Tryz.prog 5 #[v] w fun e w' => e = .returned (.bool true) ∧ Below w.heap.size w w' := by
  have cA0 := answersC w hT
  by_cases hbig : 200 < l.length
  · obtain ⟨a, c, rfl⟩ := h.len
    generalize l.length = N at *
    have hbz : (200 : Int) < (N : Int) := by omega
    clear hT h hr
    go_enter Tryz.func5, Tryz.ntmps5
    go_wp2_with (go_at_call 6; refine cA0.mono ?_; rintro e w1 ⟨rfl, hb⟩; clear cA0)
    go_ret
    exact ⟨rfl, hb⟩
  clear cA0
  obtain ⟨C, hC⟩ : ∃ C, C = nfcV l := ⟨_, rfl⟩
  obtain ⟨D, hD⟩ : ∃ D, D = nfdV l := ⟨_, rfl⟩
  have hDl := nfd_len l
  have hDr := nfd_range hr
  have hCr := nfc_range hr
  have hCl := nfc_len hr
  have e1 : nfcV C = C := by rw [hC]; exact nfc_twice hr
  have e2 : nfcV D = C := by rw [hC, hD]; exact nfc_nfd l
  have e3 : nfdV C = D := by rw [hC, hD]; exact nfd_nfc hr
  have e4 : nfdV D = D := by rw [hD]; exact nfd_twice l
  rw [← hD] at hDl hDr hCl
  rw [← hC] at hCr hCl
  have hm1 : C.length ≤ 1000000000 := by omega
  have hm2 : D.length ≤ 1000000000 := by omega
  have k1 : Calls Tryz.prog 8 #[v] w fun e w' => ∃ a c, e = .returned (.slice a C.length c) ∧ Aside (StR w w' (.slice a C.length c) C) := by
    refine (nfc v l w hT h (by omega) hr).mono ?_
    rintro e w' ⟨v', rfl, k1, k2⟩
    rw [← hC] at k1
    obtain ⟨a, c, rfl⟩ := k1.sln.len
    exact ⟨a, c, rfl, k1, k2⟩
  have k2 : ∀ w2 x, StR w w2 x C → Calls Tryz.prog 12 #[v] w2 fun e w' => ∃ a c, e = .returned (.slice a D.length c) ∧ Aside (St2 w w' x (.slice a D.length c) C D) := fun w2 x hS => by
    refine (nfd v l w2 (hT.below hS.below) (h.below hS.below) (by omega) hr).mono ?_
    rintro e w' ⟨v', rfl, k1, k2⟩
    rw [← hD] at k1
    obtain ⟨a, c, rfl⟩ := k1.sln.len
    exact ⟨a, c, rfl, hS.go k2, k1.mono hS.below.size, (hS.go k2).below⟩
  have kA : ∀ w2 x y, St2 w w2 x y C D → Calls Tryz.prog 6 #[] w2 fun e w' => e = .returned (.bool true) ∧ Aside (St2 w w' x y C D) := fun w2 x y hS => by
    refine (answersC w2 (hT.below hS.one.below)).mono ?_
    rintro e w' ⟨rfl, k⟩
    exact ⟨rfl, hS.go k⟩
  have kN : ∀ w2 x y z, (z = x ∨ z = y) → St2 w w2 x y C D → Calls Tryz.prog 8 #[z] w2 fun e w' => ∃ u, e = .returned u ∧ Aside (St2 w w' x y C D ∧ SlN w' u C) := fun w2 x y z hz hS => by
    rcases hz with rfl | rfl
    · refine (nfc z C w2 (hT.below hS.one.below) hS.one.row.sln hm1 hCr).mono ?_
      rintro e w' ⟨u, rfl, k1, k2⟩
      rw [e1] at k1
      exact ⟨u, rfl, hS.go k2, k1.sln⟩
    · refine (nfc z D w2 (hT.below hS.one.below) hS.two.row.sln hm2 hDr).mono ?_
      rintro e w' ⟨u, rfl, k1, k2⟩
      rw [e2] at k1
      exact ⟨u, rfl, hS.go k2, k1.sln⟩
  have kD : ∀ w2 x y, St2 w w2 x y C D → Calls Tryz.prog 12 #[x] w2 fun e w' => ∃ u, e = .returned u ∧ Aside (St2 w w' x y C D ∧ SlN w' u D) := fun w2 x y hS => by
    refine (nfd x C w2 (hT.below hS.one.below) hS.one.row.sln hm1 hCr).mono ?_
    rintro e w' ⟨u, rfl, k1, k2⟩
    rw [e3] at k1
    exact ⟨u, rfl, hS.go k2, k1.sln⟩
  have kR : ∀ w2 x y u, St2 w w2 x y C D ∧ SlN w2 u C → Calls Tryz.prog 7 #[u, x] w2 fun e w' => e = .returned (.bool true) ∧ Aside (St2 w w' x y C D) := fun w2 x y u hS => by
    refine (runesN u x C C w2 hS.2 hS.1.one.row.sln (by omega) (by omega)).mono ?_
    rintro e w' ⟨rfl, k⟩
    rw [decide_eq_true rfl]
    exact ⟨rfl, hS.1.go k⟩
  have kQ : ∀ w2 x y u, St2 w w2 x y C D ∧ SlN w2 u D → Calls Tryz.prog 7 #[u, y] w2 fun e w' => e = .returned (.bool true) ∧ Aside (St2 w w' x y C D) := fun w2 x y u hS => by
    refine (runesN u y D D w2 hS.2 hS.1.two.row.sln (by omega) (by omega)).mono ?_
    rintro e w' ⟨rfl, k⟩
    rw [decide_eq_true rfl]
    exact ⟨rfl, hS.1.go k⟩
  have kI : ∀ w2 x y, St2 w w2 x y C D → Calls Tryz.prog 13 #[x] w2 fun e w' => e = .returned (.bool true) ∧ Aside (St2 w w' x y C D) := fun w2 x y hS => by
    refine (cis x C w2 (hT.below hS.one.below) hS.one.row.sln hm1 hCr).mono ?_
    rintro e w' ⟨rfl, k⟩
    rw [decide_eq_true e1]
    exact ⟨rfl, hS.go k⟩
  have kS : ∀ w2 x y z, (z = x ∨ z = y) → St2 w w2 x y C D → Calls Tryz.prog 9 #[v, z] w2 fun e w' => e = .returned (.bool true) ∧ Aside (St2 w w' x y C D) := fun w2 x y z hz hS => by
    rcases hz with rfl | rfl
    · refine (csame v z l C w2 (hT.below hS.one.below) (h.below hS.one.below) hS.one.row.sln (by omega) hm1 hr hCr).mono ?_
      rintro e w' ⟨rfl, k⟩
      rw [e3, ← hD, decide_eq_true rfl]
      exact ⟨rfl, hS.go k⟩
    · refine (csame v z l D w2 (hT.below hS.one.below) (h.below hS.one.below) hS.two.row.sln (by omega) hm2 hr hDr).mono ?_
      rintro e w' ⟨rfl, k⟩
      rw [e4, ← hD, decide_eq_true rfl]
      exact ⟨rfl, hS.go k⟩
  obtain ⟨a0, c0, hv⟩ := h.len
  subst hv
  obtain ⟨M, hM⟩ : ∃ M, M = D.length := ⟨_, rfl⟩
  obtain ⟨K, hK⟩ : ∃ K, K = C.length := ⟨_, rfl⟩
  obtain ⟨N, hN⟩ : ∃ N, N = l.length := ⟨_, rfl⟩
  have hKM : (K : Int) ≤ (M : Int) := by omega
  have hbz : ¬ (200 : Int) < (N : Int) := by omega
  have hMm : M ≤ 4800 := by omega
  have hKm : K ≤ 4800 := by omega
  simp only [← hM, ← hK, ← hN] at k1 k2 kS ⊢
  have H1 := Lib.hid k1
  have H2 := Lib.hid k2
  have HA := Lib.hid kA
  have HN := Lib.hid kN
  have HD := Lib.hid kD
  have HR := Lib.hid kR
  have HQ := Lib.hid kQ
  have HI := Lib.hid kI
  have HS := Lib.hid kS
  clear k1 k2 kA kN kD kR kQ kI kS e1 e2 e3 e4 hm1 hm2 hDl hDr hCr hCl hM hK hN hT h hr hn hbig hC hD
  go_enter Tryz.func5, Tryz.ntmps5
  go_wp2_with (first
    | (go_at_call 9; refine (HS.out _ _ _ _ (Or.inr rfl) hS11.out).mono ?_; rintro e w12 ⟨rfl, hS12⟩; clear hS11)
    | (go_at_call 9; refine (HS.out _ _ _ _ (Or.inl rfl) hS10.out).mono ?_; rintro e w11 ⟨rfl, hS11⟩; clear hS10)
    | (go_at_call 13; refine (HI.out _ _ _ hS9.out).mono ?_; rintro e w10 ⟨rfl, hS10⟩; clear hS9)
    | (go_at_call 7; refine (HQ.out _ _ _ _ hS8.out).mono ?_; rintro e w9 ⟨rfl, hS9⟩; clear hS8)
    | (go_at_call 12; refine (HD.out _ _ _ hS7.out).mono ?_; rintro e w8 ⟨u3, rfl, hS8⟩; clear hS7)
    | (go_at_call 7; refine (HR.out _ _ _ _ hS6.out).mono ?_; rintro e w7 ⟨rfl, hS7⟩; clear hS6)
    | (go_at_call 8; refine (HN.out _ _ _ _ (Or.inr rfl) hS5.out).mono ?_; rintro e w6 ⟨u2, rfl, hS6⟩; clear hS5)
    | (go_at_call 7; refine (HR.out _ _ _ _ hS4.out).mono ?_; rintro e w5 ⟨rfl, hS5⟩; clear hS4)
    | (go_at_call 8; refine (HN.out _ _ _ _ (Or.inl rfl) hS3.out).mono ?_; rintro e w4 ⟨u1, rfl, hS4⟩; clear hS3)
    | (go_at_call 6; refine (HA.out _ _ _ hS2.out).mono ?_; rintro e w3 ⟨rfl, hS3⟩; clear hS2)
    | (go_at_call 12; refine (H2.out _ _ hS1.out).mono ?_; rintro e w2 ⟨a2, c2, rfl, hS2⟩; clear hS1)
    | (go_at_call 8; refine H1.out.mono ?_; rintro e w1 ⟨a1, c1, rfl, hS1⟩))
  go_ret
  exact ⟨rfl, hS12.out.one.below⟩
/-- For the row. -/
theorem nfcTwiceW (v : Value) (l : List Int) {w : World} (h : SlN w v l) (hn : l.length ≤ 35184372087808) (hr : ∀ x ∈ l, -2147483648 ≤ x ∧ x ≤ 2147483647) (w' : World) (hT : TabsN w') (he : w = w' := by rfl) :
    Calls Tryz.prog 5 #[v] w' fun e w2 => e = .returned (.bool true) ∧ Below w'.heap.size w' w2 := by
  subst he
  exact ctwiceLaw v l w hT h hn hr
end Go.Proofs.YtkadmnabhoijdaaGreatDoor.Nfd
