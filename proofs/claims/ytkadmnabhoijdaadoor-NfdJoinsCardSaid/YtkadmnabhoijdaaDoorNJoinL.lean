/- NfdJoins, walked. -/
import Derived.Test.YtkadmnabhoijdaaDoorAppS
import Derived.Test.YtkadmnabhoijdaaDoorNAns
set_option linter.unusedVariables false
namespace Go.Proofs.YtkadmnabhoijdaaDoor.Nfd
open Go Go.RowKit Go.Shelf Go.Proofs Go.Lib Go.Sort
open Go.Proofs.YtkadmnabhoijdaaDoor.Look Go.Proofs.YtkadmnabhoijdaaDoor.New

/-- Behind the texts that are taken apart. -/
structure StJ (w w2 w3 : World) (y n1 n2 : Value) (B L1 L2 : List Int) : Prop where
  row : StR w w3 y B
  one : SlN w3 n1 L1
  one' : SlN w2 n1 L1
  two : OwnR w3 w2.heap.size n2 L2
  step : Below w2.heap.size w2 w3
  sz : w.heap.size ≤ w2.heap.size

set_option maxHeartbeats 16000000 in
set_option maxRecDepth 1000000 in
theorem joinsLaw (va : Value) (la : List Int) (vb : Value) (lb : List Int) (w : World) (hT : TabsN w) (ha : SlN w va la) (hb : SlN w vb lb) (hna : la.length ≤ 35184372087808) (hnb : lb.length ≤ 35184372087808)
    (hra : ∀ x ∈ la, -2147483648 ≤ x ∧ x ≤ 2147483647) (hrb : ∀ x ∈ lb, -2147483648 ≤ x ∧ x ≤ 2147483647) :
    Calls Tryd.prog 4 #[va, vb] w fun e w' => e = .returned (.bool true) ∧ Below w.heap.size w w' := by
  have mixed : Tryd.prog.follows Departure.mixedOrders = true := by kernel_rfl
  have cA0 := answersN w hT
  by_cases hbig : la.length ≤ 100 ∧ lb.length ≤ 100 ∧ lb ≠ []
  case neg =>
    have hcase : 100 < la.length ∨ (la.length ≤ 100 ∧ 100 < lb.length) ∨ (la.length ≤ 100 ∧ lb.length ≤ 100 ∧ lb.length = 0) := by
      by_cases h1 : la.length ≤ 100
      · by_cases h2 : lb.length ≤ 100
        · exact .inr (.inr ⟨h1, h2, Decidable.byContradiction fun h => hbig ⟨h1, h2, fun e => h (by rw [e]; rfl)⟩⟩)
        · exact .inr (.inl ⟨h1, by omega⟩)
      · exact .inl (by omega)
    obtain ⟨a, c, rfl⟩ := ha.len
    obtain ⟨b, d, rfl⟩ := hb.len
    generalize la.length = N at *
    generalize lb.length = M at *
    clear hT ha hb hra hrb hbig
    rcases hcase with h1 | ⟨h1, h2⟩ | ⟨h1, h2, h3⟩
    · have hz : (100 : Int) < (N : Int) := by omega
      go_enter Tryd.func4, Tryd.ntmps4
      go_wp2_with (go_at_call 7; refine cA0.mono ?_; rintro e w1 ⟨rfl, hb⟩; clear cA0)
      go_ret
      exact ⟨rfl, hb⟩
    · have hz1 : ¬ (100 : Int) < (N : Int) := by omega
      have hz2 : (100 : Int) < (M : Int) := by omega
      go_enter Tryd.func4, Tryd.ntmps4
      go_wp2_with (go_at_call 7; refine cA0.mono ?_; rintro e w1 ⟨rfl, hb⟩; clear cA0)
      go_ret
      exact ⟨rfl, hb⟩
    · subst h3
      have hz1 : ¬ (100 : Int) < (N : Int) := by omega
      go_enter Tryd.func4, Tryd.ntmps4
      go_wp2_with (go_at_call 7; refine cA0.mono ?_; rintro e w1 ⟨rfl, hb⟩; clear cA0)
      go_ret
      exact ⟨rfl, hb⟩
  clear cA0
  obtain ⟨hn1, hn2, hne⟩ := hbig
  obtain ⟨B, hB⟩ : ∃ B, B = nfdV lb := ⟨_, rfl⟩
  have hBl := nfd_len lb
  rw [← hB] at hBl
  have hpos : 0 < lb.length := List.length_pos_iff.2 hne
  obtain ⟨x, R, hBx⟩ : ∃ x R, B = x :: R := by
    cases B with
    | nil => simp at hBl; exact absurd hBl hne
    | cons x R => exact ⟨x, R, rfl⟩
  have hxr : -2147483648 ≤ x ∧ x ≤ 2147483647 := nfd_range hrb x (by rw [← hB, hBx]; simp)
  have hjoin : ¬ 0 < kOf x → nfdV (la ++ lb) = nfdV la ++ B := fun hk => by rw [hB]; exact nfd_joins la lb x R (by rw [← hB, hBx]) hk
  have c1 : Calls Tryd.prog 12 #[vb] w fun e w' => ∃ g c, e = .returned (.slice (some ⟨g, 0, none⟩) B.length c) ∧ w'.cell? ⟨g, 0, none⟩ = some (.int .i32 x) ∧ g < w'.heap.size ∧ Aside (StR w w' (.slice (some ⟨g, 0, none⟩) B.length c) B) := by
    refine (nfd vb lb w hT hb (by omega) hrb).mono ?_
    rintro e w' ⟨v', rfl, k1, k2⟩
    rw [← hB] at k1
    obtain ⟨g, c, rfl, _, hlt⟩ := k1.form (by omega)
    exact ⟨g, c, rfl, k1.cellAt (x := x) (by rw [hBx]; rfl), hlt, k1, k2⟩
  have cA : ∀ w2 y, StR w w2 y B → Calls Tryd.prog 7 #[] w2 fun e w' => e = .returned (.bool true) ∧ Below w2.heap.size w2 w' ∧ Aside (StR w w' y B) := fun w2 y hS => by
    refine (answersN w2 (hT.below hS.below)).mono ?_
    rintro e w' ⟨rfl, k⟩
    exact ⟨rfl, k, hS.go k⟩
  have cK : ∀ w2 y, StR w w2 y B → Calls Tryd.prog 11 #[.int .i32 x] w2 fun e w' => e = .returned (.int .i64 (kOf x)) ∧ Aside (StR w w' y B) := fun w2 y hS => by
    have := clsG x hxr.1 hxr.2 w2
    unfold kOf
    refine this.mono ?_
    rintro e w' ⟨rfl, q, os, rfl⟩
    exact ⟨rfl, hS.go (below_grown q os _ (Nat.le_refl _))⟩
  have cW : ∀ W y, StR w W y B → SlN (W.alloc (.cells #[] 21)) va la ∧ w.heap.size ≤ W.heap.size := fun W y hS => ⟨(ha.below hS.below).below ((Below.refl _ W).alloc (Nat.le_refl _) _), hS.below.size⟩
  have cX : ∀ W W1 y, StR w W y B → Below W.heap.size (W.alloc (.cells #[] 21)) W1 → SlN W1 vb lb := fun W W1 y hS h1 => hb.below (hS.below.trans ((((Below.refl _ W).alloc (Nat.le_refl _) _).trans h1).mono hS.below.size))
  have c2 : ∀ W W2 y v, StR w W y B → Below W.heap.size W W2 → SlN W2 v (la ++ lb) → Calls Tryd.prog 12 #[v] W2 fun e w' => ∃ n1, e = .returned n1 ∧ Aside (StR w w' y B ∧ SlN w' n1 (nfdV (la ++ lb))) := fun W W2 y v hS hbw ho => by
    have hS2 := hS.go hbw
    refine (nfd v (la ++ lb) W2 (hT.below hS2.below) ho (by rw [List.length_append]; omega) (fun z hz => (List.mem_append.1 hz).elim (hra z) (hrb z))).mono ?_
    rintro e w' ⟨n1, rfl, k1, k2⟩
    exact ⟨n1, rfl, hS2.go k2, k1.sln⟩
  have c3 : ∀ W2 y n1, StR w W2 y B ∧ SlN W2 n1 (nfdV (la ++ lb)) → Calls Tryd.prog 12 #[va] W2 fun e w' => ∃ n2, e = .returned n2 ∧ Aside (StJ w W2 w' y n1 n2 B (nfdV (la ++ lb)) (nfdV la)) := fun W2 y n1 hS => by
    refine (nfd va la W2 (hT.below hS.1.below) (ha.below hS.1.below) (by omega) hra).mono ?_
    rintro e w' ⟨n2, rfl, k1, k2⟩
    exact ⟨n2, rfl, hS.1.go k2, hS.2.below k2, hS.2, k1, k2, hS.1.below.size⟩
  have c4 : ∀ W2 W3 W4 y n1 n2 n3, ¬ 0 < kOf x → StJ w W2 W3 y n1 n2 B (nfdV (la ++ lb)) (nfdV la) → OwnR W4 W2.heap.size n3 (nfdV la ++ B) → Below W2.heap.size W3 W4 → Calls Tryd.prog 9 #[n1, n3] W4 fun e w' => e = .returned (.bool true) ∧ Below w.heap.size w w' := fun W2 W3 W4 y n1 n2 n3 hk hS ho hbw => by
    have hl1 := (nfd_len la).2
    have hl2 := (nfd_len (la ++ lb)).2
    rw [List.length_append] at hl2
    refine (runesN n1 n3 _ _ W4 (hS.one'.below (hS.step.trans hbw)) ho.sln (by omega) (by rw [List.length_append]; omega)).mono ?_
    rintro e w' ⟨rfl, k⟩
    rw [decide_eq_true (hjoin hk)]
    have h2 : w.heap.size ≤ W2.heap.size := hS.sz
    exact ⟨rfl, (hS.row.below.trans (hbw.mono h2)).trans (k.mono (Nat.le_trans h2 (Nat.le_trans hS.step.size hbw.size)))⟩
  obtain ⟨M, hM⟩ : ∃ M, M = B.length := ⟨_, rfl⟩
  have hMp : 0 < M := by rw [hM, hBx]; simp
  have hMm : M ≤ 2400 := by omega
  have HM : Aside (M = B.length) := hM
  simp only [← hM] at c1
  have hMz : (0 : Int) < (M : Int) := by omega
  have hMb : ((M : Int) == 0) = false := by simp; omega
  obtain ⟨aa, ca, hva⟩ := ha.len
  obtain ⟨ab, cb, hvb⟩ := hb.len
  subst hva hvb
  obtain ⟨NA, hNA⟩ : ∃ N, N = la.length := ⟨_, rfl⟩
  obtain ⟨NB, hNB⟩ : ∃ N, N = lb.length := ⟨_, rfl⟩
  simp only [← hNA, ← hNB] at c1 cW cX c3 hn1 hn2 hna hnb hpos ⊢
  have HL : Aside (NA = la.length ∧ NB = lb.length) := ⟨hNA, hNB⟩
  have hz1 : ¬ (100 : Int) < (NA : Int) := by omega
  have hz2 : ¬ (100 : Int) < (NB : Int) := by omega
  have hz3 : ((NB : Int) == 0) = false := by simp; omega
  have Hc1 := Lib.hid c1
  have HcA := Lib.hid cA
  have HcK := Lib.hid cK
  have HcW := Lib.hid cW
  have HcX := Lib.hid cX
  have Hc2 := Lib.hid c2
  have Hc3 := Lib.hid c3
  have Hc4 := Lib.hid c4
  clear c1 cA cK cW cX c2 c3 c4 hjoin hxr hBx hBl hB hM hNA hNB hpos hne hra hrb hT ha hb hna hnb
  by_cases hk : 0 < kOf x
  · have d1 : decide (0 < kOf x) = true := decide_eq_true hk
    go_enter Tryd.func4, Tryd.ntmps4
    go_wp2_with (first
      | (go_at_call 7; refine (HcA.out _ _ hS3.out).mono ?_; rintro e w5 ⟨rfl, hb5, hS4⟩; clear hS3)
      | (go_at_call 11; refine (HcK.out _ _ hS2.out).mono ?_; rintro e w4 ⟨rfl, hS3⟩; clear hS2)
      | (go_at_call 7; refine (HcA.out _ _ hS1.out).mono ?_; rintro e w3 ⟨rfl, hb3, hS2⟩; have hcell3 : w3.cell? ⟨g, 0, none⟩ = some (.int .i32 x) := (by rw [hb3.cell (p := ⟨g, 0, none⟩) hlt]; exact hcell); clear hS1 hcell hb3)
      | (go_at_call 12; refine Hc1.out.mono ?_; rintro e w2 ⟨g, c, rfl, hcell, hlt, hS1⟩))
    go_ret
    exact ⟨rfl, hS4.out.below⟩
  · have d1 : decide (0 < kOf x) = false := decide_eq_false hk
    have hk0 : kOf x = 0 := by have := k_nonneg x; omega
    have HK : Aside (¬ 0 < kOf x) := hk
    rw [hk0] at HcK
    clear d1 hk hk0
    go_enter Tryd.func4, Tryd.ntmps4
    go_wp2_with (first
      | (go_at_call 9; refine (Hc4.out _ _ _ _ _ _ _ HK.out hS6.out ho3 hb9).mono ?_; rintro e w10 ⟨rfl, hfin⟩; clear hS6 ho3 hb9)
      | (at_builtin; refine append_sln rfl _ _ rfl w7.heap.size _ (nfdV la) rfl hS6.out.two _ B rfl hS6.out.row.row.sln (by have := (nfd_len la).2; have := HL.out; have := HM.out; omega) hS6.out.step.size ?_; intro n3 w9 ho3 hg9 hb9)
      | (go_at_call 12; refine (Hc3.out _ _ _ hS5.out).mono ?_; rintro e w8 ⟨n2, rfl, hS6⟩; clear hS5)
      | (go_at_call 12; refine (Hc2.out w4 w6 _ _ hS3.out ((((Below.refl _ w4).alloc (Nat.le_refl _) _).trans hb5).trans hb6) (ho2.sln)).mono ?_; rintro e w7 ⟨n1, rfl, hS5⟩; clear hS3 ho2 hb5 hb6)
      | (at_builtin; refine append_sln rfl _ _ rfl w4.heap.size _ la rfl ho1 _ lb rfl (HcX.out _ _ _ hS3.out hb5) (by have := HL.out; omega) (by have := hb5.size; simp at this; omega) ?_; intro v2 w6 ho2 hg6 hb6; clear ho1 hg6)
      | (at_builtin; refine append_sln rfl _ _ rfl w4.heap.size _ [] rfl (OwnR.made w4 _ (Nat.le_refl _)) _ la rfl (HcW.out _ _ hS3.out).1 (by have := HL.out; simp; omega) (by simp) ?_; intro v1 w5 ho1 hg5 hb5; clear hg5)
      | (go_at_call 11; refine (HcK.out _ _ hS2.out).mono ?_; rintro e w4 ⟨rfl, hS3⟩; clear hS2)
      | (go_at_call 7; refine (HcA.out _ _ hS1.out).mono ?_; rintro e w3 ⟨rfl, hb3, hS2⟩; have hcell3 : w3.cell? ⟨g, 0, none⟩ = some (.int .i32 x) := (by rw [hb3.cell (p := ⟨g, 0, none⟩) hlt]; exact hcell); clear hS1 hcell hb3)
      | (go_at_call 12; refine Hc1.out.mono ?_; rintro e w2 ⟨g, c, rfl, hcell, hlt, hS1⟩))
    go_ret
    exact ⟨rfl, hfin⟩
/-- For the row. -/
theorem nfdJoinsW (va : Value) (la : List Int) {w : World} (ha : SlN w va la) (hna : la.length ≤ 35184372087808) (hra : ∀ x ∈ la, -2147483648 ≤ x ∧ x ≤ 2147483647) (vb : Value) (lb : List Int) (hb : SlN w vb lb) (hnb : lb.length ≤ 35184372087808) (hrb : ∀ x ∈ lb, -2147483648 ≤ x ∧ x ≤ 2147483647) (w' : World) (hT : TabsN w') (he : w = w' := by rfl) :
    Calls Tryd.prog 4 #[va, vb] w' fun e w2 => e = .returned (.bool true) ∧ Below w'.heap.size w' w2 := by
  subst he
  exact joinsLaw va la vb lb w hT ha hb hna hnb hra hrb
end Go.Proofs.YtkadmnabhoijdaaDoor.Nfd
