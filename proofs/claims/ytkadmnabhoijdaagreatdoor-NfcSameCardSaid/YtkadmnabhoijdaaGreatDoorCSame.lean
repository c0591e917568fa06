/- NfcSame, walked. -/
import Derived.BigRegion
import Derived.Test.YtkadmnabhoijdaaGreatDoorRSpl
import Derived.Test.YtkadmnabhoijdaaGreatDoorCAns
set_option linter.unusedVariables false
namespace Go.Proofs.YtkadmnabhoijdaaGreatDoor.Nfd
open Go Go.RowKit Go.Shelf Go.Proofs Go.Lib Go.Sort
open Go.Proofs.YtkadmnabhoijdaaGreatDoor.Look Go.Proofs.YtkadmnabhoijdaaGreatDoor.New

theorem cplain (r : Int) (w : World) : Calls Tryz.prog 11 #[.int .i32 r] w fun e w' => e = .returned (.bool (decide (refN r = 0))) ∧ w = w' := by
  have hs := rsplit r w
  by_cases h : refN r = 0
  · rw [h] at hs
    rw [decide_eq_true h]
    clear h
    go_enter Tryz.func11, Tryz.ntmps11
    go_wp2_with (go_at_call 18; refine hs.mono ?_; rintro e w' ⟨p, q, rfl, rfl⟩)
    go_ret
    exact ⟨rfl, rfl⟩
  · have hb : (refN r == 0) = false := by simpa using h
    rw [decide_eq_false h]
    go_enter Tryz.func11, Tryz.ntmps11
    go_wp2_with (go_at_call 18; refine hs.mono ?_; rintro e w' ⟨p, q, rfl, rfl⟩)
    go_ret
    exact ⟨by simp [h], rfl⟩

set_option maxHeartbeats 16000000 in
set_option maxRecDepth 1000000 in
theorem sameLaw (va : Value) (la : List Int) (vb : Value) (lb : List Int) (an : Nat) (w : World) (hT : TabsN w) (ha : SlN w va la) (hb : SlN w vb lb) (hna : la.length ≤ 35184372087808) (hnb : lb.length ≤ 35184372087808)
    (hra : ∀ x ∈ la, -2147483648 ≤ x ∧ x ≤ 2147483647) (hrb : ∀ x ∈ lb, -2147483648 ≤ x ∧ x ≤ 2147483647) (han : an ≤ 255) :
    Calls Tryz.prog 3 #[va, vb, .int .u8 an] w fun e w' => e = .returned (.bool true) ∧ Below w.heap.size w w' := by
  have mixed : Tryz.prog.follows Departure.mixedOrders = true := by kernel_rfl
  have cA0 := answersC w hT
  by_cases hbig : la.length ≤ 100 ∧ lb.length ≤ 100
  case neg =>
    have hcase : 100 < la.length ∨ (la.length ≤ 100 ∧ 100 < lb.length) := by omega
    obtain ⟨a, c, rfl⟩ := ha.len
    obtain ⟨b, d, rfl⟩ := hb.len
    generalize la.length = N at *
    generalize lb.length = M at *
    clear hT ha hb hra hrb hbig
    rcases hcase with h1 | ⟨h1, h2⟩
    · have hz : (100 : Int) < (N : Int) := by omega
      go_enter Tryz.func3, Tryz.ntmps3
      go_wp2_with (go_at_call 6; refine cA0.mono ?_; rintro e w1 ⟨rfl, hb⟩; clear cA0)
      go_ret
      exact ⟨rfl, hb⟩
    · have hz1 : ¬ (100 : Int) < (N : Int) := by omega
      have hz2 : (100 : Int) < (M : Int) := by omega
      go_enter Tryz.func3, Tryz.ntmps3
      go_wp2_with (go_at_call 6; refine cA0.mono ?_; rintro e w1 ⟨rfl, hb⟩; clear cA0)
      go_ret
      exact ⟨rfl, hb⟩
  clear cA0
  obtain ⟨hn1, hn2⟩ := hbig
  obtain ⟨p, hp⟩ : ∃ p, p = decide (nfcV la = nfcV lb) := ⟨_, rfl⟩
  have hp1 : decide (nfdV la = nfdV lb) = p := by rw [hp]; exact decide_eq_decide.2 (nfc_same hra hrb).symm
  have hp2 : decide (nfdV lb = nfdV la) = p := by rw [← hp1]; exact decide_eq_decide.2 eq_comm
  have l1 := nfc_len hra
  have l2 := nfc_len hrb
  have l3 := (nfd_len la).2
  have l4 := (nfd_len lb).2
  have c1 : Calls Tryz.prog 8 #[va] w fun e w' => ∃ n, e = .returned n ∧ Aside (StR w w' n (nfcV la)) := by
    refine (nfc va la w hT ha (by omega) hra).mono ?_
    rintro e w' ⟨n, rfl, k1, k2⟩
    exact ⟨n, rfl, k1, k2⟩
  have c2 : ∀ w1 n1, StR w w1 n1 (nfcV la) → Calls Tryz.prog 8 #[vb] w1 fun e w' => ∃ n, e = .returned n ∧ Aside (StR w w' n1 (nfcV la) ∧ SlN w' n (nfcV lb)) := fun w1 n1 hS => by
    refine (nfc vb lb w1 (hT.below hS.below) (hb.below hS.below) (by omega) hrb).mono ?_
    rintro e w' ⟨n, rfl, k1, k2⟩
    exact ⟨n, rfl, hS.go k2, k1.sln⟩
  have c3 : ∀ w1 n1 n2, StR w w1 n1 (nfcV la) ∧ SlN w1 n2 (nfcV lb) → Calls Tryz.prog 7 #[n1, n2] w1 fun e w' => e = .returned (.bool p) ∧ Aside (Below w.heap.size w w') := fun w1 n1 n2 hS => by
    refine (runesN n1 n2 _ _ w1 hS.1.row.sln hS.2 (by omega) (by omega)).mono ?_
    rintro e w' ⟨rfl, k⟩
    rw [← hp]
    exact ⟨rfl, (hS.1.go k).below⟩
  have cA : ∀ w1, Below w.heap.size w w1 → Calls Tryz.prog 6 #[] w1 fun e w' => e = .returned (.bool true) ∧ Aside (Below w.heap.size w w') := fun w1 hb1 => by
    refine (answersC w1 (hT.below hb1)).mono ?_
    rintro e w' ⟨rfl, k⟩
    exact ⟨rfl, hb1.trans (k.mono hb1.size)⟩
  have c4 : ∀ w1, Below w.heap.size w w1 → Calls Tryz.prog 9 #[va, vb] w1 fun e w' => e = .returned (.bool p) ∧ Aside (Below w.heap.size w w') := fun w1 hb1 => by
    refine (csame va vb la lb w1 (hT.below hb1) (ha.below hb1) (hb.below hb1) (by omega) (by omega) hra hrb).mono ?_
    rintro e w' ⟨rfl, k⟩
    rw [hp1]
    exact ⟨rfl, hb1.trans (k.mono hb1.size)⟩
  have c5 : ∀ w1, Below w.heap.size w w1 → Calls Tryz.prog 9 #[vb, va] w1 fun e w' => e = .returned (.bool p) ∧ Aside (Below w.heap.size w w') := fun w1 hb1 => by
    refine (csame vb va lb la w1 (hT.below hb1) (hb.below hb1) (ha.below hb1) (by omega) (by omega) hrb hra).mono ?_
    rintro e w' ⟨rfl, k⟩
    rw [hp2]
    exact ⟨rfl, hb1.trans (k.mono hb1.size)⟩
  have c6 : ∀ w1 vc lc, Below w.heap.size w w1 → SlN w1 vc lc → lc.length ≤ 100 → (∀ x ∈ lc, -2147483648 ≤ x ∧ x ≤ 2147483647) → nfdV la = nfdV lc → Calls Tryz.prog 9 #[va, vc] w1 fun e w' => e = .returned (.bool true) ∧ Below w.heap.size w w' := fun w1 vc lc hb1 h1 h2 h3 h4 => by
    refine (csame va vc la lc w1 (hT.below hb1) (ha.below hb1) h1 (by omega) (by omega) hra h3).mono ?_
    rintro e w' ⟨rfl, k⟩
    rw [decide_eq_true h4]
    exact ⟨rfl, hb1.trans (k.mono hb1.size)⟩
  have HV : Aside (∀ wr, Below w.heap.size w wr → SlN wr va la) := fun wr hb => ha.below hb
  obtain ⟨bv, dv, hvb⟩ := hb.len
  obtain ⟨M, hM⟩ : ∃ M, M = lb.length := ⟨_, rfl⟩
  rw [← hM] at hvb hn2
  have hz2 : ¬ (100 : Int) < (M : Int) := by omega
  by_cases hsm : la.length < 2
  · obtain ⟨av, cv, hva⟩ := ha.len
    obtain ⟨N, hN⟩ : ∃ N, N = la.length := ⟨_, rfl⟩
    rw [← hN] at hva hn1 hsm
    have hz1 : ¬ (100 : Int) < (N : Int) := by omega
    have hz3 : (N : Int) < 2 := by omega
    subst hva hvb
    have H1 := Lib.hid c1
    have H2 := Lib.hid c2
    have H3 := Lib.hid c3
    have HA := Lib.hid cA
    have H4 := Lib.hid c4
    have H5 := Lib.hid c5
    clear c1 c2 c3 cA c4 c5 c6 HV ha hb hra hrb hT l1 l2 l3 l4 hp hp1 hp2 hN hM
    go_enter Tryz.func3, Tryz.ntmps3
    go_wp2_with (first
      | (go_at_call 9; refine (H5.out _ hS5.out).mono ?_; rintro e w6 ⟨rfl, hS6⟩; clear hS5)
      | (go_at_call 9; refine (H4.out _ hS4.out).mono ?_; rintro e w5 ⟨rfl, hS5⟩; clear hS4)
      | (go_at_call 6; refine (HA.out _ hS3.out).mono ?_; rintro e w4 ⟨rfl, hS4⟩; clear hS3)
      | (go_at_call 7; refine (H3.out _ _ _ hS2.out).mono ?_; rintro e w3 ⟨rfl, hS3⟩; clear hS2)
      | (go_at_call 8; refine (H2.out _ _ hS1.out).mono ?_; rintro e w2 ⟨n2, rfl, hS2⟩; clear hS1)
      | (go_at_call 8; refine H1.out.mono ?_; rintro e w1 ⟨n1, rfl, hS1⟩))
    go_ret
    exact ⟨rfl, hS6.out⟩
  · obtain ⟨bb, off, vc, hva, hlt, hcc⟩ := ha.slo (fun e => by rw [e] at hsm; simp at hsm)
    obtain ⟨k, hk⟩ : ∃ k, k = an % (la.length - 1) := ⟨_, rfl⟩
    have hkl : k + 1 < la.length := by have := Nat.mod_lt an (show la.length - 1 > 0 by omega); omega
    obtain ⟨A, x, y, Q, hl, hA⟩ := at_two hkl
    have hrx := hra x (by rw [hl]; simp)
    have hry := hra y (by rw [hl]; simp)
    have kx : ∀ w, Calls Tryz.prog 10 #[.int .i32 x] w fun e w' => e = .returned (.int .i64 (kOf x)) ∧ ∃ q os, w' = grow (w.drewN q) os := fun w => by unfold kOf; exact clsG x hrx.1 hrx.2 w
    have ky : ∀ w, Calls Tryz.prog 10 #[.int .i32 y] w fun e w' => e = .returned (.int .i64 (kOf y)) ∧ ∃ q os, w' = grow (w.drewN q) os := fun w => by unfold kOf; exact clsG y hry.1 hry.2 w
    have HC : Aside (∀ wr, Below w.heap.size w wr → wr.cell? ⟨bb, off + k, none⟩ = some (.int .i32 x) ∧ wr.cell? ⟨bb, off + (k + 1), none⟩ = some (.int .i32 y)) := fun wr hb => ⟨(hb.cell (p := ⟨bb, off + k, none⟩) hlt).trans (hcc k x (by rw [hl, ← hA]; simp)), (hb.cell (p := ⟨bb, off + (k + 1), none⟩) hlt).trans (hcc (k + 1) y (by rw [hl, ← hA]; simp))⟩
    have hnf : 0 < kOf x → 0 < kOf y → kOf x ≠ kOf y → refN x = 0 → refN y = 0 → nfdV la = nfdV (A ++ y :: x :: Q) := fun h1 h2 h3 h4 h5 => by rw [hl]; exact nfd_swap A Q x y h1 h2 h4 h5 h3
    have hlr : ∀ z ∈ A ++ y :: x :: Q, -2147483648 ≤ z ∧ z ≤ 2147483647 := fun z hz => hra z (by
      rw [hl]
      simp only [List.mem_append, List.mem_cons] at hz ⊢
      rcases hz with h | h | h | h
      · exact .inl h
      · exact .inr (.inr (.inl h))
      · exact .inr (.inl h)
      · exact .inr (.inr (.inr h)))
    have hll : (A ++ y :: x :: Q).length ≤ 100 := by rw [hl] at hn1; simpa using hn1
    have c7 : 0 < kOf x → 0 < kOf y → kOf x ≠ kOf y → refN x = 0 → refN y = 0 → ∀ w1 vc, Below w.heap.size w w1 → SlN w1 vc (A ++ y :: x :: Q) → Calls Tryz.prog 9 #[va, vc] w1 fun e w' => e = .returned (.bool true) ∧ Below w.heap.size w w' := fun h1 h2 h3 h4 h5 w1 vc hb1 hs => c6 w1 vc _ hb1 hs hll hlr (hnf h1 h2 h3 h4 h5)
    obtain ⟨N, hN⟩ : ∃ N, N = la.length := ⟨_, rfl⟩
    rw [← hN] at hva hn1 hsm hkl hk
    have hkz : (an : Int) % ((N : Int) - 1) = (k : Int) := by
      have : (N : Int) - 1 = ((N - 1 : Nat) : Int) := by omega
      rw [this, hk]
      rfl
    have HN : Aside (N = la.length) := hN
    have HL : Aside (la = A ++ x :: y :: Q ∧ A.length = k) := ⟨hl, hA⟩
    have hz1 : ¬ (100 : Int) < (N : Int) := by omega
    have hz3 : ¬ (N : Int) < 2 := by omega
    have hz4 : ¬ ((N : Int) - 1) = 0 := by omega
    have hz5 : ((N : Int) - 1 == 0) = false := by simpa using hz4
    have z1 : (0 : Int) ≤ an := by omega
    have z2 : (an : Int) ≤ 255 := by omega
    have z3 : (2 : Int) ≤ N := by omega
    have hkN : (k : Int) + 1 < (N : Int) := by omega
    have HKZ := Lib.hid hkz
    subst hva hvb
    have H1 := Lib.hid c1
    have H2 := Lib.hid c2
    have H3 := Lib.hid c3
    have HA := Lib.hid cA
    have H4 := Lib.hid c4
    have H5 := Lib.hid c5
    have H7 := Lib.hid c7
    clear c1 c2 c3 cA c4 c5 c6 c7 ha hb hra hrb hT l1 l2 l3 l4 hp hp1 hp2 hN hM hl hA hrx hry hcc hnf hlr hll hkz hk
    go_enter Tryz.func3, Tryz.ntmps3
    go_wp2_with (first
      | (go_at_call 9; refine (H5.out _ hS5.out).mono ?_; rintro e w6 ⟨rfl, hS6⟩; clear hS5)
      | (go_at_call 9; refine (H4.out _ hS4.out).mono ?_; rintro e w5 ⟨rfl, hS5⟩; clear hS4)
      | (go_at_call 6; refine (HA.out _ hS3.out).mono ?_; rintro e w4 ⟨rfl, hS4⟩; clear hS3)
      | (go_at_call 7; refine (H3.out _ _ _ hS2.out).mono ?_; rintro e w3 ⟨rfl, hS3⟩; clear hS2)
      | (go_at_call 8; refine (H2.out _ _ hS1.out).mono ?_; rintro e w2 ⟨n2, rfl, hS2⟩; clear hS1)
      | (go_at_call 8; refine H1.out.mono ?_; rintro e w1 ⟨n1, rfl, hS1⟩))
    rw [HKZ.out]
    have hgb : ∀ n os, Below w.heap.size w (grow (w6.drewN n) os) := fun n os => hS6.out.trans (below_grown n os _ hS6.out.size)
    obtain ⟨iN, hiN1⟩ : ∃ q, q = k + 1 := ⟨_, rfl⟩
    have en : ((k : Int) + 1).toNat = iN := by omega
    have bi : (k : Int) < (N : Int) := by omega
    have pn : (0 : Int) ≤ (k : Int) + 1 := by omega
    have rn : IntKind.i64.wrap ((k : Int) + 1) = (k : Int) + 1 := by rw [IntKind.wrap_i64]; omega
    have l1 : ∀ n os, (grow (w6.drewN n) os).cell? ⟨bb, off + k, none⟩ = some (.int .i32 x) := fun n os => (HC.out _ (hgb n os)).1
    have l2 : ∀ n os, (grow (w6.drewN n) os).cell? ⟨bb, off + iN, none⟩ = some (.int .i32 y) := fun n os => by rw [hiN1]; exact (HC.out _ (hgb n os)).2
    have HiN : Aside (iN = k + 1) := hiN1
    have KK : ∀ r, (r = x ∨ r = y) → ∀ w, Calls Tryz.prog 10 #[.int .i32 r] w fun e w' => e = .returned (.int .i64 (kOf r)) ∧ ∃ q os, w' = grow (w.drewN q) os := fun r hr => by rcases hr with rfl | rfl; exact kx; exact ky
    have HG := Lib.hid hgb
    clear kx ky hgb hiN1 hS6
    go_quiet_grown (first | (go_at_call 10; refine Calls.grown_of (KK _ (by first | exact Or.inl rfl | exact Or.inr rfl) _)))
    have HW2 : Aside (Below w.heap.size w (grow (w6.drewN nq) osq)) := HG.out nq osq
    clear l1 l2 HG KK
    generalize grow (w6.drewN nq) osq = w7 at HW2 ⊢
    have hV0 : SlN (w7.alloc (.cells #[] 21)) (.slice (some ⟨bb, off, none⟩) N vc) la := HV.out _ (HW2.out.alloc HW2.out.size _)
    go_wp2_with (first
      | (at_builtin; refine append_sln rfl _ _ rfl w7.heap.size _ [] rfl (OwnR.made w7 _ (Nat.le_refl _)) _ la rfl hV0 (by have := HN.out; simp; omega) (by simp) ?_; intro v2 w8 ho2 hg2 hb2; clear hg2; obtain ⟨gy, cy, e', hgy1, hgy2⟩ := ho2.form (by have := HN.out; simp; omega); obtain ⟨M', hM'⟩ : ∃ m, m = ([] ++ la).length := ⟨_, rfl⟩; rw [← hM'] at e'; have HM' : Aside (M' = N) := (show M' = N by rw [hM', HN.out]; simp); clear hM'; subst e'))
    have hiN := HiN.out
    have hMp := HM'.out
    have eA : [] ++ la = A ++ x :: y :: Q := by rw [HL.out.1]; rfl
    have hO := ho2
    rw [eA] at hO
    have hlen : (A ++ x :: y :: Q).length = M' := by rw [← eA]; simp; have := HN.out; omega
    have lx : (A ++ x :: y :: Q)[k]? = some x := by rw [← HL.out.2]; simp
    have ly : (A ++ x :: y :: Q)[iN]? = some y := by rw [hiN, ← HL.out.2]; simp
    have hO2 := hO
    rw [← hlen] at hO2
    have c3a := hO2.cellAt lx
    have c3b := hO2.cellAt ly
    have f3a := World.ownsRow.frozenAt hO2 k
    have f3b := World.ownsRow.frozenAt hO2 iN
    have c3c : (w8.setCell ⟨gy, k, none⟩ (enc32 y)).cell? ⟨gy, iN, none⟩ = some (enc32 y) := (World.cell?_setCell_other _ _ _ _ (by intro e'; simp only [Addr.mk.injEq] at e'; omega)).trans c3b
    have hst1 := World.ownsRow.stored hO2 k (enc32 y)
    have hst2 := World.ownsRow.stored hst1.1 iN (enc32 x)
    have hfinY : OwnR ((w8.setCell ⟨gy, k, none⟩ (enc32 y)).setCell ⟨gy, iN, none⟩ (enc32 x)).drew w7.heap.size (.slice (some ⟨gy, 0, none⟩) M' cy) (A ++ y :: x :: Q) := by
      have e := set_pair x y A Q k HL.out.2
      have h0 := hst2.1
      unfold OwnR
      have hl2 : (A ++ y :: x :: Q).length = (A ++ x :: y :: Q).length := by simp
      rw [hl2, ← e, List.map_set, List.map_set, ← hiN]
      rw [hlen] at h0 ⊢
      exact h0
    have hbY : Below w7.heap.size w8 ((w8.setCell ⟨gy, k, none⟩ (enc32 y)).setCell ⟨gy, iN, none⟩ (enc32 x)).drew := (((Below.refl _ _).setCell (p := ⟨gy, k, none⟩) hgy1 _).setCell (p := ⟨gy, iN, none⟩) hgy1 _).drew
    have hb78 : Below w7.heap.size w7 w8 := ((Below.refl _ w7).alloc (Nat.le_refl _) _).trans hb2
    have HS : Aside (Below w.heap.size w ((w8.setCell ⟨gy, k, none⟩ (enc32 y)).setCell ⟨gy, iN, none⟩ (enc32 x)).drew ∧ SlN ((w8.setCell ⟨gy, k, none⟩ (enc32 y)).setCell ⟨gy, iN, none⟩ (enc32 x)).drew (.slice (some ⟨gy, 0, none⟩) M' cy) (A ++ y :: x :: Q)) :=
      ⟨(HW2.out.trans (hb78.mono HW2.out.size)).trans (hbY.mono HW2.out.size), hfinY.sln⟩
    have bn1 : (k : Int) < (M' : Int) := by omega
    have bn2 : (k : Int) + 1 < (M' : Int) := by omega
    have hst := oneCell32.store Tryz.prog
    have hcl0 := oneCell32.cells
    simp only [Value.cells] at hcl0
    clear ho2 hO hO2 hst1 hst2 hfinY hbY hb78 hb2 eA hlen lx ly hiN hMp hV0 HW2
    go_wp2_with fail
    go_big_region_o
    clear c3a c3b c3c f3a f3b hst hcl0 bn1 bn2
    generalize ((w8.setCell ⟨gy, k, none⟩ (enc32 y)).setCell ⟨gy, iN, none⟩ (enc32 x)).drew = w9 at HS ⊢
    have l1 : w9.cell? ⟨bb, off + k, none⟩ = some (.int .i32 x) := (HC.out _ HS.out.1).1
    have l2 : w9.cell? ⟨bb, off + iN, none⟩ = some (.int .i32 y) := by rw [HiN.out]; exact (HC.out _ HS.out.1).2
    have kp1 := cplain x w9
    have kp2 := cplain y w9
    have hk1 := k_nonneg x
    have hk2 := k_nonneg y
    by_cases q1 : 0 < kOf x
    case neg =>
      have d1 : decide (0 < kOf x) = false := decide_eq_false q1
      have q0 : kOf x = 0 := by omega
      clear kp1 kp2 H7
      go_wp2
      go_ret
      exact ⟨rfl, HS.out.1⟩
    by_cases q2 : 0 < kOf y
    case neg =>
      have d2 : decide (0 < kOf y) = false := decide_eq_false q2
      have q0 : kOf y = 0 := by omega
      clear kp1 kp2 H7
      go_wp2
      go_ret
      exact ⟨rfl, HS.out.1⟩
    by_cases q3 : kOf x = kOf y
    case pos =>
      have e1 : (kOf x != kOf y) = false := by simp [q3]
      have e2 : (kOf x == kOf y) = true := by simp [q3]
      clear kp1 kp2 H7 q3
      go_wp2
      go_ret
      exact ⟨rfl, HS.out.1⟩
    have e1 : (kOf x != kOf y) = true := by simpa using q3
    have e2 : (kOf x == kOf y) = false := by simpa using q3
    by_cases q4 : refN x = 0
    case neg =>
      rw [decide_eq_false q4] at kp1
      clear kp2 H7 q3 q4
      go_wp2_with (go_at_call 11; refine kp1.mono ?_; rintro e w10 ⟨rfl, rfl⟩; clear kp1)
      go_ret
      exact ⟨rfl, HS.out.1⟩
    rw [decide_eq_true q4] at kp1
    by_cases q5 : refN y = 0
    case neg =>
      rw [decide_eq_false q5] at kp2
      clear H7 q3 q4 q5
      go_wp2_with (first
        | (go_at_call 11; have tok := kp1; refine kp1.mono ?_; rintro e w10 ⟨rfl, rfl⟩; clear kp1 tok)
        | (go_at_call 11; refine kp2.mono ?_; rintro e w10 ⟨rfl, rfl⟩; clear kp2))
      go_ret
      exact ⟨rfl, HS.out.1⟩
    rw [decide_eq_true q5] at kp2
    have c8 := H7.out q1 q2 q3 q4 q5 w9 _ HS.out.1 HS.out.2
    clear H7 q3 q4 q5
    go_wp2_with (first
      | (go_at_call 9; refine c8.mono ?_; rintro e w10 ⟨rfl, hfin⟩; clear c8)
      | (go_at_call 11; have tok := kp1; refine kp1.mono ?_; rintro e w10 ⟨rfl, rfl⟩; clear kp1 tok)
      | (go_at_call 11; refine kp2.mono ?_; rintro e w10 ⟨rfl, rfl⟩; clear kp2))
    go_ret
    exact ⟨rfl, hfin⟩
/-- For the row. -/
theorem nfcSameW (va : Value) (la : List Int) {w : World} (ha : SlN w va la) (hna : la.length ≤ 35184372087808) (hra : ∀ x ∈ la, -2147483648 ≤ x ∧ x ≤ 2147483647) (vb : Value) (lb : List Int) (hb : SlN w vb lb) (hnb : lb.length ≤ 35184372087808) (hrb : ∀ x ∈ lb, -2147483648 ≤ x ∧ x ≤ 2147483647) (a : Int) (h0 : 0 ≤ a) (h1 : a ≤ 255) (w' : World) (hT : TabsN w') (he : w = w' := by rfl) :
    Calls Tryz.prog 3 #[va, vb, .int .u8 a] w' fun e w2 => e = .returned (.bool true) ∧ Below w'.heap.size w' w2 := by
  subst he
  obtain ⟨n, rfl⟩ : ∃ n : Nat, a = (n : Int) := ⟨a.toNat, by omega⟩
  exact sameLaw va la vb lb n w hT ha hb hna hnb hra hrb (by omega)
end Go.Proofs.YtkadmnabhoijdaaGreatDoor.Nfd
