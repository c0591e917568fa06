/- NfdMoves, walked. -/
import Derived.BigRegion
import Derived.RegionTactic
import Derived.Deep.RegionHeld3
import Derived.Test.YtkadmnabhoijdaaDoorRSpl
import Derived.Test.YtkadmnabhoijdaaDoorNAns
set_option linter.unusedVariables false
set_option linter.unusedSimpArgs false
set_option linter.all false
namespace Go.Proofs.YtkadmnabhoijdaaDoor.Nfd
open Go Go.RowKit Go.Shelf Go.Proofs Go.Lib Go.Sort
open Go.Proofs.YtkadmnabhoijdaaDoor.Look Go.Proofs.YtkadmnabhoijdaaDoor.New

theorem set_two (base x y : Int) (A Q : List Int) (k : Nat) (hA : A.length = k) : ((base :: (A ++ x :: y :: Q)).set (k + 1) y).set (k + 2) x = base :: (A ++ y :: x :: Q) := by
  subst hA
  rw [List.set_cons_succ, List.set_append_right _ _ (Nat.le_refl _), Nat.sub_self, List.set_cons_zero, List.set_cons_succ, List.set_append_right _ _ (by omega), show A.length + 1 - A.length = 1 by omega, List.set_cons_succ, List.set_cons_zero]
set_option maxHeartbeats 16000000 in
set_option maxRecDepth 1000000 in
theorem movesSmall (base : Int) (v : Value) (l : List Int) (at' : Int) (w : World) (hT : TabsN w) (h : SlN w v l) (hb : -2147483648 ≤ base ∧ base ≤ 2147483647) (hn : l.length ≤ 35184372087808) (hbig : l.length < 2 ∨ (2 ≤ l.length ∧ 30 < l.length) ∨ (2 ≤ l.length ∧ l.length ≤ 30 ∧ 0 < kOf base)) :
    Calls Tryd.prog 6 #[.int .i32 base, v, .int .u8 at'] w fun e w' => e = .returned (.bool true) ∧ Below w.heap.size w w' := by
  have cA : ∀ w1, Below w.heap.size w w1 → Calls Tryd.prog 7 #[] w1 fun e w' => e = .returned (.bool true) ∧ Below w.heap.size w w' := fun w1 hb1 => by
    refine (answersN w1 (hT.below hb1)).mono ?_
    rintro e w' ⟨rfl, k⟩
    exact ⟨rfl, hb1.trans (k.mono hb1.size)⟩
  have cK : Calls Tryd.prog 11 #[.int .i32 base] w fun e w' => e = .returned (.int .i64 (kOf base)) ∧ Below w.heap.size w w' := by
    have := clsG base hb.1 hb.2 w
    unfold kOf
    refine this.mono ?_
    rintro e w' ⟨rfl, q, os, rfl⟩
    exact ⟨rfl, below_grown q os _ (Nat.le_refl _)⟩
  have cA0 := cA w (Below.refl _ _)
  obtain ⟨a, c, rfl⟩ := h.len
  generalize l.length = N at *
  clear hT h hb
  rcases hbig with h1 | ⟨h1, h2⟩ | ⟨h1, h2, h3⟩
  · have hz : (N : Int) < 2 := by omega
    clear cK
    go_enter Tryd.func6, Tryd.ntmps6
    go_wp2_with (go_at_call 7; refine cA0.mono ?_; rintro e w1 ⟨rfl, hb⟩; clear cA0)
    go_ret
    exact ⟨rfl, hb⟩
  · have hz1 : ¬ (N : Int) < 2 := by omega
    have hz2 : (30 : Int) < (N : Int) := by omega
    clear cK
    go_enter Tryd.func6, Tryd.ntmps6
    go_wp2_with (go_at_call 7; refine cA0.mono ?_; rintro e w1 ⟨rfl, hb⟩; clear cA0)
    go_ret
    exact ⟨rfl, hb⟩
  · have hz1 : ¬ (N : Int) < 2 := by omega
    have hz2 : ¬ (30 : Int) < (N : Int) := by omega
    have HA := Lib.hid cA
    clear cA cA0
    go_enter Tryd.func6, Tryd.ntmps6
    go_wp2_with (first | (go_at_call 7; refine (HA.out _ hb1).mono ?_; rintro e w2 ⟨rfl, hb2⟩) | (go_at_call 11; refine cK.mono ?_; rintro e w1 ⟨rfl, hb1⟩; clear cK))
    go_ret
    exact ⟨rfl, hb2⟩

set_option maxHeartbeats 16000000 in
set_option maxRecDepth 1000000 in
theorem movesMain (base : Int) (v : Value) (l : List Int) (an : Nat) (w : World) (hT : TabsN w) (h : SlN w v l) (hb : -2147483648 ≤ base ∧ base ≤ 2147483647) (hr : ∀ x ∈ l, -2147483648 ≤ x ∧ x ≤ 2147483647) (han : an ≤ 255) (h2 : 2 ≤ l.length) (h30 : l.length ≤ 30) (hkb : kOf base = 0) :
    Calls Tryd.prog 6 #[.int .i32 base, v, .int .u8 an] w fun e w' => e = .returned (.bool true) ∧ Below w.heap.size w w' := by
  have mixed : Tryd.prog.follows Departure.mixedOrders = true := by kernel_rfl
  obtain ⟨b, off, vc, rfl, hlt, hc⟩ := h.slo (fun e => by rw [e] at h2; simp at h2)
  have HV : Aside (∀ wr, Below w.heap.size w wr → SlN wr (.slice (some ⟨b, off, none⟩) l.length vc) l) := fun wr hb => h.below hb
  obtain ⟨k, hk⟩ : ∃ k, k = an % (l.length - 1) := ⟨_, rfl⟩
  have hkl : k + 1 < l.length := by have := Nat.mod_lt an (show l.length - 1 > 0 by omega); omega
  obtain ⟨A, x, y, Q, hl, hA⟩ := at_two hkl
  have hrx := hr x (by rw [hl]; simp)
  have hry := hr y (by rw [hl]; simp)
  have cA : ∀ w1, Below w.heap.size w w1 → Calls Tryd.prog 7 #[] w1 fun e w' => e = .returned (.bool true) ∧ Below w1.heap.size w1 w' := fun w1 hb1 => by
    refine (answersN w1 (hT.below hb1)).mono ?_
    rintro e w' ⟨rfl, k⟩
    exact ⟨rfl, k⟩
  have HK : Aside (∀ (r : Int), -2147483648 ≤ r → r ≤ 2147483647 → ∀ w, Calls Tryd.prog 11 #[.int .i32 r] w fun e w' => e = .returned (.int .i64 (kOf r)) ∧ ∃ q os, w' = grow (w.drewN q) os) := fun r h1 h2 w => by unfold kOf; exact clsG r h1 h2 w
  have HC : Aside (∀ wr, Below w.heap.size w wr → ∀ i z, l[i]? = some z → wr.cell? ⟨b, off + i, none⟩ = some (.int .i32 z)) := fun wr hb i z hz => (hb.cell (p := ⟨b, off + i, none⟩) hlt).trans (hc i z hz)
  have lx : l[k]? = some x := by rw [hl, ← hA]; simp
  have ly : l[k + 1]? = some y := by rw [hl, ← hA]; simp
  obtain ⟨N, hN⟩ : ∃ N, N = l.length := ⟨_, rfl⟩
  rw [← hN] at h2 h30 hkl hk
  have hkz : (an : Int) % ((N : Int) - 1) = (k : Int) := by
    have : (N : Int) - 1 = ((N - 1 : Nat) : Int) := by omega
    rw [this, hk]
    rfl
  have HN : Aside (N = l.length) := hN
  have HL : Aside (l = A ++ x :: y :: Q ∧ A.length = k) := ⟨hl, hA⟩
  have HR : Aside (∀ x ∈ l, -2147483648 ≤ x ∧ x ≤ 2147483647) := hr
  rw [← hN]
  have cKb := HK.out base hb.1 hb.2 w
  rw [hkb] at cKb
  have kx := HK.out x hrx.1 hrx.2
  have ky := HK.out y hry.1 hry.2
  have hz1 : ¬ (N : Int) < 2 := by omega
  have hz2 : ¬ (30 : Int) < (N : Int) := by omega
  have hz3 : ¬ ((N : Int) - 1) = 0 := by omega
  have hz4 : ((N : Int) - 1 == 0) = false := by simpa using hz3
  have z1 : (0 : Int) ≤ an := by omega
  have z2 : (an : Int) ≤ 255 := by omega
  have z3 : (2 : Int) ≤ N := by omega
  have hkN : (k : Int) + 1 < (N : Int) := by omega
  have HKZ := Lib.hid hkz
  have HX : Aside (l[k]? = some x ∧ l[k + 1]? = some y) := ⟨lx, ly⟩
  have HB : Aside (-2147483648 ≤ base ∧ base ≤ 2147483647 ∧ kOf base = 0) := ⟨hb.1, hb.2, hkb⟩
  have HAn := Lib.hid cA
  have cN : ∀ w2 z L, Below w.heap.size w w2 → SlN w2 z L → L.length ≤ 1000 → (∀ x ∈ L, -2147483648 ≤ x ∧ x ≤ 2147483647) → Calls Tryd.prog 12 #[z] w2 fun e w' => ∃ n, e = .returned n ∧ SlN w' n (nfdV L) ∧ Below w2.heap.size w2 w' := fun w2 z L h1 h2 h3 h4 => by
    refine (nfd z L w2 (hT.below h1) h2 (by omega) h4).mono ?_
    rintro e w' ⟨n, rfl, k1, k2⟩
    exact ⟨n, rfl, k1.sln, k2⟩
  have HNf := Lib.hid cN
  clear cN
  clear hN hl hA hr hb hkb hk hc h hT lx ly hrx hry cA h2 han
  go_enter Tryd.func6, Tryd.ntmps6
  go_wp2_with (go_at_call 11; refine cKb.mono ?_; rintro e w1 ⟨rfl, q1, os1, hw1⟩; have HW1 : Aside (Below w.heap.size w w1) := (by rw [hw1]; exact below_grown q1 os1 _ (Nat.le_refl _)); clear cKb hw1)
  rw [HKZ.out]
  have hgb : ∀ n os, Below w.heap.size w (grow (w1.drewN n) os) := fun n os => HW1.out.trans (below_grown n os _ HW1.out.size)
  obtain ⟨iN, hiN1⟩ : ∃ q, q = k + 1 := ⟨_, rfl⟩
  have en : ((k : Int) + 1).toNat = iN := by omega
  have bi : (k : Int) < (N : Int) := by omega
  have pn : (0 : Int) ≤ (k : Int) + 1 := by omega
  have rn : IntKind.i64.wrap ((k : Int) + 1) = (k : Int) + 1 := by rw [IntKind.wrap_i64]; omega
  have l1 : ∀ n os, (grow (w1.drewN n) os).cell? ⟨b, off + k, none⟩ = some (.int .i32 x) := fun n os => HC.out _ (hgb n os) k x HX.out.1
  have l2 : ∀ n os, (grow (w1.drewN n) os).cell? ⟨b, off + iN, none⟩ = some (.int .i32 y) := fun n os => by rw [hiN1]; exact HC.out _ (hgb n os) (k + 1) y HX.out.2
  have HiN : Aside (iN = k + 1) := hiN1
  have KK : ∀ r, (r = x ∨ r = y) → ∀ w, Calls Tryd.prog 11 #[.int .i32 r] w fun e w' => e = .returned (.int .i64 (kOf r)) ∧ ∃ q os, w' = grow (w.drewN q) os := fun r hr => by rcases hr with rfl | rfl; exact kx; exact ky
  have HG := Lib.hid hgb
  clear kx ky hgb hiN1
  go_quiet_grown (first | (go_at_call 11; refine Calls.grown_of (KK _ (by first | exact Or.inl rfl | exact Or.inr rfl) _)))
  have HW2 : Aside (Below w.heap.size w (grow (w1.drewN nq) osq)) := HG.out nq osq
  clear l1 l2 HG KK en
  generalize grow (w1.drewN nq) osq = w2 at HW2 ⊢
  go_wp2
  go_loopg [10] N (fun g1 vi wr => ∃ (i : Nat), vi = .int .i64 i ∧ i ≤ N ∧ N - i ≤ g1 ∧ Aside (Below w.heap.size w wr ∧ ∀ m ∈ l.take i, 0 < kOf m ∧ refN m = 0))
  case atStart => exact ⟨0, rfl, by omega, by omega, ⟨HW2.out, by simp⟩⟩
  case round =>
    clear HW2
    obtain ⟨i, rfl, hi, hg1, HI⟩ := hrel
    by_cases hlt2 : i < N
    · have hltz : (i : Int) < (N : Int) := by omega
      obtain ⟨z, hz⟩ : ∃ z, l[i]? = some z := ⟨_, List.getElem?_eq_getElem (by have := HN.out; omega)⟩
      have hcz := HC.out wr HI.out.1 i z hz
      have hrz := HR.out z (List.mem_of_getElem? hz)
      have kz := HK.out z hrz.1 hrz.2 wr
      have sz := rsplit z wr
      have hn0 := refN_range z
      have hk0 := k_nonneg z
      have HZ : Aside (l[i]? = some z) := hz
      have hcl : Calls Tryd.prog 11 #[.int .i32 z] wr fun e w' => e = .returned (.int .i64 (kOf z)) ∧ Aside (Below w.heap.size w w') := by
        refine kz.mono ?_
        rintro e w' ⟨rfl, q, os, rfl⟩
        exact ⟨rfl, HI.out.1.trans (below_grown q os _ HI.out.1.size)⟩
      clear hz hrz kz
      obtain ⟨m, hm⟩ : ∃ m, m = refN z := ⟨_, rfl⟩
      obtain ⟨c, hcv⟩ : ∃ c, c = kOf z := ⟨_, rfl⟩
      rw [← hm] at sz hn0
      rw [← hcv] at hcl hk0
      have HM : Aside (m = refN z ∧ c = kOf z) := ⟨hm, hcv⟩
      clear hm hcv
      by_cases hc0 : c = 0
      · subst hc0
        go_wp2_with (first
          | (go_at_call 7; refine (HAn.out _ hb3.out).mono ?_; rintro e w4 ⟨rfl, hb4⟩)
          | (go_at_call 11; refine hcl.mono ?_; rintro e w3 ⟨rfl, hb3⟩; clear hcl)
          | (go_at_call 13; refine sz.mono ?_; rintro e w3 ⟨p1, p2, rfl, rfl⟩; clear sz))
        go_ret
        exact ⟨rfl, hb3.out.trans (hb4.mono hb3.out.size)⟩
      · have hcb : (c == 0) = false := by simpa using hc0
        by_cases hm0 : m = 0
        · subst hm0
          go_wp2_with (first
            | (go_at_call 11; refine hcl.mono ?_; rintro e w3 ⟨rfl, hb3⟩; clear hcl)
            | (go_at_call 13; refine sz.mono ?_; rintro e w3 ⟨p1, p2, rfl, rfl⟩; clear sz))
          go_roundg (N - (i + 1))
          case measure => omega
          case rel =>
            refine ⟨i + 1, by first | rfl | go_num, by omega, by omega, ⟨hb3.out, fun t ht => ?_⟩⟩
            rw [List.take_add_one, HZ.out] at ht
            rcases List.mem_append.1 ht with ht | ht
            · exact HI.out.2 t ht
            · simp at ht
              have := HM.out
              rw [ht]
              omega
        · have hmz : (0 : Int) < m := by omega
          go_wp2_with (first
            | (go_at_call 7; refine (HAn.out _ hb3.out).mono ?_; rintro e w4 ⟨rfl, hb4⟩)
            | (go_at_call 11; refine hcl.mono ?_; rintro e w3 ⟨rfl, hb3⟩; clear hcl)
            | (go_at_call 13; refine sz.mono ?_; rintro e w3 ⟨p1, p2, rfl, rfl⟩; clear sz))
          go_ret
          exact ⟨rfl, hb3.out.trans (hb4.mono hb3.out.size)⟩
    · have hltz : ¬ (i : Int) < (N : Int) := by omega
      obtain rfl : N = i := by omega
      have HM : Aside (∀ m ∈ l, 0 < kOf m ∧ refN m = 0) := fun m hm => HI.out.2 m (by rw [HN.out, List.take_length]; exact hm)
      have hW3 : Aside (Below w.heap.size w wr) := HI.out.1
      clear HI
      have hV0 : SlN (wr.alloc (.cells #[.int .i32 base] 21)) (.slice (some ⟨b, off, none⟩) N vc) l := by
        have := HV.out _ (hW3.out.alloc hW3.out.size (.cells #[.int .i32 base] 21))
        rw [← HN.out] at this
        exact this
      clear HK bi rn pn
      go_wp2_with (first
        | (at_builtin; refine append_sln rfl _ _ rfl w3.heap.size _ [] rfl (OwnR.made w3 _ (Nat.le_refl _)) _ ([base] ++ l) rfl (ho1.sln.below ((Below.refl _ w3).alloc (Nat.le_refl _) _)) (by have := HN.out; simp; omega) (by simp) ?_; intro v2 w4 ho2 hg2 hb2; clear hg2; obtain ⟨gy, cy, e', hgy1, hgy2⟩ := ho2.form (by simp); obtain ⟨M', hM'⟩ : ∃ m, m = ([] ++ ([base] ++ l)).length := ⟨_, rfl⟩; rw [← hM'] at e'; have HM' : Aside (M' = N + 1) := (show M' = N + 1 by rw [hM', HN.out]; simp); clear hM'; subst e')
        | (at_builtin; refine append_sln rfl _ _ rfl wr.heap.size _ [base] rfl (OwnR.lit _ [base] (by simp)) _ l rfl hV0 (by have := HN.out; simp; omega) (by simp) ?_; intro v1 w3 ho1 hg1 hb1; clear hg1))
      obtain ⟨jN, hjN⟩ : ∃ q, q = k + 2 := ⟨_, rfl⟩
      have hiN := HiN.out
      have hMp := HM'.out
      have eA : [] ++ ([base] ++ l) = base :: (A ++ x :: y :: Q) := by rw [HL.out.1]; rfl
      have hO := ho2
      rw [eA] at hO
      have hlen : (base :: (A ++ x :: y :: Q)).length = M' := by rw [← eA]; simp; have := HN.out; omega
      have lx : (base :: (A ++ x :: y :: Q))[iN]? = some x := by rw [hiN, List.getElem?_cons_succ, ← HL.out.1]; exact HX.out.1
      have ly : (base :: (A ++ x :: y :: Q))[jN]? = some y := by rw [hjN, List.getElem?_cons_succ, ← HL.out.1]; exact HX.out.2
      have hO2 := hO
      rw [← hlen] at hO2
      have c3a := hO2.cellAt lx
      have c3b := hO2.cellAt ly
      have f3a := World.ownsRow.frozenAt hO2 iN
      have f3b := World.ownsRow.frozenAt hO2 jN
      have c3c : (w4.setCell ⟨gy, iN, none⟩ (enc32 y)).cell? ⟨gy, jN, none⟩ = some (enc32 y) := (World.cell?_setCell_other _ _ _ _ (by intro e'; simp only [Addr.mk.injEq] at e'; omega)).trans c3b
      have hst1 := World.ownsRow.stored hO2 iN (enc32 y)
      have hst2 := World.ownsRow.stored hst1.1 jN (enc32 x)
      have hfinY : OwnR ((w4.setCell ⟨gy, iN, none⟩ (enc32 y)).setCell ⟨gy, jN, none⟩ (enc32 x)).drew w3.heap.size (.slice (some ⟨gy, 0, none⟩) M' cy) (base :: (A ++ y :: x :: Q)) := by
        have e := set_two base x y A Q k HL.out.2
        have h0 := hst2.1
        unfold OwnR
        have hl2 : (base :: (A ++ y :: x :: Q)).length = (base :: (A ++ x :: y :: Q)).length := by simp
        rw [hl2, ← e, List.map_set, List.map_set, ← hiN, ← hjN]
        rw [hlen] at h0 ⊢
        exact h0
      have hbY : Below w3.heap.size w4 ((w4.setCell ⟨gy, iN, none⟩ (enc32 y)).setCell ⟨gy, jN, none⟩ (enc32 x)).drew := (((Below.refl _ _).setCell (p := ⟨gy, iN, none⟩) hgy1 _).setCell (p := ⟨gy, jN, none⟩) hgy1 _).drew
      have hb34 : Below w3.heap.size w3 w4 := ((Below.refl _ w3).alloc (Nat.le_refl _) _).trans hb2
      have hbr3 : Below wr.heap.size wr w3 := ((Below.refl _ wr).alloc (Nat.le_refl _) _).trans hb1
      have HS : Aside (Below w.heap.size w ((w4.setCell ⟨gy, iN, none⟩ (enc32 y)).setCell ⟨gy, jN, none⟩ (enc32 x)).drew ∧ SlN ((w4.setCell ⟨gy, iN, none⟩ (enc32 y)).setCell ⟨gy, jN, none⟩ (enc32 x)).drew v1 (base :: l) ∧ SlN ((w4.setCell ⟨gy, iN, none⟩ (enc32 y)).setCell ⟨gy, jN, none⟩ (enc32 x)).drew (.slice (some ⟨gy, 0, none⟩) M' cy) (base :: (A ++ y :: x :: Q))) :=
        ⟨((hW3.out.trans (hbr3.mono hW3.out.size)).trans (hb34.mono (Nat.le_trans hW3.out.size hbr3.size))).trans (hbY.mono (Nat.le_trans hW3.out.size hbr3.size)), ho1.sln.below (hb34.trans hbY), hfinY.sln⟩
      have en1 : ((k : Int) + 1).toNat = iN := by omega
      have en2 : ((k : Int) + 2).toNat = jN := by omega
      have pn1 : (0 : Int) ≤ (k : Int) + 1 := by omega
      have pn2 : (0 : Int) ≤ (k : Int) + 2 := by omega
      have rn1 : IntKind.i64.wrap ((k : Int) + 1) = (k : Int) + 1 := by rw [IntKind.wrap_i64]; omega
      have rn2 : IntKind.i64.wrap ((k : Int) + 2) = (k : Int) + 2 := by rw [IntKind.wrap_i64]; omega
      have bn1 : (k : Int) + 1 < (M' : Int) := by omega
      have bn2 : (k : Int) + 2 < (M' : Int) := by omega
      have hst := oneCell32.store Tryd.prog
      have hcl0 := oneCell32.cells
      simp only [Value.cells] at hcl0
      have hx32 : enc32 x = .int .i32 x := rfl
      clear ho1 ho2 hO hO2 hst1 hst2 hfinY hbY hb34 hbr3 hb1 hb2 eA hlen lx ly hjN hiN hMp hV0 hW3
      clear hx32
      go_wp2_with fail
      go_big_region_o
      clear c3a c3b c3c f3a f3b hst hcl0 en1 en2 pn1 pn2 rn1 rn2 bn1 bn2
      generalize ((w4.setCell ⟨gy, iN, none⟩ (enc32 y)).setCell ⟨gy, jN, none⟩ (enc32 x)).drew = w5 at HS ⊢
      obtain ⟨Xs, hXs⟩ : ∃ L, L = base :: l := ⟨_, rfl⟩
      obtain ⟨Ys, hYs⟩ : ∃ L, L = base :: (A ++ y :: x :: Q) := ⟨_, rfl⟩
      rw [← hXs, ← hYs] at HS
      have hlen : Xs.length = N + 1 ∧ Ys.length = N + 1 := by
        have h1 := HL.out.1
        have h2 := HN.out
        rw [h1] at h2
        rw [hXs, hYs, h1]
        simp at h2 ⊢
        omega
      have hXr : ∀ t ∈ Xs, -2147483648 ≤ t ∧ t ≤ 2147483647 := fun t ht => by
        rw [hXs] at ht
        rcases List.mem_cons.1 ht with rfl | ht
        · exact ⟨HB.out.1, HB.out.2.1⟩
        · exact HR.out t ht
      have hYr : ∀ t ∈ Ys, -2147483648 ≤ t ∧ t ≤ 2147483647 := fun t ht => by
        rw [hYs] at ht
        rcases List.mem_cons.1 ht with rfl | ht
        · exact ⟨HB.out.1, HB.out.2.1⟩
        · refine HR.out t ?_
          rw [HL.out.1]
          simp only [List.mem_append, List.mem_cons] at ht ⊢
          rcases ht with h | h | h | h
          · exact .inl h
          · exact .inr (.inr (.inl h))
          · exact .inr (.inl h)
          · exact .inr (.inr (.inr h))
      have hMx := HM.out x (by rw [HL.out.1]; simp)
      have hMy := HM.out y (by rw [HL.out.1]; simp)
      have hne : kOf x ≠ kOf y → nfdV Xs = nfdV Ys := fun hk => by
        have := nfd_swap (base :: A) Q x y hMx.1 hMy.1 hMx.2 hMy.2 hk
        rw [hXs, hYs, HL.out.1]
        exact this
      have heq : kOf x = kOf y → x ≠ y → ¬ nfdV Xs = nfdV Ys := fun hk hxy e => by
        rw [hXs, hYs, HL.out.1] at e
        exact hxy (nfd_moves base x y A Q (fun m hm => HM.out m (by rw [HL.out.1]; exact hm)) hk e)
      have c1 : Calls Tryd.prog 7 #[] w5.drew fun e w' => e = .returned (.bool true) ∧ Aside (Below w.heap.size w w' ∧ SlN w' v1 Xs ∧ SlN w' (.slice (some ⟨gy, 0, none⟩) M' cy) Ys) ∧ w'.cell? ⟨b, off + k, none⟩ = some (.int .i32 x) ∧ w'.cell? ⟨b, off + iN, none⟩ = some (.int .i32 y) := by
        obtain ⟨s1, s2, s3⟩ := HS.out
        have s1' : Below w.heap.size w w5.drew := s1.drew
        have bd : Below w5.heap.size w5 w5.drew := (Below.refl _ _).drew
        refine (HAn.out w5.drew s1').mono ?_
        rintro e w' ⟨rfl, k1⟩
        have s4 := s1'.trans (k1.mono s1'.size)
        exact ⟨rfl, ⟨s4, s2.below (bd.trans k1), s3.below (bd.trans k1)⟩, HC.out _ s4 k x HX.out.1, by rw [HiN.out]; exact HC.out _ s4 (k + 1) y HX.out.2⟩
      have c2 : ∀ w6, (Below w.heap.size w w6 ∧ SlN w6 v1 Xs ∧ SlN w6 (.slice (some ⟨gy, 0, none⟩) M' cy) Ys) → Calls Tryd.prog 12 #[v1] w6 fun e w' => ∃ n, e = .returned n ∧ Aside (Below w.heap.size w w' ∧ SlN w' n (nfdV Xs) ∧ SlN w' (.slice (some ⟨gy, 0, none⟩) M' cy) Ys) ∧ w'.cell? ⟨b, off + k, none⟩ = some (.int .i32 x) ∧ w'.cell? ⟨b, off + iN, none⟩ = some (.int .i32 y) := fun w6 ⟨s1, s2, s3⟩ => by
        refine (HNf.out w6 v1 Xs s1 s2 (by omega) hXr).mono ?_
        rintro e w' ⟨n, rfl, k1, k2⟩
        have s4 := s1.trans (k2.mono s1.size)
        exact ⟨n, rfl, ⟨s4, k1, s3.below k2⟩, HC.out _ s4 k x HX.out.1, by rw [HiN.out]; exact HC.out _ s4 (k + 1) y HX.out.2⟩
      have c3 : ∀ w7 n1, (Below w.heap.size w w7 ∧ SlN w7 n1 (nfdV Xs) ∧ SlN w7 (.slice (some ⟨gy, 0, none⟩) M' cy) Ys) → Calls Tryd.prog 12 #[.slice (some ⟨gy, 0, none⟩) M' cy] w7 fun e w' => ∃ n, e = .returned n ∧ Aside (Below w.heap.size w w' ∧ SlN w' n1 (nfdV Xs) ∧ SlN w' n (nfdV Ys)) ∧ w'.cell? ⟨b, off + k, none⟩ = some (.int .i32 x) ∧ w'.cell? ⟨b, off + iN, none⟩ = some (.int .i32 y) := fun w7 n1 ⟨s1, s2, s3⟩ => by
        refine (HNf.out w7 _ Ys s1 s3 (by omega) hYr).mono ?_
        rintro e w' ⟨n, rfl, k1, k2⟩
        have s4 := s1.trans (k2.mono s1.size)
        exact ⟨n, rfl, ⟨s4, s2.below k2, k1⟩, HC.out _ s4 k x HX.out.1, by rw [HiN.out]; exact HC.out _ s4 (k + 1) y HX.out.2⟩
      have c4 : ∀ w8 n1 n2, (Below w.heap.size w w8 ∧ SlN w8 n1 (nfdV Xs) ∧ SlN w8 n2 (nfdV Ys)) → Calls Tryd.prog 9 #[n1, n2] w8 fun e w' => e = .returned (.bool (decide (nfdV Xs = nfdV Ys))) ∧ Below w.heap.size w w' ∧ w'.cell? ⟨b, off + k, none⟩ = some (.int .i32 x) ∧ w'.cell? ⟨b, off + iN, none⟩ = some (.int .i32 y) := fun w8 n1 n2 ⟨s1, s2, s3⟩ => by
        refine (runesN n1 n2 _ _ w8 s2 s3 (by have := (nfd_len Xs).2; omega) (by have := (nfd_len Ys).2; omega)).mono ?_
        rintro e w' ⟨rfl, k2⟩
        have s4 := s1.trans (k2.mono s1.size)
        exact ⟨rfl, s4, HC.out _ s4 k x HX.out.1, by rw [HiN.out]; exact HC.out _ s4 (k + 1) y HX.out.2⟩
      have l1 : w5.cell? ⟨b, off + k, none⟩ = some (.int .i32 x) := HC.out _ HS.out.1 k x HX.out.1
      have l2 : w5.cell? ⟨b, off + iN, none⟩ = some (.int .i32 y) := by rw [HiN.out]; exact HC.out _ HS.out.1 (k + 1) y HX.out.2
      have H1 := Lib.hid c1
      have H2 := Lib.hid c2
      have H3 := Lib.hid c3
      have H4 := Lib.hid c4
      have bi : (k : Int) < (N : Int) := by omega
      have en : ((k : Int) + 1).toNat = iN := by have := HiN.out; omega
      have pn : (0 : Int) ≤ (k : Int) + 1 := by omega
      have rn : IntKind.i64.wrap ((k : Int) + 1) = (k : Int) + 1 := by rw [IntKind.wrap_i64]; omega
      clear c1 c2 c3 c4 HS hXs hYs hlen hXr hYr hMx hMy HM HAn HNf HC
      by_cases hk : kOf x = kOf y
      · have hkb : (kOf x == kOf y) = true := by simpa using hk
        have hkn : (kOf x != kOf y) = false := by simpa using hk
        by_cases hxy : x = y
        · subst hxy
          have hxb : (x == x) = true := by simp
          clear hne heq
          go_wp2_with fail
          refine wp_region_any (by kernel_rfl) ?_
          try (change wpAny _ _ _ _ _ _ _ (World.drew _))
          refine wpAny_ready (rs := [0]) (by kernel_rfl) (by simp) ?_
          refine AllReady.cons rfl (fun K hK => ?_) AllReady.nil
          go_simp
          (go_at_call 7; refine H1.out.mono ?_; rintro e w6 ⟨rfl, hS1, o1, o2⟩)
          try go_wp2_with fail
          first | (refine hK _ _ ?_; clear hK K) | skip
          try simp only [Act.put, List.setIfInBounds_toArray, List.set_cons_zero, List.set_cons_succ]
          refine wpAny_take (i := 1) (v := ?v1_eq) rfl (by kernel_rfl) (by kernel_rfl) (by kernel_rfl) (fun _ _ _ h => h) (Or.inl ⟨by kernel_rfl, ?h1_eq⟩) ?r1_eq
          case h1_eq => (intro w; go_simp; try (with_reducible rfl))
          try simp only [Act.put, List.setIfInBounds_toArray, List.set_cons_zero, List.set_cons_succ]
          refine wpAny_take (i := 2) (v := ?v2_eq) rfl (by kernel_rfl) (by kernel_rfl) (by kernel_rfl) (fun _ _ _ h => h) (Or.inl ⟨by kernel_rfl, ?h2_eq⟩) ?r2_eq
          case h2_eq => (intro w; go_simp; try (with_reducible rfl))
          try simp only [Act.put, List.setIfInBounds_toArray, List.set_cons_zero, List.set_cons_succ]
          refine wpAny_take (i := 3) (v := ?v3_eq) rfl (by kernel_rfl) (by kernel_rfl) (by kernel_rfl) (fun _ _ _ h => h) (Or.inl ⟨by kernel_rfl, ?h3_eq⟩) ?r3_eq
          case h3_eq => (intro w; go_simp; try (with_reducible rfl))
          try simp only [Act.put, List.setIfInBounds_toArray, List.set_cons_zero, List.set_cons_succ]
          refine wpAny_take (i := 4) (v := ?v4_eq) rfl (by kernel_rfl) (by kernel_rfl) (by kernel_rfl) (fun _ _ _ h => h) (Or.inl ⟨by kernel_rfl, ?h4_eq⟩) ?r4_eq
          case h4_eq => (intro w; go_simp; try (with_reducible rfl))
          try simp only [Act.put, List.setIfInBounds_toArray, List.set_cons_zero, List.set_cons_succ]
          refine wpAny_take (i := 5) (v := ?v5_eq) rfl (by kernel_rfl) (by kernel_rfl) (by kernel_rfl) (fun _ _ _ h => h) (Or.inl ⟨by kernel_rfl, ?h5_eq⟩) ?r5_eq
          case h5_eq => (intro w; go_simp; try (with_reducible rfl))
          try simp only [Act.put, List.setIfInBounds_toArray, List.set_cons_zero, List.set_cons_succ]
          refine wpAny_take (i := 6) (v := undef) rfl (by kernel_rfl) (by kernel_rfl) (by kernel_rfl) (fun _ _ _ h => h) (Or.inr ⟨by kernel_rfl, rfl⟩) ?_
          try simp only [Act.put, List.setIfInBounds_toArray, List.set_cons_zero, List.set_cons_succ]
          refine wpAny_take (i := 7) (v := undef) rfl (by kernel_rfl) (by kernel_rfl) (by kernel_rfl) (fun _ _ _ h => h) (Or.inr ⟨by kernel_rfl, rfl⟩) ?_
          try simp only [Act.put, List.setIfInBounds_toArray, List.set_cons_zero, List.set_cons_succ]
          refine wpAny_take (i := 8) (v := undef) rfl (by kernel_rfl) (by kernel_rfl) (by kernel_rfl) (fun _ _ _ h => h) (Or.inr ⟨by kernel_rfl, rfl⟩) ?_
          try simp only [Act.put, List.setIfInBounds_toArray, List.set_cons_zero, List.set_cons_succ]
          refine wpAny_take (i := 9) (v := undef) rfl (by kernel_rfl) (by kernel_rfl) (by kernel_rfl) (fun _ _ _ h => h) (Or.inr ⟨by kernel_rfl, rfl⟩) ?_
          try simp only [Act.put, List.setIfInBounds_toArray, List.set_cons_zero, List.set_cons_succ]
          refine wpAny_take (i := 10) (v := undef) rfl (by kernel_rfl) (by kernel_rfl) (by kernel_rfl) (fun _ _ _ h => h) (Or.inr ⟨by kernel_rfl, rfl⟩) ?_
          try simp only [Act.put, List.setIfInBounds_toArray, List.set_cons_zero, List.set_cons_succ]
          refine wpAny_take (i := 11) (v := ?v11_eq) rfl (by kernel_rfl) (by kernel_rfl) (by kernel_rfl) (fun _ _ _ h => h) (Or.inl ⟨by kernel_rfl, ?h11_eq⟩) ?r11_eq
          case h11_eq => (intro w; go_simp; try (with_reducible rfl))
          try simp only [Act.put, List.setIfInBounds_toArray, List.set_cons_zero, List.set_cons_succ]
          refine wpAny_take (i := 12) (v := ?v12_eq) rfl (by kernel_rfl) (by kernel_rfl) (by kernel_rfl) (fun _ _ _ h => h) (Or.inl ⟨by kernel_rfl, ?h12_eq⟩) ?r12_eq
          case h12_eq => (intro w; go_simp; try (with_reducible rfl))
          try simp only [Act.put, List.setIfInBounds_toArray, List.set_cons_zero, List.set_cons_succ]
          refine wpAny_take (i := 13) (v := ?v13_eq) rfl (by kernel_rfl) (by kernel_rfl) (by kernel_rfl) (fun _ _ _ h => h) (Or.inl ⟨by kernel_rfl, ?h13_eq⟩) ?r13_eq
          case h13_eq => (intro w; go_simp; try (with_reducible rfl))
          try simp only [Act.put, List.setIfInBounds_toArray, List.set_cons_zero, List.set_cons_succ]
          refine wpAny_take (i := 14) (v := ?v14_eq) rfl (by kernel_rfl) (by kernel_rfl) (by kernel_rfl) (fun _ _ _ h => h) (Or.inl ⟨by kernel_rfl, ?h14_eq⟩) ?r14_eq
          case h14_eq => (intro w; go_simp; try (with_reducible rfl))
          try simp only [Act.put, List.setIfInBounds_toArray, List.set_cons_zero, List.set_cons_succ]
          refine wpAny_take (i := 15) (v := ?v15_eq) rfl (by kernel_rfl) (by kernel_rfl) (by kernel_rfl) (fun _ _ _ h => h) (Or.inl ⟨by kernel_rfl, ?h15_eq⟩) ?r15_eq
          case h15_eq => (intro w; go_simp; try (with_reducible rfl))
          try simp only [Act.put, List.setIfInBounds_toArray, List.set_cons_zero, List.set_cons_succ]
          refine wpAny_take (i := 16) (v := ?v16_eq) rfl (by kernel_rfl) (by kernel_rfl) (by kernel_rfl) (fun _ _ _ h => h) (Or.inl ⟨by kernel_rfl, ?h16_eq⟩) ?r16_eq
          case h16_eq => (intro w; go_simp; try (with_reducible rfl))
          try simp only [Act.put, List.setIfInBounds_toArray, List.set_cons_zero, List.set_cons_succ]
          refine wpAny_take (i := 17) (v := ?v17_eq) rfl (by kernel_rfl) (by kernel_rfl) (by kernel_rfl) (fun _ _ _ h => h) (Or.inl ⟨by kernel_rfl, ?h17_eq⟩) ?r17_eq
          case h17_eq => (intro w; go_simp; try (with_reducible rfl))
          try simp only [Act.put, List.setIfInBounds_toArray, List.set_cons_zero, List.set_cons_succ]
          refine wpAny_take (i := 18) (v := ?v18_eq) rfl (by kernel_rfl) (by kernel_rfl) (by kernel_rfl) (fun _ _ _ h => h) (Or.inl ⟨by kernel_rfl, ?h18_eq⟩) ?r18_eq
          case h18_eq => (intro w; go_simp; try (with_reducible rfl))
          try simp only [Act.put, List.setIfInBounds_toArray, List.set_cons_zero, List.set_cons_succ]
          refine wpAny_take (i := 19) (v := ?v19_eq) rfl (by kernel_rfl) (by kernel_rfl) (by kernel_rfl) (fun _ _ _ h => h) (Or.inl ⟨by kernel_rfl, ?h19_eq⟩) ?r19_eq
          case h19_eq => (intro w; go_simp; try (with_reducible rfl))
          try simp only [Act.put, List.setIfInBounds_toArray, List.set_cons_zero, List.set_cons_succ]
          refine wpAny_take (i := 20) (v := ?v20_eq) rfl (by kernel_rfl) (by kernel_rfl) (by kernel_rfl) (fun _ _ _ h => h) (Or.inl ⟨by kernel_rfl, ?h20_eq⟩) ?r20_eq
          case h20_eq => (intro w; go_simp; try (with_reducible rfl))
          try simp only [Act.put, List.setIfInBounds_toArray, List.set_cons_zero, List.set_cons_succ]
          refine wpAny_take (i := 22) (v := ?v22_eq) rfl (by kernel_rfl) (by kernel_rfl) (by kernel_rfl) (fun _ _ _ h => h) (Or.inl ⟨by kernel_rfl, ?h22_eq⟩) ?r22_eq
          case h22_eq => (intro w; go_simp; try (with_reducible rfl))
          try simp only [Act.put, List.setIfInBounds_toArray, List.set_cons_zero, List.set_cons_succ]
          refine wpAny_take (i := 23) (v := ?v23_eq) rfl (by kernel_rfl) (by kernel_rfl) (by kernel_rfl) (fun _ _ _ h => h) (Or.inl ⟨by kernel_rfl, ?h23_eq⟩) ?r23_eq
          case h23_eq => (intro w; go_simp; try (with_reducible rfl))
          try simp only [Act.put, List.setIfInBounds_toArray, List.set_cons_zero, List.set_cons_succ]
          refine wpAny_take (i := 24) (v := ?v24_eq) rfl (by kernel_rfl) (by kernel_rfl) (by kernel_rfl) (fun _ _ _ h => h) (Or.inl ⟨by kernel_rfl, ?h24_eq⟩) ?r24_eq
          case h24_eq => (intro w; go_simp; try (with_reducible rfl))
          try simp only [Act.put, List.setIfInBounds_toArray, List.set_cons_zero, List.set_cons_succ]
          refine wpAny_take (i := 25) (v := ?v25_eq) rfl (by kernel_rfl) (by kernel_rfl) (by kernel_rfl) (fun _ _ _ h => h) (Or.inl ⟨by kernel_rfl, ?h25_eq⟩) ?r25_eq
          case h25_eq => (intro w; go_simp; try (with_reducible rfl))
          try simp only [Act.put, List.setIfInBounds_toArray, List.set_cons_zero, List.set_cons_succ]
          refine wpAny_ready (rs := [21, 26]) (by kernel_rfl) (by simp) ?_
          refine AllReady.cons rfl (fun K hK => ?a21_eq) ?b21_eq
          case a21_eq =>
            go_simp
            refine hK _ _ ?_
            clear hK K
            try simp only [Act.put, List.setIfInBounds_toArray, List.set_cons_zero, List.set_cons_succ]
            refine wpAny_ready (rs := [26]) (by kernel_rfl) (by simp) ?_
            refine AllReady.cons rfl (fun K hK => ?_) AllReady.nil
            go_simp
            refine hK _ _ ?_
            clear hK K
            try simp only [Act.put, List.setIfInBounds_toArray, List.set_cons_zero, List.set_cons_succ]
            refine wpAny_take (i := 27) (v := ?v27a_eq) rfl (by kernel_rfl) (by kernel_rfl) (by kernel_rfl) (fun _ _ _ h => h) (Or.inl ⟨by kernel_rfl, ?h27a_eq⟩) ?r27a_eq
            case h27a_eq => (intro w; go_simp; try (with_reducible rfl))
            try simp only [Act.put, List.setIfInBounds_toArray, List.set_cons_zero, List.set_cons_succ]
            refine wpAny_take (i := 28) (v := ?v28a_eq) rfl (by kernel_rfl) (by kernel_rfl) (by kernel_rfl) (fun _ _ _ h => h) (Or.inl ⟨by kernel_rfl, ?h28a_eq⟩) ?r28a_eq
            case h28a_eq => (intro w; go_simp; try (with_reducible rfl))
            try simp only [Act.put, List.setIfInBounds_toArray, List.set_cons_zero, List.set_cons_succ]
            refine wpAny_take (i := 29) (v := ?v29a_eq) rfl (by kernel_rfl) (by kernel_rfl) (by kernel_rfl) (fun _ _ _ h => h) (Or.inl ⟨by kernel_rfl, ?h29a_eq⟩) ?r29a_eq
            case h29a_eq => (intro w; go_simp; try (with_reducible rfl))
            try simp only [Act.put, List.setIfInBounds_toArray, List.set_cons_zero, List.set_cons_succ]
            refine wpAny_take (i := 30) (v := undef) rfl (by kernel_rfl) (by kernel_rfl) (by kernel_rfl) (fun _ _ _ h => h) (Or.inr ⟨by kernel_rfl, rfl⟩) ?_
            try simp only [Act.put, List.setIfInBounds_toArray, List.set_cons_zero, List.set_cons_succ]
            refine wpAny_take (i := 31) (v := undef) rfl (by kernel_rfl) (by kernel_rfl) (by kernel_rfl) (fun _ _ _ h => h) (Or.inr ⟨by kernel_rfl, rfl⟩) ?_
            try simp only [Act.put, List.setIfInBounds_toArray, List.set_cons_zero, List.set_cons_succ]
            refine wpAny_take (i := 32) (v := undef) rfl (by kernel_rfl) (by kernel_rfl) (by kernel_rfl) (fun _ _ _ h => h) (Or.inr ⟨by kernel_rfl, rfl⟩) ?_
            try simp only [Act.put, List.setIfInBounds_toArray, List.set_cons_zero, List.set_cons_succ]
            refine wpAny_take (i := 33) (v := undef) rfl (by kernel_rfl) (by kernel_rfl) (by kernel_rfl) (fun _ _ _ h => h) (Or.inr ⟨by kernel_rfl, rfl⟩) ?_
            try simp only [Act.put, List.setIfInBounds_toArray, List.set_cons_zero, List.set_cons_succ]
            refine wpAny_take (i := 34) (v := undef) rfl (by kernel_rfl) (by kernel_rfl) (by kernel_rfl) (fun _ _ _ h => h) (Or.inr ⟨by kernel_rfl, rfl⟩) ?_
            try simp only [Act.put, List.setIfInBounds_toArray, List.set_cons_zero, List.set_cons_succ]
            refine wpAny_take (i := 35) (v := undef) rfl (by kernel_rfl) (by kernel_rfl) (by kernel_rfl) (fun _ _ _ h => h) (Or.inr ⟨by kernel_rfl, rfl⟩) ?_
            try simp only [Act.put, List.setIfInBounds_toArray, List.set_cons_zero, List.set_cons_succ]
            refine wpAny_take (i := 36) (v := ?v36a_eq) rfl (by kernel_rfl) (by kernel_rfl) (by kernel_rfl) (fun _ _ _ h => h) (Or.inl ⟨by kernel_rfl, ?h36a_eq⟩) ?r36a_eq
            case h36a_eq => (intro w; go_simp; try (with_reducible rfl))
            try simp only [Act.put, List.setIfInBounds_toArray, List.set_cons_zero, List.set_cons_succ]
            refine wpAny_take (i := 37) (v := ?v37a_eq) rfl (by kernel_rfl) (by kernel_rfl) (by kernel_rfl) (fun _ _ _ h => h) (Or.inl ⟨by kernel_rfl, ?h37a_eq⟩) ?r37a_eq
            case h37a_eq => (intro w; go_simp; try (with_reducible rfl))
            try simp only [Act.put, List.setIfInBounds_toArray, List.set_cons_zero, List.set_cons_succ]
            refine wpAny_take (i := 38) (v := ?v38a_eq) rfl (by kernel_rfl) (by kernel_rfl) (by kernel_rfl) (fun _ _ _ h => h) (Or.inl ⟨by kernel_rfl, ?h38a_eq⟩) ?r38a_eq
            case h38a_eq => (intro w; go_simp; try (with_reducible rfl))
            try simp only [Act.put, List.setIfInBounds_toArray, List.set_cons_zero, List.set_cons_succ]
            refine wpAny_done (by kernel_rfl) ?_ _
            try simp only [Act.put, List.getElem_toArray, List.getElem_cons_zero, List.getElem_cons_succ, List.setIfInBounds_toArray, List.set_cons_zero, List.set_cons_succ]
            go_wp2
            go_ret
            exact ⟨rfl, hS1.out.1⟩
          case b21_eq =>
            refine AllReady.cons rfl (fun K hK => ?_) AllReady.nil
            go_simp
            refine hK _ _ ?_
            clear hK K
            try simp only [Act.put, List.setIfInBounds_toArray, List.set_cons_zero, List.set_cons_succ]
            refine wpAny_ready (rs := [21]) (by kernel_rfl) (by simp) ?_
            refine AllReady.cons rfl (fun K hK => ?_) AllReady.nil
            go_simp
            refine hK _ _ ?_
            clear hK K
            try simp only [Act.put, List.setIfInBounds_toArray, List.set_cons_zero, List.set_cons_succ]
            refine wpAny_take (i := 27) (v := ?v27b_eq) rfl (by kernel_rfl) (by kernel_rfl) (by kernel_rfl) (fun _ _ _ h => h) (Or.inl ⟨by kernel_rfl, ?h27b_eq⟩) ?r27b_eq
            case h27b_eq => (intro w; go_simp; try (with_reducible rfl))
            try simp only [Act.put, List.setIfInBounds_toArray, List.set_cons_zero, List.set_cons_succ]
            refine wpAny_take (i := 28) (v := ?v28b_eq) rfl (by kernel_rfl) (by kernel_rfl) (by kernel_rfl) (fun _ _ _ h => h) (Or.inl ⟨by kernel_rfl, ?h28b_eq⟩) ?r28b_eq
            case h28b_eq => (intro w; go_simp; try (with_reducible rfl))
            try simp only [Act.put, List.setIfInBounds_toArray, List.set_cons_zero, List.set_cons_succ]
            refine wpAny_take (i := 29) (v := ?v29b_eq) rfl (by kernel_rfl) (by kernel_rfl) (by kernel_rfl) (fun _ _ _ h => h) (Or.inl ⟨by kernel_rfl, ?h29b_eq⟩) ?r29b_eq
            case h29b_eq => (intro w; go_simp; try (with_reducible rfl))
            try simp only [Act.put, List.setIfInBounds_toArray, List.set_cons_zero, List.set_cons_succ]
            refine wpAny_take (i := 30) (v := undef) rfl (by kernel_rfl) (by kernel_rfl) (by kernel_rfl) (fun _ _ _ h => h) (Or.inr ⟨by kernel_rfl, rfl⟩) ?_
            try simp only [Act.put, List.setIfInBounds_toArray, List.set_cons_zero, List.set_cons_succ]
            refine wpAny_take (i := 31) (v := undef) rfl (by kernel_rfl) (by kernel_rfl) (by kernel_rfl) (fun _ _ _ h => h) (Or.inr ⟨by kernel_rfl, rfl⟩) ?_
            try simp only [Act.put, List.setIfInBounds_toArray, List.set_cons_zero, List.set_cons_succ]
            refine wpAny_take (i := 32) (v := undef) rfl (by kernel_rfl) (by kernel_rfl) (by kernel_rfl) (fun _ _ _ h => h) (Or.inr ⟨by kernel_rfl, rfl⟩) ?_
            try simp only [Act.put, List.setIfInBounds_toArray, List.set_cons_zero, List.set_cons_succ]
            refine wpAny_take (i := 33) (v := undef) rfl (by kernel_rfl) (by kernel_rfl) (by kernel_rfl) (fun _ _ _ h => h) (Or.inr ⟨by kernel_rfl, rfl⟩) ?_
            try simp only [Act.put, List.setIfInBounds_toArray, List.set_cons_zero, List.set_cons_succ]
            refine wpAny_take (i := 34) (v := undef) rfl (by kernel_rfl) (by kernel_rfl) (by kernel_rfl) (fun _ _ _ h => h) (Or.inr ⟨by kernel_rfl, rfl⟩) ?_
            try simp only [Act.put, List.setIfInBounds_toArray, List.set_cons_zero, List.set_cons_succ]
            refine wpAny_take (i := 35) (v := undef) rfl (by kernel_rfl) (by kernel_rfl) (by kernel_rfl) (fun _ _ _ h => h) (Or.inr ⟨by kernel_rfl, rfl⟩) ?_
            try simp only [Act.put, List.setIfInBounds_toArray, List.set_cons_zero, List.set_cons_succ]
            refine wpAny_take (i := 36) (v := ?v36b_eq) rfl (by kernel_rfl) (by kernel_rfl) (by kernel_rfl) (fun _ _ _ h => h) (Or.inl ⟨by kernel_rfl, ?h36b_eq⟩) ?r36b_eq
            case h36b_eq => (intro w; go_simp; try (with_reducible rfl))
            try simp only [Act.put, List.setIfInBounds_toArray, List.set_cons_zero, List.set_cons_succ]
            refine wpAny_take (i := 37) (v := ?v37b_eq) rfl (by kernel_rfl) (by kernel_rfl) (by kernel_rfl) (fun _ _ _ h => h) (Or.inl ⟨by kernel_rfl, ?h37b_eq⟩) ?r37b_eq
            case h37b_eq => (intro w; go_simp; try (with_reducible rfl))
            try simp only [Act.put, List.setIfInBounds_toArray, List.set_cons_zero, List.set_cons_succ]
            refine wpAny_take (i := 38) (v := ?v38b_eq) rfl (by kernel_rfl) (by kernel_rfl) (by kernel_rfl) (fun _ _ _ h => h) (Or.inl ⟨by kernel_rfl, ?h38b_eq⟩) ?r38b_eq
            case h38b_eq => (intro w; go_simp; try (with_reducible rfl))
            try simp only [Act.put, List.setIfInBounds_toArray, List.set_cons_zero, List.set_cons_succ]
            refine wpAny_done (by kernel_rfl) ?_ _
            try simp only [Act.put, List.getElem_toArray, List.getElem_cons_zero, List.getElem_cons_succ, List.setIfInBounds_toArray, List.set_cons_zero, List.set_cons_succ]
            go_wp2
            go_ret
            exact ⟨rfl, hS1.out.1⟩
        · have hxb : (x == y) = false := by simpa using hxy
          have hq := heq hk hxy
          rw [decide_eq_false hq] at H4
          clear hne heq hq
          go_wp2_with fail
          refine wp_region_any (by kernel_rfl) ?_
          try (change wpAny _ _ _ _ _ _ _ (World.drew _))
          refine wpAny_ready (rs := [0]) (by kernel_rfl) (by simp) ?_
          refine AllReady.cons rfl (fun K hK => ?_) AllReady.nil
          go_simp
          (go_at_call 7; refine H1.out.mono ?_; rintro e w6 ⟨rfl, hS1, o1, o2⟩)
          try go_wp2_with fail
          first | (refine hK _ _ ?_; clear hK K) | skip
          try simp only [Act.put, List.setIfInBounds_toArray, List.set_cons_zero, List.set_cons_succ]
          refine wpAny_take (i := 1) (v := ?v1_en) rfl (by kernel_rfl) (by kernel_rfl) (by kernel_rfl) (fun _ _ _ h => h) (Or.inl ⟨by kernel_rfl, ?h1_en⟩) ?r1_en
          case h1_en => (intro w; go_simp; try (with_reducible rfl))
          try simp only [Act.put, List.setIfInBounds_toArray, List.set_cons_zero, List.set_cons_succ]
          refine wpAny_take (i := 2) (v := ?v2_en) rfl (by kernel_rfl) (by kernel_rfl) (by kernel_rfl) (fun _ _ _ h => h) (Or.inl ⟨by kernel_rfl, ?h2_en⟩) ?r2_en
          case h2_en => (intro w; go_simp; try (with_reducible rfl))
          try simp only [Act.put, List.setIfInBounds_toArray, List.set_cons_zero, List.set_cons_succ]
          refine wpAny_take (i := 3) (v := ?v3_en) rfl (by kernel_rfl) (by kernel_rfl) (by kernel_rfl) (fun _ _ _ h => h) (Or.inl ⟨by kernel_rfl, ?h3_en⟩) ?r3_en
          case h3_en => (intro w; go_simp; try (with_reducible rfl))
          try simp only [Act.put, List.setIfInBounds_toArray, List.set_cons_zero, List.set_cons_succ]
          refine wpAny_take (i := 4) (v := ?v4_en) rfl (by kernel_rfl) (by kernel_rfl) (by kernel_rfl) (fun _ _ _ h => h) (Or.inl ⟨by kernel_rfl, ?h4_en⟩) ?r4_en
          case h4_en => (intro w; go_simp; try (with_reducible rfl))
          try simp only [Act.put, List.setIfInBounds_toArray, List.set_cons_zero, List.set_cons_succ]
          refine wpAny_take (i := 5) (v := ?v5_en) rfl (by kernel_rfl) (by kernel_rfl) (by kernel_rfl) (fun _ _ _ h => h) (Or.inl ⟨by kernel_rfl, ?h5_en⟩) ?r5_en
          case h5_en => (intro w; go_simp; try (with_reducible rfl))
          try simp only [Act.put, List.setIfInBounds_toArray, List.set_cons_zero, List.set_cons_succ]
          refine wpAny_take (i := 6) (v := undef) rfl (by kernel_rfl) (by kernel_rfl) (by kernel_rfl) (fun _ _ _ h => h) (Or.inr ⟨by kernel_rfl, rfl⟩) ?_
          try simp only [Act.put, List.setIfInBounds_toArray, List.set_cons_zero, List.set_cons_succ]
          refine wpAny_take (i := 7) (v := undef) rfl (by kernel_rfl) (by kernel_rfl) (by kernel_rfl) (fun _ _ _ h => h) (Or.inr ⟨by kernel_rfl, rfl⟩) ?_
          try simp only [Act.put, List.setIfInBounds_toArray, List.set_cons_zero, List.set_cons_succ]
          refine wpAny_take (i := 8) (v := undef) rfl (by kernel_rfl) (by kernel_rfl) (by kernel_rfl) (fun _ _ _ h => h) (Or.inr ⟨by kernel_rfl, rfl⟩) ?_
          try simp only [Act.put, List.setIfInBounds_toArray, List.set_cons_zero, List.set_cons_succ]
          refine wpAny_take (i := 9) (v := undef) rfl (by kernel_rfl) (by kernel_rfl) (by kernel_rfl) (fun _ _ _ h => h) (Or.inr ⟨by kernel_rfl, rfl⟩) ?_
          try simp only [Act.put, List.setIfInBounds_toArray, List.set_cons_zero, List.set_cons_succ]
          refine wpAny_take (i := 10) (v := undef) rfl (by kernel_rfl) (by kernel_rfl) (by kernel_rfl) (fun _ _ _ h => h) (Or.inr ⟨by kernel_rfl, rfl⟩) ?_
          try simp only [Act.put, List.setIfInBounds_toArray, List.set_cons_zero, List.set_cons_succ]
          refine wpAny_take (i := 11) (v := ?v11_en) rfl (by kernel_rfl) (by kernel_rfl) (by kernel_rfl) (fun _ _ _ h => h) (Or.inl ⟨by kernel_rfl, ?h11_en⟩) ?r11_en
          case h11_en => (intro w; go_simp; try (with_reducible rfl))
          try simp only [Act.put, List.setIfInBounds_toArray, List.set_cons_zero, List.set_cons_succ]
          refine wpAny_take (i := 12) (v := ?v12_en) rfl (by kernel_rfl) (by kernel_rfl) (by kernel_rfl) (fun _ _ _ h => h) (Or.inl ⟨by kernel_rfl, ?h12_en⟩) ?r12_en
          case h12_en => (intro w; go_simp; try (with_reducible rfl))
          try simp only [Act.put, List.setIfInBounds_toArray, List.set_cons_zero, List.set_cons_succ]
          refine wpAny_take (i := 13) (v := ?v13_en) rfl (by kernel_rfl) (by kernel_rfl) (by kernel_rfl) (fun _ _ _ h => h) (Or.inl ⟨by kernel_rfl, ?h13_en⟩) ?r13_en
          case h13_en => (intro w; go_simp; try (with_reducible rfl))
          try simp only [Act.put, List.setIfInBounds_toArray, List.set_cons_zero, List.set_cons_succ]
          refine wpAny_take (i := 14) (v := ?v14_en) rfl (by kernel_rfl) (by kernel_rfl) (by kernel_rfl) (fun _ _ _ h => h) (Or.inl ⟨by kernel_rfl, ?h14_en⟩) ?r14_en
          case h14_en => (intro w; go_simp; try (with_reducible rfl))
          try simp only [Act.put, List.setIfInBounds_toArray, List.set_cons_zero, List.set_cons_succ]
          refine wpAny_take (i := 15) (v := ?v15_en) rfl (by kernel_rfl) (by kernel_rfl) (by kernel_rfl) (fun _ _ _ h => h) (Or.inl ⟨by kernel_rfl, ?h15_en⟩) ?r15_en
          case h15_en => (intro w; go_simp; try (with_reducible rfl))
          try simp only [Act.put, List.setIfInBounds_toArray, List.set_cons_zero, List.set_cons_succ]
          refine wpAny_take (i := 16) (v := ?v16_en) rfl (by kernel_rfl) (by kernel_rfl) (by kernel_rfl) (fun _ _ _ h => h) (Or.inl ⟨by kernel_rfl, ?h16_en⟩) ?r16_en
          case h16_en => (intro w; go_simp; try (with_reducible rfl))
          try simp only [Act.put, List.setIfInBounds_toArray, List.set_cons_zero, List.set_cons_succ]
          refine wpAny_take (i := 17) (v := ?v17_en) rfl (by kernel_rfl) (by kernel_rfl) (by kernel_rfl) (fun _ _ _ h => h) (Or.inl ⟨by kernel_rfl, ?h17_en⟩) ?r17_en
          case h17_en => (intro w; go_simp; try (with_reducible rfl))
          try simp only [Act.put, List.setIfInBounds_toArray, List.set_cons_zero, List.set_cons_succ]
          refine wpAny_take (i := 18) (v := ?v18_en) rfl (by kernel_rfl) (by kernel_rfl) (by kernel_rfl) (fun _ _ _ h => h) (Or.inl ⟨by kernel_rfl, ?h18_en⟩) ?r18_en
          case h18_en => (intro w; go_simp; try (with_reducible rfl))
          try simp only [Act.put, List.setIfInBounds_toArray, List.set_cons_zero, List.set_cons_succ]
          refine wpAny_take (i := 19) (v := ?v19_en) rfl (by kernel_rfl) (by kernel_rfl) (by kernel_rfl) (fun _ _ _ h => h) (Or.inl ⟨by kernel_rfl, ?h19_en⟩) ?r19_en
          case h19_en => (intro w; go_simp; try (with_reducible rfl))
          try simp only [Act.put, List.setIfInBounds_toArray, List.set_cons_zero, List.set_cons_succ]
          refine wpAny_take (i := 20) (v := ?v20_en) rfl (by kernel_rfl) (by kernel_rfl) (by kernel_rfl) (fun _ _ _ h => h) (Or.inl ⟨by kernel_rfl, ?h20_en⟩) ?r20_en
          case h20_en => (intro w; go_simp; try (with_reducible rfl))
          try simp only [Act.put, List.setIfInBounds_toArray, List.set_cons_zero, List.set_cons_succ]
          refine wpAny_take (i := 22) (v := ?v22_en) rfl (by kernel_rfl) (by kernel_rfl) (by kernel_rfl) (fun _ _ _ h => h) (Or.inl ⟨by kernel_rfl, ?h22_en⟩) ?r22_en
          case h22_en => (intro w; go_simp; try (with_reducible rfl))
          try simp only [Act.put, List.setIfInBounds_toArray, List.set_cons_zero, List.set_cons_succ]
          refine wpAny_take (i := 23) (v := ?v23_en) rfl (by kernel_rfl) (by kernel_rfl) (by kernel_rfl) (fun _ _ _ h => h) (Or.inl ⟨by kernel_rfl, ?h23_en⟩) ?r23_en
          case h23_en => (intro w; go_simp; try (with_reducible rfl))
          try simp only [Act.put, List.setIfInBounds_toArray, List.set_cons_zero, List.set_cons_succ]
          refine wpAny_take (i := 24) (v := ?v24_en) rfl (by kernel_rfl) (by kernel_rfl) (by kernel_rfl) (fun _ _ _ h => h) (Or.inl ⟨by kernel_rfl, ?h24_en⟩) ?r24_en
          case h24_en => (intro w; go_simp; try (with_reducible rfl))
          try simp only [Act.put, List.setIfInBounds_toArray, List.set_cons_zero, List.set_cons_succ]
          refine wpAny_take (i := 25) (v := ?v25_en) rfl (by kernel_rfl) (by kernel_rfl) (by kernel_rfl) (fun _ _ _ h => h) (Or.inl ⟨by kernel_rfl, ?h25_en⟩) ?r25_en
          case h25_en => (intro w; go_simp; try (with_reducible rfl))
          try simp only [Act.put, List.setIfInBounds_toArray, List.set_cons_zero, List.set_cons_succ]
          refine wpAny_ready (rs := [21, 26]) (by kernel_rfl) (by simp) ?_
          refine AllReady.cons rfl (fun K hK => ?a21_en) ?b21_en
          case a21_en =>
            go_simp
            refine hK _ _ ?_
            clear hK K
            try simp only [Act.put, List.setIfInBounds_toArray, List.set_cons_zero, List.set_cons_succ]
            refine wpAny_ready (rs := [26]) (by kernel_rfl) (by simp) ?_
            refine AllReady.cons rfl (fun K hK => ?_) AllReady.nil
            go_simp
            refine hK _ _ ?_
            clear hK K
            try simp only [Act.put, List.setIfInBounds_toArray, List.set_cons_zero, List.set_cons_succ]
            refine wpAny_take (i := 27) (v := ?v27a_en) rfl (by kernel_rfl) (by kernel_rfl) (by kernel_rfl) (fun _ _ _ h => h) (Or.inl ⟨by kernel_rfl, ?h27a_en⟩) ?r27a_en
            case h27a_en => (intro w; go_simp; try (with_reducible rfl))
            try simp only [Act.put, List.setIfInBounds_toArray, List.set_cons_zero, List.set_cons_succ]
            refine wpAny_take (i := 28) (v := ?v28a_en) rfl (by kernel_rfl) (by kernel_rfl) (by kernel_rfl) (fun _ _ _ h => h) (Or.inl ⟨by kernel_rfl, ?h28a_en⟩) ?r28a_en
            case h28a_en => (intro w; go_simp; try (with_reducible rfl))
            try simp only [Act.put, List.setIfInBounds_toArray, List.set_cons_zero, List.set_cons_succ]
            refine wpAny_take (i := 29) (v := ?v29a_en) rfl (by kernel_rfl) (by kernel_rfl) (by kernel_rfl) (fun _ _ _ h => h) (Or.inl ⟨by kernel_rfl, ?h29a_en⟩) ?r29a_en
            case h29a_en => (intro w; go_simp; try (with_reducible rfl))
            try simp only [Act.put, List.setIfInBounds_toArray, List.set_cons_zero, List.set_cons_succ]
            refine wpAny_take (i := 30) (v := ?v30a_en) rfl (by kernel_rfl) (by kernel_rfl) (by kernel_rfl) (fun _ _ _ h => h) (Or.inl ⟨by kernel_rfl, ?h30a_en⟩) ?r30a_en
            case h30a_en => (intro w; go_simp; try (with_reducible rfl))
            try simp only [Act.put, List.setIfInBounds_toArray, List.set_cons_zero, List.set_cons_succ]
            refine wpAny_take (i := 32) (v := ?v32a_en) rfl (by kernel_rfl) (by kernel_rfl) (by kernel_rfl) (fun _ _ _ h => h) (Or.inl ⟨by kernel_rfl, ?h32a_en⟩) ?r32a_en
            case h32a_en => (intro w; go_simp; try (with_reducible rfl))
            try simp only [Act.put, List.setIfInBounds_toArray, List.set_cons_zero, List.set_cons_succ]
            refine wpAny_ready (rs := [31]) (by kernel_rfl) (by simp) ?_
            refine AllReady.cons rfl (fun K hK => ?_) AllReady.nil
            go_simp
            (go_at_call 12; refine (H2.out _ hS1.out).mono ?_; rintro e w7 ⟨n1, rfl, hS2, p1, p2⟩)
            try go_wp2_with fail
            first | (refine hK _ _ ?_; clear hK K) | skip
            try simp only [Act.put, List.setIfInBounds_toArray, List.set_cons_zero, List.set_cons_succ]
            refine wpAny_ready (rs := [33]) (by kernel_rfl) (by simp) ?_
            refine AllReady.cons rfl (fun K hK => ?_) AllReady.nil
            go_simp
            (go_at_call 12; refine (H3.out _ _ hS2.out).mono ?_; rintro e w8 ⟨n2, rfl, hS3, q1, q2⟩)
            try go_wp2_with fail
            first | (refine hK _ _ ?_; clear hK K) | skip
            try simp only [Act.put, List.setIfInBounds_toArray, List.set_cons_zero, List.set_cons_succ]
            refine wpAny_ready (rs := [34]) (by kernel_rfl) (by simp) ?_
            refine AllReady.cons rfl (fun K hK => ?_) AllReady.nil
            go_simp
            (go_at_call 9; refine (H4.out _ _ _ hS3.out).mono ?_; rintro e w9 ⟨rfl, hS4, r1, r2⟩)
            try go_wp2_with fail
            first | (refine hK _ _ ?_; clear hK K) | skip
            try simp only [Act.put, List.setIfInBounds_toArray, List.set_cons_zero, List.set_cons_succ]
            refine wpAny_take (i := 35) (v := ?v35a_en) rfl (by kernel_rfl) (by kernel_rfl) (by kernel_rfl) (fun _ _ _ h => h) (Or.inl ⟨by kernel_rfl, ?h35a_en⟩) ?r35a_en
            case h35a_en => (intro w; go_simp; try (with_reducible rfl))
            try simp only [Act.put, List.setIfInBounds_toArray, List.set_cons_zero, List.set_cons_succ]
            refine wpAny_take (i := 36) (v := ?v36a_en) rfl (by kernel_rfl) (by kernel_rfl) (by kernel_rfl) (fun _ _ _ h => h) (Or.inl ⟨by kernel_rfl, ?h36a_en⟩) ?r36a_en
            case h36a_en => (intro w; go_simp; try (with_reducible rfl))
            try simp only [Act.put, List.setIfInBounds_toArray, List.set_cons_zero, List.set_cons_succ]
            refine wpAny_take (i := 37) (v := ?v37a_en) rfl (by kernel_rfl) (by kernel_rfl) (by kernel_rfl) (fun _ _ _ h => h) (Or.inl ⟨by kernel_rfl, ?h37a_en⟩) ?r37a_en
            case h37a_en => (intro w; go_simp; try (with_reducible rfl))
            try simp only [Act.put, List.setIfInBounds_toArray, List.set_cons_zero, List.set_cons_succ]
            refine wpAny_take (i := 38) (v := ?v38a_en) rfl (by kernel_rfl) (by kernel_rfl) (by kernel_rfl) (fun _ _ _ h => h) (Or.inl ⟨by kernel_rfl, ?h38a_en⟩) ?r38a_en
            case h38a_en => (intro w; go_simp; try (with_reducible rfl))
            try simp only [Act.put, List.setIfInBounds_toArray, List.set_cons_zero, List.set_cons_succ]
            refine wpAny_done (by kernel_rfl) ?_ _
            try simp only [Act.put, List.getElem_toArray, List.getElem_cons_zero, List.getElem_cons_succ, List.setIfInBounds_toArray, List.set_cons_zero, List.set_cons_succ]
            go_wp2
            go_ret
            exact ⟨rfl, hS4⟩
          case b21_en =>
            refine AllReady.cons rfl (fun K hK => ?_) AllReady.nil
            go_simp
            refine hK _ _ ?_
            clear hK K
            try simp only [Act.put, List.setIfInBounds_toArray, List.set_cons_zero, List.set_cons_succ]
            refine wpAny_ready (rs := [21]) (by kernel_rfl) (by simp) ?_
            refine AllReady.cons rfl (fun K hK => ?_) AllReady.nil
            go_simp
            refine hK _ _ ?_
            clear hK K
            try simp only [Act.put, List.setIfInBounds_toArray, List.set_cons_zero, List.set_cons_succ]
            refine wpAny_take (i := 27) (v := ?v27b_en) rfl (by kernel_rfl) (by kernel_rfl) (by kernel_rfl) (fun _ _ _ h => h) (Or.inl ⟨by kernel_rfl, ?h27b_en⟩) ?r27b_en
            case h27b_en => (intro w; go_simp; try (with_reducible rfl))
            try simp only [Act.put, List.setIfInBounds_toArray, List.set_cons_zero, List.set_cons_succ]
            refine wpAny_take (i := 28) (v := ?v28b_en) rfl (by kernel_rfl) (by kernel_rfl) (by kernel_rfl) (fun _ _ _ h => h) (Or.inl ⟨by kernel_rfl, ?h28b_en⟩) ?r28b_en
            case h28b_en => (intro w; go_simp; try (with_reducible rfl))
            try simp only [Act.put, List.setIfInBounds_toArray, List.set_cons_zero, List.set_cons_succ]
            refine wpAny_take (i := 29) (v := ?v29b_en) rfl (by kernel_rfl) (by kernel_rfl) (by kernel_rfl) (fun _ _ _ h => h) (Or.inl ⟨by kernel_rfl, ?h29b_en⟩) ?r29b_en
            case h29b_en => (intro w; go_simp; try (with_reducible rfl))
            try simp only [Act.put, List.setIfInBounds_toArray, List.set_cons_zero, List.set_cons_succ]
            refine wpAny_take (i := 30) (v := ?v30b_en) rfl (by kernel_rfl) (by kernel_rfl) (by kernel_rfl) (fun _ _ _ h => h) (Or.inl ⟨by kernel_rfl, ?h30b_en⟩) ?r30b_en
            case h30b_en => (intro w; go_simp; try (with_reducible rfl))
            try simp only [Act.put, List.setIfInBounds_toArray, List.set_cons_zero, List.set_cons_succ]
            refine wpAny_take (i := 32) (v := ?v32b_en) rfl (by kernel_rfl) (by kernel_rfl) (by kernel_rfl) (fun _ _ _ h => h) (Or.inl ⟨by kernel_rfl, ?h32b_en⟩) ?r32b_en
            case h32b_en => (intro w; go_simp; try (with_reducible rfl))
            try simp only [Act.put, List.setIfInBounds_toArray, List.set_cons_zero, List.set_cons_succ]
            refine wpAny_ready (rs := [31]) (by kernel_rfl) (by simp) ?_
            refine AllReady.cons rfl (fun K hK => ?_) AllReady.nil
            go_simp
            (go_at_call 12; refine (H2.out _ hS1.out).mono ?_; rintro e w7 ⟨n1, rfl, hS2, p1, p2⟩)
            try go_wp2_with fail
            first | (refine hK _ _ ?_; clear hK K) | skip
            try simp only [Act.put, List.setIfInBounds_toArray, List.set_cons_zero, List.set_cons_succ]
            refine wpAny_ready (rs := [33]) (by kernel_rfl) (by simp) ?_
            refine AllReady.cons rfl (fun K hK => ?_) AllReady.nil
            go_simp
            (go_at_call 12; refine (H3.out _ _ hS2.out).mono ?_; rintro e w8 ⟨n2, rfl, hS3, q1, q2⟩)
            try go_wp2_with fail
            first | (refine hK _ _ ?_; clear hK K) | skip
            try simp only [Act.put, List.setIfInBounds_toArray, List.set_cons_zero, List.set_cons_succ]
            refine wpAny_ready (rs := [34]) (by kernel_rfl) (by simp) ?_
            refine AllReady.cons rfl (fun K hK => ?_) AllReady.nil
            go_simp
            (go_at_call 9; refine (H4.out _ _ _ hS3.out).mono ?_; rintro e w9 ⟨rfl, hS4, r1, r2⟩)
            try go_wp2_with fail
            first | (refine hK _ _ ?_; clear hK K) | skip
            try simp only [Act.put, List.setIfInBounds_toArray, List.set_cons_zero, List.set_cons_succ]
            refine wpAny_take (i := 35) (v := ?v35b_en) rfl (by kernel_rfl) (by kernel_rfl) (by kernel_rfl) (fun _ _ _ h => h) (Or.inl ⟨by kernel_rfl, ?h35b_en⟩) ?r35b_en
            case h35b_en => (intro w; go_simp; try (with_reducible rfl))
            try simp only [Act.put, List.setIfInBounds_toArray, List.set_cons_zero, List.set_cons_succ]
            refine wpAny_take (i := 36) (v := ?v36b_en) rfl (by kernel_rfl) (by kernel_rfl) (by kernel_rfl) (fun _ _ _ h => h) (Or.inl ⟨by kernel_rfl, ?h36b_en⟩) ?r36b_en
            case h36b_en => (intro w; go_simp; try (with_reducible rfl))
            try simp only [Act.put, List.setIfInBounds_toArray, List.set_cons_zero, List.set_cons_succ]
            refine wpAny_take (i := 37) (v := ?v37b_en) rfl (by kernel_rfl) (by kernel_rfl) (by kernel_rfl) (fun _ _ _ h => h) (Or.inl ⟨by kernel_rfl, ?h37b_en⟩) ?r37b_en
            case h37b_en => (intro w; go_simp; try (with_reducible rfl))
            try simp only [Act.put, List.setIfInBounds_toArray, List.set_cons_zero, List.set_cons_succ]
            refine wpAny_take (i := 38) (v := ?v38b_en) rfl (by kernel_rfl) (by kernel_rfl) (by kernel_rfl) (fun _ _ _ h => h) (Or.inl ⟨by kernel_rfl, ?h38b_en⟩) ?r38b_en
            case h38b_en => (intro w; go_simp; try (with_reducible rfl))
            try simp only [Act.put, List.setIfInBounds_toArray, List.set_cons_zero, List.set_cons_succ]
            refine wpAny_done (by kernel_rfl) ?_ _
            try simp only [Act.put, List.getElem_toArray, List.getElem_cons_zero, List.getElem_cons_succ, List.setIfInBounds_toArray, List.set_cons_zero, List.set_cons_succ]
            go_wp2
            go_ret
            exact ⟨rfl, hS4⟩
      · have hq := hne hk
        rw [decide_eq_true hq] at H4
        have hkb : (kOf x == kOf y) = false := by simpa using hk
        have hkn : (kOf x != kOf y) = true := by simpa using hk
        clear hne heq hq
        go_wp2_with fail
        refine wp_region_any (by kernel_rfl) ?_
        try (change wpAny _ _ _ _ _ _ _ (World.drew _))
        refine wpAny_ready (rs := [0]) (by kernel_rfl) (by simp) ?_
        refine AllReady.cons rfl (fun K hK => ?_) AllReady.nil
        go_simp
        (go_at_call 7; refine H1.out.mono ?_; rintro e w6 ⟨rfl, hS1, o1, o2⟩)
        try go_wp2_with fail
        first | (refine hK _ _ ?_; clear hK K) | skip
        try simp only [Act.put, List.setIfInBounds_toArray, List.set_cons_zero, List.set_cons_succ]
        refine wpAny_take (i := 1) (v := ?v1_ne) rfl (by kernel_rfl) (by kernel_rfl) (by kernel_rfl) (fun _ _ _ h => h) (Or.inl ⟨by kernel_rfl, ?h1_ne⟩) ?r1_ne
        case h1_ne => (intro w; go_simp; try (with_reducible rfl))
        try simp only [Act.put, List.setIfInBounds_toArray, List.set_cons_zero, List.set_cons_succ]
        refine wpAny_take (i := 2) (v := ?v2_ne) rfl (by kernel_rfl) (by kernel_rfl) (by kernel_rfl) (fun _ _ _ h => h) (Or.inl ⟨by kernel_rfl, ?h2_ne⟩) ?r2_ne
        case h2_ne => (intro w; go_simp; try (with_reducible rfl))
        try simp only [Act.put, List.setIfInBounds_toArray, List.set_cons_zero, List.set_cons_succ]
        refine wpAny_take (i := 3) (v := ?v3_ne) rfl (by kernel_rfl) (by kernel_rfl) (by kernel_rfl) (fun _ _ _ h => h) (Or.inl ⟨by kernel_rfl, ?h3_ne⟩) ?r3_ne
        case h3_ne => (intro w; go_simp; try (with_reducible rfl))
        try simp only [Act.put, List.setIfInBounds_toArray, List.set_cons_zero, List.set_cons_succ]
        refine wpAny_take (i := 4) (v := ?v4_ne) rfl (by kernel_rfl) (by kernel_rfl) (by kernel_rfl) (fun _ _ _ h => h) (Or.inl ⟨by kernel_rfl, ?h4_ne⟩) ?r4_ne
        case h4_ne => (intro w; go_simp; try (with_reducible rfl))
        try simp only [Act.put, List.setIfInBounds_toArray, List.set_cons_zero, List.set_cons_succ]
        refine wpAny_take (i := 5) (v := ?v5_ne) rfl (by kernel_rfl) (by kernel_rfl) (by kernel_rfl) (fun _ _ _ h => h) (Or.inl ⟨by kernel_rfl, ?h5_ne⟩) ?r5_ne
        case h5_ne => (intro w; go_simp; try (with_reducible rfl))
        try simp only [Act.put, List.setIfInBounds_toArray, List.set_cons_zero, List.set_cons_succ]
        refine wpAny_take (i := 6) (v := ?v6_ne) rfl (by kernel_rfl) (by kernel_rfl) (by kernel_rfl) (fun _ _ _ h => h) (Or.inl ⟨by kernel_rfl, ?h6_ne⟩) ?r6_ne
        case h6_ne => (intro w; go_simp; try (with_reducible rfl))
        try simp only [Act.put, List.setIfInBounds_toArray, List.set_cons_zero, List.set_cons_succ]
        refine wpAny_take (i := 8) (v := ?v8_ne) rfl (by kernel_rfl) (by kernel_rfl) (by kernel_rfl) (fun _ _ _ h => h) (Or.inl ⟨by kernel_rfl, ?h8_ne⟩) ?r8_ne
        case h8_ne => (intro w; go_simp; try (with_reducible rfl))
        try simp only [Act.put, List.setIfInBounds_toArray, List.set_cons_zero, List.set_cons_succ]
        refine wpAny_ready (rs := [7]) (by kernel_rfl) (by simp) ?_
        refine AllReady.cons rfl (fun K hK => ?_) AllReady.nil
        go_simp
        (go_at_call 12; refine (H2.out _ hS1.out).mono ?_; rintro e w7 ⟨n1, rfl, hS2, p1, p2⟩)
        try go_wp2_with fail
        first | (refine hK _ _ ?_; clear hK K) | skip
        try simp only [Act.put, List.setIfInBounds_toArray, List.set_cons_zero, List.set_cons_succ]
        refine wpAny_ready (rs := [9]) (by kernel_rfl) (by simp) ?_
        refine AllReady.cons rfl (fun K hK => ?_) AllReady.nil
        go_simp
        (go_at_call 12; refine (H3.out _ _ hS2.out).mono ?_; rintro e w8 ⟨n2, rfl, hS3, q1, q2⟩)
        try go_wp2_with fail
        first | (refine hK _ _ ?_; clear hK K) | skip
        try simp only [Act.put, List.setIfInBounds_toArray, List.set_cons_zero, List.set_cons_succ]
        refine wpAny_ready (rs := [10]) (by kernel_rfl) (by simp) ?_
        refine AllReady.cons rfl (fun K hK => ?_) AllReady.nil
        go_simp
        (go_at_call 9; refine (H4.out _ _ _ hS3.out).mono ?_; rintro e w9 ⟨rfl, hS4, r1, r2⟩)
        try go_wp2_with fail
        first | (refine hK _ _ ?_; clear hK K) | skip
        try simp only [Act.put, List.setIfInBounds_toArray, List.set_cons_zero, List.set_cons_succ]
        refine wpAny_take (i := 11) (v := ?v11_ne) rfl (by kernel_rfl) (by kernel_rfl) (by kernel_rfl) (fun _ _ _ h => h) (Or.inl ⟨by kernel_rfl, ?h11_ne⟩) ?r11_ne
        case h11_ne => (intro w; go_simp; try (with_reducible rfl))
        try simp only [Act.put, List.setIfInBounds_toArray, List.set_cons_zero, List.set_cons_succ]
        refine wpAny_take (i := 12) (v := ?v12_ne) rfl (by kernel_rfl) (by kernel_rfl) (by kernel_rfl) (fun _ _ _ h => h) (Or.inl ⟨by kernel_rfl, ?h12_ne⟩) ?r12_ne
        case h12_ne => (intro w; go_simp; try (with_reducible rfl))
        try simp only [Act.put, List.setIfInBounds_toArray, List.set_cons_zero, List.set_cons_succ]
        refine wpAny_take (i := 13) (v := ?v13_ne) rfl (by kernel_rfl) (by kernel_rfl) (by kernel_rfl) (fun _ _ _ h => h) (Or.inl ⟨by kernel_rfl, ?h13_ne⟩) ?r13_ne
        case h13_ne => (intro w; go_simp; try (with_reducible rfl))
        try simp only [Act.put, List.setIfInBounds_toArray, List.set_cons_zero, List.set_cons_succ]
        refine wpAny_take (i := 14) (v := ?v14_ne) rfl (by kernel_rfl) (by kernel_rfl) (by kernel_rfl) (fun _ _ _ h => h) (Or.inl ⟨by kernel_rfl, ?h14_ne⟩) ?r14_ne
        case h14_ne => (intro w; go_simp; try (with_reducible rfl))
        try simp only [Act.put, List.setIfInBounds_toArray, List.set_cons_zero, List.set_cons_succ]
        refine wpAny_take (i := 15) (v := ?v15_ne) rfl (by kernel_rfl) (by kernel_rfl) (by kernel_rfl) (fun _ _ _ h => h) (Or.inl ⟨by kernel_rfl, ?h15_ne⟩) ?r15_ne
        case h15_ne => (intro w; go_simp; try (with_reducible rfl))
        try simp only [Act.put, List.setIfInBounds_toArray, List.set_cons_zero, List.set_cons_succ]
        refine wpAny_take (i := 16) (v := ?v16_ne) rfl (by kernel_rfl) (by kernel_rfl) (by kernel_rfl) (fun _ _ _ h => h) (Or.inl ⟨by kernel_rfl, ?h16_ne⟩) ?r16_ne
        case h16_ne => (intro w; go_simp; try (with_reducible rfl))
        try simp only [Act.put, List.setIfInBounds_toArray, List.set_cons_zero, List.set_cons_succ]
        refine wpAny_take (i := 17) (v := ?v17_ne) rfl (by kernel_rfl) (by kernel_rfl) (by kernel_rfl) (fun _ _ _ h => h) (Or.inl ⟨by kernel_rfl, ?h17_ne⟩) ?r17_ne
        case h17_ne => (intro w; go_simp; try (with_reducible rfl))
        try simp only [Act.put, List.setIfInBounds_toArray, List.set_cons_zero, List.set_cons_succ]
        refine wpAny_take (i := 18) (v := undef) rfl (by kernel_rfl) (by kernel_rfl) (by kernel_rfl) (fun _ _ _ h => h) (Or.inr ⟨by kernel_rfl, rfl⟩) ?_
        try simp only [Act.put, List.setIfInBounds_toArray, List.set_cons_zero, List.set_cons_succ]
        refine wpAny_take (i := 19) (v := undef) rfl (by kernel_rfl) (by kernel_rfl) (by kernel_rfl) (fun _ _ _ h => h) (Or.inr ⟨by kernel_rfl, rfl⟩) ?_
        try simp only [Act.put, List.setIfInBounds_toArray, List.set_cons_zero, List.set_cons_succ]
        refine wpAny_take (i := 20) (v := undef) rfl (by kernel_rfl) (by kernel_rfl) (by kernel_rfl) (fun _ _ _ h => h) (Or.inr ⟨by kernel_rfl, rfl⟩) ?_
        try simp only [Act.put, List.setIfInBounds_toArray, List.set_cons_zero, List.set_cons_succ]
        refine wpAny_take (i := 21) (v := undef) rfl (by kernel_rfl) (by kernel_rfl) (by kernel_rfl) (fun _ _ _ h => h) (Or.inr ⟨by kernel_rfl, rfl⟩) ?_
        try simp only [Act.put, List.setIfInBounds_toArray, List.set_cons_zero, List.set_cons_succ]
        refine wpAny_take (i := 22) (v := undef) rfl (by kernel_rfl) (by kernel_rfl) (by kernel_rfl) (fun _ _ _ h => h) (Or.inr ⟨by kernel_rfl, rfl⟩) ?_
        try simp only [Act.put, List.setIfInBounds_toArray, List.set_cons_zero, List.set_cons_succ]
        refine wpAny_take (i := 23) (v := undef) rfl (by kernel_rfl) (by kernel_rfl) (by kernel_rfl) (fun _ _ _ h => h) (Or.inr ⟨by kernel_rfl, rfl⟩) ?_
        try simp only [Act.put, List.setIfInBounds_toArray, List.set_cons_zero, List.set_cons_succ]
        refine wpAny_take (i := 24) (v := undef) rfl (by kernel_rfl) (by kernel_rfl) (by kernel_rfl) (fun _ _ _ h => h) (Or.inr ⟨by kernel_rfl, rfl⟩) ?_
        try simp only [Act.put, List.setIfInBounds_toArray, List.set_cons_zero, List.set_cons_succ]
        refine wpAny_take (i := 25) (v := undef) rfl (by kernel_rfl) (by kernel_rfl) (by kernel_rfl) (fun _ _ _ h => h) (Or.inr ⟨by kernel_rfl, rfl⟩) ?_
        try simp only [Act.put, List.setIfInBounds_toArray, List.set_cons_zero, List.set_cons_succ]
        refine wpAny_take (i := 26) (v := undef) rfl (by kernel_rfl) (by kernel_rfl) (by kernel_rfl) (fun _ _ _ h => h) (Or.inr ⟨by kernel_rfl, rfl⟩) ?_
        try simp only [Act.put, List.setIfInBounds_toArray, List.set_cons_zero, List.set_cons_succ]
        refine wpAny_take (i := 27) (v := undef) rfl (by kernel_rfl) (by kernel_rfl) (by kernel_rfl) (fun _ _ _ h => h) (Or.inr ⟨by kernel_rfl, rfl⟩) ?_
        try simp only [Act.put, List.setIfInBounds_toArray, List.set_cons_zero, List.set_cons_succ]
        refine wpAny_take (i := 28) (v := ?v28_ne) rfl (by kernel_rfl) (by kernel_rfl) (by kernel_rfl) (fun _ _ _ h => h) (Or.inl ⟨by kernel_rfl, ?h28_ne⟩) ?r28_ne
        case h28_ne => (intro w; go_simp; try (with_reducible rfl))
        try simp only [Act.put, List.setIfInBounds_toArray, List.set_cons_zero, List.set_cons_succ]
        refine wpAny_take (i := 29) (v := ?v29_ne) rfl (by kernel_rfl) (by kernel_rfl) (by kernel_rfl) (fun _ _ _ h => h) (Or.inl ⟨by kernel_rfl, ?h29_ne⟩) ?r29_ne
        case h29_ne => (intro w; go_simp; try (with_reducible rfl))
        try simp only [Act.put, List.setIfInBounds_toArray, List.set_cons_zero, List.set_cons_succ]
        refine wpAny_take (i := 30) (v := undef) rfl (by kernel_rfl) (by kernel_rfl) (by kernel_rfl) (fun _ _ _ h => h) (Or.inr ⟨by kernel_rfl, rfl⟩) ?_
        try simp only [Act.put, List.setIfInBounds_toArray, List.set_cons_zero, List.set_cons_succ]
        refine wpAny_take (i := 31) (v := undef) rfl (by kernel_rfl) (by kernel_rfl) (by kernel_rfl) (fun _ _ _ h => h) (Or.inr ⟨by kernel_rfl, rfl⟩) ?_
        try simp only [Act.put, List.setIfInBounds_toArray, List.set_cons_zero, List.set_cons_succ]
        refine wpAny_take (i := 32) (v := undef) rfl (by kernel_rfl) (by kernel_rfl) (by kernel_rfl) (fun _ _ _ h => h) (Or.inr ⟨by kernel_rfl, rfl⟩) ?_
        try simp only [Act.put, List.setIfInBounds_toArray, List.set_cons_zero, List.set_cons_succ]
        refine wpAny_take (i := 33) (v := undef) rfl (by kernel_rfl) (by kernel_rfl) (by kernel_rfl) (fun _ _ _ h => h) (Or.inr ⟨by kernel_rfl, rfl⟩) ?_
        try simp only [Act.put, List.setIfInBounds_toArray, List.set_cons_zero, List.set_cons_succ]
        refine wpAny_take (i := 34) (v := undef) rfl (by kernel_rfl) (by kernel_rfl) (by kernel_rfl) (fun _ _ _ h => h) (Or.inr ⟨by kernel_rfl, rfl⟩) ?_
        try simp only [Act.put, List.setIfInBounds_toArray, List.set_cons_zero, List.set_cons_succ]
        refine wpAny_take (i := 35) (v := undef) rfl (by kernel_rfl) (by kernel_rfl) (by kernel_rfl) (fun _ _ _ h => h) (Or.inr ⟨by kernel_rfl, rfl⟩) ?_
        try simp only [Act.put, List.setIfInBounds_toArray, List.set_cons_zero, List.set_cons_succ]
        refine wpAny_take (i := 36) (v := ?v36_ne) rfl (by kernel_rfl) (by kernel_rfl) (by kernel_rfl) (fun _ _ _ h => h) (Or.inl ⟨by kernel_rfl, ?h36_ne⟩) ?r36_ne
        case h36_ne => (intro w; go_simp; try (with_reducible rfl))
        try simp only [Act.put, List.setIfInBounds_toArray, List.set_cons_zero, List.set_cons_succ]
        refine wpAny_take (i := 37) (v := ?v37_ne) rfl (by kernel_rfl) (by kernel_rfl) (by kernel_rfl) (fun _ _ _ h => h) (Or.inl ⟨by kernel_rfl, ?h37_ne⟩) ?r37_ne
        case h37_ne => (intro w; go_simp; try (with_reducible rfl))
        try simp only [Act.put, List.setIfInBounds_toArray, List.set_cons_zero, List.set_cons_succ]
        refine wpAny_take (i := 38) (v := ?v38_ne) rfl (by kernel_rfl) (by kernel_rfl) (by kernel_rfl) (fun _ _ _ h => h) (Or.inl ⟨by kernel_rfl, ?h38_ne⟩) ?r38_ne
        case h38_ne => (intro w; go_simp; try (with_reducible rfl))
        try simp only [Act.put, List.setIfInBounds_toArray, List.set_cons_zero, List.set_cons_succ]
        refine wpAny_done (by kernel_rfl) ?_ _
        try simp only [Act.put, List.getElem_toArray, List.getElem_cons_zero, List.getElem_cons_succ, List.setIfInBounds_toArray, List.set_cons_zero, List.set_cons_succ]
        go_wp2
        go_ret
        exact ⟨rfl, hS4⟩

theorem nfdMovesW (base : Int) (lo : -2147483648 ≤ base) (hi : base ≤ 2147483647) (v : Value) (l : List Int) {w : World} (h : SlN w v l) (hn : l.length ≤ 35184372087808) (hr : ∀ x ∈ l, -2147483648 ≤ x ∧ x ≤ 2147483647) (a : Int) (h0 : 0 ≤ a) (h1 : a ≤ 255) (w' : World) (hT : TabsN w') (he : w = w' := by rfl) :
    Calls Tryd.prog 6 #[.int .i32 base, v, .int .u8 a] w' fun e w2 => e = .returned (.bool true) ∧ Below w'.heap.size w' w2 := by
  subst he
  obtain ⟨n, rfl⟩ : ∃ n : Nat, a = (n : Int) := ⟨a.toNat, by omega⟩
  have hk := k_nonneg base
  by_cases h2 : l.length < 2
  · exact movesSmall base v l n w hT h ⟨lo, hi⟩ hn (.inl h2)
  by_cases h30 : 30 < l.length
  · exact movesSmall base v l n w hT h ⟨lo, hi⟩ hn (.inr (.inl ⟨by omega, h30⟩))
  by_cases hk0 : 0 < kOf base
  · exact movesSmall base v l n w hT h ⟨lo, hi⟩ hn (.inr (.inr ⟨by omega, by omega, hk0⟩))
  · exact movesMain base v l n w hT h ⟨lo, hi⟩ hr (by omega) (by omega) (by omega) (by omega)

end Go.Proofs.YtkadmnabhoijdaaDoor.Nfd
