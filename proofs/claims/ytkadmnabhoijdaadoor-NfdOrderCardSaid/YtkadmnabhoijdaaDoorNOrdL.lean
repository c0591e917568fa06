/- NfdOrder, walked. -/
import Derived.Test.YtkadmnabhoijdaaDoorNAns
import Derived.Test.YtkadmnabhoijdaaDoorRefO
set_option linter.unusedVariables false
namespace Go.Proofs.YtkadmnabhoijdaaDoor.Nfd
open Go Go.RowKit Go.Shelf Go.Proofs Go.Lib Go.Sort
open Go.Proofs.YtkadmnabhoijdaaDoor.Look Go.Proofs.YtkadmnabhoijdaaDoor.New

set_option maxHeartbeats 8000000 in
set_option maxRecDepth 1000000 in
theorem refE (a : Option Addr) (c : Nat) (w : World) : Calls Tryd.prog 10 #[.slice a 0 c] w fun e w' => ∃ v', e = .returned v' ∧ Aside (SlN w' v' [] ∧ Below w.heap.size w w') := by
  have hs : SlN (w.alloc (.cells #[] 21)) (.slice (some ⟨w.heap.size, 0, none⟩) 0 0) [] := SlN.lit w []
  have hb : Below w.heap.size w (w.alloc (.cells #[] 21)) := (Below.refl _ w).alloc (Nat.le_refl _) _
  obtain ⟨ie, hi, hz, hs2, hby⟩ := info_parts i21
  cases a with
  | none =>
    have hA : Aside (SlN (w.alloc (.cells #[] 21)) (.slice (some ⟨w.heap.size, 0, none⟩) 0 0) [] ∧ Below w.heap.size w (w.alloc (.cells #[] 21))) := ⟨hs, hb⟩
    clear hs hb
    go_enter Tryd.func10, Tryd.ntmps10
    go_wp2
    go_loopg [4] 1 (fun g1 vg wr => ∃ (t : Bool), vg = .bool t ∧ wr = w.alloc (.cells #[] 21) ∧ (if t then 1 else 0) ≤ g1)
    case atStart => exact ⟨true, rfl, rfl, by simp⟩
    case round =>
      obtain ⟨t, rfl, rfl, hg⟩ := hrel
      cases t with
      | false =>
        go_wp2
        go_ret
        exact ⟨_, rfl, hA⟩
      | true =>
        go_wp2
        go_loopg [4, 5] 0 (fun g2 vg vi wr => vg = .bool false ∧ vi = .int .i64 0 ∧ wr = w.alloc (.cells #[] 21))
        case atStart => exact ⟨rfl, rfl, rfl⟩
        case round =>
          obtain ⟨rfl, rfl, rfl⟩ := hrel
          go_wp2
          go_roundg 0
          case measure => simp at hg; omega
          case rel => exact ⟨false, rfl, rfl, by simp⟩
  | some ad =>
    clear hs hb
    go_enter Tryd.func10, Tryd.ntmps10
    go_wp2_with (at_builtin; refine wpList_append_own _ rfl _ _ 22 rfl w.heap.size 21 ie (.int .i32 0) 1 4 Tryd.underlying22 hi hz hs2 hby rfl (by omega) _ _ _ rfl (World.ownsRow_made w #[] 0 (Nat.le_refl _) (Nat.zero_le _) (by simp)) ad 0 c [] rfl rfl (by intro j u hj; simp at hj) (by simp) (by unfold maxLen; omega) (by omega) (by simp) ?_)
    intro v' w1 hown hgrow hnil
    have hb : Below w.heap.size w w1 := ((Below.refl _ w).alloc (Nat.le_refl _) _).grown hgrow (by simp) (by intro k hk; simp [Value.ownBlock] at hk; omega)
    have ho : OwnR w1 w.heap.size v' [] := by simpa [OwnR] using hown
    obtain ⟨a', c', e⟩ := ho.sln.len
    obtain rfl : v' = .slice a' 0 c' := e
    have hA : Aside (SlN w1 (.slice a' 0 c') [] ∧ Below w.heap.size w w1) := ⟨ho.sln, hb⟩
    clear hown hgrow hnil ho hb
    go_wp2
    go_loopg [4] 1 (fun g1 vg wr => ∃ (t : Bool), vg = .bool t ∧ wr = w1 ∧ (if t then 1 else 0) ≤ g1)
    case atStart => exact ⟨true, rfl, rfl, by simp⟩
    case round =>
      obtain ⟨t, rfl, rfl, hg⟩ := hrel
      cases t with
      | false =>
        go_wp2
        go_ret
        exact ⟨_, rfl, hA⟩
      | true =>
        go_wp2
        go_loopg [4, 5] 0 (fun g2 vg vi wr2 => vg = .bool false ∧ vi = .int .i64 0 ∧ wr2 = wr)
        case atStart => exact ⟨rfl, rfl, rfl⟩
        case round =>
          obtain ⟨rfl, rfl, rfl⟩ := hrel
          go_wp2
          go_roundg 0
          case measure => simp at hg; omega
          case rel => exact ⟨false, rfl, rfl, by simp⟩
/-- The reference's order. -/
theorem refN' (v : Value) (l : List Int) (w : World) (h : SlN w v l) (hn : l.length ≤ 1000000000000) (hr : ∀ x ∈ l, -2147483648 ≤ x ∧ x ≤ 2147483647) :
    Calls Tryd.prog 10 #[v] w fun e w' => ∃ v', e = .returned v' ∧ SlN w' v' (orderV l) ∧ Below w.heap.size w w' := by
  by_cases hl : l = []
  · subst hl
    obtain ⟨a, c, rfl⟩ := h.len
    refine (refE a c w).mono ?_
    rintro e w' ⟨v', rfl, hA⟩
    exact ⟨_, rfl, hA.out.1, hA.out.2⟩
  · refine (refO v l w (h.slo hl) hn hr).mono ?_
    rintro e w' ⟨b, c, rfl, h1, h2, h3⟩
    have hs := SlO.sln (h2.slo (c := c))
    rw [orderV_len] at hs
    exact ⟨_, rfl, hs, h3⟩

/-- What is known behind the first call. -/
structure StO (w wr : World) (x : Value) (L : List Int) : Prop where
  row : OwnR wr w.heap.size x L
  below : Below w.heap.size w wr
theorem StO.go {w w2 w3 : World} {x : Value} {L : List Int} (h : StO w w2 x L) (hb : Below w2.heap.size w2 w3) : StO w w3 x L := ⟨h.row.below hb, h.below.trans (hb.mono h.below.size)⟩

set_option maxHeartbeats 16000000 in
set_option maxRecDepth 1000000 in
/-- The loop at the law's end. -/
theorem orderLaw (v : Value) (l : List Int) (w : World) (hT : TabsN w) (h : SlN w v l) (hn : l.length ≤ 35184372087808) (hr : ∀ x ∈ l, -2147483648 ≤ x ∧ x ≤ 2147483647) :
    Calls Tryd.prog 3 #[v] w fun e w' => e = .returned (.bool true) ∧ Below w.heap.size w w' := by
  have mixed : Tryd.prog.follows Departure.mixedOrders = true := by kernel_rfl
  have cA0 := answersN w hT
  by_cases hbig : 200 < l.length
  · obtain ⟨a, c, rfl⟩ := h.len
    generalize l.length = N at *
    have hbz : (200 : Int) < (N : Int) := by omega
    clear hT h hr
    go_enter Tryd.func3, Tryd.ntmps3
    go_wp2_with (go_at_call 7; refine cA0.mono ?_; rintro e w1 ⟨rfl, hb⟩; clear cA0)
    go_ret
    exact ⟨rfl, hb⟩
  clear cA0
  have hlen := orderV_len l
  obtain ⟨L, hL⟩ : ∃ L, L = orderV l := ⟨_, rfl⟩
  have hLr : ∀ x ∈ L, -2147483648 ≤ x ∧ x ≤ 2147483647 := fun x hx => hr x ((orderV_mem l x).1 (by rw [← hL]; exact hx))
  have hg : Look.Good L := by rw [hL]; exact good_of_orderV l
  have h2 : orderV L = L := by rw [hL]; exact orderV_twice l
  rw [← hL] at hlen
  have cO : ∀ w1 v0, SlN w1 v0 l → Below w.heap.size w w1 → Calls Tryd.prog 8 #[v0] w1 fun e w' => ∃ a c, e = .returned (.slice a l.length c) ∧ Aside (StO w w' (.slice a l.length c) L) := fun w1 v0 h1 hb => by
    refine (ordN v0 l w1 h1 (by omega)).mono ?_
    rintro e w' ⟨v', rfl, k1, k2⟩
    rw [← hL] at k1
    obtain ⟨a, c, e⟩ := k1.sln.len
    rw [hlen] at e
    subst e
    exact ⟨a, c, rfl, k1.mono hb.size, hb.trans (k2.mono hb.size)⟩
  have cA : ∀ w2 x, StO w w2 x L → Calls Tryd.prog 7 #[] w2 fun e w' => e = .returned (.bool true) ∧ Aside (StO w w' x L) := fun w2 x hS => by
    refine (answersN w2 (hT.below hS.below)).mono ?_
    rintro e w' ⟨rfl, k⟩
    exact ⟨rfl, hS.go k⟩
  have cR : ∀ w2 x, StO w w2 x L → Calls Tryd.prog 10 #[v] w2 fun e w' => ∃ y, e = .returned y ∧ Aside (StO w w' x L ∧ SlN w' y L) := fun w2 x hS => by
    refine (refN' v l w2 (h.below hS.below) (by omega) hr).mono ?_
    rintro e w' ⟨y, rfl, k1, k2⟩
    rw [← hL] at k1
    exact ⟨y, rfl, hS.go k2, k1⟩
  have cP : ∀ w2 x, StO w w2 x L → Calls Tryd.prog 8 #[x] w2 fun e w' => ∃ y, e = .returned y ∧ Aside (StO w w' x L ∧ SlN w' y L) := fun w2 x hS => by
    refine (ordN x L w2 hS.row.sln (by omega)).mono ?_
    rintro e w' ⟨y, rfl, k1, k2⟩
    rw [h2] at k1
    exact ⟨y, rfl, hS.go k2, k1.sln⟩
  have cU : ∀ w2 x y, StO w w2 x L ∧ SlN w2 y L → Calls Tryd.prog 9 #[x, y] w2 fun e w' => e = .returned (.bool true) ∧ Aside (StO w w' x L) := fun w2 x y hS => by
    refine (runesN x y L L w2 hS.1.row.sln hS.2 (by omega) (by omega)).mono ?_
    rintro e w' ⟨rfl, k⟩
    rw [decide_eq_true rfl]
    exact ⟨rfl, hS.1.go k⟩
  have cV : ∀ w2 x y, StO w w2 x L ∧ SlN w2 y L → Calls Tryd.prog 9 #[y, x] w2 fun e w' => e = .returned (.bool true) ∧ Aside (StO w w' x L) := fun w2 x y hS => by
    refine (runesN y x L L w2 hS.2 hS.1.row.sln (by omega) (by omega)).mono ?_
    rintro e w' ⟨rfl, k⟩
    rw [decide_eq_true rfl]
    exact ⟨rfl, hS.1.go k⟩
  have HK : Aside (∀ (r : Int), -2147483648 ≤ r → r ≤ 2147483647 → ∀ w, Calls Tryd.prog 11 #[.int .i32 r] w fun e w' => e = .returned (.int .i64 (kOf r)) ∧ ∃ q os, w' = grow (w.drewN q) os) := fun r h1 h2 w => by unfold kOf; exact clsG r h1 h2 w
  obtain ⟨ie, hi, hz, hs, hby⟩ := info_parts i21
  have HG : Aside (Look.Good L ∧ ∀ x ∈ L, -2147483648 ≤ x ∧ x ≤ 2147483647) := ⟨hg, hLr⟩
  clear hL hLr hg h2 hr hT
  obtain ⟨N, hN⟩ : ∃ N, N = l.length := ⟨_, rfl⟩
  have HN : Aside (N = l.length ∧ L.length = N) := ⟨hN, by rw [hlen, hN]⟩
  have hbn : N ≤ 200 := by omega
  simp only [← hN] at cO
  clear hlen hbig hn
  have hW0 : SlN (w.alloc (.cells #[] 21)) (.slice (some ⟨w.heap.size, 0, none⟩) 0 0) [] := SlN.lit w []
  have hWb : Below w.heap.size w (w.alloc (.cells #[] 21)) := (Below.refl _ w).alloc (Nat.le_refl _) _
  rcases h with ⟨ad, vc, rfl, _, hc⟩ | ⟨rfl, rfl⟩
  · rw [← hN]
    have A : Aside (∀ j u, (l.map enc32)[j]? = some u → w.cell? (ad.add j) = some u) := hc
    rw [← hN] at cR
    clear hc hN hW0
    have HcO := Lib.hid cO
    have HcA := Lib.hid cA
    have HcR := Lib.hid cR
    have HcP := Lib.hid cP
    have HcU := Lib.hid cU
    have HcV := Lib.hid cV
    clear cO cA cR cP cU cV
    go_enter Tryd.func3, Tryd.ntmps3
    go_wp2_with (at_builtin; refine wpList_append_own _ rfl _ _ 22 rfl w.heap.size 21 ie (.int .i32 0) 1 4 Tryd.underlying22 hi hz hs hby rfl (by omega) _ _ _ rfl (World.ownsRow_made w #[] 0 (Nat.le_refl _) (Nat.zero_le _) (by simp)) ad N vc (l.map enc32) rfl ?qc1 ?qc2 ?qc3 ?qc4 ?qc5 ?qc6 ?_)
    case qc1 => rw [List.length_map, HN.out.1]; simp
    case qc2 =>
      intro j u hj
      exact Lib.cell?_alloc_some _ (A.out j u hj)
    case qc3 =>
      intro u hu
      obtain ⟨x, _, rfl⟩ := List.mem_map.1 hu
      rfl
    case qc4 => unfold maxLen; omega
    case qc5 => omega
    case qc6 => simp
    intro v' w1 hown hgrow hnil
    have hbw : Below w.heap.size w w1 := hWb.grown hgrow (by simp) (by intro k hk; simp [Value.ownBlock] at hk; omega)
    have hrow : SlN w1 v' l := by
      have : OwnR w1 w.heap.size v' l := by
        unfold OwnR
        rw [← HN.out.1]
        simpa using hown
      exact this.sln
    have kO := HcO.out w1 v' hrow hbw
    clear hown hgrow hnil hrow hbw A
    go_wp2_with (first
      | (go_at_call 9; refine (HcV.out _ _ _ hS5.out).mono ?_; rintro e w7 ⟨rfl, hS6⟩; clear hS5)
      | (go_at_call 8; refine (HcP.out _ _ hS4.out).mono ?_; rintro e w6 ⟨z, rfl, hS5⟩; clear hS4)
      | (go_at_call 9; refine (HcU.out _ _ _ hS3.out).mono ?_; rintro e w5 ⟨rfl, hS4⟩; clear hS3)
      | (go_at_call 10; refine (HcR.out _ _ hS2.out).mono ?_; rintro e w4 ⟨y, rfl, hS3⟩; clear hS2)
      | (go_at_call 7; refine (HcA.out _ _ hS1.out).mono ?_; rintro e w3 ⟨rfl, hS2⟩; clear hS1)
      | (go_at_call 8; refine kO.mono ?_; rintro e w2 ⟨a, c, rfl, hS1⟩; clear kO))
    go_loopg [4] N (fun g1 vi wr => ∃ (i : Nat), vi = .int .i64 i ∧ i ≤ N ∧ N - i ≤ g1 ∧ Aside (∃ q os, wr = grow (w7.drewN q) os))
    case atStart => exact ⟨0, rfl, by omega, by omega, ⟨0, #[], by rw [grow_empty]; rfl⟩⟩
    case round =>
      obtain ⟨i, rfl, hi, hg1, HI⟩ := hrel
      by_cases hlt2 : i + 1 < N
      · have hltz : (i : Int) + 1 < (N : Int) := by omega
        obtain ⟨x, hx⟩ : ∃ x, L[i]? = some x := ⟨_, List.getElem?_eq_getElem (by have := HN.out.2; omega)⟩
        obtain ⟨y', hy⟩ : ∃ y, L[i + 1]? = some y := ⟨_, List.getElem?_eq_getElem (by have := HN.out.2; omega)⟩
        have hrx := HG.out.2 x (List.mem_of_getElem? hx)
        have hry := HG.out.2 y' (List.mem_of_getElem? hy)
        have hgood := good_at L HG.out.1 i x y' hx hy
        have hform : ∃ g, a = some ⟨g, 0, none⟩ ∧ g < w7.heap.size ∧ w7.cell? ⟨g, i, none⟩ = some (.int .i32 x) ∧ w7.cell? ⟨g, i + 1, none⟩ = some (.int .i32 y') := by
          have hO := hS6.out.row
          obtain ⟨g, cap, e, _, hgl⟩ := hO.form (by have := HN.out.2; omega)
          simp only [Value.slice.injEq] at e
          obtain ⟨rfl, _, rfl⟩ := e
          rw [← HN.out.2] at hO
          exact ⟨g, rfl, hgl, hO.cellAt hx, hO.cellAt hy⟩
        obtain ⟨g, rfl, hgl, k1, k2⟩ := hform
        have kx := HK.out x hrx.1 hrx.2
        have ky := HK.out y' hry.1 hry.2
        obtain ⟨iN, hiN1⟩ : ∃ q, q = i + 1 := ⟨_, rfl⟩
        have en : ((i : Int) + 1).toNat = iN := by omega
        have bi : (i : Int) < (N : Int) := by omega
        have pn : (0 : Int) ≤ (i : Int) + 1 := by omega
        have rn : IntKind.i64.wrap ((i : Int) + 1) = (i : Int) + 1 := by rw [IntKind.wrap_i64]; omega
        have l1 : ∀ n os, (grow (wr.drewN n) os).cell? ⟨g, i, none⟩ = some (.int .i32 x) := fun n os => by
          obtain ⟨q, os0, rfl⟩ := HI.out
          rw [cell?_grow _ _ _ (by show g < (grow (w7.drewN q) os0).heap.size; rw [size_grow]; exact Nat.lt_of_lt_of_le hgl (Nat.le_add_right _ _))]
          show (grow (w7.drewN q) os0).cell? _ = _
          rw [cell?_grow _ _ _ (by exact hgl)]
          exact k1
        have l2 : ∀ n os, (grow (wr.drewN n) os).cell? ⟨g, iN, none⟩ = some (.int .i32 y') := fun n os => by
          obtain ⟨q, os0, rfl⟩ := HI.out
          rw [cell?_grow _ _ _ (by show g < (grow (w7.drewN q) os0).heap.size; rw [size_grow]; exact Nat.lt_of_lt_of_le hgl (Nat.le_add_right _ _))]
          show (grow (w7.drewN q) os0).cell? _ = _
          rw [cell?_grow _ _ _ (by exact hgl), hiN1]
          exact k2
        clear hiN1 hrx hry hx hy k1 k2
        have KK : ∀ r, (r = x ∨ r = y') → ∀ w, Calls Tryd.prog 11 #[.int .i32 r] w fun e w' => e = .returned (.int .i64 (kOf r)) ∧ ∃ q os, w' = grow (w.drewN q) os := fun r hr => by rcases hr with rfl | rfl; exact kx; exact ky
        clear kx ky
        by_cases q1 : 0 < kOf y'
        · have q2 : ¬ kOf y' < kOf x := fun h => hgood ⟨q1, h⟩
          have q3 : kOf x ≤ kOf y' := by omega
          have d1 : decide (0 < kOf y') = true := decide_eq_true q1
          have d2 : decide (kOf y' < kOf x) = false := decide_eq_false q2
          clear HcO HcA HcR HcP HcU HcV hWb hgood
          go_wp2_with fail
          go_quiet_grown (first | (go_at_call 11; refine Calls.grown_of (KK _ (by first | exact Or.inl rfl | exact Or.inr rfl) _)))
          have HI2 : Aside (∃ q os, grow (wr.drewN nq) osq = grow (w7.drewN q) os) := by
            obtain ⟨q, os0, rfl⟩ := HI.out
            exact grow_two _ _ _ _ _
          clear l1 l2 HI KK
          generalize grow (wr.drewN nq) osq = w8 at HI2 ⊢
          clear en
          go_wp2
          go_roundg (N - (i + 1))
          case measure => omega
          case rel => exact ⟨i + 1, by first | rfl | go_num, by omega, by omega, HI2.out⟩
        · have hk0 : kOf y' = 0 := by have := k_nonneg y'; omega
          have ky0 := KK y' (Or.inr rfl)
          rw [hk0] at ky0
          clear HcO HcA HcR HcP HcU HcV hWb hgood hk0 KK q1 l1
          go_wp2_with fail
          refine wp_region_quiet_grown (by assumption) (by kernel_rfl) ?_
          repeat ((with_reducible refine wpQuiet_step (fun K hK => ?_)); go_simp; first | ((with_reducible refine hK _ ?_); clear hK K) | (apply Exists.intro; refine ⟨fun _ => ?_, hK _ ?_⟩; (go_at_call 11; refine Calls.grown_of (ky0 _)); clear hK K))
          with_reducible refine wpQuiet_nil ?_
          intro _ hw'
          obtain ⟨⟨nq, osq⟩, hw''⟩ := hw'
          subst hw''
          have HI2 : Aside (∃ q os, grow (wr.drewN nq) osq = grow (w7.drewN q) os) := by
            obtain ⟨q, os0, rfl⟩ := HI.out
            exact grow_two _ _ _ _ _
          clear l2 HI ky0
          generalize grow (wr.drewN nq) osq = w8 at HI2 ⊢
          clear en
          go_wp2
          go_roundg (N - (i + 1))
          case measure => omega
          case rel => exact ⟨i + 1, by first | rfl | go_num, by omega, by omega, HI2.out⟩
      · have hltz : ¬ (i : Int) + 1 < (N : Int) := by omega
        go_wp2
        go_ret
        obtain ⟨q, os, rfl⟩ := HI.out
        exact ⟨rfl, hS6.out.below.trans (below_grown q os _ hS6.out.below.size)⟩
  · have kO := cO (w.alloc (.cells #[] 21)) _ hW0 hWb
    have hN0 : N = 0 := hN
    subst hN0
    have HcA := Lib.hid cA
    have HcR := Lib.hid cR
    have HcP := Lib.hid cP
    have HcU := Lib.hid cU
    have HcV := Lib.hid cV
    clear cO cA cR cP cU cV HK HG hW0 hWb hN hbn
    go_enter Tryd.func3, Tryd.ntmps3
    go_wp2_with (first
      | (go_at_call 9; refine (HcV.out _ _ _ hS5.out).mono ?_; rintro e w7 ⟨rfl, hS6⟩; clear hS5)
      | (go_at_call 8; refine (HcP.out _ _ hS4.out).mono ?_; rintro e w6 ⟨z, rfl, hS5⟩; clear hS4)
      | (go_at_call 9; refine (HcU.out _ _ _ hS3.out).mono ?_; rintro e w5 ⟨rfl, hS4⟩; clear hS3)
      | (go_at_call 10; refine (HcR.out _ _ hS2.out).mono ?_; rintro e w4 ⟨y, rfl, hS3⟩; clear hS2)
      | (go_at_call 7; refine (HcA.out _ _ hS1.out).mono ?_; rintro e w3 ⟨rfl, hS2⟩; clear hS1)
      | (go_at_call 8; refine kO.mono ?_; rintro e w2 ⟨a, c, rfl, hS1⟩; clear kO))
    go_loopg [4] 0 (fun g1 vi wr => vi = .int .i64 0 ∧ wr = w7)
    case atStart => exact ⟨rfl, rfl⟩
    case round =>
      obtain ⟨rfl, rfl⟩ := hrel
      go_wp2
      go_ret
      exact ⟨rfl, hS6.out.below⟩
/-- For the row. -/
theorem nfdOrderW (v : Value) (l : List Int) {w : World} (h : SlN w v l) (hn : l.length ≤ 35184372087808) (hr : ∀ x ∈ l, -2147483648 ≤ x ∧ x ≤ 2147483647) (w' : World) (hT : TabsN w') (he : w = w' := by rfl) :
    Calls Tryd.prog 3 #[v] w' fun e w2 => e = .returned (.bool true) ∧ Below w'.heap.size w' w2 := by
  subst he
  exact orderLaw v l w hT h hn hr
end Go.Proofs.YtkadmnabhoijdaaDoor.Nfd
