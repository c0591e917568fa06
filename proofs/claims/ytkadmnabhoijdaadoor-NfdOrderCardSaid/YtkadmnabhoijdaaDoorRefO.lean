/- amanuensisref03.Order: bubble passes; the same as `orderV`. -/
import Derived.Test.YtkadmnabhoijdaaDoorBubP
set_option linter.unusedVariables false
namespace Go.Proofs.YtkadmnabhoijdaaDoor.Look
open Go Go.RowKit Go.Shelf Go.Proofs Go.Lib Go.Sort
open Go.Proofs.YtkadmnabhoijdaaDoor.Stab

def InR (l : List Int) : Prop := ∀ x ∈ l, -2147483648 ≤ x ∧ x ≤ 2147483647
/-- The row as the passes leave it. -/
def BubAt (B b N : Nat) (l : List Int) (w wr : World) (cur : List Int) : Prop := Below B w wr ∧ RowL wr b cur ∧ cur.length = N ∧ orderV cur = orderV l ∧ InR cur
def GoodTo (i : Nat) (cur : List Int) : Prop := ∀ A x y Q, cur = A ++ x :: y :: Q → A.length < i → ¬ (0 < kOf y ∧ kOf y < kOf x)
theorem goodTo_good : ∀ (l : List Int) (i : Nat), l.length ≤ i + 1 → GoodTo i l → Good l
  | [], _, _, _ => trivial
  | [_], _, _, _ => trivial
  | x :: y :: r, i, hl, h => by
    refine ⟨h [] x y r rfl (by simp at hl ⊢; omega), goodTo_good (y :: r) (i - 1) (by simp at hl ⊢; omega) fun A a b Q e hA => ?_⟩
    exact h (x :: A) a b Q (by rw [e]; rfl) (by simp; omega)
theorem parts_at {l : List Int} {i : Nat} (h : i + 1 < l.length) : ∃ A x y Q, l = A ++ x :: y :: Q ∧ A.length = i := by
  refine ⟨l.take i, l[i], l[i + 1], l.drop (i + 2), ?_, by simp; omega⟩
  rw [← List.drop_eq_getElem_cons (by omega), ← List.drop_eq_getElem_cons (by omega), List.take_append_drop]
theorem goodTo_step {i : Nat} {A Q : List Int} {x y : Int} (h : GoodTo i (A ++ x :: y :: Q)) (hA : A.length = i) (hxy : ¬ (0 < kOf y ∧ kOf y < kOf x)) : GoodTo (i + 1) (A ++ x :: y :: Q) := by
  intro A' x' y' Q' e hl
  by_cases hlt : A'.length < i
  · exact h A' x' y' Q' e hlt
  · have := List.append_inj e (by omega)
    have h2 := this.2
    simp at h2
    obtain ⟨rfl, rfl, _⟩ := h2
    exact hxy

/-- The two stores of an exchange. -/
theorem RowL.swap {w : World} {b i : Nat} {A Q : List Int} {x y : Int} (h : RowL w b (A ++ x :: y :: Q)) (hA : A.length = i) :
    RowL ((w.setCell ⟨b, i, none⟩ (enc32 y)).setCell ⟨b, i + 1, none⟩ (enc32 x)).drew b (A ++ y :: x :: Q) ∧ Below b w ((w.setCell ⟨b, i, none⟩ (enc32 y)).setCell ⟨b, i + 1, none⟩ (enc32 x)).drew := by
  have h0 : RowL w b ([] ++ (A ++ x :: y :: Q) ++ []) := by simpa using h
  have R := h0.cut
  have hd : (A ++ x :: y :: Q).toArray.toList = A ++ x :: ([] ++ y :: Q) := by simp
  have hS := (SW.start R.hH).swapped R i (i + 1) (by simp; omega) (by simp; omega)
  have e1 : (A ++ x :: y :: Q).toArray[i]! = x := by rw [← hA]; exact at_list hd
  have e2 : (A ++ x :: y :: Q).toArray[i + 1]! = y := by
    have := at_list (d := (A ++ x :: y :: Q).toArray) (P := A ++ [x]) (x := y) (Q := Q) (by simp)
    rw [show i + 1 = (A ++ [x]).length by simp; omega]
    exact this
  rw [e1, e2] at hS
  have hl := swp_list hd i (i + 1) hA.symm (by simp; omega)
  have := h0.put hS (by rw [size_swp]; simp)
  rw [hl] at this
  simpa using this

set_option maxHeartbeats 16000000 in
set_option maxRecDepth 1000000 in
theorem refO (v : Value) (l : List Int) (w : World) (h : SlO w v l) (hn : l.length ≤ 1000000000000) (hr : InR l) :
    Calls Tryd.prog 10 #[v] w fun e w' => ∃ b c, e = .returned (.slice (some ⟨b, 0, none⟩) l.length c) ∧ w.heap.size ≤ b ∧ RowL w' b (orderV l) ∧ Below w.heap.size w w' := by
  have mixed : Tryd.prog.follows Departure.mixedOrders = true := by kernel_rfl
  obtain ⟨vb, off, vc, rfl, hlt, hc⟩ := h
  obtain ⟨ie, hi, hz, hs, hby⟩ := info_parts i21
  have A : Aside (∀ j u, (l.map enc32)[j]? = some u → w.cell? ⟨vb, off + j, none⟩ = some u) := fun j u hu => by
    rw [List.getElem?_map] at hu
    cases hl : l[j]? with
    | none => rw [hl] at hu; simp at hu
    | some x => rw [hl] at hu; simp at hu; rw [← hu]; exact hc j x hl
  have HR : Aside (InR l) := hr
  have HK : Aside (∀ (r : Int), -2147483648 ≤ r → r ≤ 2147483647 → ∀ w, Calls Tryd.prog 11 #[.int .i32 r] w fun e w' => e = .returned (.int .i64 (kOf r)) ∧ ∃ q os, w' = grow (w.drewN q) os) := fun r h1 h2 w => by unfold kOf; exact clsG r h1 h2 w
  clear hc hr
  obtain ⟨N, hN⟩ : ∃ N, N = l.length := ⟨_, rfl⟩
  rw [← hN] at hn ⊢
  have HN : Aside (N = l.length) := hN
  go_enter Tryd.func10, Tryd.ntmps10
  go_wp2_with (at_builtin; refine wpList_append_own _ rfl _ _ 22 rfl w.heap.size 21 ie (.int .i32 0) 1 4 Tryd.underlying22 hi hz hs hby rfl (by omega) _ _ _ rfl (World.ownsRow_made w #[] 0 (Nat.le_refl _) (Nat.zero_le _) (by simp)) ⟨vb, off, none⟩ N vc (l.map enc32) rfl ?qc1 ?qc2 ?qc3 ?qc4 ?qc5 ?qc6 ?_)
  case qc1 => rw [List.length_map, HN.out]; simp
  case qc2 =>
    intro j u hj
    rw [Addr.add_lit]
    exact Lib.cell?_alloc_some _ (A.out j u hj)
  case qc3 =>
    intro u hu
    obtain ⟨x, _, rfl⟩ := List.mem_map.1 hu
    rfl
  case qc4 => unfold maxLen; omega
  case qc5 => omega
  case qc6 => simp
  intro v' w1 hown hgrow hnil
  obtain ⟨b, c, rfl, hb', hrow', hc1, hc2, _⟩ := own_row hown hnil
  have hbw' : Below w.heap.size w w1 := ((Below.refl _ w).alloc (Nat.le_refl _) _).grown hgrow (by simp) (by intro k hk; simp [Value.ownBlock] at hk; omega)
  rw [← hN] at hc1 ⊢
  have hb : Aside (w.heap.size ≤ b) := hb'
  have B0 : Aside (BubAt w.heap.size b N l w w1 l) := ⟨hbw', hrow', HN.out.symm, rfl, HR.out⟩
  clear hown hgrow hnil hb' hrow' hbw' A hN HR
  go_wp2
  go_loopg [4] (invs l + 1) (fun g1 vg wr => ∃ (t : Bool), vg = .bool t ∧ Aside (∃ cur, BubAt w.heap.size b N l w wr cur ∧ invs cur + (if t then 1 else 0) ≤ g1 ∧ (t = false → Good cur)))
  case atStart => exact ⟨true, rfl, ⟨l, B0.out, by simp, fun h => by cases h⟩⟩
  case round =>
    clear B0
    obtain ⟨t, rfl, HB⟩ := hrel
    cases t with
    | false =>
      go_wp2
      go_ret
      obtain ⟨cur, ⟨h1, h2, h3, h4, h5⟩, _, hg⟩ := HB.out
      have := good_orderV (l := cur) (by first | exact hg rfl | exact hg trivial)
      rw [h4] at this
      rw [← this] at h2
      first
        | exact ⟨b, ⟨c, rfl⟩, hb.out, h2, h1⟩
        | exact ⟨b, c, rfl, hb.out, h2, h1⟩
    | true =>
      obtain ⟨cur0, hB0, hI0, _⟩ := HB.out
      have HB0 : Aside (BubAt w.heap.size b N l w wr cur0) := hB0
      have HI0 : Aside (invs cur0 + 1 ≤ gk) := by { show invs cur0 + 1 ≤ gk; simpa using hI0 }
      clear hB0 hI0 HB
      go_wp2
      go_loopg [4, 5] (N + 1) (fun g2 vg vi wr => ∃ (t : Bool) (i : Nat), vg = .bool t ∧ vi = .int .i64 i ∧ i ≤ N ∧ N - i ≤ g2 ∧ Aside (∃ cur, BubAt w.heap.size b N l w wr cur ∧ invs cur + (if t then 1 else 0) ≤ invs cur0 ∧ (t = false → GoodTo i cur)))
      case atStart => exact ⟨false, 0, rfl, rfl, by omega, by omega, ⟨cur0, HB0.out, by simp, fun _ A x y Q _ h => by omega⟩⟩
      case round =>
        clear HB0
        obtain ⟨t, i, rfl, rfl, hiN, hg2, HB⟩ := hrel
        obtain ⟨cur, hB, hI, hG⟩ := HB.out
        have HI : Aside (invs cur + (if t then 1 else 0) ≤ invs cur0) := hI
        have HG : Aside (t = false → GoodTo i cur) := hG
        have HB1 : Aside (BubAt w.heap.size b N l w wr cur) := hB
        clear hB hI hG HB
        by_cases hlt2 : i + 1 < N
        · have hltz : (i : Int) + 1 < (N : Int) := by omega
          obtain ⟨A, x, y, Q, hcur, hA⟩ := parts_at (l := cur) (i := i) (by have := HB1.out.2.2.1; omega)
          subst hcur
          have hrx := HB1.out.2.2.2.2 x (by simp)
          have hry := HB1.out.2.2.2.2 y (by simp)
          have kx := HK.out x hrx.1 hrx.2
          have ky := HK.out y hry.1 hry.2
          obtain ⟨iN, hiN1⟩ : ∃ q, q = i + 1 := ⟨_, rfl⟩
          have en : ((i : Int) + 1).toNat = iN := by omega
          have bi : (i : Int) < (N : Int) := by omega
          have pn : (0 : Int) ≤ (i : Int) + 1 := by omega
          have rn : IntKind.i64.wrap ((i : Int) + 1) = (i : Int) + 1 := by rw [IntKind.wrap_i64]; omega
          have l1 : ∀ n os, (grow (wr.drewN n) os).cell? ⟨b, i, none⟩ = some (.int .i32 x) := fun n os => by
            have := (HB1.out.2.1.grown n os).at
            rw [hA] at this
            exact this
          have l2 : ∀ n os, (grow (wr.drewN n) os).cell? ⟨b, iN, none⟩ = some (.int .i32 y) := fun n os => by
            have h0 := HB1.out.2.1.grown n os
            rw [show A ++ x :: y :: Q = (A ++ [x]) ++ y :: Q by simp] at h0
            have := h0.at
            rw [List.length_append, hA] at this
            rw [hiN1]
            exact this
          have HA : Aside (A.length = i ∧ iN = i + 1) := ⟨hA, hiN1⟩
          clear hA hiN1 hrx hry
          go_wp2_with fail
          have KK : ∀ r, (r = x ∨ r = y) → ∀ w, Calls Tryd.prog 11 #[.int .i32 r] w fun e w' => e = .returned (.int .i64 (kOf r)) ∧ ∃ q os, w' = grow (w.drewN q) os := fun r hr => by rcases hr with rfl | rfl; exact kx; exact ky
          clear kx ky
          go_quiet_grown (first | (go_at_call 11; refine Calls.grown_of (KK _ (by first | exact Or.inl rfl | exact Or.inr rfl) _)))
          have hB2 : Aside (BubAt w.heap.size b N l w (grow (wr.drewN nq) osq) (A ++ x :: y :: Q)) := by
            obtain ⟨h1, h2, h3, h4, h5⟩ := HB1.out
            exact ⟨h1.trans (below_grown nq osq _ h1.size), h2.grown nq osq, h3, h4, h5⟩
          clear l1 l2 HB1 KK
          generalize grow (wr.drewN nq) osq = w2 at hB2 ⊢
          clear nq osq
          by_cases q1 : 0 < kOf y
          · by_cases q2 : kOf y < kOf x
            · have c3a : w2.cell? ⟨b, i, none⟩ = some (enc32 x) := by
                have := hB2.out.2.1.at
                rw [HA.out.1] at this
                exact this
              have h0 := hB2.out.2.1
              rw [show A ++ x :: y :: Q = (A ++ [x]) ++ y :: Q by simp] at h0
              have c3b : w2.cell? ⟨b, iN, none⟩ = some (enc32 y) := by
                have := h0.at
                rw [List.length_append, HA.out.1] at this
                rw [HA.out.2]
                exact this
              have f3a : w2.frozen? ⟨b, i, none⟩ = false := by
                have := (hB2.out.2.1.1 i (by have := HA.out.1; simp; omega)).2
                rw [Nat.zero_add] at this
                exact this
              have f3b : w2.frozen? ⟨b, iN, none⟩ = false := by
                have := (hB2.out.2.1.1 iN (by have := HA.out; simp; omega)).2
                rw [Nat.zero_add] at this
                exact this
              have c3c : (w2.setCell ⟨b, i, none⟩ (enc32 y)).cell? ⟨b, iN, none⟩ = some (enc32 y) := (World.cell?_setCell_other _ _ _ _ (by intro e'; have := HA.out.2; simp only [Addr.mk.injEq] at e'; omega)).trans c3b
              have hst := oneCell32.store Tryd.prog
              have hcl0 := oneCell32.cells
              simp only [Value.cells] at hcl0
              have hB3 : Aside (BubAt w.heap.size b N l w ((w2.setCell ⟨b, i, none⟩ (enc32 y)).setCell ⟨b, iN, none⟩ (enc32 x)).drew (A ++ y :: x :: Q)) := by
                obtain ⟨h1, h2, h3, h4, h5⟩ := hB2.out
                obtain ⟨g1, g2⟩ := h2.swap HA.out.1
                rw [HA.out.2]
                refine ⟨h1.trans ⟨g2.os, g2.tape, g2.output, g2.size, fun k hk => g2.block k (Nat.lt_of_lt_of_le hk hb.out)⟩, g1, by rw [← h3]; simp, by rw [← h4]; exact (orderA_swap A [] Q x y q1 q2).symm, fun z hz => h5 z (by { simp only [List.mem_append, List.mem_cons] at hz ⊢; exact hz.elim Or.inl fun h => h.elim (fun h => Or.inr (Or.inr (Or.inl h))) fun h => h.elim (fun h => Or.inr (Or.inl h)) fun h => Or.inr (Or.inr (Or.inr h)) })⟩
              clear hB2 h0
              go_wp2_with fail
              go_big_region_o
              clear c3a c3b c3c f3a f3b
              generalize ((w2.setCell ⟨b, i, none⟩ (enc32 y)).setCell ⟨b, iN, none⟩ (enc32 x)).drew = w3 at hB3 ⊢
              clear en
              go_wp2
              go_roundg (N - (i + 1))
              case measure => omega
              case rel =>
                exact ⟨true, i + 1, rfl, by first | rfl | go_num, by omega, by omega, ⟨A ++ y :: x :: Q, hB3.out, by have h1 := HI.out; have h2 := invs_swap A Q x y q2; simp only [if_true]; omega, fun h => by cases h⟩⟩
            · go_wp2
              go_roundg (N - (i + 1))
              case measure => omega
              case rel =>
                exact ⟨t, i + 1, rfl, by first | rfl | go_num, by omega, by omega, ⟨A ++ x :: y :: Q, hB2.out, HI.out, fun ht => goodTo_step (HG.out ht) HA.out.1 (fun h => by have := h.2; omega)⟩⟩
          · go_wp2
            go_roundg (N - (i + 1))
            case measure => omega
            case rel =>
              exact ⟨t, i + 1, rfl, by first | rfl | go_num, by omega, by omega, ⟨A ++ x :: y :: Q, hB2.out, HI.out, fun ht => goodTo_step (HG.out ht) HA.out.1 (fun h => by have := h.1; omega)⟩⟩
        · have hltz : ¬ (i : Int) + 1 < (N : Int) := by omega
          go_wp2
          go_roundg (invs cur0)
          case measure => have := HI0.out; omega
          case rel =>
            exact ⟨t, rfl, ⟨cur, HB1.out, HI.out, fun ht => goodTo_good cur i (by have := HB1.out.2.2.1; omega) (HG.out ht)⟩⟩
end Go.Proofs.YtkadmnabhoijdaaDoor.Look
