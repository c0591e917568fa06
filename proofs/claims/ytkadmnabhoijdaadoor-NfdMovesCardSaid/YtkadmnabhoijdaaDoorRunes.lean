/- amanuensisref01.Runes: two rows of runes are the same. -/
import Derived.Test.YtkadmnabhoijdaaDoorOrd
set_option linter.unusedVariables false
namespace Go.Proofs.YtkadmnabhoijdaaDoor.Look
open Go Go.RowKit Go.Shelf Go.Proofs Go.Lib Go.Sort
open Go.Proofs.YtkadmnabhoijdaaDoor.Stab

/-- A slice value that holds runes, in an old block. -/
def SlO (w : World) (v : Value) (l : List Int) : Prop := ∃ b off c, v = .slice (some ⟨b, off, none⟩) l.length c ∧ b < w.heap.size ∧ ∀ j x, l[j]? = some x → w.cell? ⟨b, off + j, none⟩ = some (enc32 x)
theorem SlO.slv {w : World} {v : Value} {l : List Int} (h : SlO w v l) : SlV w v l := by
  obtain ⟨b, off, c, e, _, hc⟩ := h
  exact ⟨b, off, c, e, hc⟩
theorem RowL.slo {w : World} {b c : Nat} {l : List Int} (h : RowL w b l) : SlO w (.slice (some ⟨b, 0, none⟩) l.length c) l :=
  ⟨b, 0, c, rfl, h.2, fun j x hx => by
    obtain ⟨hj, e⟩ := List.getElem?_eq_some_iff.1 hx
    have := (h.1 j (by simpa using hj)).1
    rw [toArray_at _ _ hj, e] at this
    exact this⟩
theorem SlO.below {w w' : World} {v : Value} {l : List Int} {B : Nat} (h : SlO w v l) (hb : Below B w w') (hB : w.heap.size ≤ B) : SlO w' v l := by
  obtain ⟨b, off, c, e, hlt, hc⟩ := h
  exact ⟨b, off, c, e, Nat.lt_of_lt_of_le hlt hb.size, fun j x hx => by
    have := hc j x hx
    simp only [World.cell?] at this ⊢
    rw [hb.block b (Nat.lt_of_lt_of_le hlt hB)]
    exact this⟩

set_option maxHeartbeats 16000000 in
set_option maxRecDepth 1000000 in
theorem runes (va vb : Value) (la lb : List Int) (w : World) (ha : SlO w va la) (hb : SlO w vb lb) (hna : la.length ≤ 1000000000000) (hnb : lb.length ≤ 1000000000000) :
    Calls Tryd.prog 9 #[va, vb] w fun e w' => e = .returned (.bool (decide (la = lb))) ∧ Below w.heap.size w w' := by
  have mixed : Tryd.prog.follows Departure.mixedOrders = true := by kernel_rfl
  obtain ⟨b1, o1, c1, rfl, hb1, hc1⟩ := ha
  obtain ⟨b2, o2, c2, rfl, hb2, hc2⟩ := hb
  obtain ⟨N, hN⟩ : ∃ N, N = la.length := ⟨_, rfl⟩
  obtain ⟨M, hM⟩ : ∃ M, M = lb.length := ⟨_, rfl⟩
  rw [← hN] at hna ⊢
  rw [← hM] at hnb ⊢
  have HL : Aside (N = la.length ∧ M = lb.length) := ⟨hN, hM⟩
  have H1 : Aside (∀ j x, la[j]? = some x → w.cell? ⟨b1, o1 + j, none⟩ = some (enc32 x)) := hc1
  have H2 : Aside (∀ j x, lb[j]? = some x → w.cell? ⟨b2, o2 + j, none⟩ = some (enc32 x)) := hc2
  clear hc1 hc2 hN hM
  obtain ⟨res, hres⟩ : ∃ r, r = decide (la = lb) := ⟨_, rfl⟩
  rw [← hres]
  have HR : Aside (res = decide (la = lb)) := hres
  clear hres
  go_enter Tryd.func9, Tryd.ntmps9
  by_cases hNM : N = M
  · subst hNM
    go_wp2
    go_loopg [5] N (fun g1 vi wr => ∃ (i : Nat), vi = .int .i64 i ∧ i ≤ N ∧ N - i ≤ g1 ∧ Aside ((∃ q os, wr = grow (w.drewN q) os) ∧ la.take i = lb.take i))
    case atStart => exact ⟨0, rfl, by omega, by omega, ⟨⟨0, #[], by rw [grow_empty]; rfl⟩, rfl⟩⟩
    case round =>
      obtain ⟨i, rfl, hi, hg1, HI⟩ := hrel
      by_cases hlt : i < N
      · have hltz : (i : Int) < (N : Int) := by omega
        obtain ⟨x, hx⟩ : ∃ x, la[i]? = some x := ⟨_, List.getElem?_eq_getElem (by have := HL.out; omega)⟩
        obtain ⟨y, hy⟩ : ∃ y, lb[i]? = some y := ⟨_, List.getElem?_eq_getElem (by have := HL.out; omega)⟩
        have l1 : ∀ n os, (grow (wr.drewN n) os).cell? ⟨b1, o1 + i, none⟩ = some (enc32 x) := fun n os => by
          obtain ⟨⟨q, os0, rfl⟩, _⟩ := HI.out
          rw [cell?_grow _ _ _ (by show b1 < (grow (w.drewN q) os0).heap.size; rw [size_grow]; exact Nat.lt_of_lt_of_le hb1 (Nat.le_add_right _ _))]
          show (grow (w.drewN q) os0).cell? _ = _
          rw [cell?_grow _ _ _ (by exact hb1)]
          exact H1.out i x hx
        have l2 : ∀ n os, (grow (wr.drewN n) os).cell? ⟨b2, o2 + i, none⟩ = some (enc32 y) := fun n os => by
          obtain ⟨⟨q, os0, rfl⟩, _⟩ := HI.out
          rw [cell?_grow _ _ _ (by show b2 < (grow (w.drewN q) os0).heap.size; rw [size_grow]; exact Nat.lt_of_lt_of_le hb2 (Nat.le_add_right _ _))]
          show (grow (w.drewN q) os0).cell? _ = _
          rw [cell?_grow _ _ _ (by exact hb2)]
          exact H2.out i y hy
        have HX : Aside (la[i]? = some x ∧ lb[i]? = some y) := ⟨hx, hy⟩
        clear hx hy
        have hu : enc32 x = .int .i32 x ∧ enc32 y = .int .i32 y := ⟨rfl, rfl⟩
        rw [hu.1] at l1
        rw [hu.2] at l2
        clear hu
        go_wp2_with fail
        go_quiet_grown (fail)
        have HI2 : Aside (∃ q os, grow (wr.drewN nq) osq = grow (w.drewN q) os) := by
          obtain ⟨⟨q, os0, rfl⟩, _⟩ := HI.out
          exact grow_two _ _ _ _ _
        have HT : Aside (la.take i = lb.take i) := HI.out.2
        clear l1 l2 HI
        generalize grow (wr.drewN nq) osq = w2 at HI2 ⊢
        clear nq osq
        by_cases hxy : x = y
        · subst hxy
          go_wp2
          go_roundg (N - (i + 1))
          case measure => omega
          case rel =>
            exact ⟨i + 1, by first | rfl | go_num, by omega, by omega, ⟨HI2.out, by rw [List.take_add_one, List.take_add_one, HT.out, HX.out.1, HX.out.2]⟩⟩
        · have hxb : (x == y) = false := by simpa using hxy
          go_wp2
          go_ret
          obtain ⟨q, os, rfl⟩ := HI2.out
          refine ⟨?_, below_grown q os _ (Nat.le_refl _)⟩
          have : res = false := by
            rw [HR.out]
            refine decide_eq_false fun e => hxy ?_
            have := HX.out
            rw [e] at this
            simpa using this.1.symm.trans this.2
          rw [this]; rfl
      · have hltz : ¬ (i : Int) < (N : Int) := by omega
        go_wp2
        go_ret
        obtain ⟨⟨q, os, rfl⟩, ht⟩ := HI.out
        refine ⟨?_, below_grown q os _ (Nat.le_refl _)⟩
        have : res = true := by
          rw [HR.out]
          refine decide_eq_true ?_
          rw [List.take_of_length_le (by have := HL.out; omega), List.take_of_length_le (by have := HL.out; omega)] at ht
          exact ht
        rw [this]; rfl
  · have hNMz : ¬ (N : Int) = (M : Int) := by omega
    have hNMb : ((N : Int) == (M : Int)) = false := by simpa using hNMz
    go_wp2
    go_ret
    refine ⟨?_, Below.refl _ _⟩
    have : res = false := by
      rw [HR.out]
      exact decide_eq_false fun e => hNM (by rw [HL.out.1, HL.out.2, e])
    rw [this]; rfl
end Go.Proofs.YtkadmnabhoijdaaDoor.Look
