/- (*reader).next at a byte that stands for itself, and at a code. -/
import Derived.Test.YtemhfcgkfdklhaaGreatDoorNext
set_option linter.all false
namespace Go.Proofs.YtemhfcgkfdklhaaGreatDoor.Look
open Go Go.RowKit Go.Shelf Go.Proofs Go.Proofs.YtemhfcgkfdklhaaGreatDoor.Rd
open Go.Proofs.YtemhfcgkfdklhaaGreatDoor.Idx (W64 Idx Adds tabA)

theorem PutOk.res {wr W W1 W' : World} {rb lim r : Nat} {xp bs : Value} {s' : RS} (h : PutOk wr W1 rb lim xp bs s' W') (hb : Below W.heap.size W W1) (hlim : lim ≤ W.heap.size) (hrw : rb < W.heap.size) (hr : r = W.heap.size) (ht : W1.heap[r]? = some (.cells #[.int .i64 0, .int .i64 0] 26)) (u1 u2 : Value) :
    PutOk wr W rb lim xp bs s' ((W'.setCell ⟨r, 0, none⟩ u1).setCell ⟨r, 1, none⟩ u2) := by
  obtain ⟨⟨⟨vo, vm, h1, h2, h3, h4, h5, h6⟩, hbl⟩, hB, hk⟩ := h
  have hne : r ≠ rb := by omega
  have hrl : r < W1.heap.size := (Array.getElem?_eq_some_iff.1 ht).1
  have ht' : W'.heap[r]? = some (.cells #[.int .i64 0, .int .i64 0] 26) := (hk r (by omega) hrl hne).trans ht
  have hset : ∀ {X : World}, Below rb X W' → Below rb X ((W'.setCell ⟨r, 0, none⟩ u1).setCell ⟨r, 1, none⟩ u2) := fun hX => (hX.setCell (p := ⟨r, 0, none⟩) (by show rb ≤ r; omega) _).setCell (p := ⟨r, 1, none⟩) (by show rb ≤ r; omega) _
  have hK : ∀ k, k ≠ r → ((W'.setCell ⟨r, 0, none⟩ u1).setCell ⟨r, 1, none⟩ u2).heap[k]? = W'.heap[k]? := fun k k2 => by
    rw [heap_put k2, heap_put k2]
  have hrow : ∀ v (l : List Int), OwnR W' (rb + 1) v l → OwnR ((W'.setCell ⟨r, 0, none⟩ u1).setCell ⟨r, 1, none⟩ u2) (rb + 1) v l := fun v l hv => by
    refine World.ownsRow.kept (row := some r) hv ((grown_put _ r 0 u1).trans (grown_put _ r 1 u2)) ?_
    rcases hv.2 with ⟨rfl, h0⟩ | ⟨g, cap, cur, rfl, _, hg, _⟩
    · exact .inl rfl
    · refine .inr fun e => ?_
      obtain rfl : g = r := by simpa [Value.ownBlock] using e
      rw [ht'] at hg
      simp at hg
  refine ⟨⟨⟨vo, vm, ?_, hrow vo _ h2, hrow vm _ h3, h4, fun g hg => ?_, fun g hg => ?_⟩, hset hbl⟩, hset ((hb.mono (Nat.le_of_lt hrw)).trans hB), fun k k1 k2 k3 => (hK k (by omega)).trans ((hk k k1 (Nat.lt_of_lt_of_le k2 hb.size) k3).trans (hb.block k k2))⟩
  · exact ⟨fun k v hk => (World.cell?_of_block (a := ⟨rb, k, none⟩) (hK rb (Ne.symm hne))).trans (h1.cell k v hk), fun k => by simpa using h1.free k, by simpa using h1.lt⟩
  · have := h5 g hg; simpa using this
  · have := h6 g hg; simpa using this

set_option maxHeartbeats 8000000 in
set_option maxRecDepth 100000 in
theorem cNextPlain (wr W : World) (rb lim b off cb : Nat) (xp : Value) (l : List Int) (s : RS) (c : Int) (h : RA wr W rb lim xp (.slice (some ⟨b, off, none⟩) l.length cb) s) (hb : b < rb) (hl : ∀ j x, l[j]? = some x → wr.cell? ⟨b, off + j, none⟩ = some (.int .u8 x)) (hc : l[s.pos]? = some c) (h27 : c ≠ 27) (hcb : l.length ≤ cb) (hcN : cb ≤ 9223372036854775807) (hn2 : l.length ≤ 2000000) (hlim : lim ≤ W.heap.size) (hom : s.out.length + s.marks.length ≤ 2000000) (T : Tab) (r : Int) (hr : plainV c = some r) :
    Calls Tryz.prog 33 #[.pointer (some ⟨rb, 0, none⟩)] W fun e W' => NextOk wr W rb lim xp (.slice (some ⟨b, off, none⟩) l.length cb) (nextV markV T l s) e W' := by
  have hpos : s.pos < l.length := (List.getElem?_eq_some_iff.1 hc).1
  have hd : l.drop s.pos = c :: l.drop (s.pos + 1) := by
    rw [List.drop_eq_getElem_cons hpos]
    rw [List.getElem?_eq_getElem hpos] at hc
    rw [Option.some.inj hc]
  have hcf := h.cf hb hl
  have hrw := hcf.rlt
  obtain ⟨W0, hW0⟩ : ∃ W0, W0 = (W.alloc (.cells #[.int .i64 0, .int .i64 0] 26)).drew := ⟨_, rfl⟩
  have hbW : Below W.heap.size W W0 := by rw [hW0]; exact ((Below.refl _ W).alloc (Nat.le_refl _) _).drew
  have hF := hcf.below hbW hcf.rlt hcf.blt
  have ht0 : W0.heap[W.heap.size]? = some (.cells #[.int .i64 0, .int .i64 0] 26) := by rw [hW0]; exact (MapKept.heap_alloc W _).1
  have y1 := hF.c1
  have y2 := hF.c2
  have yb := hF.cl _ _ hc
  obtain ⟨W1, hW1⟩ : ∃ W1, W1 = W0.drew := ⟨_, rfl⟩
  have hb1 : Below W.heap.size W W1 := by rw [hW1]; exact hbW.drew
  have ht1 : W1.heap[W.heap.size]? = some (.cells #[.int .i64 0, .int .i64 0] 26) := by rw [hW1]; exact ht0
  have hR1 : RA wr W1 rb lim xp (.slice (some ⟨b, off, none⟩) l.length cb) s := h.go hb1 (Nat.le_refl _)
  have hz1 : Cells2 W1 W.heap.size 0 0 := cells2_of _ ht1
  have hF1 := hcf.below hb1 hcf.rlt hcf.blt
  rw [nextV_cons hd, if_neg h27]
  have hPl := fun X => cPlain c X
  rw [hr] at hPl ⊢
  dsimp only
  simp only [Option.getD_some, Option.isSome_some] at hPl
  have HF : Aside (Below W.heap.size W W1 ∧ W1.heap[W.heap.size]? = some (.cells #[.int .i64 0, .int .i64 0] 26) ∧ lim ≤ W.heap.size) := ⟨hb1, ht1, hlim⟩
  obtain ⟨vo, vm, hC, hO, hM, _, _, _⟩ := hR1.ex
  obtain ⟨am, cm, rfl⟩ := hM.form
  have x6 := hC.cell 6 _ rfl
  have x7 := hC.cell 7 _ rfl
  obtain ⟨N, hN⟩ : ∃ N, N = l.length := ⟨_, rfl⟩
  obtain ⟨p, hp⟩ : ∃ p, p = s.pos := ⟨_, rfl⟩
  rw [← hN] at y1
  rw [← hp] at y2 yb
  have hpN : (p : Int) < (N : Int) := by omega
  have hp0 : (0 : Int) ≤ (p : Int) := by omega
  have hNN : (N : Int) ≤ 9223372036854775807 := by omega
  have n2 : W.heap.size ≠ rb := by omega
  have n5 : rb ≠ W.heap.size := n2.symm
  obtain ⟨wh, hwh⟩ : ∃ wh, wh = s.wh := ⟨_, rfl⟩
  rw [← hwh] at x7
  obtain ⟨M, hMl⟩ : ∃ M, M = s.marks.length := ⟨_, rfl⟩
  rw [← hMl] at x6
  clear hC hO hM hcf hF hd hl hbW ht0 hb1 ht1 hF1 hlim
  have HR : Aside (RA wr W1 rb lim xp (.slice (some ⟨b, off, none⟩) l.length cb) s ∧ N = l.length ∧ p = s.pos ∧ wh = s.wh ∧ M = s.marks.length ∧ l[s.pos]? = some c ∧ l.length ≤ 2000000 ∧ s.out.length + s.marks.length ≤ 2000000 ∧ rb < W.heap.size ∧ s.pos < l.length) := ⟨hR1, hN, hp, hwh, hMl, hc, hn2, hom, hrw, hpos⟩
  clear hR1 hN hp hwh hc hn2 hom h
  by_cases hm : s.marks = []
  · rw [if_neg (show ¬ (s.marks ≠ []) from fun h => h hm)]
    obtain rfl : M = 0 := by rw [hMl, hm]; rfl
    clear hMl hm x7
    have HP : Hid (Calls Tryz.prog 48 #[.pointer (some ⟨rb, 0, none⟩), .int .i32 r, .int .i64 1] W1 fun e W' => e = .returned (.tuple #[]) ∧ Cells2 W' W.heap.size 0 0 ∧ Aside (PutOk wr W1 rb lim xp (.slice (some ⟨b, off, none⟩) l.length cb) (putS markV s r 1) W')) := by
      have hll := HF.out.2.2
      have hsz := HF.out.1.size
      refine (cPut wr W1 rb lim xp _ s r 1 HR.out.1 (by omega) (by omega) HR.out.2.2.2.2.2.2.2.1 (by have := HR.out.2.2.2.2.2.2; omega)).mono ?_
      rintro e W' ⟨rfl, hP⟩
      exact ⟨rfl, cells2_of _ ((hP.keep _ hll hz1.lt (by have := HR.out.2.2.2.2.2.2.2.2.1; omega)).trans HF.out.2.1), hP⟩
    clear hz1 hcb hcN hpos hrw
    go_enter Tryz.func33, Tryz.ntmps33
    go_wp2
    rw [hW0] at y1 y2 yb
    refine wp_region_held_drew (S := fun w' => w'.cell? ⟨rb, 1, none⟩ = some (.slice (some ⟨b, off, none⟩) N cb) ∧ w'.cell? ⟨rb, 2, none⟩ = some (.int .i64 (p : Int)) ∧ w'.cell? ⟨b, off + p, none⟩ = some (.int .u8 c)) (by kernel_rfl) ⟨y1, y2, yb⟩ (fun hHeld => ?_)
    refine wpAnyH_take (i := 0) (v := ?v0_1) rfl (by kernel_rfl) (by kernel_rfl) (by kernel_rfl) (fun _ _ _ h => h) (Or.inl ⟨by kernel_rfl, ?h0_1⟩) hHeld ?r0_1
    case h0_1 => (rintro w' ⟨q0, q1, q2⟩; go_simp; try (with_reducible rfl))
    try simp only [Act.put, List.getElem_toArray, List.getElem_cons_zero, List.getElem_cons_succ, List.setIfInBounds_toArray, List.set_cons_zero, List.set_cons_succ]
    refine wpAnyH_take (i := 1) (v := ?v1_2) rfl (by kernel_rfl) (by kernel_rfl) (by kernel_rfl) (fun _ _ _ h => h) (Or.inl ⟨by kernel_rfl, ?h1_2⟩) hHeld ?r1_2
    case h1_2 => (rintro w' ⟨q0, q1, q2⟩; go_simp; try (with_reducible rfl))
    try simp only [Act.put, List.getElem_toArray, List.getElem_cons_zero, List.getElem_cons_succ, List.setIfInBounds_toArray, List.set_cons_zero, List.set_cons_succ]
    refine wpAnyH_take (i := 2) (v := ?v2_3) rfl (by kernel_rfl) (by kernel_rfl) (by kernel_rfl) (fun _ _ _ h => h) (Or.inl ⟨by kernel_rfl, ?h2_3⟩) hHeld ?r2_3
    case h2_3 => (rintro w' ⟨q0, q1, q2⟩; go_simp; try (with_reducible rfl))
    try simp only [Act.put, List.getElem_toArray, List.getElem_cons_zero, List.getElem_cons_succ, List.setIfInBounds_toArray, List.set_cons_zero, List.set_cons_succ]
    refine wpAnyH_take (i := 3) (v := ?v3_4) rfl (by kernel_rfl) (by kernel_rfl) (by kernel_rfl) (fun _ _ _ h => h) (Or.inl ⟨by kernel_rfl, ?h3_4⟩) hHeld ?r3_4
    case h3_4 => (rintro w' ⟨q0, q1, q2⟩; go_simp; try (with_reducible rfl))
    try simp only [Act.put, List.getElem_toArray, List.getElem_cons_zero, List.getElem_cons_succ, List.setIfInBounds_toArray, List.set_cons_zero, List.set_cons_succ]
    refine wpAnyH_take (i := 4) (v := ?v4_5) rfl (by kernel_rfl) (by kernel_rfl) (by kernel_rfl) (fun _ _ _ h => h) (Or.inl ⟨by kernel_rfl, ?h4_5⟩) hHeld ?r4_5
    case h4_5 => (rintro w' ⟨q0, q1, q2⟩; go_simp; try (with_reducible rfl))
    try simp only [Act.put, List.getElem_toArray, List.getElem_cons_zero, List.getElem_cons_succ, List.setIfInBounds_toArray, List.set_cons_zero, List.set_cons_succ]
    refine wpAnyH_take (i := 5) (v := ?v5_6) rfl (by kernel_rfl) (by kernel_rfl) (by kernel_rfl) (fun _ _ _ h => h) (Or.inl ⟨by kernel_rfl, ?h5_6⟩) hHeld ?r5_6
    case h5_6 => (rintro w' ⟨q0, q1, q2⟩; go_simp; try (with_reducible rfl))
    try simp only [Act.put, List.getElem_toArray, List.getElem_cons_zero, List.getElem_cons_succ, List.setIfInBounds_toArray, List.set_cons_zero, List.set_cons_succ]
    refine wpAnyH_take (i := 6) (v := ?v6_7) rfl (by kernel_rfl) (by kernel_rfl) (by kernel_rfl) (fun _ _ _ h => h) (Or.inl ⟨by kernel_rfl, ?h6_7⟩) hHeld ?r6_7
    case h6_7 => (rintro w' ⟨q0, q1, q2⟩; go_simp; try (with_reducible rfl))
    try simp only [Act.put, List.getElem_toArray, List.getElem_cons_zero, List.getElem_cons_succ, List.setIfInBounds_toArray, List.set_cons_zero, List.set_cons_succ]
    refine wpAnyH_take (i := 7) (v := ?v7_8) rfl (by kernel_rfl) (by kernel_rfl) (by kernel_rfl) (fun _ _ _ h => h) (Or.inl ⟨by kernel_rfl, ?h7_8⟩) hHeld ?r7_8
    case h7_8 => (rintro w' ⟨q0, q1, q2⟩; go_simp; try (with_reducible rfl))
    try simp only [Act.put, List.getElem_toArray, List.getElem_cons_zero, List.getElem_cons_succ, List.setIfInBounds_toArray, List.set_cons_zero, List.set_cons_succ]
    refine wpAnyH_take (i := 8) (v := ?v8_9) rfl (by kernel_rfl) (by kernel_rfl) (by kernel_rfl) (fun _ _ _ h => h) (Or.inl ⟨by kernel_rfl, ?h8_9⟩) hHeld ?r8_9
    case h8_9 => (rintro w' ⟨q0, q1, q2⟩; go_simp; try (with_reducible rfl))
    try simp only [Act.put, List.getElem_toArray, List.getElem_cons_zero, List.getElem_cons_succ, List.setIfInBounds_toArray, List.set_cons_zero, List.set_cons_succ]
    refine wpAnyH_take (i := 9) (v := ?v9_10) rfl (by kernel_rfl) (by kernel_rfl) (by kernel_rfl) (fun _ _ _ h => h) (Or.inl ⟨by kernel_rfl, ?h9_10⟩) hHeld ?r9_10
    case h9_10 => (rintro w' ⟨q0, q1, q2⟩; go_simp; try (with_reducible rfl))
    try simp only [Act.put, List.getElem_toArray, List.getElem_cons_zero, List.getElem_cons_succ, List.setIfInBounds_toArray, List.set_cons_zero, List.set_cons_succ]
    refine wpAnyH_take (i := 10) (v := ?v10_11) rfl (by kernel_rfl) (by kernel_rfl) (by kernel_rfl) (fun _ _ _ h => h) (Or.inl ⟨by kernel_rfl, ?h10_11⟩) hHeld ?r10_11
    case h10_11 => (rintro w' ⟨q0, q1, q2⟩; go_simp; try (with_reducible rfl))
    try simp only [Act.put, List.getElem_toArray, List.getElem_cons_zero, List.getElem_cons_succ, List.setIfInBounds_toArray, List.set_cons_zero, List.set_cons_succ]
    refine wpAnyH_done (by kernel_rfl) ?_ _
    try simp only [Act.put, List.getElem_toArray, List.getElem_cons_zero, List.getElem_cons_succ, List.setIfInBounds_toArray, List.set_cons_zero, List.set_cons_succ]
    rw [← hW0]
    rw [← hW0] at y1 y2 yb
    clear hW0
    have h27b : (c == 27) = false := by simpa using h27
    clear h27
    go_wp2
    refine wp_region_held_drew (S := fun w' => w'.cell? ⟨rb, 1, none⟩ = some (.slice (some ⟨b, off, none⟩) N cb) ∧ w'.cell? ⟨rb, 2, none⟩ = some (.int .i64 (p : Int)) ∧ w'.cell? ⟨b, off + p, none⟩ = some (.int .u8 c)) (by kernel_rfl) ⟨y1, y2, yb⟩ (fun hHeld => ?_)
    refine wpAnyH_take (i := 0) (v := ?v0_12) rfl (by kernel_rfl) (by kernel_rfl) (by kernel_rfl) (fun _ _ _ h => h) (Or.inl ⟨by kernel_rfl, ?h0_12⟩) hHeld ?r0_12
    case h0_12 => (rintro w' ⟨q0, q1, q2⟩; go_simp; try (with_reducible rfl))
    try simp only [Act.put, List.getElem_toArray, List.getElem_cons_zero, List.getElem_cons_succ, List.setIfInBounds_toArray, List.set_cons_zero, List.set_cons_succ]
    refine wpAnyH_take (i := 1) (v := ?v1_13) rfl (by kernel_rfl) (by kernel_rfl) (by kernel_rfl) (fun _ _ _ h => h) (Or.inl ⟨by kernel_rfl, ?h1_13⟩) hHeld ?r1_13
    case h1_13 => (rintro w' ⟨q0, q1, q2⟩; go_simp; try (with_reducible rfl))
    try simp only [Act.put, List.getElem_toArray, List.getElem_cons_zero, List.getElem_cons_succ, List.setIfInBounds_toArray, List.set_cons_zero, List.set_cons_succ]
    refine wpAnyH_take (i := 2) (v := ?v2_14) rfl (by kernel_rfl) (by kernel_rfl) (by kernel_rfl) (fun _ _ _ h => h) (Or.inl ⟨by kernel_rfl, ?h2_14⟩) hHeld ?r2_14
    case h2_14 => (rintro w' ⟨q0, q1, q2⟩; go_simp; try (with_reducible rfl))
    try simp only [Act.put, List.getElem_toArray, List.getElem_cons_zero, List.getElem_cons_succ, List.setIfInBounds_toArray, List.set_cons_zero, List.set_cons_succ]
    refine wpAnyH_take (i := 3) (v := ?v3_15) rfl (by kernel_rfl) (by kernel_rfl) (by kernel_rfl) (fun _ _ _ h => h) (Or.inl ⟨by kernel_rfl, ?h3_15⟩) hHeld ?r3_15
    case h3_15 => (rintro w' ⟨q0, q1, q2⟩; go_simp; try (with_reducible rfl))
    try simp only [Act.put, List.getElem_toArray, List.getElem_cons_zero, List.getElem_cons_succ, List.setIfInBounds_toArray, List.set_cons_zero, List.set_cons_succ]
    refine wpAnyH_take (i := 4) (v := ?v4_16) rfl (by kernel_rfl) (by kernel_rfl) (by kernel_rfl) (fun _ _ _ h => h) (Or.inl ⟨by kernel_rfl, ?h4_16⟩) hHeld ?r4_16
    case h4_16 => (rintro w' ⟨q0, q1, q2⟩; go_simp; try (with_reducible rfl))
    try simp only [Act.put, List.getElem_toArray, List.getElem_cons_zero, List.getElem_cons_succ, List.setIfInBounds_toArray, List.set_cons_zero, List.set_cons_succ]
    refine wpAnyH_take (i := 5) (v := ?v5_17) rfl (by kernel_rfl) (by kernel_rfl) (by kernel_rfl) (fun _ _ _ h => h) (Or.inl ⟨by kernel_rfl, ?h5_17⟩) hHeld ?r5_17
    case h5_17 => (rintro w' ⟨q0, q1, q2⟩; go_simp; try (with_reducible rfl))
    try simp only [Act.put, List.getElem_toArray, List.getElem_cons_zero, List.getElem_cons_succ, List.setIfInBounds_toArray, List.set_cons_zero, List.set_cons_succ]
    refine wpAnyH_take (i := 6) (v := ?v6_18) rfl (by kernel_rfl) (by kernel_rfl) (by kernel_rfl) (fun _ _ _ h => h) (Or.inl ⟨by kernel_rfl, ?h6_18⟩) hHeld ?r6_18
    case h6_18 => (rintro w' ⟨q0, q1, q2⟩; go_simp; try (with_reducible rfl))
    try simp only [Act.put, List.getElem_toArray, List.getElem_cons_zero, List.getElem_cons_succ, List.setIfInBounds_toArray, List.set_cons_zero, List.set_cons_succ]
    refine wpAnyH_take (i := 7) (v := ?v7_19) rfl (by kernel_rfl) (by kernel_rfl) (by kernel_rfl) (fun _ _ _ h => h) (Or.inl ⟨by kernel_rfl, ?h7_19⟩) hHeld ?r7_19
    case h7_19 => (rintro w' ⟨q0, q1, q2⟩; go_simp; try (with_reducible rfl))
    try simp only [Act.put, List.getElem_toArray, List.getElem_cons_zero, List.getElem_cons_succ, List.setIfInBounds_toArray, List.set_cons_zero, List.set_cons_succ]
    refine wpAnyH_take (i := 8) (v := ?v8_20) rfl (by kernel_rfl) (by kernel_rfl) (by kernel_rfl) (fun _ _ _ h => h) (Or.inl ⟨by kernel_rfl, ?h8_20⟩) hHeld ?r8_20
    case h8_20 => (rintro w' ⟨q0, q1, q2⟩; go_simp; try (with_reducible rfl))
    try simp only [Act.put, List.getElem_toArray, List.getElem_cons_zero, List.getElem_cons_succ, List.setIfInBounds_toArray, List.set_cons_zero, List.set_cons_succ]
    refine wpAnyH_take (i := 9) (v := ?v9_21) rfl (by kernel_rfl) (by kernel_rfl) (by kernel_rfl) (fun _ _ _ h => h) (Or.inl ⟨by kernel_rfl, ?h9_21⟩) hHeld ?r9_21
    case h9_21 => (rintro w' ⟨q0, q1, q2⟩; go_simp; try (with_reducible rfl))
    try simp only [Act.put, List.getElem_toArray, List.getElem_cons_zero, List.getElem_cons_succ, List.setIfInBounds_toArray, List.set_cons_zero, List.set_cons_succ]
    refine wpAnyH_ready (rs := [10]) (by kernel_rfl) (by simp) ?_
    refine AllReadyH.cons (o := { dst := some 67, op := Op.call { callee := Callee.value (Operand.func 47), args := #[Operand.tmp 66], argTypes := #[5] }, type := 94, pos := "read.go:98", after := #[{ on := 9, ground := Ground.data }], guard := none }) rfl (fun K hK => ?_) AllReadyH.nil
    go_simp
    refine (hPl _).mono ?_
    rintro _ w9 ⟨rfl, rfl⟩
    refine hK.out _ _ hHeld (fun hH2 => ?_)
    clear hK K
    try simp only [Act.put, List.getElem_toArray, List.getElem_cons_zero, List.getElem_cons_succ, List.setIfInBounds_toArray, List.set_cons_zero, List.set_cons_succ]
    refine wpAnyH_take (i := 11) (v := ?v11_22) rfl (by kernel_rfl) (by kernel_rfl) (by kernel_rfl) (fun _ _ _ h => h) (Or.inl ⟨by kernel_rfl, ?h11_22⟩) hH2 ?r11_22
    case h11_22 => (rintro w' ⟨q0, q1, q2⟩; go_simp; try (with_reducible rfl))
    try simp only [Act.put, List.getElem_toArray, List.getElem_cons_zero, List.getElem_cons_succ, List.setIfInBounds_toArray, List.set_cons_zero, List.set_cons_succ]
    refine wpAnyH_take (i := 12) (v := ?v12_23) rfl (by kernel_rfl) (by kernel_rfl) (by kernel_rfl) (fun _ _ _ h => h) (Or.inl ⟨by kernel_rfl, ?h12_23⟩) hH2 ?r12_23
    case h12_23 => (rintro w' ⟨q0, q1, q2⟩; go_simp; try (with_reducible rfl))
    try simp only [Act.put, List.getElem_toArray, List.getElem_cons_zero, List.getElem_cons_succ, List.setIfInBounds_toArray, List.set_cons_zero, List.set_cons_succ]
    refine wpAnyH_take (i := 13) (v := ?v13_24) rfl (by kernel_rfl) (by kernel_rfl) (by kernel_rfl) (fun _ _ _ h => h) (Or.inl ⟨by kernel_rfl, ?h13_24⟩) hH2 ?r13_24
    case h13_24 => (rintro w' ⟨q0, q1, q2⟩; go_simp; try (with_reducible rfl))
    try simp only [Act.put, List.getElem_toArray, List.getElem_cons_zero, List.getElem_cons_succ, List.setIfInBounds_toArray, List.set_cons_zero, List.set_cons_succ]
    refine wpAnyH_take (i := 14) (v := ?v14_25) rfl (by kernel_rfl) (by kernel_rfl) (by kernel_rfl) (fun _ _ _ h => h) (Or.inl ⟨by kernel_rfl, ?h14_25⟩) hH2 ?r14_25
    case h14_25 => (rintro w' ⟨q0, q1, q2⟩; go_simp; try (with_reducible rfl))
    try simp only [Act.put, List.getElem_toArray, List.getElem_cons_zero, List.getElem_cons_succ, List.setIfInBounds_toArray, List.set_cons_zero, List.set_cons_succ]
    refine wpAnyH_take (i := 15) (v := ?v15_26) rfl (by kernel_rfl) (by kernel_rfl) (by kernel_rfl) (fun _ _ _ h => h) (Or.inl ⟨by kernel_rfl, ?h15_26⟩) hH2 ?r15_26
    case h15_26 => (rintro w' ⟨q0, q1, q2⟩; go_simp; try (with_reducible rfl))
    try simp only [Act.put, List.getElem_toArray, List.getElem_cons_zero, List.getElem_cons_succ, List.setIfInBounds_toArray, List.set_cons_zero, List.set_cons_succ]
    refine wpAnyH_done (by kernel_rfl) ?_ _
    try simp only [Act.put, List.getElem_toArray, List.getElem_cons_zero, List.getElem_cons_succ, List.setIfInBounds_toArray, List.set_cons_zero, List.set_cons_succ]
    rw [← hW1]
    clear hH2 hHeld hW1 y1 y2 yb
    go_wp2_with (go_at_call 48; refine HP.out.mono ?_; rintro e W' ⟨rfl, ⟨z0, z1, zf0, zf1, zl⟩, hP⟩; clear HP)
    refine bodyPost_ret (v := .agg #[.int .i64 0, .int .i64 0]) ?_ rfl ⟨rfl, hP.out.res HF.out.1 HF.out.2.2 HR.out.2.2.2.2.2.2.2.2.1 rfl HF.out.2.1 _ _⟩
    simp [results, Tryz.results33, go_sem, z0, z1, zl, zf0, zf1]
  · rw [if_pos (show s.marks ≠ [] from hm)]
    have hM0 : (0 : Int) < (M : Int) := by have := List.length_pos_iff.2 hm; omega
    have hM1 : decide ((0 : Int) < (M : Int)) = true := decide_eq_true hM0
    obtain ⟨z0, z1, zf0, zf1, zl⟩ := hz1
    have HC : Hid (Calls Tryz.prog 19 #[.int .i64 6, .int .i64 wh] W1 fun e W' => e = .returned (.agg #[.int .i64 6, .int .i64 wh]) ∧ Cells2 W' W.heap.size 0 0 ∧ Aside (Below W.heap.size W W')) := by
      refine (cFault 6 wh W1).mono ?_
      rintro e W' ⟨rfl, hb'⟩
      exact ⟨rfl, Cells2.below ⟨z0, z1, zf0, zf1, zl⟩ hb' zl, HF.out.1.trans (hb'.mono HF.out.1.size)⟩
    clear hMl hm z0 z1 zf0 zf1 zl hcb hcN hpos hrw
    go_enter Tryz.func33, Tryz.ntmps33
    go_wp2
    rw [hW0] at y1 y2 yb
    refine wp_region_held_drew (S := fun w' => w'.cell? ⟨rb, 1, none⟩ = some (.slice (some ⟨b, off, none⟩) N cb) ∧ w'.cell? ⟨rb, 2, none⟩ = some (.int .i64 (p : Int)) ∧ w'.cell? ⟨b, off + p, none⟩ = some (.int .u8 c)) (by kernel_rfl) ⟨y1, y2, yb⟩ (fun hHeld => ?_)
    refine wpAnyH_take (i := 0) (v := ?v0_27) rfl (by kernel_rfl) (by kernel_rfl) (by kernel_rfl) (fun _ _ _ h => h) (Or.inl ⟨by kernel_rfl, ?h0_27⟩) hHeld ?r0_27
    case h0_27 => (rintro w' ⟨q0, q1, q2⟩; go_simp; try (with_reducible rfl))
    try simp only [Act.put, List.getElem_toArray, List.getElem_cons_zero, List.getElem_cons_succ, List.setIfInBounds_toArray, List.set_cons_zero, List.set_cons_succ]
    refine wpAnyH_take (i := 1) (v := ?v1_28) rfl (by kernel_rfl) (by kernel_rfl) (by kernel_rfl) (fun _ _ _ h => h) (Or.inl ⟨by kernel_rfl, ?h1_28⟩) hHeld ?r1_28
    case h1_28 => (rintro w' ⟨q0, q1, q2⟩; go_simp; try (with_reducible rfl))
    try simp only [Act.put, List.getElem_toArray, List.getElem_cons_zero, List.getElem_cons_succ, List.setIfInBounds_toArray, List.set_cons_zero, List.set_cons_succ]
    refine wpAnyH_take (i := 2) (v := ?v2_29) rfl (by kernel_rfl) (by kernel_rfl) (by kernel_rfl) (fun _ _ _ h => h) (Or.inl ⟨by kernel_rfl, ?h2_29⟩) hHeld ?r2_29
    case h2_29 => (rintro w' ⟨q0, q1, q2⟩; go_simp; try (with_reducible rfl))
    try simp only [Act.put, List.getElem_toArray, List.getElem_cons_zero, List.getElem_cons_succ, List.setIfInBounds_toArray, List.set_cons_zero, List.set_cons_succ]
    refine wpAnyH_take (i := 3) (v := ?v3_30) rfl (by kernel_rfl) (by kernel_rfl) (by kernel_rfl) (fun _ _ _ h => h) (Or.inl ⟨by kernel_rfl, ?h3_30⟩) hHeld ?r3_30
    case h3_30 => (rintro w' ⟨q0, q1, q2⟩; go_simp; try (with_reducible rfl))
    try simp only [Act.put, List.getElem_toArray, List.getElem_cons_zero, List.getElem_cons_succ, List.setIfInBounds_toArray, List.set_cons_zero, List.set_cons_succ]
    refine wpAnyH_take (i := 4) (v := ?v4_31) rfl (by kernel_rfl) (by kernel_rfl) (by kernel_rfl) (fun _ _ _ h => h) (Or.inl ⟨by kernel_rfl, ?h4_31⟩) hHeld ?r4_31
    case h4_31 => (rintro w' ⟨q0, q1, q2⟩; go_simp; try (with_reducible rfl))
    try simp only [Act.put, List.getElem_toArray, List.getElem_cons_zero, List.getElem_cons_succ, List.setIfInBounds_toArray, List.set_cons_zero, List.set_cons_succ]
    refine wpAnyH_take (i := 5) (v := ?v5_32) rfl (by kernel_rfl) (by kernel_rfl) (by kernel_rfl) (fun _ _ _ h => h) (Or.inl ⟨by kernel_rfl, ?h5_32⟩) hHeld ?r5_32
    case h5_32 => (rintro w' ⟨q0, q1, q2⟩; go_simp; try (with_reducible rfl))
    try simp only [Act.put, List.getElem_toArray, List.getElem_cons_zero, List.getElem_cons_succ, List.setIfInBounds_toArray, List.set_cons_zero, List.set_cons_succ]
    refine wpAnyH_take (i := 6) (v := ?v6_33) rfl (by kernel_rfl) (by kernel_rfl) (by kernel_rfl) (fun _ _ _ h => h) (Or.inl ⟨by kernel_rfl, ?h6_33⟩) hHeld ?r6_33
    case h6_33 => (rintro w' ⟨q0, q1, q2⟩; go_simp; try (with_reducible rfl))
    try simp only [Act.put, List.getElem_toArray, List.getElem_cons_zero, List.getElem_cons_succ, List.setIfInBounds_toArray, List.set_cons_zero, List.set_cons_succ]
    refine wpAnyH_take (i := 7) (v := ?v7_34) rfl (by kernel_rfl) (by kernel_rfl) (by kernel_rfl) (fun _ _ _ h => h) (Or.inl ⟨by kernel_rfl, ?h7_34⟩) hHeld ?r7_34
    case h7_34 => (rintro w' ⟨q0, q1, q2⟩; go_simp; try (with_reducible rfl))
    try simp only [Act.put, List.getElem_toArray, List.getElem_cons_zero, List.getElem_cons_succ, List.setIfInBounds_toArray, List.set_cons_zero, List.set_cons_succ]
    refine wpAnyH_take (i := 8) (v := ?v8_35) rfl (by kernel_rfl) (by kernel_rfl) (by kernel_rfl) (fun _ _ _ h => h) (Or.inl ⟨by kernel_rfl, ?h8_35⟩) hHeld ?r8_35
    case h8_35 => (rintro w' ⟨q0, q1, q2⟩; go_simp; try (with_reducible rfl))
    try simp only [Act.put, List.getElem_toArray, List.getElem_cons_zero, List.getElem_cons_succ, List.setIfInBounds_toArray, List.set_cons_zero, List.set_cons_succ]
    refine wpAnyH_take (i := 9) (v := ?v9_36) rfl (by kernel_rfl) (by kernel_rfl) (by kernel_rfl) (fun _ _ _ h => h) (Or.inl ⟨by kernel_rfl, ?h9_36⟩) hHeld ?r9_36
    case h9_36 => (rintro w' ⟨q0, q1, q2⟩; go_simp; try (with_reducible rfl))
    try simp only [Act.put, List.getElem_toArray, List.getElem_cons_zero, List.getElem_cons_succ, List.setIfInBounds_toArray, List.set_cons_zero, List.set_cons_succ]
    refine wpAnyH_take (i := 10) (v := ?v10_37) rfl (by kernel_rfl) (by kernel_rfl) (by kernel_rfl) (fun _ _ _ h => h) (Or.inl ⟨by kernel_rfl, ?h10_37⟩) hHeld ?r10_37
    case h10_37 => (rintro w' ⟨q0, q1, q2⟩; go_simp; try (with_reducible rfl))
    try simp only [Act.put, List.getElem_toArray, List.getElem_cons_zero, List.getElem_cons_succ, List.setIfInBounds_toArray, List.set_cons_zero, List.set_cons_succ]
    refine wpAnyH_done (by kernel_rfl) ?_ _
    try simp only [Act.put, List.getElem_toArray, List.getElem_cons_zero, List.getElem_cons_succ, List.setIfInBounds_toArray, List.set_cons_zero, List.set_cons_succ]
    rw [← hW0]
    rw [← hW0] at y1 y2 yb
    clear hW0
    have h27b : (c == 27) = false := by simpa using h27
    clear h27
    go_wp2
    refine wp_region_held_drew (S := fun w' => w'.cell? ⟨rb, 1, none⟩ = some (.slice (some ⟨b, off, none⟩) N cb) ∧ w'.cell? ⟨rb, 2, none⟩ = some (.int .i64 (p : Int)) ∧ w'.cell? ⟨b, off + p, none⟩ = some (.int .u8 c)) (by kernel_rfl) ⟨y1, y2, yb⟩ (fun hHeld => ?_)
    refine wpAnyH_take (i := 0) (v := ?v0_38) rfl (by kernel_rfl) (by kernel_rfl) (by kernel_rfl) (fun _ _ _ h => h) (Or.inl ⟨by kernel_rfl, ?h0_38⟩) hHeld ?r0_38
    case h0_38 => (rintro w' ⟨q0, q1, q2⟩; go_simp; try (with_reducible rfl))
    try simp only [Act.put, List.getElem_toArray, List.getElem_cons_zero, List.getElem_cons_succ, List.setIfInBounds_toArray, List.set_cons_zero, List.set_cons_succ]
    refine wpAnyH_take (i := 1) (v := ?v1_39) rfl (by kernel_rfl) (by kernel_rfl) (by kernel_rfl) (fun _ _ _ h => h) (Or.inl ⟨by kernel_rfl, ?h1_39⟩) hHeld ?r1_39
    case h1_39 => (rintro w' ⟨q0, q1, q2⟩; go_simp; try (with_reducible rfl))
    try simp only [Act.put, List.getElem_toArray, List.getElem_cons_zero, List.getElem_cons_succ, List.setIfInBounds_toArray, List.set_cons_zero, List.set_cons_succ]
    refine wpAnyH_take (i := 2) (v := ?v2_40) rfl (by kernel_rfl) (by kernel_rfl) (by kernel_rfl) (fun _ _ _ h => h) (Or.inl ⟨by kernel_rfl, ?h2_40⟩) hHeld ?r2_40
    case h2_40 => (rintro w' ⟨q0, q1, q2⟩; go_simp; try (with_reducible rfl))
    try simp only [Act.put, List.getElem_toArray, List.getElem_cons_zero, List.getElem_cons_succ, List.setIfInBounds_toArray, List.set_cons_zero, List.set_cons_succ]
    refine wpAnyH_take (i := 3) (v := ?v3_41) rfl (by kernel_rfl) (by kernel_rfl) (by kernel_rfl) (fun _ _ _ h => h) (Or.inl ⟨by kernel_rfl, ?h3_41⟩) hHeld ?r3_41
    case h3_41 => (rintro w' ⟨q0, q1, q2⟩; go_simp; try (with_reducible rfl))
    try simp only [Act.put, List.getElem_toArray, List.getElem_cons_zero, List.getElem_cons_succ, List.setIfInBounds_toArray, List.set_cons_zero, List.set_cons_succ]
    refine wpAnyH_take (i := 4) (v := ?v4_42) rfl (by kernel_rfl) (by kernel_rfl) (by kernel_rfl) (fun _ _ _ h => h) (Or.inl ⟨by kernel_rfl, ?h4_42⟩) hHeld ?r4_42
    case h4_42 => (rintro w' ⟨q0, q1, q2⟩; go_simp; try (with_reducible rfl))
    try simp only [Act.put, List.getElem_toArray, List.getElem_cons_zero, List.getElem_cons_succ, List.setIfInBounds_toArray, List.set_cons_zero, List.set_cons_succ]
    refine wpAnyH_take (i := 5) (v := ?v5_43) rfl (by kernel_rfl) (by kernel_rfl) (by kernel_rfl) (fun _ _ _ h => h) (Or.inl ⟨by kernel_rfl, ?h5_43⟩) hHeld ?r5_43
    case h5_43 => (rintro w' ⟨q0, q1, q2⟩; go_simp; try (with_reducible rfl))
    try simp only [Act.put, List.getElem_toArray, List.getElem_cons_zero, List.getElem_cons_succ, List.setIfInBounds_toArray, List.set_cons_zero, List.set_cons_succ]
    refine wpAnyH_take (i := 6) (v := ?v6_44) rfl (by kernel_rfl) (by kernel_rfl) (by kernel_rfl) (fun _ _ _ h => h) (Or.inl ⟨by kernel_rfl, ?h6_44⟩) hHeld ?r6_44
    case h6_44 => (rintro w' ⟨q0, q1, q2⟩; go_simp; try (with_reducible rfl))
    try simp only [Act.put, List.getElem_toArray, List.getElem_cons_zero, List.getElem_cons_succ, List.setIfInBounds_toArray, List.set_cons_zero, List.set_cons_succ]
    refine wpAnyH_take (i := 7) (v := ?v7_45) rfl (by kernel_rfl) (by kernel_rfl) (by kernel_rfl) (fun _ _ _ h => h) (Or.inl ⟨by kernel_rfl, ?h7_45⟩) hHeld ?r7_45
    case h7_45 => (rintro w' ⟨q0, q1, q2⟩; go_simp; try (with_reducible rfl))
    try simp only [Act.put, List.getElem_toArray, List.getElem_cons_zero, List.getElem_cons_succ, List.setIfInBounds_toArray, List.set_cons_zero, List.set_cons_succ]
    refine wpAnyH_take (i := 8) (v := ?v8_46) rfl (by kernel_rfl) (by kernel_rfl) (by kernel_rfl) (fun _ _ _ h => h) (Or.inl ⟨by kernel_rfl, ?h8_46⟩) hHeld ?r8_46
    case h8_46 => (rintro w' ⟨q0, q1, q2⟩; go_simp; try (with_reducible rfl))
    try simp only [Act.put, List.getElem_toArray, List.getElem_cons_zero, List.getElem_cons_succ, List.setIfInBounds_toArray, List.set_cons_zero, List.set_cons_succ]
    refine wpAnyH_take (i := 9) (v := ?v9_47) rfl (by kernel_rfl) (by kernel_rfl) (by kernel_rfl) (fun _ _ _ h => h) (Or.inl ⟨by kernel_rfl, ?h9_47⟩) hHeld ?r9_47
    case h9_47 => (rintro w' ⟨q0, q1, q2⟩; go_simp; try (with_reducible rfl))
    try simp only [Act.put, List.getElem_toArray, List.getElem_cons_zero, List.getElem_cons_succ, List.setIfInBounds_toArray, List.set_cons_zero, List.set_cons_succ]
    refine wpAnyH_ready (rs := [10]) (by kernel_rfl) (by simp) ?_
    refine AllReadyH.cons (o := { dst := some 67, op := Op.call { callee := Callee.value (Operand.func 47), args := #[Operand.tmp 66], argTypes := #[5] }, type := 94, pos := "read.go:98", after := #[{ on := 9, ground := Ground.data }], guard := none }) rfl (fun K hK => ?_) AllReadyH.nil
    go_simp
    refine (hPl _).mono ?_
    rintro _ w9 ⟨rfl, rfl⟩
    refine hK.out _ _ hHeld (fun hH2 => ?_)
    clear hK K
    try simp only [Act.put, List.getElem_toArray, List.getElem_cons_zero, List.getElem_cons_succ, List.setIfInBounds_toArray, List.set_cons_zero, List.set_cons_succ]
    refine wpAnyH_take (i := 11) (v := ?v11_48) rfl (by kernel_rfl) (by kernel_rfl) (by kernel_rfl) (fun _ _ _ h => h) (Or.inl ⟨by kernel_rfl, ?h11_48⟩) hH2 ?r11_48
    case h11_48 => (rintro w' ⟨q0, q1, q2⟩; go_simp; try (with_reducible rfl))
    try simp only [Act.put, List.getElem_toArray, List.getElem_cons_zero, List.getElem_cons_succ, List.setIfInBounds_toArray, List.set_cons_zero, List.set_cons_succ]
    refine wpAnyH_take (i := 12) (v := ?v12_49) rfl (by kernel_rfl) (by kernel_rfl) (by kernel_rfl) (fun _ _ _ h => h) (Or.inl ⟨by kernel_rfl, ?h12_49⟩) hH2 ?r12_49
    case h12_49 => (rintro w' ⟨q0, q1, q2⟩; go_simp; try (with_reducible rfl))
    try simp only [Act.put, List.getElem_toArray, List.getElem_cons_zero, List.getElem_cons_succ, List.setIfInBounds_toArray, List.set_cons_zero, List.set_cons_succ]
    refine wpAnyH_take (i := 13) (v := ?v13_50) rfl (by kernel_rfl) (by kernel_rfl) (by kernel_rfl) (fun _ _ _ h => h) (Or.inl ⟨by kernel_rfl, ?h13_50⟩) hH2 ?r13_50
    case h13_50 => (rintro w' ⟨q0, q1, q2⟩; go_simp; try (with_reducible rfl))
    try simp only [Act.put, List.getElem_toArray, List.getElem_cons_zero, List.getElem_cons_succ, List.setIfInBounds_toArray, List.set_cons_zero, List.set_cons_succ]
    refine wpAnyH_take (i := 14) (v := ?v14_51) rfl (by kernel_rfl) (by kernel_rfl) (by kernel_rfl) (fun _ _ _ h => h) (Or.inl ⟨by kernel_rfl, ?h14_51⟩) hH2 ?r14_51
    case h14_51 => (rintro w' ⟨q0, q1, q2⟩; go_simp; try (with_reducible rfl))
    try simp only [Act.put, List.getElem_toArray, List.getElem_cons_zero, List.getElem_cons_succ, List.setIfInBounds_toArray, List.set_cons_zero, List.set_cons_succ]
    refine wpAnyH_take (i := 15) (v := ?v15_52) rfl (by kernel_rfl) (by kernel_rfl) (by kernel_rfl) (fun _ _ _ h => h) (Or.inl ⟨by kernel_rfl, ?h15_52⟩) hH2 ?r15_52
    case h15_52 => (rintro w' ⟨q0, q1, q2⟩; go_simp; try (with_reducible rfl))
    try simp only [Act.put, List.getElem_toArray, List.getElem_cons_zero, List.getElem_cons_succ, List.setIfInBounds_toArray, List.set_cons_zero, List.set_cons_succ]
    refine wpAnyH_done (by kernel_rfl) ?_ _
    try simp only [Act.put, List.getElem_toArray, List.getElem_cons_zero, List.getElem_cons_succ, List.setIfInBounds_toArray, List.set_cons_zero, List.set_cons_succ]
    rw [← hW1]
    clear hH2 hHeld hW1 y1 y2 yb
    go_wp2_with (go_at_call 19; refine HC.out.mono ?_; rintro e W' ⟨rfl, ⟨z0, z1, zf0, zf1, zl⟩, hP⟩; clear HC)
    refine bodyPost_ret (v := .agg #[.int .i64 6, .int .i64 wh]) ?_ rfl ⟨by rw [HR.out.2.2.2.1], ?_⟩
    · simp [results, Tryz.results33, go_sem, z0, z1, zl, zf0, zf1]
    · have hrw := HR.out.2.2.2.2.2.2.2.2.1
      exact ((hP.out.mono (Nat.le_of_lt hrw)).setCell (p := ⟨W.heap.size, 0, none⟩) (Nat.le_of_lt hrw) _).setCell (p := ⟨W.heap.size, 1, none⟩) (Nat.le_of_lt hrw) _
end Go.Proofs.YtemhfcgkfdklhaaGreatDoor.Look
