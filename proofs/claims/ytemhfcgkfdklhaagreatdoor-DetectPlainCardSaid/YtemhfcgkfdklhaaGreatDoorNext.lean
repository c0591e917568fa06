/- (*reader).next at an escape. -/
import Derived.Deep.DeepCutAuto
import Derived.Deep.CutRange
import Derived.Test.YtemhfcgkfdklhaaGreatDoorPut
set_option linter.all false
namespace Go.Proofs.YtemhfcgkfdklhaaGreatDoor.Look
open Go Go.RowKit Go.Shelf Go.Proofs Go.Proofs.YtemhfcgkfdklhaaGreatDoor.Rd
open Go.Proofs.YtemhfcgkfdklhaaGreatDoor.Idx (W64)

theorem Cells2.off {W : World} {b : Nat} {x y : Int} (h : Cells2 W b x y) {a : Addr} (u : Value) (hne : b ≠ a.block) : Cells2 (W.setCell a u) b x y :=
  ⟨(World.cell?_setCell_far _ _ _ _ (Ne.symm hne)).trans h.c0, (World.cell?_setCell_far _ _ _ _ (Ne.symm hne)).trans h.c1, by simpa using h.f0, by simpa using h.f1, by simpa using h.lt⟩
/-- What next leaves. -/
def NextOk (wr W : World) (rb lim : Nat) (xp bs : Value) : Step → Ending → World → Prop
  | .ok s', e, W' => e = .returned (.agg #[.int .i64 0, .int .i64 0]) ∧ PutOk wr W rb lim xp bs s' W'
  | .bad c p, e, W' => e = .returned (.agg #[.int .i64 c, .int .i64 p]) ∧ Below rb W W'
theorem grown_put (W : World) (b i : Nat) (v : Value) : W.grownBy (W.setCell ⟨b, i, none⟩ v) (some b) :=
  ⟨rfl, rfl, rfl, (KeepsWalks.setCell W _ v).size, fun k _ hk => Below.heap_setCell _ _ _ k (fun e => hk (by rw [e]))⟩
theorem esc_end {wr W wx : World} {rb lim : Nat} {xp bs : Value} {s : RS} (h : RA wr W rb lim xp bs s) (hlim : lim ≤ W.heap.size) (hb : Below W.heap.size W wx) (G0 G1 : Int) (p' r : Nat) (u1 u2 : Value) (hr : W.heap.size ≤ r) (hrw : r < wx.heap.size) :
    PutOk wr W rb lim xp bs { s with g0 := G0, g1 := G1, pos := p' } (((((wx.setCell ⟨rb, 3, none⟩ (.int .i64 G0)).setCell ⟨rb, 4, none⟩ (.int .i64 G1)).setCell ⟨rb, 2, none⟩ (.int .i64 (p' : Int))).setCell ⟨r, 0, none⟩ u1).setCell ⟨r, 1, none⟩ u2) := by
  obtain ⟨⟨vo, vm, h1, h2, h3, h4, h5, h6⟩, hbl⟩ := h
  have hrb := h1.lt
  have hne : r ≠ rb := by omega
  have hC := ((h1.below hb hrb).put 3 (.int .i64 G0)).put 4 (.int .i64 G1)
  have hC2 := hC.put 2 (.int .i64 (p' : Int))
  have hB : Below rb W (((((wx.setCell ⟨rb, 3, none⟩ (.int .i64 G0)).setCell ⟨rb, 4, none⟩ (.int .i64 G1)).setCell ⟨rb, 2, none⟩ (.int .i64 (p' : Int))).setCell ⟨r, 0, none⟩ u1).setCell ⟨r, 1, none⟩ u2) := (((((hb.mono (Nat.le_of_lt hrb)).setCell (p := ⟨rb, 3, none⟩) (Nat.le_refl _) _).setCell (p := ⟨rb, 4, none⟩) (Nat.le_refl _) _).setCell (p := ⟨rb, 2, none⟩) (Nat.le_refl _) _).setCell (p := ⟨r, 0, none⟩) (by show rb ≤ r; omega) _).setCell (p := ⟨r, 1, none⟩) (by show rb ≤ r; omega) _
  have hK : ∀ k, k ≠ rb → k ≠ r → (((((wx.setCell ⟨rb, 3, none⟩ (.int .i64 G0)).setCell ⟨rb, 4, none⟩ (.int .i64 G1)).setCell ⟨rb, 2, none⟩ (.int .i64 (p' : Int))).setCell ⟨r, 0, none⟩ u1).setCell ⟨r, 1, none⟩ u2).heap[k]? = wx.heap[k]? := fun k k1 k2 => by
    rw [heap_put k2, heap_put k2, heap_put k1, heap_put k1, heap_put k1]
  have hrow : ∀ v (l : List Int), OwnR W (rb + 1) v l → (∀ g, v.ownBlock = some g → g < lim) → OwnR (((((wx.setCell ⟨rb, 3, none⟩ (.int .i64 G0)).setCell ⟨rb, 4, none⟩ (.int .i64 G1)).setCell ⟨rb, 2, none⟩ (.int .i64 (p' : Int))).setCell ⟨r, 0, none⟩ u1).setCell ⟨r, 1, none⟩ u2) (rb + 1) v l := fun v l hv hg => by
    refine World.ownsRow.kept (row := some r) ((((hv.below hb).put (Nat.lt_succ_self rb) (a := ⟨rb, 3, none⟩) (.int .i64 G0)).put (Nat.lt_succ_self rb) (a := ⟨rb, 4, none⟩) (.int .i64 G1)).put (Nat.lt_succ_self rb) (a := ⟨rb, 2, none⟩) (.int .i64 (p' : Int))) ?_ ?_
    · exact (grown_put _ r 0 u1).trans (grown_put _ r 1 u2)
    · cases hv' : v.ownBlock with
      | none => exact .inl rfl
      | some g => exact .inr fun e => by have := hg g hv'; injection e with e; omega
  refine ⟨⟨⟨vo, vm, ?_, hrow vo _ h2 h5, hrow vm _ h3 h6, h4, fun g hg => ?_, fun g hg => ?_⟩, hbl.trans hB⟩, hB, fun k k1 k2 k3 => (hK k k3 (by omega)).trans (hb.block k k2)⟩
  · exact ⟨fun k v hk => (World.cell?_of_block (a := ⟨rb, k, none⟩) (by rw [heap_put (Ne.symm hne), heap_put (Ne.symm hne)])).trans (hC2.cell k v hk), fun k => by simpa using hC2.free k, by simpa using hC2.lt⟩
  · have := h5 g hg; have := hb.size; simp; omega
  · have := h6 g hg; have := hb.size; simp; omega

set_option maxHeartbeats 8000000 in
set_option maxRecDepth 100000 in
theorem cEsc (rb b off cb N p : Nat) (g0 g1 G0 G1 n e0 e1 : Int) (W W0 : World) (hW0 : W0 = (W.alloc (.cells #[.int .i64 0, .int .i64 0] 26)).drew) (hpN : (p : Int) < (N : Int)) (hp0 : (0 : Int) ≤ (p : Int)) (hN : (N : Int) ≤ 9223372036854775807) (hrl : rb < W0.heap.size) (hrw : rb < W.heap.size)
    (HN : Hid (∀ X, Below W0.heap.size W0 X → Calls Tryz.prog 46 #[.slice (some ⟨b, off, none⟩) N cb, .int .i64 (p : Int), .agg #[.int .i64 g0, .int .i64 g1]] X fun e w' => e = .returned (.tuple #[.agg #[.int .i64 G0, .int .i64 G1], .int .i64 n, .agg #[.int .i64 e0, .int .i64 e1]]) ∧ Below X.heap.size X w'))
    (y1 : W0.cell? ⟨rb, 1, none⟩ = some (.slice (some ⟨b, off, none⟩) N cb))
    (y2 : W0.cell? ⟨rb, 2, none⟩ = some (.int .i64 (p : Int)))
    (y3 : W0.cell? ⟨rb, 3, none⟩ = some (.int .i64 g0))
    (y4 : W0.cell? ⟨rb, 4, none⟩ = some (.int .i64 g1))
    (yb : W0.cell? ⟨b, off + p, none⟩ = some (.int .u8 27)) (hfr : ∀ k, W0.frozen? ⟨rb, k, none⟩ = false) (hz : Cells2 W0 W.heap.size 0 0) :
    Calls Tryz.prog 33 #[.pointer (some ⟨rb, 0, none⟩)] W fun e W' => ∃ wc, Below W0.heap.size W0 wc ∧ e = .returned (.agg #[.int .i64 e0, .int .i64 e1]) ∧ W' = if e0 = 0 then (((((wc.setCell ⟨rb, 3, none⟩ (.int .i64 G0)).setCell ⟨rb, 4, none⟩ (.int .i64 G1)).setCell ⟨rb, 2, none⟩ (.int .i64 (wrap64 ((p : Int) + n)))).setCell ⟨W.heap.size, 0, none⟩ (.int .i64 e0)).setCell ⟨W.heap.size, 1, none⟩ (.int .i64 e1)) else ((wc.setCell ⟨W.heap.size, 0, none⟩ (.int .i64 e0)).setCell ⟨W.heap.size, 1, none⟩ (.int .i64 e1)) := by
  go_enter Tryz.func33, Tryz.ntmps33
  go_wp2
  rw [hW0] at y1 y2 yb
  refine wp_region_held_drew (S := fun w' => w'.cell? ⟨rb, 1, none⟩ = some (.slice (some ⟨b, off, none⟩) N cb) ∧ w'.cell? ⟨rb, 2, none⟩ = some (.int .i64 (p : Int)) ∧ w'.cell? ⟨b, off + p, none⟩ = some (.int .u8 27)) (by kernel_rfl) ⟨y1, y2, yb⟩ (fun hHeld => ?_)
  refine wpAnyH_take (i := 0) (v := ?v0_39) rfl (by kernel_rfl) (by kernel_rfl) (by kernel_rfl) (fun _ _ _ h => h) (Or.inl ⟨by kernel_rfl, ?h0_39⟩) hHeld ?r0_39
  case h0_39 => (rintro w' ⟨q0, q1, q2⟩; go_simp; try (with_reducible rfl))
  try simp only [Act.put, List.getElem_toArray, List.getElem_cons_zero, List.getElem_cons_succ, List.setIfInBounds_toArray, List.set_cons_zero, List.set_cons_succ]
  refine wpAnyH_take (i := 1) (v := ?v1_40) rfl (by kernel_rfl) (by kernel_rfl) (by kernel_rfl) (fun _ _ _ h => h) (Or.inl ⟨by kernel_rfl, ?h1_40⟩) hHeld ?r1_40
  case h1_40 => (rintro w' ⟨q0, q1, q2⟩; go_simp; try (with_reducible rfl))
  try simp only [Act.put, List.getElem_toArray, List.getElem_cons_zero, List.getElem_cons_succ, List.setIfInBounds_toArray, List.set_cons_zero, List.set_cons_succ]
  refine wpAnyH_take (i := 2) (v := ?v2_41) rfl (by kernel_rfl) (by kernel_rfl) (by kernel_rfl) (fun _ _ _ h => h) (Or.inl ⟨by kernel_rfl, ?h2_41⟩) hHeld ?r2_41
  case h2_41 => (rintro w' ⟨q0, q1, q2⟩; go_simp; try (with_reducible rfl))
  try simp only [Act.put, List.getElem_toArray, List.getElem_cons_zero, List.getElem_cons_succ, List.setIfInBounds_toArray, List.set_cons_zero, List.set_cons_succ]
  refine wpAnyH_take (i := 3) (v := ?v3_42) rfl (by kernel_rfl) (by kernel_rfl) (by kernel_rfl) (fun _ _ _ h => h) (Or.inl ⟨by kernel_rfl, ?h3_42⟩) hHeld ?r3_42
  case h3_42 => (rintro w' ⟨q0, q1, q2⟩; go_simp; try (with_reducible rfl))
  try simp only [Act.put, List.getElem_toArray, List.getElem_cons_zero, List.getElem_cons_succ, List.setIfInBounds_toArray, List.set_cons_zero, List.set_cons_succ]
  refine wpAnyH_take (i := 4) (v := ?v4_43) rfl (by kernel_rfl) (by kernel_rfl) (by kernel_rfl) (fun _ _ _ h => h) (Or.inl ⟨by kernel_rfl, ?h4_43⟩) hHeld ?r4_43
  case h4_43 => (rintro w' ⟨q0, q1, q2⟩; go_simp; try (with_reducible rfl))
  try simp only [Act.put, List.getElem_toArray, List.getElem_cons_zero, List.getElem_cons_succ, List.setIfInBounds_toArray, List.set_cons_zero, List.set_cons_succ]
  refine wpAnyH_take (i := 5) (v := ?v5_44) rfl (by kernel_rfl) (by kernel_rfl) (by kernel_rfl) (fun _ _ _ h => h) (Or.inl ⟨by kernel_rfl, ?h5_44⟩) hHeld ?r5_44
  case h5_44 => (rintro w' ⟨q0, q1, q2⟩; go_simp; try (with_reducible rfl))
  try simp only [Act.put, List.getElem_toArray, List.getElem_cons_zero, List.getElem_cons_succ, List.setIfInBounds_toArray, List.set_cons_zero, List.set_cons_succ]
  refine wpAnyH_take (i := 6) (v := ?v6_45) rfl (by kernel_rfl) (by kernel_rfl) (by kernel_rfl) (fun _ _ _ h => h) (Or.inl ⟨by kernel_rfl, ?h6_45⟩) hHeld ?r6_45
  case h6_45 => (rintro w' ⟨q0, q1, q2⟩; go_simp; try (with_reducible rfl))
  try simp only [Act.put, List.getElem_toArray, List.getElem_cons_zero, List.getElem_cons_succ, List.setIfInBounds_toArray, List.set_cons_zero, List.set_cons_succ]
  refine wpAnyH_take (i := 7) (v := ?v7_46) rfl (by kernel_rfl) (by kernel_rfl) (by kernel_rfl) (fun _ _ _ h => h) (Or.inl ⟨by kernel_rfl, ?h7_46⟩) hHeld ?r7_46
  case h7_46 => (rintro w' ⟨q0, q1, q2⟩; go_simp; try (with_reducible rfl))
  try simp only [Act.put, List.getElem_toArray, List.getElem_cons_zero, List.getElem_cons_succ, List.setIfInBounds_toArray, List.set_cons_zero, List.set_cons_succ]
  refine wpAnyH_take (i := 8) (v := ?v8_47) rfl (by kernel_rfl) (by kernel_rfl) (by kernel_rfl) (fun _ _ _ h => h) (Or.inl ⟨by kernel_rfl, ?h8_47⟩) hHeld ?r8_47
  case h8_47 => (rintro w' ⟨q0, q1, q2⟩; go_simp; try (with_reducible rfl))
  try simp only [Act.put, List.getElem_toArray, List.getElem_cons_zero, List.getElem_cons_succ, List.setIfInBounds_toArray, List.set_cons_zero, List.set_cons_succ]
  refine wpAnyH_take (i := 9) (v := ?v9_48) rfl (by kernel_rfl) (by kernel_rfl) (by kernel_rfl) (fun _ _ _ h => h) (Or.inl ⟨by kernel_rfl, ?h9_48⟩) hHeld ?r9_48
  case h9_48 => (rintro w' ⟨q0, q1, q2⟩; go_simp; try (with_reducible rfl))
  try simp only [Act.put, List.getElem_toArray, List.getElem_cons_zero, List.getElem_cons_succ, List.setIfInBounds_toArray, List.set_cons_zero, List.set_cons_succ]
  refine wpAnyH_take (i := 10) (v := ?v10_49) rfl (by kernel_rfl) (by kernel_rfl) (by kernel_rfl) (fun _ _ _ h => h) (Or.inl ⟨by kernel_rfl, ?h10_49⟩) hHeld ?r10_49
  case h10_49 => (rintro w' ⟨q0, q1, q2⟩; go_simp; try (with_reducible rfl))
  try simp only [Act.put, List.getElem_toArray, List.getElem_cons_zero, List.getElem_cons_succ, List.setIfInBounds_toArray, List.set_cons_zero, List.set_cons_succ]
  refine wpAnyH_done (by kernel_rfl) ?_ _
  try simp only [Act.put, List.getElem_toArray, List.getElem_cons_zero, List.getElem_cons_succ, List.setIfInBounds_toArray, List.set_cons_zero, List.set_cons_succ]
  rw [← hW0]
  rw [← hW0] at y1 y2 yb
  clear hW0
  go_upto_region 2 with fail
  go_cut [3, 4, 5] from 12 (fun v3 v4 v5 wx => ∃ a3 a5, v3 = .pointer (some ⟨a3, 0, none⟩) ∧ v4 = .int .i64 n ∧ v5 = .pointer (some ⟨a5, 0, none⟩) ∧ Cells2 wx a3 G0 G1 ∧ Cells2 wx a5 e0 e1 ∧ Below W0.heap.size W0 wx ∧ W0.heap.size ≤ a3 ∧ W0.heap.size ≤ a5 ∧ a3 ≠ a5)
  case first =>
    refine wp_region_held_drew (S := fun w' => Below W0.heap.size W0 w') (by kernel_rfl) ((Below.refl _ W0).drew) (fun hHeld => ?_)
    refine wpAnyH_take (i := 0) (v := ?v0_1) rfl (by kernel_rfl) (by kernel_rfl) (by kernel_rfl) (fun _ _ _ h => h) (Or.inl ⟨by kernel_rfl, ?h0_1⟩) hHeld ?r0_1
    case h0_1 => (rintro w' hb; have q1 := (hb.cell (p := ⟨rb, 1, none⟩) hrl).trans y1; have q2 := (hb.cell (p := ⟨rb, 2, none⟩) hrl).trans y2; have q3 := (hb.cell (p := ⟨rb, 3, none⟩) hrl).trans y3; have q4 := (hb.cell (p := ⟨rb, 4, none⟩) hrl).trans y4; go_simp; try (with_reducible rfl))
    try simp only [Act.put, List.getElem_toArray, List.getElem_cons_zero, List.getElem_cons_succ, List.setIfInBounds_toArray, List.set_cons_zero, List.set_cons_succ]
    refine wpAnyH_take (i := 1) (v := ?v1_2) rfl (by kernel_rfl) (by kernel_rfl) (by kernel_rfl) (fun _ _ _ h => h) (Or.inl ⟨by kernel_rfl, ?h1_2⟩) hHeld ?r1_2
    case h1_2 => (rintro w' hb; have q1 := (hb.cell (p := ⟨rb, 1, none⟩) hrl).trans y1; have q2 := (hb.cell (p := ⟨rb, 2, none⟩) hrl).trans y2; have q3 := (hb.cell (p := ⟨rb, 3, none⟩) hrl).trans y3; have q4 := (hb.cell (p := ⟨rb, 4, none⟩) hrl).trans y4; go_simp; try (with_reducible rfl))
    try simp only [Act.put, List.getElem_toArray, List.getElem_cons_zero, List.getElem_cons_succ, List.setIfInBounds_toArray, List.set_cons_zero, List.set_cons_succ]
    refine wpAnyH_take (i := 2) (v := ?v2_3) rfl (by kernel_rfl) (by kernel_rfl) (by kernel_rfl) (fun _ _ _ h => h) (Or.inl ⟨by kernel_rfl, ?h2_3⟩) hHeld ?r2_3
    case h2_3 => (rintro w' hb; have q1 := (hb.cell (p := ⟨rb, 1, none⟩) hrl).trans y1; have q2 := (hb.cell (p := ⟨rb, 2, none⟩) hrl).trans y2; have q3 := (hb.cell (p := ⟨rb, 3, none⟩) hrl).trans y3; have q4 := (hb.cell (p := ⟨rb, 4, none⟩) hrl).trans y4; go_simp; try (with_reducible rfl))
    try simp only [Act.put, List.getElem_toArray, List.getElem_cons_zero, List.getElem_cons_succ, List.setIfInBounds_toArray, List.set_cons_zero, List.set_cons_succ]
    refine wpAnyH_take (i := 3) (v := ?v3_4) rfl (by kernel_rfl) (by kernel_rfl) (by kernel_rfl) (fun _ _ _ h => h) (Or.inl ⟨by kernel_rfl, ?h3_4⟩) hHeld ?r3_4
    case h3_4 => (rintro w' hb; have q1 := (hb.cell (p := ⟨rb, 1, none⟩) hrl).trans y1; have q2 := (hb.cell (p := ⟨rb, 2, none⟩) hrl).trans y2; have q3 := (hb.cell (p := ⟨rb, 3, none⟩) hrl).trans y3; have q4 := (hb.cell (p := ⟨rb, 4, none⟩) hrl).trans y4; go_simp; try (with_reducible rfl))
    try simp only [Act.put, List.getElem_toArray, List.getElem_cons_zero, List.getElem_cons_succ, List.setIfInBounds_toArray, List.set_cons_zero, List.set_cons_succ]
    refine wpAnyH_take (i := 4) (v := ?v4_5) rfl (by kernel_rfl) (by kernel_rfl) (by kernel_rfl) (fun _ _ _ h => h) (Or.inl ⟨by kernel_rfl, ?h4_5⟩) hHeld ?r4_5
    case h4_5 => (rintro w' hb; have q1 := (hb.cell (p := ⟨rb, 1, none⟩) hrl).trans y1; have q2 := (hb.cell (p := ⟨rb, 2, none⟩) hrl).trans y2; have q3 := (hb.cell (p := ⟨rb, 3, none⟩) hrl).trans y3; have q4 := (hb.cell (p := ⟨rb, 4, none⟩) hrl).trans y4; go_simp; try (with_reducible rfl))
    try simp only [Act.put, List.getElem_toArray, List.getElem_cons_zero, List.getElem_cons_succ, List.setIfInBounds_toArray, List.set_cons_zero, List.set_cons_succ]
    refine wpAnyH_take (i := 5) (v := ?v5_6) rfl (by kernel_rfl) (by kernel_rfl) (by kernel_rfl) (fun _ _ _ h => h) (Or.inl ⟨by kernel_rfl, ?h5_6⟩) hHeld ?r5_6
    case h5_6 => (rintro w' hb; have q1 := (hb.cell (p := ⟨rb, 1, none⟩) hrl).trans y1; have q2 := (hb.cell (p := ⟨rb, 2, none⟩) hrl).trans y2; have q3 := (hb.cell (p := ⟨rb, 3, none⟩) hrl).trans y3; have q4 := (hb.cell (p := ⟨rb, 4, none⟩) hrl).trans y4; go_simp; try (with_reducible rfl))
    try simp only [Act.put, List.getElem_toArray, List.getElem_cons_zero, List.getElem_cons_succ, List.setIfInBounds_toArray, List.set_cons_zero, List.set_cons_succ]
    refine wpAnyH_take (i := 6) (v := ?v6_7) rfl (by kernel_rfl) (by kernel_rfl) (by kernel_rfl) (fun _ _ _ h => h) (Or.inl ⟨by kernel_rfl, ?h6_7⟩) hHeld ?r6_7
    case h6_7 => (rintro w' hb; have q1 := (hb.cell (p := ⟨rb, 1, none⟩) hrl).trans y1; have q2 := (hb.cell (p := ⟨rb, 2, none⟩) hrl).trans y2; have q3 := (hb.cell (p := ⟨rb, 3, none⟩) hrl).trans y3; have q4 := (hb.cell (p := ⟨rb, 4, none⟩) hrl).trans y4; go_simp; try (with_reducible rfl))
    try simp only [Act.put, List.getElem_toArray, List.getElem_cons_zero, List.getElem_cons_succ, List.setIfInBounds_toArray, List.set_cons_zero, List.set_cons_succ]
    refine wpAnyH_take (i := 7) (v := ?v7_8) rfl (by kernel_rfl) (by kernel_rfl) (by kernel_rfl) (fun _ _ _ h => h) (Or.inl ⟨by kernel_rfl, ?h7_8⟩) hHeld ?r7_8
    case h7_8 => (rintro w' hb; have q1 := (hb.cell (p := ⟨rb, 1, none⟩) hrl).trans y1; have q2 := (hb.cell (p := ⟨rb, 2, none⟩) hrl).trans y2; have q3 := (hb.cell (p := ⟨rb, 3, none⟩) hrl).trans y3; have q4 := (hb.cell (p := ⟨rb, 4, none⟩) hrl).trans y4; go_simp; try (with_reducible rfl))
    try simp only [Act.put, List.getElem_toArray, List.getElem_cons_zero, List.getElem_cons_succ, List.setIfInBounds_toArray, List.set_cons_zero, List.set_cons_succ]
    refine wpAnyH_take (i := 8) (v := ?v8_9) rfl (by kernel_rfl) (by kernel_rfl) (by kernel_rfl) (fun _ _ _ h => h) (Or.inl ⟨by kernel_rfl, ?h8_9⟩) hHeld ?r8_9
    case h8_9 => (rintro w' hb; have q1 := (hb.cell (p := ⟨rb, 1, none⟩) hrl).trans y1; have q2 := (hb.cell (p := ⟨rb, 2, none⟩) hrl).trans y2; have q3 := (hb.cell (p := ⟨rb, 3, none⟩) hrl).trans y3; have q4 := (hb.cell (p := ⟨rb, 4, none⟩) hrl).trans y4; go_simp; try (with_reducible rfl))
    try simp only [Act.put, List.getElem_toArray, List.getElem_cons_zero, List.getElem_cons_succ, List.setIfInBounds_toArray, List.set_cons_zero, List.set_cons_succ]
    refine wpAnyH_take (i := 9) (v := ?v9_10) rfl (by kernel_rfl) (by kernel_rfl) (by kernel_rfl) (fun _ _ _ h => h) (Or.inl ⟨by kernel_rfl, ?h9_10⟩) hHeld ?r9_10
    case h9_10 => (rintro w' hb; have q1 := (hb.cell (p := ⟨rb, 1, none⟩) hrl).trans y1; have q2 := (hb.cell (p := ⟨rb, 2, none⟩) hrl).trans y2; have q3 := (hb.cell (p := ⟨rb, 3, none⟩) hrl).trans y3; have q4 := (hb.cell (p := ⟨rb, 4, none⟩) hrl).trans y4; go_simp; try (with_reducible rfl))
    try simp only [Act.put, List.getElem_toArray, List.getElem_cons_zero, List.getElem_cons_succ, List.setIfInBounds_toArray, List.set_cons_zero, List.set_cons_succ]
    refine wpAnyH_take (i := 10) (v := ?v10_11) rfl (by kernel_rfl) (by kernel_rfl) (by kernel_rfl) (fun _ _ _ h => h) (Or.inl ⟨by kernel_rfl, ?h10_11⟩) hHeld ?r10_11
    case h10_11 => (rintro w' hb; have q1 := (hb.cell (p := ⟨rb, 1, none⟩) hrl).trans y1; have q2 := (hb.cell (p := ⟨rb, 2, none⟩) hrl).trans y2; have q3 := (hb.cell (p := ⟨rb, 3, none⟩) hrl).trans y3; have q4 := (hb.cell (p := ⟨rb, 4, none⟩) hrl).trans y4; go_simp; try (with_reducible rfl))
    try simp only [Act.put, List.getElem_toArray, List.getElem_cons_zero, List.getElem_cons_succ, List.setIfInBounds_toArray, List.set_cons_zero, List.set_cons_succ]
    refine wpAnyH_take (i := 11) (v := ?v11_12) rfl (by kernel_rfl) (by kernel_rfl) (by kernel_rfl) (fun _ _ _ h => h) (Or.inl ⟨by kernel_rfl, ?h11_12⟩) hHeld ?r11_12
    case h11_12 => (rintro w' hb; have q1 := (hb.cell (p := ⟨rb, 1, none⟩) hrl).trans y1; have q2 := (hb.cell (p := ⟨rb, 2, none⟩) hrl).trans y2; have q3 := (hb.cell (p := ⟨rb, 3, none⟩) hrl).trans y3; have q4 := (hb.cell (p := ⟨rb, 4, none⟩) hrl).trans y4; go_simp; try (with_reducible rfl))
    try simp only [Act.put, List.getElem_toArray, List.getElem_cons_zero, List.getElem_cons_succ, List.setIfInBounds_toArray, List.set_cons_zero, List.set_cons_succ]
    obtain ⟨X0, hX0⟩ : ∃ Z, Z = W0.drew := ⟨_, rfl⟩
    rw [← hX0] at hHeld ⊢
    clear hX0 y1 y2 y3 y4
    refine wpAnyH_ready (rs := [12, 17, 18]) (by kernel_rfl) (by simp) ?_
    refine AllReadyH.cons (o := { dst := some 36, op := Op.call { callee := Callee.value (Operand.func 46), args := #[Operand.tmp 27, Operand.tmp 31, Operand.tmp 35], argTypes := #[22, 3, 53] }, type := 96, pos := "read.go:91", after := #[{ on := 3, ground := Ground.data }, { on := 7, ground := Ground.data }, { on := 11, ground := Ground.data }], guard := none }) rfl (fun K hK => ?_) (AllReadyH.cons (o := { dst := some 3, op := Op.alloc 53, type := 0, pos := "read.go:91", after := #[], guard := none }) rfl (fun K hK => ?_) (AllReadyH.cons (o := { dst := some 5, op := Op.alloc 26, type := 0, pos := "read.go:91", after := #[], guard := none }) rfl (fun K hK => ?_) (AllReadyH.nil)))
    · go_simp
      refine (HN.out _ hHeld).mono ?_
      rintro e X1 ⟨rfl, hb⟩
      refine hK.out _ _ (hHeld.trans (hb.mono hHeld.size)) (fun hY1 => ?_)
      clear hK K hb
      try simp only [Act.put, List.getElem_toArray, List.getElem_cons_zero, List.getElem_cons_succ, List.setIfInBounds_toArray, List.set_cons_zero, List.set_cons_succ]
      refine wpAnyH_take (i := 13) (v := ?v13_13) rfl (by kernel_rfl) (by kernel_rfl) (by kernel_rfl) (fun _ _ _ h => h) (Or.inl ⟨by kernel_rfl, ?h13_13⟩) hY1 ?r13_13
      case h13_13 => (rintro w' hb; go_simp; try (with_reducible rfl))
      try simp only [Act.put, List.getElem_toArray, List.getElem_cons_zero, List.getElem_cons_succ, List.setIfInBounds_toArray, List.set_cons_zero, List.set_cons_succ]
      refine wpAnyH_take (i := 14) (v := ?v14_14) rfl (by kernel_rfl) (by kernel_rfl) (by kernel_rfl) (fun _ _ _ h => h) (Or.inl ⟨by kernel_rfl, ?h14_14⟩) hY1 ?r14_14
      case h14_14 => (rintro w' hb; go_simp; try (with_reducible rfl))
      try simp only [Act.put, List.getElem_toArray, List.getElem_cons_zero, List.getElem_cons_succ, List.setIfInBounds_toArray, List.set_cons_zero, List.set_cons_succ]
      refine wpAnyH_take (i := 15) (v := ?v15_15) rfl (by kernel_rfl) (by kernel_rfl) (by kernel_rfl) (fun _ _ _ h => h) (Or.inl ⟨by kernel_rfl, ?h15_15⟩) hY1 ?r15_15
      case h15_15 => (rintro w' hb; go_simp; try (with_reducible rfl))
      try simp only [Act.put, List.getElem_toArray, List.getElem_cons_zero, List.getElem_cons_succ, List.setIfInBounds_toArray, List.set_cons_zero, List.set_cons_succ]
      refine wpAnyH_take (i := 16) (v := ?v16_16) rfl (by kernel_rfl) (by kernel_rfl) (by kernel_rfl) (fun _ _ _ h => h) (Or.inl ⟨by kernel_rfl, ?h16_16⟩) hY1 ?r16_16
      case h16_16 => (rintro w' hb; go_simp; try (with_reducible rfl))
      try simp only [Act.put, List.getElem_toArray, List.getElem_cons_zero, List.getElem_cons_succ, List.setIfInBounds_toArray, List.set_cons_zero, List.set_cons_succ]
      refine wpAnyH_ready (rs := [17, 18]) (by kernel_rfl) (by simp) ?_
      refine AllReadyH.cons (o := { dst := some 3, op := Op.alloc 53, type := 0, pos := "read.go:91", after := #[], guard := none }) rfl (fun K hK => ?_) (AllReadyH.cons (o := { dst := some 5, op := Op.alloc 26, type := 0, pos := "read.go:91", after := #[], guard := none }) rfl (fun K hK => ?_) (AllReadyH.nil))
      · go_simp
        refine hK.out _ _ (hY1.alloc hY1.size _) (fun hY2 => ?_)
        clear hK K
        try simp only [Act.put, List.getElem_toArray, List.getElem_cons_zero, List.getElem_cons_succ, List.setIfInBounds_toArray, List.set_cons_zero, List.set_cons_succ]
        obtain ⟨X2, hX⟩ : ∃ Z, Z = X1.alloc (.cells #[.int .i64 0, .int .i64 0] 53) := ⟨_, rfl⟩
        rw [← hX] at hY2 ⊢
        obtain ⟨a3, ha⟩ : ∃ z, z = X1.heap.size := ⟨_, rfl⟩
        rw [← ha]
        have c3 : Cells2 X2 a3 0 0 := by rw [hX, ha]; exact cells2_of _ (MapKept.heap_alloc X1 _).1
        have l3 : W0.heap.size ≤ a3 := by rw [ha]; exact hY1.size
        clear hX ha
        refine wpAnyH_ready (rs := [18]) (by kernel_rfl) (by simp) ?_
        refine AllReadyH.cons (o := { dst := some 5, op := Op.alloc 26, type := 0, pos := "read.go:91", after := #[], guard := none }) rfl (fun K hK => ?_) (AllReadyH.nil)
        · go_simp
          refine hK.out _ _ (hY2.alloc hY2.size _) (fun hY3 => ?_)
          clear hK K
          try simp only [Act.put, List.getElem_toArray, List.getElem_cons_zero, List.getElem_cons_succ, List.setIfInBounds_toArray, List.set_cons_zero, List.set_cons_succ]
          obtain ⟨X3, hX⟩ : ∃ Z, Z = X2.alloc (.cells #[.int .i64 0, .int .i64 0] 26) := ⟨_, rfl⟩
          rw [← hX] at hY3 ⊢
          obtain ⟨a5, ha⟩ : ∃ z, z = X2.heap.size := ⟨_, rfl⟩
          rw [← ha]
          have c5 : Cells2 X3 a5 0 0 := by rw [hX, ha]; exact cells2_of _ (MapKept.heap_alloc X2 _).1
          have l5 : W0.heap.size ≤ a5 := by rw [ha]; exact hY2.size
          have n35 : a3 ≠ a5 := fun e => by have := c3.lt; omega
          replace c3 := c3.below (show Below X2.heap.size X2 X3 by rw [hX]; exact (Below.refl _ _).alloc (Nat.le_refl _) _) c3.lt
          clear hX ha
          refine wpAnyH_ready (rs := [19]) (by kernel_rfl) (by simp) ?_
          refine AllReadyH.cons (o := { dst := none, op := Op.store 53 (Operand.tmp 3) (Operand.tmp 37), type := 0, pos := "read.go:91", after := #[{ on := 17, ground := Ground.data }, { on := 14, ground := Ground.data }, { on := 12, ground := Ground.chain }, { on := 0, ground := Ground.phase }, { on := 1, ground := Ground.phase }, { on := 2, ground := Ground.phase }, { on := 3, ground := Ground.phase }, { on := 4, ground := Ground.phase }, { on := 5, ground := Ground.phase }, { on := 6, ground := Ground.phase }, { on := 7, ground := Ground.phase }, { on := 8, ground := Ground.phase }, { on := 9, ground := Ground.phase }, { on := 10, ground := Ground.phase }, { on := 11, ground := Ground.phase }, { on := 12, ground := Ground.phase }, { on := 13, ground := Ground.phase }, { on := 14, ground := Ground.phase }, { on := 15, ground := Ground.textOnly Departure.lateStores }, { on := 16, ground := Ground.textOnly Departure.lateStores }, { on := 17, ground := Ground.phase }, { on := 18, ground := Ground.phase }], guard := none }) rfl (fun K hK => ?_) (AllReadyH.nil)
          · obtain ⟨k0, k1, kf0, kf1, kl⟩ := c3
            go_simp
            refine hK.out _ _ ((hY3.setCell (p := ⟨a3, 0, none⟩) l3 _).setCell (p := ⟨a3, 1, none⟩) l3 _) (fun hY4 => ?_)
            clear hK K
            try simp only [Act.put, List.getElem_toArray, List.getElem_cons_zero, List.getElem_cons_succ, List.setIfInBounds_toArray, List.set_cons_zero, List.set_cons_succ]
            have c3 := cells2_put1 (cells2_put0 ⟨k0, k1, kf0, kf1, kl⟩ G0) G1
            replace c5 := (c5.off (a := ⟨a3, 0, none⟩) (.int .i64 G0) n35.symm).off (a := ⟨a3, 1, none⟩) (.int .i64 G1) n35.symm
            obtain ⟨X4, hX⟩ : ∃ Z, Z = ((X3.setCell ⟨a3, 0, none⟩ (.int .i64 G0)).setCell ⟨a3, 1, none⟩ (.int .i64 G1)) := ⟨_, rfl⟩
            rw [← hX] at c3 hY4 ⊢
            rw [← hX] at c5
            clear hX k0 k1 kf0 kf1 kl
            refine wpAnyH_take (i := 20) (v := ?v20_17) rfl (by kernel_rfl) (by kernel_rfl) (by kernel_rfl) (fun _ _ _ h => h) (Or.inl ⟨by kernel_rfl, ?h20_17⟩) hY4 ?r20_17
            case h20_17 => (rintro w' hb; go_simp; try (with_reducible rfl))
            try simp only [Act.put, List.getElem_toArray, List.getElem_cons_zero, List.getElem_cons_succ, List.setIfInBounds_toArray, List.set_cons_zero, List.set_cons_succ]
            refine wpAnyH_ready (rs := [21]) (by kernel_rfl) (by simp) ?_
            refine AllReadyH.cons (o := { dst := none, op := Op.store 26 (Operand.tmp 5) (Operand.tmp 39), type := 0, pos := "read.go:91", after := #[{ on := 18, ground := Ground.data }, { on := 16, ground := Ground.data }, { on := 20, ground := Ground.chain }, { on := 0, ground := Ground.phase }, { on := 1, ground := Ground.phase }, { on := 2, ground := Ground.phase }, { on := 3, ground := Ground.phase }, { on := 4, ground := Ground.phase }, { on := 5, ground := Ground.phase }, { on := 6, ground := Ground.phase }, { on := 7, ground := Ground.phase }, { on := 8, ground := Ground.phase }, { on := 9, ground := Ground.phase }, { on := 10, ground := Ground.phase }, { on := 11, ground := Ground.phase }, { on := 12, ground := Ground.phase }, { on := 13, ground := Ground.phase }, { on := 14, ground := Ground.phase }, { on := 15, ground := Ground.phase }, { on := 16, ground := Ground.phase }, { on := 17, ground := Ground.phase }, { on := 18, ground := Ground.phase }, { on := 19, ground := Ground.phase }, { on := 20, ground := Ground.phase }], guard := none }) rfl (fun K hK => ?_) (AllReadyH.nil)
            · obtain ⟨k0, k1, kf0, kf1, kl⟩ := c5
              go_simp
              refine hK.out _ _ ((hY4.setCell (p := ⟨a5, 0, none⟩) l5 _).setCell (p := ⟨a5, 1, none⟩) l5 _) (fun hY5 => ?_)
              clear hK K
              try simp only [Act.put, List.getElem_toArray, List.getElem_cons_zero, List.getElem_cons_succ, List.setIfInBounds_toArray, List.set_cons_zero, List.set_cons_succ]
              have c5 := cells2_put1 (cells2_put0 ⟨k0, k1, kf0, kf1, kl⟩ e0) e1
              replace c3 := (c3.off (a := ⟨a5, 0, none⟩) (.int .i64 e0) n35).off (a := ⟨a5, 1, none⟩) (.int .i64 e1) n35
              obtain ⟨X5, hX⟩ : ∃ Z, Z = ((X4.setCell ⟨a5, 0, none⟩ (.int .i64 e0)).setCell ⟨a5, 1, none⟩ (.int .i64 e1)) := ⟨_, rfl⟩
              rw [← hX] at c5 hY5 ⊢
              rw [← hX] at c3
              clear hX k0 k1 kf0 kf1 kl
              refine wpAnyH_done (by kernel_rfl) ?_ _
              try simp only [Act.put, List.getElem_toArray, List.getElem_cons_zero, List.getElem_cons_succ, List.setIfInBounds_toArray, List.set_cons_zero, List.set_cons_succ]
              go_wp2
              go_meet
              exact ⟨a3, a5, rfl, rfl, rfl, c3, c5, hY5, l3, l5, n35⟩
      · go_simp
        refine hK.out _ _ (hY1.alloc hY1.size _) (fun hY6 => ?_)
        clear hK K
        try simp only [Act.put, List.getElem_toArray, List.getElem_cons_zero, List.getElem_cons_succ, List.setIfInBounds_toArray, List.set_cons_zero, List.set_cons_succ]
        obtain ⟨X6, hX⟩ : ∃ Z, Z = X1.alloc (.cells #[.int .i64 0, .int .i64 0] 26) := ⟨_, rfl⟩
        rw [← hX] at hY6 ⊢
        obtain ⟨a5, ha⟩ : ∃ z, z = X1.heap.size := ⟨_, rfl⟩
        rw [← ha]
        have c5 : Cells2 X6 a5 0 0 := by rw [hX, ha]; exact cells2_of _ (MapKept.heap_alloc X1 _).1
        have l5 : W0.heap.size ≤ a5 := by rw [ha]; exact hY1.size
        clear hX ha
        refine wpAnyH_ready (rs := [17]) (by kernel_rfl) (by simp) ?_
        refine AllReadyH.cons (o := { dst := some 3, op := Op.alloc 53, type := 0, pos := "read.go:91", after := #[], guard := none }) rfl (fun K hK => ?_) (AllReadyH.nil)
        · go_simp
          refine hK.out _ _ (hY6.alloc hY6.size _) (fun hY7 => ?_)
          clear hK K
          try simp only [Act.put, List.getElem_toArray, List.getElem_cons_zero, List.getElem_cons_succ, List.setIfInBounds_toArray, List.set_cons_zero, List.set_cons_succ]
          obtain ⟨X7, hX⟩ : ∃ Z, Z = X6.alloc (.cells #[.int .i64 0, .int .i64 0] 53) := ⟨_, rfl⟩
          rw [← hX] at hY7 ⊢
          obtain ⟨a3, ha⟩ : ∃ z, z = X6.heap.size := ⟨_, rfl⟩
          rw [← ha]
          have c3 : Cells2 X7 a3 0 0 := by rw [hX, ha]; exact cells2_of _ (MapKept.heap_alloc X6 _).1
          have l3 : W0.heap.size ≤ a3 := by rw [ha]; exact hY6.size
          have n35 : a3 ≠ a5 := fun e => by have := c5.lt; omega
          replace c5 := c5.below (show Below X6.heap.size X6 X7 by rw [hX]; exact (Below.refl _ _).alloc (Nat.le_refl _) _) c5.lt
          clear hX ha
          refine wpAnyH_ready (rs := [19]) (by kernel_rfl) (by simp) ?_
          refine AllReadyH.cons (o := { dst := none, op := Op.store 53 (Operand.tmp 3) (Operand.tmp 37), type := 0, pos := "read.go:91", after := #[{ on := 17, ground := Ground.data }, { on := 14, ground := Ground.data }, { on := 12, ground := Ground.chain }, { on := 0, ground := Ground.phase }, { on := 1, ground := Ground.phase }, { on := 2, ground := Ground.phase }, { on := 3, ground := Ground.phase }, { on := 4, ground := Ground.phase }, { on := 5, ground := Ground.phase }, { on := 6, ground := Ground.phase }, { on := 7, ground := Ground.phase }, { on := 8, ground := Ground.phase }, { on := 9, ground := Ground.phase }, { on := 10, ground := Ground.phase }, { on := 11, ground := Ground.phase }, { on := 12, ground := Ground.phase }, { on := 13, ground := Ground.phase }, { on := 14, ground := Ground.phase }, { on := 15, ground := Ground.textOnly Departure.lateStores }, { on := 16, ground := Ground.textOnly Departure.lateStores }, { on := 17, ground := Ground.phase }, { on := 18, ground := Ground.phase }], guard := none }) rfl (fun K hK => ?_) (AllReadyH.nil)
          · obtain ⟨k0, k1, kf0, kf1, kl⟩ := c3
            go_simp
            refine hK.out _ _ ((hY7.setCell (p := ⟨a3, 0, none⟩) l3 _).setCell (p := ⟨a3, 1, none⟩) l3 _) (fun hY8 => ?_)
            clear hK K
            try simp only [Act.put, List.getElem_toArray, List.getElem_cons_zero, List.getElem_cons_succ, List.setIfInBounds_toArray, List.set_cons_zero, List.set_cons_succ]
            have c3 := cells2_put1 (cells2_put0 ⟨k0, k1, kf0, kf1, kl⟩ G0) G1
            replace c5 := (c5.off (a := ⟨a3, 0, none⟩) (.int .i64 G0) n35.symm).off (a := ⟨a3, 1, none⟩) (.int .i64 G1) n35.symm
            obtain ⟨X8, hX⟩ : ∃ Z, Z = ((X7.setCell ⟨a3, 0, none⟩ (.int .i64 G0)).setCell ⟨a3, 1, none⟩ (.int .i64 G1)) := ⟨_, rfl⟩
            rw [← hX] at c3 hY8 ⊢
            rw [← hX] at c5
            clear hX k0 k1 kf0 kf1 kl
            refine wpAnyH_take (i := 20) (v := ?v20_18) rfl (by kernel_rfl) (by kernel_rfl) (by kernel_rfl) (fun _ _ _ h => h) (Or.inl ⟨by kernel_rfl, ?h20_18⟩) hY8 ?r20_18
            case h20_18 => (rintro w' hb; go_simp; try (with_reducible rfl))
            try simp only [Act.put, List.getElem_toArray, List.getElem_cons_zero, List.getElem_cons_succ, List.setIfInBounds_toArray, List.set_cons_zero, List.set_cons_succ]
            refine wpAnyH_ready (rs := [21]) (by kernel_rfl) (by simp) ?_
            refine AllReadyH.cons (o := { dst := none, op := Op.store 26 (Operand.tmp 5) (Operand.tmp 39), type := 0, pos := "read.go:91", after := #[{ on := 18, ground := Ground.data }, { on := 16, ground := Ground.data }, { on := 20, ground := Ground.chain }, { on := 0, ground := Ground.phase }, { on := 1, ground := Ground.phase }, { on := 2, ground := Ground.phase }, { on := 3, ground := Ground.phase }, { on := 4, ground := Ground.phase }, { on := 5, ground := Ground.phase }, { on := 6, ground := Ground.phase }, { on := 7, ground := Ground.phase }, { on := 8, ground := Ground.phase }, { on := 9, ground := Ground.phase }, { on := 10, ground := Ground.phase }, { on := 11, ground := Ground.phase }, { on := 12, ground := Ground.phase }, { on := 13, ground := Ground.phase }, { on := 14, ground := Ground.phase }, { on := 15, ground := Ground.phase }, { on := 16, ground := Ground.phase }, { on := 17, ground := Ground.phase }, { on := 18, ground := Ground.phase }, { on := 19, ground := Ground.phase }, { on := 20, ground := Ground.phase }], guard := none }) rfl (fun K hK => ?_) (AllReadyH.nil)
            · obtain ⟨k0, k1, kf0, kf1, kl⟩ := c5
              go_simp
              refine hK.out _ _ ((hY8.setCell (p := ⟨a5, 0, none⟩) l5 _).setCell (p := ⟨a5, 1, none⟩) l5 _) (fun hY9 => ?_)
              clear hK K
              try simp only [Act.put, List.getElem_toArray, List.getElem_cons_zero, List.getElem_cons_succ, List.setIfInBounds_toArray, List.set_cons_zero, List.set_cons_succ]
              have c5 := cells2_put1 (cells2_put0 ⟨k0, k1, kf0, kf1, kl⟩ e0) e1
              replace c3 := (c3.off (a := ⟨a5, 0, none⟩) (.int .i64 e0) n35).off (a := ⟨a5, 1, none⟩) (.int .i64 e1) n35
              obtain ⟨X9, hX⟩ : ∃ Z, Z = ((X8.setCell ⟨a5, 0, none⟩ (.int .i64 e0)).setCell ⟨a5, 1, none⟩ (.int .i64 e1)) := ⟨_, rfl⟩
              rw [← hX] at c5 hY9 ⊢
              rw [← hX] at c3
              clear hX k0 k1 kf0 kf1 kl
              refine wpAnyH_done (by kernel_rfl) ?_ _
              try simp only [Act.put, List.getElem_toArray, List.getElem_cons_zero, List.getElem_cons_succ, List.setIfInBounds_toArray, List.set_cons_zero, List.set_cons_succ]
              go_wp2
              go_meet
              exact ⟨a3, a5, rfl, rfl, rfl, c3, c5, hY9, l3, l5, n35⟩
    · go_simp
      refine hK.out _ _ (hHeld.alloc hHeld.size _) (fun hY10 => ?_)
      clear hK K
      try simp only [Act.put, List.getElem_toArray, List.getElem_cons_zero, List.getElem_cons_succ, List.setIfInBounds_toArray, List.set_cons_zero, List.set_cons_succ]
      obtain ⟨X10, hX⟩ : ∃ Z, Z = X0.alloc (.cells #[.int .i64 0, .int .i64 0] 53) := ⟨_, rfl⟩
      rw [← hX] at hY10 ⊢
      obtain ⟨a3, ha⟩ : ∃ z, z = X0.heap.size := ⟨_, rfl⟩
      rw [← ha]
      have c3 : Cells2 X10 a3 0 0 := by rw [hX, ha]; exact cells2_of _ (MapKept.heap_alloc X0 _).1
      have l3 : W0.heap.size ≤ a3 := by rw [ha]; exact hHeld.size
      clear hX ha
      refine wpAnyH_ready (rs := [12, 18]) (by kernel_rfl) (by simp) ?_
      refine AllReadyH.cons (o := { dst := some 36, op := Op.call { callee := Callee.value (Operand.func 46), args := #[Operand.tmp 27, Operand.tmp 31, Operand.tmp 35], argTypes := #[22, 3, 53] }, type := 96, pos := "read.go:91", after := #[{ on := 3, ground := Ground.data }, { on := 7, ground := Ground.data }, { on := 11, ground := Ground.data }], guard := none }) rfl (fun K hK => ?_) (AllReadyH.cons (o := { dst := some 5, op := Op.alloc 26, type := 0, pos := "read.go:91", after := #[], guard := none }) rfl (fun K hK => ?_) (AllReadyH.nil))
      · go_simp
        refine (HN.out _ hY10).mono ?_
        rintro e X11 ⟨rfl, hb⟩
        replace c3 := c3.below hb c3.lt
        refine hK.out _ _ (hY10.trans (hb.mono hY10.size)) (fun hY11 => ?_)
        clear hK K hb
        try simp only [Act.put, List.getElem_toArray, List.getElem_cons_zero, List.getElem_cons_succ, List.setIfInBounds_toArray, List.set_cons_zero, List.set_cons_succ]
        refine wpAnyH_take (i := 13) (v := ?v13_19) rfl (by kernel_rfl) (by kernel_rfl) (by kernel_rfl) (fun _ _ _ h => h) (Or.inl ⟨by kernel_rfl, ?h13_19⟩) hY11 ?r13_19
        case h13_19 => (rintro w' hb; go_simp; try (with_reducible rfl))
        try simp only [Act.put, List.getElem_toArray, List.getElem_cons_zero, List.getElem_cons_succ, List.setIfInBounds_toArray, List.set_cons_zero, List.set_cons_succ]
        refine wpAnyH_take (i := 14) (v := ?v14_20) rfl (by kernel_rfl) (by kernel_rfl) (by kernel_rfl) (fun _ _ _ h => h) (Or.inl ⟨by kernel_rfl, ?h14_20⟩) hY11 ?r14_20
        case h14_20 => (rintro w' hb; go_simp; try (with_reducible rfl))
        try simp only [Act.put, List.getElem_toArray, List.getElem_cons_zero, List.getElem_cons_succ, List.setIfInBounds_toArray, List.set_cons_zero, List.set_cons_succ]
        refine wpAnyH_take (i := 15) (v := ?v15_21) rfl (by kernel_rfl) (by kernel_rfl) (by kernel_rfl) (fun _ _ _ h => h) (Or.inl ⟨by kernel_rfl, ?h15_21⟩) hY11 ?r15_21
        case h15_21 => (rintro w' hb; go_simp; try (with_reducible rfl))
        try simp only [Act.put, List.getElem_toArray, List.getElem_cons_zero, List.getElem_cons_succ, List.setIfInBounds_toArray, List.set_cons_zero, List.set_cons_succ]
        refine wpAnyH_take (i := 16) (v := ?v16_22) rfl (by kernel_rfl) (by kernel_rfl) (by kernel_rfl) (fun _ _ _ h => h) (Or.inl ⟨by kernel_rfl, ?h16_22⟩) hY11 ?r16_22
        case h16_22 => (rintro w' hb; go_simp; try (with_reducible rfl))
        try simp only [Act.put, List.getElem_toArray, List.getElem_cons_zero, List.getElem_cons_succ, List.setIfInBounds_toArray, List.set_cons_zero, List.set_cons_succ]
        refine wpAnyH_ready (rs := [18]) (by kernel_rfl) (by simp) ?_
        refine AllReadyH.cons (o := { dst := some 5, op := Op.alloc 26, type := 0, pos := "read.go:91", after := #[], guard := none }) rfl (fun K hK => ?_) (AllReadyH.nil)
        · go_simp
          refine hK.out _ _ (hY11.alloc hY11.size _) (fun hY12 => ?_)
          clear hK K
          try simp only [Act.put, List.getElem_toArray, List.getElem_cons_zero, List.getElem_cons_succ, List.setIfInBounds_toArray, List.set_cons_zero, List.set_cons_succ]
          obtain ⟨X12, hX⟩ : ∃ Z, Z = X11.alloc (.cells #[.int .i64 0, .int .i64 0] 26) := ⟨_, rfl⟩
          rw [← hX] at hY12 ⊢
          obtain ⟨a5, ha⟩ : ∃ z, z = X11.heap.size := ⟨_, rfl⟩
          rw [← ha]
          have c5 : Cells2 X12 a5 0 0 := by rw [hX, ha]; exact cells2_of _ (MapKept.heap_alloc X11 _).1
          have l5 : W0.heap.size ≤ a5 := by rw [ha]; exact hY11.size
          have n35 : a3 ≠ a5 := fun e => by have := c3.lt; omega
          replace c3 := c3.below (show Below X11.heap.size X11 X12 by rw [hX]; exact (Below.refl _ _).alloc (Nat.le_refl _) _) c3.lt
          clear hX ha
          refine wpAnyH_ready (rs := [19]) (by kernel_rfl) (by simp) ?_
          refine AllReadyH.cons (o := { dst := none, op := Op.store 53 (Operand.tmp 3) (Operand.tmp 37), type := 0, pos := "read.go:91", after := #[{ on := 17, ground := Ground.data }, { on := 14, ground := Ground.data }, { on := 12, ground := Ground.chain }, { on := 0, ground := Ground.phase }, { on := 1, ground := Ground.phase }, { on := 2, ground := Ground.phase }, { on := 3, ground := Ground.phase }, { on := 4, ground := Ground.phase }, { on := 5, ground := Ground.phase }, { on := 6, ground := Ground.phase }, { on := 7, ground := Ground.phase }, { on := 8, ground := Ground.phase }, { on := 9, ground := Ground.phase }, { on := 10, ground := Ground.phase }, { on := 11, ground := Ground.phase }, { on := 12, ground := Ground.phase }, { on := 13, ground := Ground.phase }, { on := 14, ground := Ground.phase }, { on := 15, ground := Ground.textOnly Departure.lateStores }, { on := 16, ground := Ground.textOnly Departure.lateStores }, { on := 17, ground := Ground.phase }, { on := 18, ground := Ground.phase }], guard := none }) rfl (fun K hK => ?_) (AllReadyH.nil)
          · obtain ⟨k0, k1, kf0, kf1, kl⟩ := c3
            go_simp
            refine hK.out _ _ ((hY12.setCell (p := ⟨a3, 0, none⟩) l3 _).setCell (p := ⟨a3, 1, none⟩) l3 _) (fun hY13 => ?_)
            clear hK K
            try simp only [Act.put, List.getElem_toArray, List.getElem_cons_zero, List.getElem_cons_succ, List.setIfInBounds_toArray, List.set_cons_zero, List.set_cons_succ]
            have c3 := cells2_put1 (cells2_put0 ⟨k0, k1, kf0, kf1, kl⟩ G0) G1
            replace c5 := (c5.off (a := ⟨a3, 0, none⟩) (.int .i64 G0) n35.symm).off (a := ⟨a3, 1, none⟩) (.int .i64 G1) n35.symm
            obtain ⟨X13, hX⟩ : ∃ Z, Z = ((X12.setCell ⟨a3, 0, none⟩ (.int .i64 G0)).setCell ⟨a3, 1, none⟩ (.int .i64 G1)) := ⟨_, rfl⟩
            rw [← hX] at c3 hY13 ⊢
            rw [← hX] at c5
            clear hX k0 k1 kf0 kf1 kl
            refine wpAnyH_take (i := 20) (v := ?v20_23) rfl (by kernel_rfl) (by kernel_rfl) (by kernel_rfl) (fun _ _ _ h => h) (Or.inl ⟨by kernel_rfl, ?h20_23⟩) hY13 ?r20_23
            case h20_23 => (rintro w' hb; go_simp; try (with_reducible rfl))
            try simp only [Act.put, List.getElem_toArray, List.getElem_cons_zero, List.getElem_cons_succ, List.setIfInBounds_toArray, List.set_cons_zero, List.set_cons_succ]
            refine wpAnyH_ready (rs := [21]) (by kernel_rfl) (by simp) ?_
            refine AllReadyH.cons (o := { dst := none, op := Op.store 26 (Operand.tmp 5) (Operand.tmp 39), type := 0, pos := "read.go:91", after := #[{ on := 18, ground := Ground.data }, { on := 16, ground := Ground.data }, { on := 20, ground := Ground.chain }, { on := 0, ground := Ground.phase }, { on := 1, ground := Ground.phase }, { on := 2, ground := Ground.phase }, { on := 3, ground := Ground.phase }, { on := 4, ground := Ground.phase }, { on := 5, ground := Ground.phase }, { on := 6, ground := Ground.phase }, { on := 7, ground := Ground.phase }, { on := 8, ground := Ground.phase }, { on := 9, ground := Ground.phase }, { on := 10, ground := Ground.phase }, { on := 11, ground := Ground.phase }, { on := 12, ground := Ground.phase }, { on := 13, ground := Ground.phase }, { on := 14, ground := Ground.phase }, { on := 15, ground := Ground.phase }, { on := 16, ground := Ground.phase }, { on := 17, ground := Ground.phase }, { on := 18, ground := Ground.phase }, { on := 19, ground := Ground.phase }, { on := 20, ground := Ground.phase }], guard := none }) rfl (fun K hK => ?_) (AllReadyH.nil)
            · obtain ⟨k0, k1, kf0, kf1, kl⟩ := c5
              go_simp
              refine hK.out _ _ ((hY13.setCell (p := ⟨a5, 0, none⟩) l5 _).setCell (p := ⟨a5, 1, none⟩) l5 _) (fun hY14 => ?_)
              clear hK K
              try simp only [Act.put, List.getElem_toArray, List.getElem_cons_zero, List.getElem_cons_succ, List.setIfInBounds_toArray, List.set_cons_zero, List.set_cons_succ]
              have c5 := cells2_put1 (cells2_put0 ⟨k0, k1, kf0, kf1, kl⟩ e0) e1
              replace c3 := (c3.off (a := ⟨a5, 0, none⟩) (.int .i64 e0) n35).off (a := ⟨a5, 1, none⟩) (.int .i64 e1) n35
              obtain ⟨X14, hX⟩ : ∃ Z, Z = ((X13.setCell ⟨a5, 0, none⟩ (.int .i64 e0)).setCell ⟨a5, 1, none⟩ (.int .i64 e1)) := ⟨_, rfl⟩
              rw [← hX] at c5 hY14 ⊢
              rw [← hX] at c3
              clear hX k0 k1 kf0 kf1 kl
              refine wpAnyH_done (by kernel_rfl) ?_ _
              try simp only [Act.put, List.getElem_toArray, List.getElem_cons_zero, List.getElem_cons_succ, List.setIfInBounds_toArray, List.set_cons_zero, List.set_cons_succ]
              go_wp2
              go_meet
              exact ⟨a3, a5, rfl, rfl, rfl, c3, c5, hY14, l3, l5, n35⟩
      · go_simp
        refine hK.out _ _ (hY10.alloc hY10.size _) (fun hY15 => ?_)
        clear hK K
        try simp only [Act.put, List.getElem_toArray, List.getElem_cons_zero, List.getElem_cons_succ, List.setIfInBounds_toArray, List.set_cons_zero, List.set_cons_succ]
        obtain ⟨X15, hX⟩ : ∃ Z, Z = X10.alloc (.cells #[.int .i64 0, .int .i64 0] 26) := ⟨_, rfl⟩
        rw [← hX] at hY15 ⊢
        obtain ⟨a5, ha⟩ : ∃ z, z = X10.heap.size := ⟨_, rfl⟩
        rw [← ha]
        have c5 : Cells2 X15 a5 0 0 := by rw [hX, ha]; exact cells2_of _ (MapKept.heap_alloc X10 _).1
        have l5 : W0.heap.size ≤ a5 := by rw [ha]; exact hY10.size
        have n35 : a3 ≠ a5 := fun e => by have := c3.lt; omega
        replace c3 := c3.below (show Below X10.heap.size X10 X15 by rw [hX]; exact (Below.refl _ _).alloc (Nat.le_refl _) _) c3.lt
        clear hX ha
        refine wpAnyH_ready (rs := [12]) (by kernel_rfl) (by simp) ?_
        refine AllReadyH.cons (o := { dst := some 36, op := Op.call { callee := Callee.value (Operand.func 46), args := #[Operand.tmp 27, Operand.tmp 31, Operand.tmp 35], argTypes := #[22, 3, 53] }, type := 96, pos := "read.go:91", after := #[{ on := 3, ground := Ground.data }, { on := 7, ground := Ground.data }, { on := 11, ground := Ground.data }], guard := none }) rfl (fun K hK => ?_) (AllReadyH.nil)
        · go_simp
          refine (HN.out _ hY15).mono ?_
          rintro e X16 ⟨rfl, hb⟩
          replace c3 := c3.below hb c3.lt
          replace c5 := c5.below hb c5.lt
          refine hK.out _ _ (hY15.trans (hb.mono hY15.size)) (fun hY16 => ?_)
          clear hK K hb
          try simp only [Act.put, List.getElem_toArray, List.getElem_cons_zero, List.getElem_cons_succ, List.setIfInBounds_toArray, List.set_cons_zero, List.set_cons_succ]
          refine wpAnyH_take (i := 13) (v := ?v13_24) rfl (by kernel_rfl) (by kernel_rfl) (by kernel_rfl) (fun _ _ _ h => h) (Or.inl ⟨by kernel_rfl, ?h13_24⟩) hY16 ?r13_24
          case h13_24 => (rintro w' hb; go_simp; try (with_reducible rfl))
          try simp only [Act.put, List.getElem_toArray, List.getElem_cons_zero, List.getElem_cons_succ, List.setIfInBounds_toArray, List.set_cons_zero, List.set_cons_succ]
          refine wpAnyH_take (i := 14) (v := ?v14_25) rfl (by kernel_rfl) (by kernel_rfl) (by kernel_rfl) (fun _ _ _ h => h) (Or.inl ⟨by kernel_rfl, ?h14_25⟩) hY16 ?r14_25
          case h14_25 => (rintro w' hb; go_simp; try (with_reducible rfl))
          try simp only [Act.put, List.getElem_toArray, List.getElem_cons_zero, List.getElem_cons_succ, List.setIfInBounds_toArray, List.set_cons_zero, List.set_cons_succ]
          refine wpAnyH_take (i := 15) (v := ?v15_26) rfl (by kernel_rfl) (by kernel_rfl) (by kernel_rfl) (fun _ _ _ h => h) (Or.inl ⟨by kernel_rfl, ?h15_26⟩) hY16 ?r15_26
          case h15_26 => (rintro w' hb; go_simp; try (with_reducible rfl))
          try simp only [Act.put, List.getElem_toArray, List.getElem_cons_zero, List.getElem_cons_succ, List.setIfInBounds_toArray, List.set_cons_zero, List.set_cons_succ]
          refine wpAnyH_take (i := 16) (v := ?v16_27) rfl (by kernel_rfl) (by kernel_rfl) (by kernel_rfl) (fun _ _ _ h => h) (Or.inl ⟨by kernel_rfl, ?h16_27⟩) hY16 ?r16_27
          case h16_27 => (rintro w' hb; go_simp; try (with_reducible rfl))
          try simp only [Act.put, List.getElem_toArray, List.getElem_cons_zero, List.getElem_cons_succ, List.setIfInBounds_toArray, List.set_cons_zero, List.set_cons_succ]
          refine wpAnyH_ready (rs := [19]) (by kernel_rfl) (by simp) ?_
          refine AllReadyH.cons (o := { dst := none, op := Op.store 53 (Operand.tmp 3) (Operand.tmp 37), type := 0, pos := "read.go:91", after := #[{ on := 17, ground := Ground.data }, { on := 14, ground := Ground.data }, { on := 12, ground := Ground.chain }, { on := 0, ground := Ground.phase }, { on := 1, ground := Ground.phase }, { on := 2, ground := Ground.phase }, { on := 3, ground := Ground.phase }, { on := 4, ground := Ground.phase }, { on := 5, ground := Ground.phase }, { on := 6, ground := Ground.phase }, { on := 7, ground := Ground.phase }, { on := 8, ground := Ground.phase }, { on := 9, ground := Ground.phase }, { on := 10, ground := Ground.phase }, { on := 11, ground := Ground.phase }, { on := 12, ground := Ground.phase }, { on := 13, ground := Ground.phase }, { on := 14, ground := Ground.phase }, { on := 15, ground := Ground.textOnly Departure.lateStores }, { on := 16, ground := Ground.textOnly Departure.lateStores }, { on := 17, ground := Ground.phase }, { on := 18, ground := Ground.phase }], guard := none }) rfl (fun K hK => ?_) (AllReadyH.nil)
          · obtain ⟨k0, k1, kf0, kf1, kl⟩ := c3
            go_simp
            refine hK.out _ _ ((hY16.setCell (p := ⟨a3, 0, none⟩) l3 _).setCell (p := ⟨a3, 1, none⟩) l3 _) (fun hY17 => ?_)
            clear hK K
            try simp only [Act.put, List.getElem_toArray, List.getElem_cons_zero, List.getElem_cons_succ, List.setIfInBounds_toArray, List.set_cons_zero, List.set_cons_succ]
            have c3 := cells2_put1 (cells2_put0 ⟨k0, k1, kf0, kf1, kl⟩ G0) G1
            replace c5 := (c5.off (a := ⟨a3, 0, none⟩) (.int .i64 G0) n35.symm).off (a := ⟨a3, 1, none⟩) (.int .i64 G1) n35.symm
            obtain ⟨X17, hX⟩ : ∃ Z, Z = ((X16.setCell ⟨a3, 0, none⟩ (.int .i64 G0)).setCell ⟨a3, 1, none⟩ (.int .i64 G1)) := ⟨_, rfl⟩
            rw [← hX] at c3 hY17 ⊢
            rw [← hX] at c5
            clear hX k0 k1 kf0 kf1 kl
            refine wpAnyH_take (i := 20) (v := ?v20_28) rfl (by kernel_rfl) (by kernel_rfl) (by kernel_rfl) (fun _ _ _ h => h) (Or.inl ⟨by kernel_rfl, ?h20_28⟩) hY17 ?r20_28
            case h20_28 => (rintro w' hb; go_simp; try (with_reducible rfl))
            try simp only [Act.put, List.getElem_toArray, List.getElem_cons_zero, List.getElem_cons_succ, List.setIfInBounds_toArray, List.set_cons_zero, List.set_cons_succ]
            refine wpAnyH_ready (rs := [21]) (by kernel_rfl) (by simp) ?_
            refine AllReadyH.cons (o := { dst := none, op := Op.store 26 (Operand.tmp 5) (Operand.tmp 39), type := 0, pos := "read.go:91", after := #[{ on := 18, ground := Ground.data }, { on := 16, ground := Ground.data }, { on := 20, ground := Ground.chain }, { on := 0, ground := Ground.phase }, { on := 1, ground := Ground.phase }, { on := 2, ground := Ground.phase }, { on := 3, ground := Ground.phase }, { on := 4, ground := Ground.phase }, { on := 5, ground := Ground.phase }, { on := 6, ground := Ground.phase }, { on := 7, ground := Ground.phase }, { on := 8, ground := Ground.phase }, { on := 9, ground := Ground.phase }, { on := 10, ground := Ground.phase }, { on := 11, ground := Ground.phase }, { on := 12, ground := Ground.phase }, { on := 13, ground := Ground.phase }, { on := 14, ground := Ground.phase }, { on := 15, ground := Ground.phase }, { on := 16, ground := Ground.phase }, { on := 17, ground := Ground.phase }, { on := 18, ground := Ground.phase }, { on := 19, ground := Ground.phase }, { on := 20, ground := Ground.phase }], guard := none }) rfl (fun K hK => ?_) (AllReadyH.nil)
            · obtain ⟨k0, k1, kf0, kf1, kl⟩ := c5
              go_simp
              refine hK.out _ _ ((hY17.setCell (p := ⟨a5, 0, none⟩) l5 _).setCell (p := ⟨a5, 1, none⟩) l5 _) (fun hY18 => ?_)
              clear hK K
              try simp only [Act.put, List.getElem_toArray, List.getElem_cons_zero, List.getElem_cons_succ, List.setIfInBounds_toArray, List.set_cons_zero, List.set_cons_succ]
              have c5 := cells2_put1 (cells2_put0 ⟨k0, k1, kf0, kf1, kl⟩ e0) e1
              replace c3 := (c3.off (a := ⟨a5, 0, none⟩) (.int .i64 e0) n35).off (a := ⟨a5, 1, none⟩) (.int .i64 e1) n35
              obtain ⟨X18, hX⟩ : ∃ Z, Z = ((X17.setCell ⟨a5, 0, none⟩ (.int .i64 e0)).setCell ⟨a5, 1, none⟩ (.int .i64 e1)) := ⟨_, rfl⟩
              rw [← hX] at c5 hY18 ⊢
              rw [← hX] at c3
              clear hX k0 k1 kf0 kf1 kl
              refine wpAnyH_done (by kernel_rfl) ?_ _
              try simp only [Act.put, List.getElem_toArray, List.getElem_cons_zero, List.getElem_cons_succ, List.setIfInBounds_toArray, List.set_cons_zero, List.set_cons_succ]
              go_wp2
              go_meet
              exact ⟨a3, a5, rfl, rfl, rfl, c3, c5, hY18, l3, l5, n35⟩
    · go_simp
      refine hK.out _ _ (hHeld.alloc hHeld.size _) (fun hY19 => ?_)
      clear hK K
      try simp only [Act.put, List.getElem_toArray, List.getElem_cons_zero, List.getElem_cons_succ, List.setIfInBounds_toArray, List.set_cons_zero, List.set_cons_succ]
      obtain ⟨X19, hX⟩ : ∃ Z, Z = X0.alloc (.cells #[.int .i64 0, .int .i64 0] 26) := ⟨_, rfl⟩
      rw [← hX] at hY19 ⊢
      obtain ⟨a5, ha⟩ : ∃ z, z = X0.heap.size := ⟨_, rfl⟩
      rw [← ha]
      have c5 : Cells2 X19 a5 0 0 := by rw [hX, ha]; exact cells2_of _ (MapKept.heap_alloc X0 _).1
      have l5 : W0.heap.size ≤ a5 := by rw [ha]; exact hHeld.size
      clear hX ha
      refine wpAnyH_ready (rs := [12, 17]) (by kernel_rfl) (by simp) ?_
      refine AllReadyH.cons (o := { dst := some 36, op := Op.call { callee := Callee.value (Operand.func 46), args := #[Operand.tmp 27, Operand.tmp 31, Operand.tmp 35], argTypes := #[22, 3, 53] }, type := 96, pos := "read.go:91", after := #[{ on := 3, ground := Ground.data }, { on := 7, ground := Ground.data }, { on := 11, ground := Ground.data }], guard := none }) rfl (fun K hK => ?_) (AllReadyH.cons (o := { dst := some 3, op := Op.alloc 53, type := 0, pos := "read.go:91", after := #[], guard := none }) rfl (fun K hK => ?_) (AllReadyH.nil))
      · go_simp
        refine (HN.out _ hY19).mono ?_
        rintro e X20 ⟨rfl, hb⟩
        replace c5 := c5.below hb c5.lt
        refine hK.out _ _ (hY19.trans (hb.mono hY19.size)) (fun hY20 => ?_)
        clear hK K hb
        try simp only [Act.put, List.getElem_toArray, List.getElem_cons_zero, List.getElem_cons_succ, List.setIfInBounds_toArray, List.set_cons_zero, List.set_cons_succ]
        refine wpAnyH_take (i := 13) (v := ?v13_29) rfl (by kernel_rfl) (by kernel_rfl) (by kernel_rfl) (fun _ _ _ h => h) (Or.inl ⟨by kernel_rfl, ?h13_29⟩) hY20 ?r13_29
        case h13_29 => (rintro w' hb; go_simp; try (with_reducible rfl))
        try simp only [Act.put, List.getElem_toArray, List.getElem_cons_zero, List.getElem_cons_succ, List.setIfInBounds_toArray, List.set_cons_zero, List.set_cons_succ]
        refine wpAnyH_take (i := 14) (v := ?v14_30) rfl (by kernel_rfl) (by kernel_rfl) (by kernel_rfl) (fun _ _ _ h => h) (Or.inl ⟨by kernel_rfl, ?h14_30⟩) hY20 ?r14_30
        case h14_30 => (rintro w' hb; go_simp; try (with_reducible rfl))
        try simp only [Act.put, List.getElem_toArray, List.getElem_cons_zero, List.getElem_cons_succ, List.setIfInBounds_toArray, List.set_cons_zero, List.set_cons_succ]
        refine wpAnyH_take (i := 15) (v := ?v15_31) rfl (by kernel_rfl) (by kernel_rfl) (by kernel_rfl) (fun _ _ _ h => h) (Or.inl ⟨by kernel_rfl, ?h15_31⟩) hY20 ?r15_31
        case h15_31 => (rintro w' hb; go_simp; try (with_reducible rfl))
        try simp only [Act.put, List.getElem_toArray, List.getElem_cons_zero, List.getElem_cons_succ, List.setIfInBounds_toArray, List.set_cons_zero, List.set_cons_succ]
        refine wpAnyH_take (i := 16) (v := ?v16_32) rfl (by kernel_rfl) (by kernel_rfl) (by kernel_rfl) (fun _ _ _ h => h) (Or.inl ⟨by kernel_rfl, ?h16_32⟩) hY20 ?r16_32
        case h16_32 => (rintro w' hb; go_simp; try (with_reducible rfl))
        try simp only [Act.put, List.getElem_toArray, List.getElem_cons_zero, List.getElem_cons_succ, List.setIfInBounds_toArray, List.set_cons_zero, List.set_cons_succ]
        refine wpAnyH_ready (rs := [17]) (by kernel_rfl) (by simp) ?_
        refine AllReadyH.cons (o := { dst := some 3, op := Op.alloc 53, type := 0, pos := "read.go:91", after := #[], guard := none }) rfl (fun K hK => ?_) (AllReadyH.nil)
        · go_simp
          refine hK.out _ _ (hY20.alloc hY20.size _) (fun hY21 => ?_)
          clear hK K
          try simp only [Act.put, List.getElem_toArray, List.getElem_cons_zero, List.getElem_cons_succ, List.setIfInBounds_toArray, List.set_cons_zero, List.set_cons_succ]
          obtain ⟨X21, hX⟩ : ∃ Z, Z = X20.alloc (.cells #[.int .i64 0, .int .i64 0] 53) := ⟨_, rfl⟩
          rw [← hX] at hY21 ⊢
          obtain ⟨a3, ha⟩ : ∃ z, z = X20.heap.size := ⟨_, rfl⟩
          rw [← ha]
          have c3 : Cells2 X21 a3 0 0 := by rw [hX, ha]; exact cells2_of _ (MapKept.heap_alloc X20 _).1
          have l3 : W0.heap.size ≤ a3 := by rw [ha]; exact hY20.size
          have n35 : a3 ≠ a5 := fun e => by have := c5.lt; omega
          replace c5 := c5.below (show Below X20.heap.size X20 X21 by rw [hX]; exact (Below.refl _ _).alloc (Nat.le_refl _) _) c5.lt
          clear hX ha
          refine wpAnyH_ready (rs := [19]) (by kernel_rfl) (by simp) ?_
          refine AllReadyH.cons (o := { dst := none, op := Op.store 53 (Operand.tmp 3) (Operand.tmp 37), type := 0, pos := "read.go:91", after := #[{ on := 17, ground := Ground.data }, { on := 14, ground := Ground.data }, { on := 12, ground := Ground.chain }, { on := 0, ground := Ground.phase }, { on := 1, ground := Ground.phase }, { on := 2, ground := Ground.phase }, { on := 3, ground := Ground.phase }, { on := 4, ground := Ground.phase }, { on := 5, ground := Ground.phase }, { on := 6, ground := Ground.phase }, { on := 7, ground := Ground.phase }, { on := 8, ground := Ground.phase }, { on := 9, ground := Ground.phase }, { on := 10, ground := Ground.phase }, { on := 11, ground := Ground.phase }, { on := 12, ground := Ground.phase }, { on := 13, ground := Ground.phase }, { on := 14, ground := Ground.phase }, { on := 15, ground := Ground.textOnly Departure.lateStores }, { on := 16, ground := Ground.textOnly Departure.lateStores }, { on := 17, ground := Ground.phase }, { on := 18, ground := Ground.phase }], guard := none }) rfl (fun K hK => ?_) (AllReadyH.nil)
          · obtain ⟨k0, k1, kf0, kf1, kl⟩ := c3
            go_simp
            refine hK.out _ _ ((hY21.setCell (p := ⟨a3, 0, none⟩) l3 _).setCell (p := ⟨a3, 1, none⟩) l3 _) (fun hY22 => ?_)
            clear hK K
            try simp only [Act.put, List.getElem_toArray, List.getElem_cons_zero, List.getElem_cons_succ, List.setIfInBounds_toArray, List.set_cons_zero, List.set_cons_succ]
            have c3 := cells2_put1 (cells2_put0 ⟨k0, k1, kf0, kf1, kl⟩ G0) G1
            replace c5 := (c5.off (a := ⟨a3, 0, none⟩) (.int .i64 G0) n35.symm).off (a := ⟨a3, 1, none⟩) (.int .i64 G1) n35.symm
            obtain ⟨X22, hX⟩ : ∃ Z, Z = ((X21.setCell ⟨a3, 0, none⟩ (.int .i64 G0)).setCell ⟨a3, 1, none⟩ (.int .i64 G1)) := ⟨_, rfl⟩
            rw [← hX] at c3 hY22 ⊢
            rw [← hX] at c5
            clear hX k0 k1 kf0 kf1 kl
            refine wpAnyH_take (i := 20) (v := ?v20_33) rfl (by kernel_rfl) (by kernel_rfl) (by kernel_rfl) (fun _ _ _ h => h) (Or.inl ⟨by kernel_rfl, ?h20_33⟩) hY22 ?r20_33
            case h20_33 => (rintro w' hb; go_simp; try (with_reducible rfl))
            try simp only [Act.put, List.getElem_toArray, List.getElem_cons_zero, List.getElem_cons_succ, List.setIfInBounds_toArray, List.set_cons_zero, List.set_cons_succ]
            refine wpAnyH_ready (rs := [21]) (by kernel_rfl) (by simp) ?_
            refine AllReadyH.cons (o := { dst := none, op := Op.store 26 (Operand.tmp 5) (Operand.tmp 39), type := 0, pos := "read.go:91", after := #[{ on := 18, ground := Ground.data }, { on := 16, ground := Ground.data }, { on := 20, ground := Ground.chain }, { on := 0, ground := Ground.phase }, { on := 1, ground := Ground.phase }, { on := 2, ground := Ground.phase }, { on := 3, ground := Ground.phase }, { on := 4, ground := Ground.phase }, { on := 5, ground := Ground.phase }, { on := 6, ground := Ground.phase }, { on := 7, ground := Ground.phase }, { on := 8, ground := Ground.phase }, { on := 9, ground := Ground.phase }, { on := 10, ground := Ground.phase }, { on := 11, ground := Ground.phase }, { on := 12, ground := Ground.phase }, { on := 13, ground := Ground.phase }, { on := 14, ground := Ground.phase }, { on := 15, ground := Ground.phase }, { on := 16, ground := Ground.phase }, { on := 17, ground := Ground.phase }, { on := 18, ground := Ground.phase }, { on := 19, ground := Ground.phase }, { on := 20, ground := Ground.phase }], guard := none }) rfl (fun K hK => ?_) (AllReadyH.nil)
            · obtain ⟨k0, k1, kf0, kf1, kl⟩ := c5
              go_simp
              refine hK.out _ _ ((hY22.setCell (p := ⟨a5, 0, none⟩) l5 _).setCell (p := ⟨a5, 1, none⟩) l5 _) (fun hY23 => ?_)
              clear hK K
              try simp only [Act.put, List.getElem_toArray, List.getElem_cons_zero, List.getElem_cons_succ, List.setIfInBounds_toArray, List.set_cons_zero, List.set_cons_succ]
              have c5 := cells2_put1 (cells2_put0 ⟨k0, k1, kf0, kf1, kl⟩ e0) e1
              replace c3 := (c3.off (a := ⟨a5, 0, none⟩) (.int .i64 e0) n35).off (a := ⟨a5, 1, none⟩) (.int .i64 e1) n35
              obtain ⟨X23, hX⟩ : ∃ Z, Z = ((X22.setCell ⟨a5, 0, none⟩ (.int .i64 e0)).setCell ⟨a5, 1, none⟩ (.int .i64 e1)) := ⟨_, rfl⟩
              rw [← hX] at c5 hY23 ⊢
              rw [← hX] at c3
              clear hX k0 k1 kf0 kf1 kl
              refine wpAnyH_done (by kernel_rfl) ?_ _
              try simp only [Act.put, List.getElem_toArray, List.getElem_cons_zero, List.getElem_cons_succ, List.setIfInBounds_toArray, List.set_cons_zero, List.set_cons_succ]
              go_wp2
              go_meet
              exact ⟨a3, a5, rfl, rfl, rfl, c3, c5, hY23, l3, l5, n35⟩
      · go_simp
        refine hK.out _ _ (hY19.alloc hY19.size _) (fun hY24 => ?_)
        clear hK K
        try simp only [Act.put, List.getElem_toArray, List.getElem_cons_zero, List.getElem_cons_succ, List.setIfInBounds_toArray, List.set_cons_zero, List.set_cons_succ]
        obtain ⟨X24, hX⟩ : ∃ Z, Z = X19.alloc (.cells #[.int .i64 0, .int .i64 0] 53) := ⟨_, rfl⟩
        rw [← hX] at hY24 ⊢
        obtain ⟨a3, ha⟩ : ∃ z, z = X19.heap.size := ⟨_, rfl⟩
        rw [← ha]
        have c3 : Cells2 X24 a3 0 0 := by rw [hX, ha]; exact cells2_of _ (MapKept.heap_alloc X19 _).1
        have l3 : W0.heap.size ≤ a3 := by rw [ha]; exact hY19.size
        have n35 : a3 ≠ a5 := fun e => by have := c5.lt; omega
        replace c5 := c5.below (show Below X19.heap.size X19 X24 by rw [hX]; exact (Below.refl _ _).alloc (Nat.le_refl _) _) c5.lt
        clear hX ha
        refine wpAnyH_ready (rs := [12]) (by kernel_rfl) (by simp) ?_
        refine AllReadyH.cons (o := { dst := some 36, op := Op.call { callee := Callee.value (Operand.func 46), args := #[Operand.tmp 27, Operand.tmp 31, Operand.tmp 35], argTypes := #[22, 3, 53] }, type := 96, pos := "read.go:91", after := #[{ on := 3, ground := Ground.data }, { on := 7, ground := Ground.data }, { on := 11, ground := Ground.data }], guard := none }) rfl (fun K hK => ?_) (AllReadyH.nil)
        · go_simp
          refine (HN.out _ hY24).mono ?_
          rintro e X25 ⟨rfl, hb⟩
          replace c3 := c3.below hb c3.lt
          replace c5 := c5.below hb c5.lt
          refine hK.out _ _ (hY24.trans (hb.mono hY24.size)) (fun hY25 => ?_)
          clear hK K hb
          try simp only [Act.put, List.getElem_toArray, List.getElem_cons_zero, List.getElem_cons_succ, List.setIfInBounds_toArray, List.set_cons_zero, List.set_cons_succ]
          refine wpAnyH_take (i := 13) (v := ?v13_34) rfl (by kernel_rfl) (by kernel_rfl) (by kernel_rfl) (fun _ _ _ h => h) (Or.inl ⟨by kernel_rfl, ?h13_34⟩) hY25 ?r13_34
          case h13_34 => (rintro w' hb; go_simp; try (with_reducible rfl))
          try simp only [Act.put, List.getElem_toArray, List.getElem_cons_zero, List.getElem_cons_succ, List.setIfInBounds_toArray, List.set_cons_zero, List.set_cons_succ]
          refine wpAnyH_take (i := 14) (v := ?v14_35) rfl (by kernel_rfl) (by kernel_rfl) (by kernel_rfl) (fun _ _ _ h => h) (Or.inl ⟨by kernel_rfl, ?h14_35⟩) hY25 ?r14_35
          case h14_35 => (rintro w' hb; go_simp; try (with_reducible rfl))
          try simp only [Act.put, List.getElem_toArray, List.getElem_cons_zero, List.getElem_cons_succ, List.setIfInBounds_toArray, List.set_cons_zero, List.set_cons_succ]
          refine wpAnyH_take (i := 15) (v := ?v15_36) rfl (by kernel_rfl) (by kernel_rfl) (by kernel_rfl) (fun _ _ _ h => h) (Or.inl ⟨by kernel_rfl, ?h15_36⟩) hY25 ?r15_36
          case h15_36 => (rintro w' hb; go_simp; try (with_reducible rfl))
          try simp only [Act.put, List.getElem_toArray, List.getElem_cons_zero, List.getElem_cons_succ, List.setIfInBounds_toArray, List.set_cons_zero, List.set_cons_succ]
          refine wpAnyH_take (i := 16) (v := ?v16_37) rfl (by kernel_rfl) (by kernel_rfl) (by kernel_rfl) (fun _ _ _ h => h) (Or.inl ⟨by kernel_rfl, ?h16_37⟩) hY25 ?r16_37
          case h16_37 => (rintro w' hb; go_simp; try (with_reducible rfl))
          try simp only [Act.put, List.getElem_toArray, List.getElem_cons_zero, List.getElem_cons_succ, List.setIfInBounds_toArray, List.set_cons_zero, List.set_cons_succ]
          refine wpAnyH_ready (rs := [19]) (by kernel_rfl) (by simp) ?_
          refine AllReadyH.cons (o := { dst := none, op := Op.store 53 (Operand.tmp 3) (Operand.tmp 37), type := 0, pos := "read.go:91", after := #[{ on := 17, ground := Ground.data }, { on := 14, ground := Ground.data }, { on := 12, ground := Ground.chain }, { on := 0, ground := Ground.phase }, { on := 1, ground := Ground.phase }, { on := 2, ground := Ground.phase }, { on := 3, ground := Ground.phase }, { on := 4, ground := Ground.phase }, { on := 5, ground := Ground.phase }, { on := 6, ground := Ground.phase }, { on := 7, ground := Ground.phase }, { on := 8, ground := Ground.phase }, { on := 9, ground := Ground.phase }, { on := 10, ground := Ground.phase }, { on := 11, ground := Ground.phase }, { on := 12, ground := Ground.phase }, { on := 13, ground := Ground.phase }, { on := 14, ground := Ground.phase }, { on := 15, ground := Ground.textOnly Departure.lateStores }, { on := 16, ground := Ground.textOnly Departure.lateStores }, { on := 17, ground := Ground.phase }, { on := 18, ground := Ground.phase }], guard := none }) rfl (fun K hK => ?_) (AllReadyH.nil)
          · obtain ⟨k0, k1, kf0, kf1, kl⟩ := c3
            go_simp
            refine hK.out _ _ ((hY25.setCell (p := ⟨a3, 0, none⟩) l3 _).setCell (p := ⟨a3, 1, none⟩) l3 _) (fun hY26 => ?_)
            clear hK K
            try simp only [Act.put, List.getElem_toArray, List.getElem_cons_zero, List.getElem_cons_succ, List.setIfInBounds_toArray, List.set_cons_zero, List.set_cons_succ]
            have c3 := cells2_put1 (cells2_put0 ⟨k0, k1, kf0, kf1, kl⟩ G0) G1
            replace c5 := (c5.off (a := ⟨a3, 0, none⟩) (.int .i64 G0) n35.symm).off (a := ⟨a3, 1, none⟩) (.int .i64 G1) n35.symm
            obtain ⟨X26, hX⟩ : ∃ Z, Z = ((X25.setCell ⟨a3, 0, none⟩ (.int .i64 G0)).setCell ⟨a3, 1, none⟩ (.int .i64 G1)) := ⟨_, rfl⟩
            rw [← hX] at c3 hY26 ⊢
            rw [← hX] at c5
            clear hX k0 k1 kf0 kf1 kl
            refine wpAnyH_take (i := 20) (v := ?v20_38) rfl (by kernel_rfl) (by kernel_rfl) (by kernel_rfl) (fun _ _ _ h => h) (Or.inl ⟨by kernel_rfl, ?h20_38⟩) hY26 ?r20_38
            case h20_38 => (rintro w' hb; go_simp; try (with_reducible rfl))
            try simp only [Act.put, List.getElem_toArray, List.getElem_cons_zero, List.getElem_cons_succ, List.setIfInBounds_toArray, List.set_cons_zero, List.set_cons_succ]
            refine wpAnyH_ready (rs := [21]) (by kernel_rfl) (by simp) ?_
            refine AllReadyH.cons (o := { dst := none, op := Op.store 26 (Operand.tmp 5) (Operand.tmp 39), type := 0, pos := "read.go:91", after := #[{ on := 18, ground := Ground.data }, { on := 16, ground := Ground.data }, { on := 20, ground := Ground.chain }, { on := 0, ground := Ground.phase }, { on := 1, ground := Ground.phase }, { on := 2, ground := Ground.phase }, { on := 3, ground := Ground.phase }, { on := 4, ground := Ground.phase }, { on := 5, ground := Ground.phase }, { on := 6, ground := Ground.phase }, { on := 7, ground := Ground.phase }, { on := 8, ground := Ground.phase }, { on := 9, ground := Ground.phase }, { on := 10, ground := Ground.phase }, { on := 11, ground := Ground.phase }, { on := 12, ground := Ground.phase }, { on := 13, ground := Ground.phase }, { on := 14, ground := Ground.phase }, { on := 15, ground := Ground.phase }, { on := 16, ground := Ground.phase }, { on := 17, ground := Ground.phase }, { on := 18, ground := Ground.phase }, { on := 19, ground := Ground.phase }, { on := 20, ground := Ground.phase }], guard := none }) rfl (fun K hK => ?_) (AllReadyH.nil)
            · obtain ⟨k0, k1, kf0, kf1, kl⟩ := c5
              go_simp
              refine hK.out _ _ ((hY26.setCell (p := ⟨a5, 0, none⟩) l5 _).setCell (p := ⟨a5, 1, none⟩) l5 _) (fun hY27 => ?_)
              clear hK K
              try simp only [Act.put, List.getElem_toArray, List.getElem_cons_zero, List.getElem_cons_succ, List.setIfInBounds_toArray, List.set_cons_zero, List.set_cons_succ]
              have c5 := cells2_put1 (cells2_put0 ⟨k0, k1, kf0, kf1, kl⟩ e0) e1
              replace c3 := (c3.off (a := ⟨a5, 0, none⟩) (.int .i64 e0) n35).off (a := ⟨a5, 1, none⟩) (.int .i64 e1) n35
              obtain ⟨X27, hX⟩ : ∃ Z, Z = ((X26.setCell ⟨a5, 0, none⟩ (.int .i64 e0)).setCell ⟨a5, 1, none⟩ (.int .i64 e1)) := ⟨_, rfl⟩
              rw [← hX] at c5 hY27 ⊢
              rw [← hX] at c3
              clear hX k0 k1 kf0 kf1 kl
              refine wpAnyH_done (by kernel_rfl) ?_ _
              try simp only [Act.put, List.getElem_toArray, List.getElem_cons_zero, List.getElem_cons_succ, List.setIfInBounds_toArray, List.set_cons_zero, List.set_cons_succ]
              go_wp2
              go_meet
              exact ⟨a3, a5, rfl, rfl, rfl, c3, c5, hY27, l3, l5, n35⟩
  case rest =>
    obtain ⟨a3, a5, rfl, rfl, rfl, ⟨j0, j1, jf0, jf1, jl⟩, ⟨m0, m1, mf0, mf1, ml⟩, hbx, l3, l5, n35⟩ := hcut
    have r1 := (hbx.cell (p := ⟨rb, 1, none⟩) hrl).trans y1
    have r2 := (hbx.cell (p := ⟨rb, 2, none⟩) hrl).trans y2
    have r3 := (hbx.cell (p := ⟨rb, 3, none⟩) hrl).trans y3
    have r4 := (hbx.cell (p := ⟨rb, 4, none⟩) hrl).trans y4
    have rf2 := (hbx.frozen (p := ⟨rb, 2, none⟩) hrl).trans (hfr 2)
    have rf3 := (hbx.frozen (p := ⟨rb, 3, none⟩) hrl).trans (hfr 3)
    have rf4 := (hbx.frozen (p := ⟨rb, 4, none⟩) hrl).trans (hfr 4)
    have rl := Nat.lt_of_lt_of_le hrl hbx.size
    obtain ⟨z0, z1, zf0, zf1, zl⟩ := hz.below hbx hz.lt
    have n1 : rb ≠ a5 := by omega
    have n2 : W.heap.size ≠ rb := by omega
    have n3 : W.heap.size ≠ a5 := by have := hz.lt; omega
    have n4 : a5 ≠ rb := n1.symm
    have n5 : rb ≠ W.heap.size := n2.symm
    clear y1 y2 y3 y4 yb HN
    by_cases he : e0 = 0
    · subst he
      go_wp2
      refine bodyPost_ret (v := .agg #[.int .i64 0, .int .i64 e1]) ?_ rfl ⟨wc, hbx, rfl, by first | rfl | simp⟩
      simp [results, Tryz.results33, go_sem, z0, z1, zl, n2, n5, zf0, zf1]
    · have heb : (e0 == 0) = false := by simpa using he
      go_wp2
      refine bodyPost_ret (v := .agg #[.int .i64 e0, .int .i64 e1]) ?_ rfl ⟨wc, hbx, rfl, by first | rfl | simp [he]⟩
      simp [results, Tryz.results33, go_sem, z0, z1, zl, n2, n5, zf0, zf1]

set_option maxHeartbeats 8000000 in
set_option maxRecDepth 100000 in
theorem cNextEsc (wr W : World) (rb lim b off cb : Nat) (xp : Value) (l : List Int) (s : RS) (h : RA wr W rb lim xp (.slice (some ⟨b, off, none⟩) l.length cb) s) (hb : b < rb) (hl : ∀ j x, l[j]? = some x → wr.cell? ⟨b, off + j, none⟩ = some (.int .u8 x)) (hc : l[s.pos]? = some 27) (hcb : l.length ≤ cb) (hcN : cb ≤ 9223372036854775807) (hn2 : l.length ≤ 2000000) (hlim : lim ≤ W.heap.size) (mk : Int → Bool) (T : Tab) :
    Calls Tryz.prog 33 #[.pointer (some ⟨rb, 0, none⟩)] W fun e W' => NextOk wr W rb lim xp (.slice (some ⟨b, off, none⟩) l.length cb) (nextV mk T l s) e W' := by
  have hpos : s.pos < l.length := (List.getElem?_eq_some_iff.1 hc).1
  have hd : l.drop s.pos = 27 :: l.drop (s.pos + 1) := by
    rw [List.drop_eq_getElem_cons hpos]
    rw [List.getElem?_eq_getElem hpos] at hc
    rw [Option.some.inj hc]
  rw [nextV_cons hd, if_pos rfl]
  have hcf := h.cf hb hl
  have hrw := hcf.rlt
  obtain ⟨W0, hW0⟩ : ∃ W0, W0 = (W.alloc (.cells #[.int .i64 0, .int .i64 0] 26)).drew := ⟨_, rfl⟩
  have hbW : Below W.heap.size W W0 := by rw [hW0]; exact ((Below.refl _ W).alloc (Nat.le_refl _) _).drew
  have hF := hcf.below hbW hcf.rlt hcf.blt
  have hz : Cells2 W0 W.heap.size 0 0 := cells2_of 26 (by rw [hW0]; exact (MapKept.heap_alloc W _).1)
  have hfr : ∀ k, W0.frozen? ⟨rb, k, none⟩ = false := by
    obtain ⟨⟨vo, vm, h1, _⟩, _⟩ := h
    exact fun k => (hbW.frozen (p := ⟨rb, k, none⟩) hrw).trans (h1.free k)
  have y1 := hF.c1
  have y2 := hF.c2
  have y3 := hF.c3
  have y4 := hF.c4
  have yb := hF.cl _ _ hc
  have hrl := hF.rlt
  have hP := parseV_le (l.drop (s.pos + 1))
  rw [List.length_drop] at hP
  have hE := fun X (hX : Below W0.heap.size W0 X) => cNextE (some ⟨b, off, none⟩) cb s.pos l s.g0 s.g1 X (fun _ => ⟨b, off, rfl, (hF.below hX hF.rlt hF.blt).blt, (hF.below hX hF.rlt hF.blt).cl⟩) hcb (by omega) hn2 hc
  generalize parseV (l.drop (s.pos + 1)) = R at hE hP ⊢
  obtain ⟨sd, st, n⟩ := R
  simp only at hE hP ⊢
  clear hF hcf hl hd hc
  have HA : Aside (RA wr W rb lim xp (.slice (some ⟨b, off, none⟩) l.length cb) s ∧ lim ≤ W.heap.size ∧ Below W.heap.size W W0) := ⟨h, hlim, hbW⟩
  clear h hlim hbW
  by_cases hn0 : n = 0
  · subst hn0
    rw [if_pos rfl]
    simp only [if_true] at hE
    refine (cEsc rb b off cb l.length s.pos s.g0 s.g1 0 0 0 5 (s.pos : Int) W W0 hW0 (by omega) (by omega) (by omega) hrl hrw hE y1 y2 y3 y4 yb hfr hz).mono ?_
    rintro e W' ⟨wc, hbx, rfl, hW'⟩
    rw [if_neg (by decide)] at hW'
    refine ⟨rfl, ?_⟩
    rw [hW']
    have hB := (HA.out.2.2.trans (hbx.mono HA.out.2.2.size)).mono (Nat.le_of_lt hrw)
    exact (hB.setCell (p := ⟨W.heap.size, 0, none⟩) (Nat.le_of_lt hrw) _).setCell (p := ⟨W.heap.size, 1, none⟩) (Nat.le_of_lt hrw) _
  · rw [if_neg hn0]
    simp only [if_neg hn0] at hE
    refine (cEsc rb b off cb l.length s.pos s.g0 s.g1 _ _ (n + 1) 0 0 W W0 hW0 (by omega) (by omega) (by omega) hrl hrw hE y1 y2 y3 y4 yb hfr hz).mono ?_
    rintro e W' ⟨wc, hbx, rfl, hW'⟩
    rw [if_pos rfl] at hW'
    refine ⟨rfl, ?_⟩
    rw [hW']
    have hw : wrap64 ((s.pos : Int) + (n + 1)) = ((s.pos + (n + 1).toNat : Nat) : Int) := by unfold wrap64; omega
    rw [hw]
    have hbx2 := HA.out.2.2.trans (hbx.mono HA.out.2.2.size)
    exact esc_end HA.out.1 HA.out.2.1 hbx2 _ _ _ _ _ _ (Nat.le_refl _) (Nat.lt_of_lt_of_le hz.lt hbx.size)
end Go.Proofs.YtemhfcgkfdklhaaGreatDoor.Look
