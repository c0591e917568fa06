/- (*Index).Rune; read.Plain, graphic, fault; glyph.Size. -/
import Derived.Deep.RegionHeld3
import Derived.Test.YtemhfcgkfdklhaaGreatDoorAdd
import Derived.Test.YtemhfcgkfdklhaaGreatDoorEachP
import Derived.Test.YtemhfcgkfdklhaaGreatDoorReadP
set_option linter.all false
namespace Go.Proofs.YtemhfcgkfdklhaaGreatDoor.Look
open Go Go.RowKit Go.Shelf Go.Proofs Go.Proofs.YtemhfcgkfdklhaaGreatDoor.Rd Go.Proofs.YtemhfcgkfdklhaaGreatDoor.Idx

set_option maxHeartbeats 4000000 in
set_option maxRecDepth 100000 in
theorem cIRune (xb bc br base : Nat) (A : Adds) (O : Nat → Prop) (s n : Int) (w : World) (h : Idx w xb bc br base A O) (hs : W64 s) (hn : W64 n) :
    Calls Tryz.prog 50 #[.pointer (some ⟨xb, 0, none⟩), .agg #[.int .i64 s, .int .i64 n]] w fun e w' => e = .returned (.tuple #[.int .i32 ((tabA A s n).getD 0), .bool (tabA A s n).isSome]) ∧ Below w.heap.size w w' := by
  obtain ⟨W, hW⟩ : ∃ W, W = (w.alloc (.cells #[.int .i64 s, .int .i64 n] 89)).drew := ⟨_, rfl⟩
  have hb : Below w.heap.size w W := by rw [hW]; exact ((Below.refl _ w).alloc (Nat.le_refl _) _).drew
  have hI : Idx W xb bc br base A O := h.kept hb.size fun k hk => hb.block k (h.lt k hk)
  have hnew : W.heap[w.heap.size]? = some (.cells #[.int .i64 s, .int .i64 n] 89) := by rw [hW]; exact (MapKept.heap_alloc w _).1
  have b0 : W.cell? ⟨w.heap.size, 0, none⟩ = some (.int .i64 s) := by simp [World.cell?, hnew]
  have b1 : W.cell? ⟨w.heap.size, 1, none⟩ = some (.int .i64 n) := by simp [World.cell?, hnew]
  have x1 := hI.x1
  obtain ⟨r, t, hr, ht, lk⟩ : ∃ r t, r = (tabA A s n).getD 0 ∧ t = (tabA A s n).isSome ∧ (Instr.lookup 83 (.map (some br)) (.agg #[.int .i64 s, .int .i64 n]) true).run Tryz.prog W = .ok (.tuple #[.int .i32 r, .bool t]) W := by
    obtain ⟨l1, l2⟩ := hI.look s n hs hn
    have hz : (zeroValue 21).run Tryz.prog W = .ok (.int .i32 0) W := by kernel_rfl
    obtain ⟨v, ps, hrun, hv⟩ := World.ownsMap.look_ok hI.runes codeKey Tryz.underlying83 hz (plainElem_int Tryz.underlying21 (by decide)) (keyOf2 hs hn)
    obtain ⟨c, rfl, hc, _⟩ := plainElem_int_inv Tryz.underlying21 hv
    rw [l1] at hrun
    have hc2 := congrArg Prod.fst hc
    simp only [l2, DataW.lit.injEq, Lit.int.injEq, true_and] at hc2
    exact ⟨c, _, hc2.symm, rfl, hrun⟩
  rw [← hr, ← ht]
  clear hr ht hnew hI h
  go_enter Tryz.func50, Tryz.ntmps50
  go_wp2
  rw [hW] at b0 b1 lk x1
  refine wp_region_held_drew (S := fun w' => w'.cell? ⟨xb, 1, none⟩ = some (.map (some br)) ∧ w'.cell? ⟨w.heap.size, 0, none⟩ = some (.int .i64 s) ∧ w'.cell? ⟨w.heap.size, 1, none⟩ = some (.int .i64 n) ∧ (Instr.lookup 83 (.map (some br)) (.agg #[.int .i64 s, .int .i64 n]) true).run Tryz.prog w' = .ok (.tuple #[.int .i32 r, .bool t]) w') (by kernel_rfl) ⟨x1, b0, b1, lk⟩ (fun hHeld => ?_)
  refine wpAnyH_take (i := 0) (v := ?v0_1) rfl (by kernel_rfl) (by kernel_rfl) (by kernel_rfl) (fun _ _ _ h => h) (Or.inl ⟨by kernel_rfl, ?h0_1⟩) hHeld ?r0_1
  case h0_1 => (rintro w' ⟨q0, q1, q2, q3⟩; go_simp; try (with_reducible rfl))
  try simp only [Act.put, List.getElem_toArray, List.getElem_cons_zero, List.getElem_cons_succ, List.setIfInBounds_toArray, List.set_cons_zero, List.set_cons_succ]
  refine wpAnyH_take (i := 1) (v := ?v1_2) rfl (by kernel_rfl) (by kernel_rfl) (by kernel_rfl) (fun _ _ _ h => h) (Or.inl ⟨by kernel_rfl, ?h1_2⟩) hHeld ?r1_2
  case h1_2 => (rintro w' ⟨q0, q1, q2, q3⟩; go_simp; try (with_reducible rfl))
  try simp only [Act.put, List.getElem_toArray, List.getElem_cons_zero, List.getElem_cons_succ, List.setIfInBounds_toArray, List.set_cons_zero, List.set_cons_succ]
  refine wpAnyH_take (i := 2) (v := ?v2_3) rfl (by kernel_rfl) (by kernel_rfl) (by kernel_rfl) (fun _ _ _ h => h) (Or.inl ⟨by kernel_rfl, ?h2_3⟩) hHeld ?r2_3
  case h2_3 => (rintro w' ⟨q0, q1, q2, q3⟩; go_simp; try (with_reducible rfl))
  try simp only [Act.put, List.getElem_toArray, List.getElem_cons_zero, List.getElem_cons_succ, List.setIfInBounds_toArray, List.set_cons_zero, List.set_cons_succ]
  refine wpAnyH_take (i := 3) (v := ?v3_4) rfl (by kernel_rfl) (by kernel_rfl) (by kernel_rfl) (fun _ _ _ h => h) (Or.inl ⟨by kernel_rfl, ?h3_4⟩) hHeld ?r3_4
  case h3_4 => (rintro w' ⟨q0, q1, q2, q3⟩; go_simp; try (with_reducible rfl))
  try simp only [Act.put, List.getElem_toArray, List.getElem_cons_zero, List.getElem_cons_succ, List.setIfInBounds_toArray, List.set_cons_zero, List.set_cons_succ]
  refine wpAnyH_take (i := 4) (v := ?v4_5) rfl (by kernel_rfl) (by kernel_rfl) (by kernel_rfl) (fun _ _ _ h => h) (Or.inl ⟨by kernel_rfl, ?h4_5⟩) hHeld ?r4_5
  case h4_5 => (rintro w' ⟨q0, q1, q2, q3⟩; go_simp; try (with_reducible rfl))
  try simp only [Act.put, List.getElem_toArray, List.getElem_cons_zero, List.getElem_cons_succ, List.setIfInBounds_toArray, List.set_cons_zero, List.set_cons_succ]
  refine wpAnyH_take (i := 5) (v := ?v5_6) rfl (by kernel_rfl) (by kernel_rfl) (by kernel_rfl) (fun _ _ _ h => h) (Or.inl ⟨by kernel_rfl, ?h5_6⟩) hHeld ?r5_6
  case h5_6 => (rintro w' ⟨q0, q1, q2, q3⟩; go_simp; try (with_reducible rfl))
  try simp only [Act.put, List.getElem_toArray, List.getElem_cons_zero, List.getElem_cons_succ, List.setIfInBounds_toArray, List.set_cons_zero, List.set_cons_succ]
  refine wpAnyH_take (i := 6) (v := ?v6_7) rfl (by kernel_rfl) (by kernel_rfl) (by kernel_rfl) (fun _ _ _ h => h) (Or.inl ⟨by kernel_rfl, ?h6_7⟩) hHeld ?r6_7
  case h6_7 => (rintro w' ⟨q0, q1, q2, q3⟩; go_simp; try (with_reducible rfl))
  try simp only [Act.put, List.getElem_toArray, List.getElem_cons_zero, List.getElem_cons_succ, List.setIfInBounds_toArray, List.set_cons_zero, List.set_cons_succ]
  refine wpAnyH_take (i := 7) (v := ?v7_8) rfl (by kernel_rfl) (by kernel_rfl) (by kernel_rfl) (fun _ _ _ h => h) (Or.inl ⟨by kernel_rfl, ?h7_8⟩) hHeld ?r7_8
  case h7_8 => (rintro w' ⟨q0, q1, q2, q3⟩; go_simp; try (with_reducible rfl))
  try simp only [Act.put, List.getElem_toArray, List.getElem_cons_zero, List.getElem_cons_succ, List.setIfInBounds_toArray, List.set_cons_zero, List.set_cons_succ]
  refine wpAnyH_take (i := 8) (v := ?v8_9) rfl (by kernel_rfl) (by kernel_rfl) (by kernel_rfl) (fun _ _ _ h => h) (Or.inl ⟨by kernel_rfl, ?h8_9⟩) hHeld ?r8_9
  case h8_9 => (rintro w' ⟨q0, q1, q2, q3⟩; go_simp; try (with_reducible rfl))
  try simp only [Act.put, List.getElem_toArray, List.getElem_cons_zero, List.getElem_cons_succ, List.setIfInBounds_toArray, List.set_cons_zero, List.set_cons_succ]
  refine wpAnyH_take (i := 9) (v := ?v9_10) rfl (by kernel_rfl) (by kernel_rfl) (by kernel_rfl) (fun _ _ _ h => h) (Or.inl ⟨by kernel_rfl, ?h9_10⟩) hHeld ?r9_10
  case h9_10 => (rintro w' ⟨q0, q1, q2, q3⟩; go_simp; try (with_reducible rfl))
  try simp only [Act.put, List.getElem_toArray, List.getElem_cons_zero, List.getElem_cons_succ, List.setIfInBounds_toArray, List.set_cons_zero, List.set_cons_succ]
  refine wpAnyH_take (i := 10) (v := ?v10_11) rfl (by kernel_rfl) (by kernel_rfl) (by kernel_rfl) (fun _ _ _ h => h) (Or.inl ⟨by kernel_rfl, ?h10_11⟩) hHeld ?r10_11
  case h10_11 => (rintro w' ⟨q0, q1, q2, q3⟩; go_simp; try (with_reducible rfl))
  try simp only [Act.put, List.getElem_toArray, List.getElem_cons_zero, List.getElem_cons_succ, List.setIfInBounds_toArray, List.set_cons_zero, List.set_cons_succ]
  refine wpAnyH_done (by kernel_rfl) ?_ _
  try simp only [Act.put, List.getElem_toArray, List.getElem_cons_zero, List.getElem_cons_succ, List.setIfInBounds_toArray, List.set_cons_zero, List.set_cons_succ]
  rw [← hW]
  go_wp2
  go_ret2
  exact ⟨rfl, hb⟩

set_option maxHeartbeats 4000000 in
set_option maxRecDepth 100000 in
theorem cPlain (c : Int) (w : World) : Calls Tryz.prog 47 #[.int .u8 c] w fun e w' => e = .returned (.tuple #[.int .i32 ((plainV c).getD 0), .bool (plainV c).isSome]) ∧ w = w' := by
  unfold plainV
  by_cases h1 : c = 32
  · subst h1
    go_enter Tryz.func47, Tryz.ntmps47
    go_wp2
    go_ret2
    exact ⟨rfl, rfl⟩
  have b1 : (c == 32) = false := by simpa using h1
  rw [if_neg h1]
  by_cases h2 : c = 136
  · subst h2
    go_enter Tryz.func47, Tryz.ntmps47
    go_wp2
    go_ret2
    exact ⟨rfl, rfl⟩
  have b2 : (c == 136) = false := by simpa using h2
  rw [if_neg h2]
  by_cases h3 : c = 137
  · subst h3
    go_enter Tryz.func47, Tryz.ntmps47
    go_wp2
    go_ret2
    exact ⟨rfl, rfl⟩
  have b3 : (c == 137) = false := by simpa using h3
  rw [if_neg h3]
  by_cases h4 : c = 141
  · subst h4
    go_enter Tryz.func47, Tryz.ntmps47
    go_wp2
    go_ret2
    exact ⟨rfl, rfl⟩
  have b4 : (c == 141) = false := by simpa using h4
  rw [if_neg h4]
  by_cases h5 : c = 142
  · subst h5
    go_enter Tryz.func47, Tryz.ntmps47
    go_wp2
    go_ret2
    exact ⟨rfl, rfl⟩
  have b5 : (c == 142) = false := by simpa using h5
  rw [if_neg h5]
  go_enter Tryz.func47, Tryz.ntmps47
  go_wp2
  go_ret2
  exact ⟨rfl, rfl⟩
set_option maxHeartbeats 4000000 in
set_option maxRecDepth 100000 in
theorem cSize (set : Int) (w : World) : Calls Tryz.prog 67 #[.int .i64 set] w fun e w' => e = .returned (.int .i64 (sizeV set : Nat)) ∧ w = w' := by
  unfold sizeV
  by_cases h1 : set = 9
  · subst h1
    go_enter Tryz.func67, Tryz.ntmps67
    go_wp2
    go_ret
    exact ⟨rfl, rfl⟩
  have b1 : (set == 9) = false := by simpa using h1
  rw [if_neg h1]
  by_cases h2 : 1 ≤ set
  · by_cases h3 : set ≤ 12
    · rw [if_pos ⟨h2, h3⟩]
      go_enter Tryz.func67, Tryz.ntmps67
      go_wp2
      go_ret
      exact ⟨rfl, rfl⟩
    · rw [if_neg (fun h => h3 h.2)]
      go_enter Tryz.func67, Tryz.ntmps67
      go_wp2
      go_ret
      exact ⟨rfl, rfl⟩
  · rw [if_neg (fun h => h2 h.1)]
    go_enter Tryz.func67, Tryz.ntmps67
    go_wp2
    go_ret
    exact ⟨rfl, rfl⟩
set_option maxHeartbeats 4000000 in
set_option maxRecDepth 100000 in
theorem cGraphic (c side : Int) (hs : side = 0 ∨ side = 128) (w : World) : Calls Tryz.prog 68 #[.int .u8 c, .int .u8 side] w fun e w' => e = .returned (.bool (grV side c)) ∧ w = w' := by
  unfold grV
  have e1 : Go.bits .or .u8 33 0 = 33 := by decide
  have e2 : Go.bits .or .u8 126 0 = 126 := by decide
  have e3 : Go.bits .or .u8 33 128 = 161 := by decide
  have e4 : Go.bits .or .u8 126 128 = 254 := by decide
  rcases hs with rfl | rfl
  · by_cases h2 : 33 ≤ c
    · by_cases h3 : c ≤ 126
      · rw [decide_eq_true (by omega)]
        go_enter Tryz.func68, Tryz.ntmps68
        go_wp2
        go_ret
        exact ⟨rfl, rfl⟩
      · rw [decide_eq_false (by omega)]
        go_enter Tryz.func68, Tryz.ntmps68
        go_wp2
        go_ret
        exact ⟨rfl, rfl⟩
    · rw [decide_eq_false (by omega)]
      go_enter Tryz.func68, Tryz.ntmps68
      go_wp2
      go_ret
      exact ⟨rfl, rfl⟩
  · by_cases h2 : 161 ≤ c
    · by_cases h3 : c ≤ 254
      · rw [decide_eq_true (by omega)]
        go_enter Tryz.func68, Tryz.ntmps68
        go_wp2
        go_ret
        exact ⟨rfl, rfl⟩
      · rw [decide_eq_false (by omega)]
        go_enter Tryz.func68, Tryz.ntmps68
        go_wp2
        go_ret
        exact ⟨rfl, rfl⟩
    · rw [decide_eq_false (by omega)]
      go_enter Tryz.func68, Tryz.ntmps68
      go_wp2
      go_ret
      exact ⟨rfl, rfl⟩
set_option maxHeartbeats 4000000 in
set_option maxRecDepth 100000 in
theorem cFault (e0 at0 : Int) (w : World) : Calls Tryz.prog 19 #[.int .i64 e0, .int .i64 at0] w fun e w' => e = .returned (.agg #[.int .i64 e0, .int .i64 at0]) ∧ Below w.heap.size w w' := by
  have hb0 : ∀ o, Below w.heap.size w (w.alloc o) := fun o => (Below.refl _ w).alloc (Nat.le_refl _) o
  go_enter Tryz.func19, Tryz.ntmps19
  go_wp2
  exact bodyPost_ret (v := .agg #[.int .i64 e0, .int .i64 at0]) (by simp [results, Tryz.results19, go_sem]) rfl ⟨rfl, hb0 _⟩
end Go.Proofs.YtemhfcgkfdklhaaGreatDoor.Look
