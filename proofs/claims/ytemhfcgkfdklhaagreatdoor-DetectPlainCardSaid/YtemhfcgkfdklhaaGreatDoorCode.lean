/- (*reader).code. -/
import Derived.Test.YtemhfcgkfdklhaaGreatDoorPutO
import Derived.Test.YtemhfcgkfdklhaaGreatDoorEsc4
set_option linter.all false
namespace Go.Proofs.YtemhfcgkfdklhaaGreatDoor.Look
open Go Go.RowKit Go.Shelf Go.Proofs Go.Proofs.YtemhfcgkfdklhaaGreatDoor.Rd
open Go.Proofs.YtemhfcgkfdklhaaGreatDoor.Idx (W64)

theorem and128 (c : Int) (h : 0 ≤ c ∧ c ≤ 255) : Go.bits .and .u8 c 128 = sideV c := by
  have : ∀ k : Fin 256, Go.bits .and .u8 (k.val : Int) 128 = sideV (k.val : Int) := by decide +kernel
  obtain ⟨k, rfl⟩ : ∃ k : Nat, c = (k : Int) := ⟨c.toNat, by omega⟩
  exact this ⟨k, by omega⟩
theorem not128 (c : Int) (h : 0 ≤ c ∧ c ≤ 255) : Go.bits .andNot .u8 c 128 = c % 128 := by
  have : ∀ k : Fin 256, Go.bits .andNot .u8 (k.val : Int) 128 = (k.val : Int) % 128 := by decide +kernel
  obtain ⟨k, rfl⟩ : ∃ k : Nat, c = (k : Int) := ⟨c.toNat, by omega⟩
  exact this ⟨k, by omega⟩
theorem Cells2.below {W W' : World} {B b : Nat} {x y : Int} (h : Cells2 W b x y) (hb : Below B W W') (hB : b < B) : Cells2 W' b x y :=
  ⟨(hb.cell (p := ⟨b, 0, none⟩) hB).trans h.c0, (hb.cell (p := ⟨b, 1, none⟩) hB).trans h.c1, (hb.frozen (p := ⟨b, 0, none⟩) hB).trans h.f0, (hb.frozen (p := ⟨b, 1, none⟩) hB).trans h.f1, Nat.lt_of_lt_of_le h.lt hb.size⟩
theorem Cells2.drew {W : World} {b : Nat} {x y : Int} (h : Cells2 W b x y) : Cells2 W.drew b x y := ⟨h.c0, h.c1, h.f0, h.f1, h.lt⟩
theorem cells2_put0 {W : World} {b : Nat} {x y : Int} (h : Cells2 W b x y) (z : Int) : Cells2 (W.setCell ⟨b, 0, none⟩ (.int .i64 z)) b z y :=
  ⟨cell_put h.c0, (cell_off (by omega)).trans h.c1, by simpa using h.f0, by simpa using h.f1, by simpa using h.lt⟩
theorem cells2_put1 {W : World} {b : Nat} {x y : Int} (h : Cells2 W b x y) (z : Int) : Cells2 (W.setCell ⟨b, 1, none⟩ (.int .i64 z)) b x z :=
  ⟨(cell_off (by omega)).trans h.c0, cell_put h.c1, by simpa using h.f0, by simpa using h.f1, by simpa using h.lt⟩

theorem orN (n y : Nat) (hn : n < 16777216) (hy : y < 256) : Go.bits .or .i64 ((n : Int) * 256) (y : Int) = (n : Int) * 256 + (y : Int) := by
  have h := Nat.two_pow_add_eq_or_of_lt (i := 8) (b := y) (by omega) n
  have e1 : (BitVec.ofInt 64 ((n : Int) * 256)).toNat = n * 256 := by
    rw [show ((n : Int) * 256) = ((n * 256 : Nat) : Int) by omega, BitVec.ofInt_natCast, BitVec.toNat_ofNat]; exact Nat.mod_eq_of_lt (by omega)
  have e2 : (BitVec.ofInt 64 (y : Int)).toNat = y := by
    rw [BitVec.ofInt_natCast, BitVec.toNat_ofNat]; exact Nat.mod_eq_of_lt (by omega)
  show IntKind.i64.wrap ((BitVec.ofInt 64 ((n : Int) * 256) ||| BitVec.ofInt 64 (y : Int)).toNat : Int) = _
  rw [BitVec.toNat_or, e1, e2, show n * 256 ||| y = n * 256 + y by rw [Nat.mul_comm n 256]; simpa using h.symm, IntKind.wrap_i64]
  omega
theorem num_lt : ∀ l : List Int, l.length ≤ 3 → 0 ≤ Rd.numV l ∧ Rd.numV l < 16777216
  | [], _ => by simp [Rd.numV]
  | [a], _ => by simp [Rd.numV]; omega
  | [a, b], _ => by simp [Rd.numV]; omega
  | [a, b, c], _ => by simp [Rd.numV]; omega
  | a :: b :: c :: d :: t, h => by simp at h
theorem num_step (l : List Int) (p i : Nat) (x n : Int) (hx : l[p + i]? = some x) (hn : n = Rd.numV ((l.drop p).take i)) (hi : i ≤ 3) : Go.bits .or .i64 (wrap64 (n * 256)) (x % 128) = Rd.numV ((l.drop p).take (i + 1)) := by
  have hb := num_lt ((l.drop p).take i) (by rw [List.length_take]; omega)
  rw [← hn] at hb
  have e : Rd.numV ((l.drop p).take (i + 1)) = n * 256 + x % 128 := by
    rw [hn, List.take_succ, List.getElem?_drop, hx]
    simp [Rd.numV, List.foldl_append]
  have hw : wrap64 (n * 256) = n * 256 := by unfold wrap64; omega
  rw [e, hw]
  obtain ⟨a, rfl⟩ : ∃ a : Nat, n = (a : Int) := ⟨n.toNat, by omega⟩
  obtain ⟨y, hy⟩ : ∃ y : Nat, x % 128 = (y : Int) := ⟨(x % 128).toNat, by omega⟩
  rw [hy]
  exact orN a y (by omega) (by omega)
theorem code_of (l : List Int) (s : RS) (c : Int) (hc : l[s.pos]? = some c) : codeV (l.drop s.pos) s = if 0 < sizeV (setV s c) ∧ sizeV (setV s c) ≤ l.length - s.pos ∧ ((l.drop s.pos).take (sizeV (setV s c))).all (grV (sideV c)) = true then some (setV s c, Rd.numV ((l.drop s.pos).take (sizeV (setV s c))), sizeV (setV s c)) else none := by
  have : (l.drop s.pos).headD 0 = c := by simp [List.headD_eq_head?_getD, List.head?_drop, hc]
  unfold codeV
  simp only [this, List.length_drop]
theorem take_mem {l : List Int} {p k i : Nat} {x : Int} (hx : l[p + i]? = some x) (hi : i < k) : x ∈ (l.drop p).take k :=
  List.mem_of_getElem? (i := i) (by rw [List.getElem?_take_of_lt hi, List.getElem?_drop, hx])
theorem W64_num {l : List Int} (h : l.length ≤ 3) : W64 (Rd.numV l) := by have := num_lt l h; exact ⟨by omega, by omega⟩

/-- What the reader's cells and the text say, at a world. -/
structure CF (W : World) (rb b off N cb p : Nat) (l : List Int) (g0 g1 : Int) : Prop where
  c1 : W.cell? ⟨rb, 1, none⟩ = some (.slice (some ⟨b, off, none⟩) N cb)
  c2 : W.cell? ⟨rb, 2, none⟩ = some (.int .i64 (p : Int))
  c3 : W.cell? ⟨rb, 3, none⟩ = some (.int .i64 g0)
  c4 : W.cell? ⟨rb, 4, none⟩ = some (.int .i64 g1)
  cl : ∀ j x, l[j]? = some x → W.cell? ⟨b, off + j, none⟩ = some (.int .u8 x)
  rlt : rb < W.heap.size
  blt : b < W.heap.size
theorem CF.below {W W' : World} {B rb b off N cb p : Nat} {l : List Int} {g0 g1 : Int} (h : CF W rb b off N cb p l g0 g1) (hb : Below B W W') (h1 : rb < B) (h2 : b < B) : CF W' rb b off N cb p l g0 g1 :=
  ⟨(hb.cell (p := ⟨rb, 1, none⟩) h1).trans h.c1, (hb.cell (p := ⟨rb, 2, none⟩) h1).trans h.c2, (hb.cell (p := ⟨rb, 3, none⟩) h1).trans h.c3, (hb.cell (p := ⟨rb, 4, none⟩) h1).trans h.c4, fun j x hx => (hb.cell (p := ⟨b, off + j, none⟩) h2).trans (h.cl j x hx), Nat.lt_of_lt_of_le h.rlt hb.size, Nat.lt_of_lt_of_le h.blt hb.size⟩

set_option maxHeartbeats 8000000 in
set_option maxRecDepth 100000 in
theorem cCode (rb b off cb : Nat) (l : List Int) (s : RS) (W : World) (h : CF W rb b off l.length cb s.pos l s.g0 s.g1) (hp : s.pos < l.length) (hcb : l.length ≤ cb) (hN : cb ≤ 9223372036854775807) (hn2 : l.length ≤ 2000000) (hl : ∀ x ∈ l, 0 ≤ x ∧ x ≤ 255) (h0 : W64 s.g0) (h1 : W64 s.g1) :
    Calls Tryz.prog 49 #[.pointer (some ⟨rb, 0, none⟩)] W fun e W' => ∃ (st nn : Int) (k : Nat), e = .returned (.tuple #[.agg #[.int .i64 st, .int .i64 nn], .int .i64 k]) ∧ W64 st ∧ W64 nn ∧ (codeV (l.drop s.pos) s = some (st, nn, k) ∨ (codeV (l.drop s.pos) s = none ∧ k = 0)) ∧ Below W.heap.size W W' := by
  obtain ⟨c, hc⟩ : ∃ c, l[s.pos]? = some c := ⟨_, List.getElem?_eq_getElem hp⟩
  have hcr := hl c (List.mem_of_getElem? hc)
  have ea := and128 c hcr
  obtain ⟨W0, hW0⟩ : ∃ W0, W0 = (W.alloc (.cells #[.int .i64 0, .int .i64 0] 89)).drew := ⟨_, rfl⟩
  have hbW : Below W.heap.size W W0 := by rw [hW0]; exact ((Below.refl _ W).alloc (Nat.le_refl _) _).drew
  have hF := h.below hbW h.rlt h.blt
  have z2 : Cells2 W0 W.heap.size 0 0 := cells2_of 89 (by rw [hW0]; exact (MapKept.heap_alloc W _).1)
  obtain ⟨N, hNl⟩ : ∃ N, N = l.length := ⟨_, rfl⟩
  obtain ⟨p, hpp⟩ : ∃ p, p = s.pos := ⟨_, rfl⟩
  obtain ⟨g0, hg0⟩ : ∃ g0, g0 = s.g0 := ⟨_, rfl⟩
  obtain ⟨g1, hg1⟩ : ∃ g1, g1 = s.g1 := ⟨_, rfl⟩
  rw [← hNl, ← hpp, ← hg0, ← hg1] at hF
  have hpN : (p : Int) < (N : Int) := by omega
  have hp0 : (0 : Int) ≤ (p : Int) := by omega
  have y1 := hF.c1
  have y2 := hF.c2
  have yb := hF.cl p c (by rw [hpp]; exact hc)
  have HNp : Aside (N = l.length ∧ p = s.pos ∧ g0 = s.g0 ∧ g1 = s.g1 ∧ W64 s.g0 ∧ W64 s.g1) := ⟨hNl, hpp, hg0, hg1, h0, h1⟩
  have HN : Aside (N ≤ cb ∧ cb ≤ 9223372036854775807 ∧ p < N) := ⟨by omega, hN, by omega⟩
  have HBL : Aside (b < W.heap.size) := h.blt
  have HZ : Aside (W.heap.size < W0.heap.size) := z2.lt
  have hNb : (N : Int) ≤ 2000000 := by omega
  clear hNl hpp hg0 hg1 hcb hp h h0 h1 hn2
  by_cases hi : 128 ≤ c
  · have es : sideV c = 128 := if_pos hi
    rw [es] at ea
    obtain ⟨W1, hW1⟩ : ∃ W1, W1 = (W0.alloc (.cells #[.int .i64 g1, .int .i64 0] 89)).drew := ⟨_, rfl⟩
    have hb1 : Below W0.heap.size W0 W1 := by rw [hW1]; exact ((Below.refl _ W0).alloc (Nat.le_refl _) _).drew
    have z5 : Cells2 W1 W0.heap.size g1 0 := by rw [hW1]; exact (cells2_of 89 (MapKept.heap_alloc W0 _).1).drew
    have hF1 := hF.below hb1 hF.rlt hF.blt
    have z2b : Cells2 W1 W.heap.size 0 0 := z2.below hb1 z2.lt
    clear z2
    have cS := fun X => cSize g1 X
    obtain ⟨k, hk⟩ : ∃ k, k = sizeV g1 := ⟨_, rfl⟩
    rw [← hk] at cS
    have hk3 : k ≤ 3 := by rw [hk]; unfold sizeV; split <;> (try split) <;> omega
    have HK : Aside (k = sizeV g1) := hk
    clear hk
    have HSV : Aside (setV s c = g1 ∧ W64 g1) := by obtain ⟨_, _, e0, e1, k0, k1⟩ := HNp.out; rw [e1]; exact ⟨if_pos hi, k1⟩
    obtain ⟨e, he⟩ : ∃ e, e = p + k := ⟨_, rfl⟩
    have HWR : Aside (e = p + k ∧ IntKind.i64.wrap ((p : Int) + (k : Int)) = (e : Int)) := ⟨he, by rw [IntKind.wrap_i64]; omega⟩
    clear he
    have v1 := hF1.c1
    have v2 := hF1.c2
    go_enter Tryz.func49, Tryz.ntmps49
    go_wp2
    rw [hW0] at y1 y2 yb
    refine wp_region_held_drew (S := fun w' => w'.cell? ⟨rb, 1, none⟩ = some (.slice (some ⟨b, off, none⟩) N cb) ∧ w'.cell? ⟨rb, 2, none⟩ = some (.int .i64 (p : Int)) ∧ w'.cell? ⟨b, off + p, none⟩ = some (.int .u8 c)) (by kernel_rfl) ⟨y1, y2, yb⟩ (fun hHeld => ?_)
    refine wpAnyH_take (i := 0) (v := ?v0_1) rfl (by kernel_rfl) (by kernel_rfl) (by kernel_rfl) (fun _ _ _ h => h) (Or.inl ⟨by kernel_rfl, ?h0_1⟩) hHeld ?r0_1
    case h0_1 => (rintro w' ⟨q0, q1, q2⟩; go_simp; try (with_reducible rfl))
    try simp only [Act.put, List.getElem_toArray, List.getElem_cons_zero, List.getElem_cons_succ, List.setIfInBounds_toArray, List.set_cons_zero, List.set_cons_succ]
    refine wpAnyH_take (i := 1) (v := ?v1_2) rfl (by kernel_rfl) (by kernel_rfl) (by kernel_rfl) (fun _ _ _ h => h) (Or.inl ⟨by kernel_rfl, ?h1_2⟩) hHeld ?r1_2
    case h1_2 => (rintro w' ⟨q0, q1, q2⟩; go_simp; try (with_reducible rfl))
    try simp only [Act.put, List.getElem_toArray, List.getElem_cons_zero, List.getElem_cons_succ, List.setIfInBounds_toArray, List.set_cons_zero, List.set_cons_succ]
    refine wpAnyH_take (i := 2) (v := ?v2_3) rfl (by kernel_rfl) (by kernel_rfl) (by kernel_rfl) (fun _ _ _ h => h) (Or.inl ⟨by kernel_rfl, ?h2_3⟩) hHeld ?r2_3
    case h2_3 => (rintro w' ⟨q0, q1, q2⟩; go_simp; try (with_reducible rfl))
    try simp only [Act.put, List.getElem_toArray, List.getElem_cons_zero, List.getElem_cons_succ, List.setIfInBounds_toArray, List.set_cons_zero, List.set_cons_succ]
    refine wpAnyH_take (i := 3) (v := ?v3_4) rfl (by kernel_rfl) (by kernel_rfl) (by kernel_rfl) (fun _ _ _ h => h) (Or.inl ⟨by kernel_rfl, ?h3_4⟩) hHeld ?r3_4
    case h3_4 => (rintro w' ⟨q0, q1, q2⟩; go_simp; try (with_reducible rfl))
    try simp only [Act.put, List.getElem_toArray, List.getElem_cons_zero, List.getElem_cons_succ, List.setIfInBounds_toArray, List.set_cons_zero, List.set_cons_succ]
    refine wpAnyH_take (i := 4) (v := ?v4_5) rfl (by kernel_rfl) (by kernel_rfl) (by kernel_rfl) (fun _ _ _ h => h) (Or.inl ⟨by kernel_rfl, ?h4_5⟩) hHeld ?r4_5
    case h4_5 => (rintro w' ⟨q0, q1, q2⟩; go_simp; try (with_reducible rfl))
    try simp only [Act.put, List.getElem_toArray, List.getElem_cons_zero, List.getElem_cons_succ, List.setIfInBounds_toArray, List.set_cons_zero, List.set_cons_succ]
    refine wpAnyH_take (i := 5) (v := ?v5_6) rfl (by kernel_rfl) (by kernel_rfl) (by kernel_rfl) (fun _ _ _ h => h) (Or.inl ⟨by kernel_rfl, ?h5_6⟩) hHeld ?r5_6
    case h5_6 => (rintro w' ⟨q0, q1, q2⟩; go_simp; try (with_reducible rfl))
    try simp only [Act.put, List.getElem_toArray, List.getElem_cons_zero, List.getElem_cons_succ, List.setIfInBounds_toArray, List.set_cons_zero, List.set_cons_succ]
    refine wpAnyH_take (i := 6) (v := ?v6_7) rfl (by kernel_rfl) (by kernel_rfl) (by kernel_rfl) (fun _ _ _ h => h) (Or.inl ⟨by kernel_rfl, ?h6_7⟩) hHeld ?r6_7
    case h6_7 => (rintro w' ⟨q0, q1, q2⟩; go_simp; try (with_reducible rfl))
    try simp only [Act.put, List.getElem_toArray, List.getElem_cons_zero, List.getElem_cons_succ, List.setIfInBounds_toArray, List.set_cons_zero, List.set_cons_succ]
    refine wpAnyH_take (i := 7) (v := ?v7_8) rfl (by kernel_rfl) (by kernel_rfl) (by kernel_rfl) (fun _ _ _ h => h) (Or.inl ⟨by kernel_rfl, ?h7_8⟩) hHeld ?r7_8
    case h7_8 => (rintro w' ⟨q0, q1, q2⟩; go_simp; try (with_reducible rfl))
    try simp only [Act.put, List.getElem_toArray, List.getElem_cons_zero, List.getElem_cons_succ, List.setIfInBounds_toArray, List.set_cons_zero, List.set_cons_succ]
    refine wpAnyH_take (i := 8) (v := ?v8_9) rfl (by kernel_rfl) (by kernel_rfl) (by kernel_rfl) (fun _ _ _ h => h) (Or.inl ⟨by kernel_rfl, ?h8_9⟩) hHeld ?r8_9
    case h8_9 => (rintro w' ⟨q0, q1, q2⟩; go_simp; try (with_reducible rfl))
    try simp only [Act.put, List.getElem_toArray, List.getElem_cons_zero, List.getElem_cons_succ, List.setIfInBounds_toArray, List.set_cons_zero, List.set_cons_succ]
    refine wpAnyH_take (i := 9) (v := ?v9_10) rfl (by kernel_rfl) (by kernel_rfl) (by kernel_rfl) (fun _ _ _ h => h) (Or.inl ⟨by kernel_rfl, ?h9_10⟩) hHeld ?r9_10
    case h9_10 => (rintro w' ⟨q0, q1, q2⟩; go_simp; try (with_reducible rfl))
    try simp only [Act.put, List.getElem_toArray, List.getElem_cons_zero, List.getElem_cons_succ, List.setIfInBounds_toArray, List.set_cons_zero, List.set_cons_succ]
    refine wpAnyH_take (i := 10) (v := ?v10_11) rfl (by kernel_rfl) (by kernel_rfl) (by kernel_rfl) (fun _ _ _ h => h) (Or.inl ⟨by kernel_rfl, ?h10_11⟩) hHeld ?r10_11
    case h10_11 => (rintro w' ⟨q0, q1, q2⟩; go_simp; try (with_reducible rfl))
    try simp only [Act.put, List.getElem_toArray, List.getElem_cons_zero, List.getElem_cons_succ, List.setIfInBounds_toArray, List.set_cons_zero, List.set_cons_succ]
    refine wpAnyH_take (i := 11) (v := ?v11_12) rfl (by kernel_rfl) (by kernel_rfl) (by kernel_rfl) (fun _ _ _ h => h) (Or.inl ⟨by kernel_rfl, ?h11_12⟩) hHeld ?r11_12
    case h11_12 => (rintro w' ⟨q0, q1, q2⟩; go_simp; try (with_reducible rfl))
    try simp only [Act.put, List.getElem_toArray, List.getElem_cons_zero, List.getElem_cons_succ, List.setIfInBounds_toArray, List.set_cons_zero, List.set_cons_succ]
    refine wpAnyH_done (by kernel_rfl) ?_ _
    try simp only [Act.put, List.getElem_toArray, List.getElem_cons_zero, List.getElem_cons_succ, List.setIfInBounds_toArray, List.set_cons_zero, List.set_cons_succ]
    rw [← hW0]
    rw [← hW0] at y1 y2 yb
    have y3 := hF.c3
    have y4 := (show (W0.alloc (.cells #[.int .i64 g0, .int .i64 0] 89)).cell? ⟨rb, 4, none⟩ = W0.cell? ⟨rb, 4, none⟩ from World.cell?_alloc_lt _ _ _ hF.rlt).trans hF.c4
    clear hW0
    go_wp2_with (go_at_call 67; refine (cS _).mono ?_; rintro _ w9 ⟨rfl, rfl⟩)
    rw [hW1] at v1 v2
    have hwr : IntKind.i64.wrap ((p : Int) + (k : Int)) = (e : Int) := HWR.out.2
    have hek : e - p = k := by have := HWR.out.1; omega
    have hpe : p ≤ e := by have := HWR.out.1; omega
    have hpe2 : (p : Int) ≤ (e : Int) := by have := HWR.out.1; omega
    refine wp_region_held_drew (S := fun w' => w'.cell? ⟨rb, 1, none⟩ = some (.slice (some ⟨b, off, none⟩) N cb) ∧ w'.cell? ⟨rb, 2, none⟩ = some (.int .i64 (p : Int))) (by kernel_rfl) ⟨v1, v2⟩ (fun hHeld => ?_)
    refine wpAnyH_take (i := 0) (v := ?v0_13) rfl (by kernel_rfl) (by kernel_rfl) (by kernel_rfl) (fun _ _ _ h => h) (Or.inl ⟨by kernel_rfl, ?h0_13⟩) hHeld ?r0_13
    case h0_13 => (rintro w' ⟨q0, q1⟩; go_simp; try (with_reducible rfl))
    try simp only [Act.put, List.getElem_toArray, List.getElem_cons_zero, List.getElem_cons_succ, List.setIfInBounds_toArray, List.set_cons_zero, List.set_cons_succ]
    refine wpAnyH_take (i := 1) (v := ?v1_14) rfl (by kernel_rfl) (by kernel_rfl) (by kernel_rfl) (fun _ _ _ h => h) (Or.inl ⟨by kernel_rfl, ?h1_14⟩) hHeld ?r1_14
    case h1_14 => (rintro w' ⟨q0, q1⟩; go_simp; try (with_reducible rfl))
    try simp only [Act.put, List.getElem_toArray, List.getElem_cons_zero, List.getElem_cons_succ, List.setIfInBounds_toArray, List.set_cons_zero, List.set_cons_succ]
    refine wpAnyH_take (i := 2) (v := ?v2_15) rfl (by kernel_rfl) (by kernel_rfl) (by kernel_rfl) (fun _ _ _ h => h) (Or.inl ⟨by kernel_rfl, ?h2_15⟩) hHeld ?r2_15
    case h2_15 => (rintro w' ⟨q0, q1⟩; go_simp; try (with_reducible rfl))
    try simp only [Act.put, List.getElem_toArray, List.getElem_cons_zero, List.getElem_cons_succ, List.setIfInBounds_toArray, List.set_cons_zero, List.set_cons_succ]
    refine wpAnyH_take (i := 3) (v := ?v3_16) rfl (by kernel_rfl) (by kernel_rfl) (by kernel_rfl) (fun _ _ _ h => h) (Or.inl ⟨by kernel_rfl, ?h3_16⟩) hHeld ?r3_16
    case h3_16 => (rintro w' ⟨q0, q1⟩; go_simp; try (with_reducible rfl))
    try simp only [Act.put, List.getElem_toArray, List.getElem_cons_zero, List.getElem_cons_succ, List.setIfInBounds_toArray, List.set_cons_zero, List.set_cons_succ]
    refine wpAnyH_take (i := 4) (v := ?v4_17) rfl (by kernel_rfl) (by kernel_rfl) (by kernel_rfl) (fun _ _ _ h => h) (Or.inl ⟨by kernel_rfl, ?h4_17⟩) hHeld ?r4_17
    case h4_17 => (rintro w' ⟨q0, q1⟩; go_simp; try (with_reducible rfl))
    try simp only [Act.put, List.getElem_toArray, List.getElem_cons_zero, List.getElem_cons_succ, List.setIfInBounds_toArray, List.set_cons_zero, List.set_cons_succ]
    refine wpAnyH_take (i := 5) (v := ?v5_18) rfl (by kernel_rfl) (by kernel_rfl) (by kernel_rfl) (fun _ _ _ h => h) (Or.inl ⟨by kernel_rfl, ?h5_18⟩) hHeld ?r5_18
    case h5_18 => (rintro w' ⟨q0, q1⟩; go_simp; try (with_reducible rfl))
    try simp only [Act.put, List.getElem_toArray, List.getElem_cons_zero, List.getElem_cons_succ, List.setIfInBounds_toArray, List.set_cons_zero, List.set_cons_succ]
    refine wpAnyH_take (i := 6) (v := ?v6_19) rfl (by kernel_rfl) (by kernel_rfl) (by kernel_rfl) (fun _ _ _ h => h) (Or.inl ⟨by kernel_rfl, ?h6_19⟩) hHeld ?r6_19
    case h6_19 => (rintro w' ⟨q0, q1⟩; go_simp; try (with_reducible rfl))
    try simp only [Act.put, List.getElem_toArray, List.getElem_cons_zero, List.getElem_cons_succ, List.setIfInBounds_toArray, List.set_cons_zero, List.set_cons_succ]
    refine wpAnyH_take (i := 7) (v := ?v7_20) rfl (by kernel_rfl) (by kernel_rfl) (by kernel_rfl) (fun _ _ _ h => h) (Or.inl ⟨by kernel_rfl, ?h7_20⟩) hHeld ?r7_20
    case h7_20 => (rintro w' ⟨q0, q1⟩; go_simp; try (with_reducible rfl))
    try simp only [Act.put, List.getElem_toArray, List.getElem_cons_zero, List.getElem_cons_succ, List.setIfInBounds_toArray, List.set_cons_zero, List.set_cons_succ]
    refine wpAnyH_take (i := 8) (v := ?v8_21) rfl (by kernel_rfl) (by kernel_rfl) (by kernel_rfl) (fun _ _ _ h => h) (Or.inl ⟨by kernel_rfl, ?h8_21⟩) hHeld ?r8_21
    case h8_21 => (rintro w' ⟨q0, q1⟩; go_simp; try (with_reducible rfl))
    try simp only [Act.put, List.getElem_toArray, List.getElem_cons_zero, List.getElem_cons_succ, List.setIfInBounds_toArray, List.set_cons_zero, List.set_cons_succ]
    refine wpAnyH_take (i := 9) (v := ?v9_22) rfl (by kernel_rfl) (by kernel_rfl) (by kernel_rfl) (fun _ _ _ h => h) (Or.inl ⟨by kernel_rfl, ?h9_22⟩) hHeld ?r9_22
    case h9_22 => (rintro w' ⟨q0, q1⟩; go_simp; try (with_reducible rfl))
    try simp only [Act.put, List.getElem_toArray, List.getElem_cons_zero, List.getElem_cons_succ, List.setIfInBounds_toArray, List.set_cons_zero, List.set_cons_succ]
    refine wpAnyH_take (i := 10) (v := ?v10_23) rfl (by kernel_rfl) (by kernel_rfl) (by kernel_rfl) (fun _ _ _ h => h) (Or.inl ⟨by kernel_rfl, ?h10_23⟩) hHeld ?r10_23
    case h10_23 => (rintro w' ⟨q0, q1⟩; go_simp; try (with_reducible rfl))
    try simp only [Act.put, List.getElem_toArray, List.getElem_cons_zero, List.getElem_cons_succ, List.setIfInBounds_toArray, List.set_cons_zero, List.set_cons_succ]
    refine wpAnyH_take (i := 11) (v := ?v11_24) rfl (by kernel_rfl) (by kernel_rfl) (by kernel_rfl) (fun _ _ _ h => h) (Or.inl ⟨by kernel_rfl, ?h11_24⟩) hHeld ?r11_24
    case h11_24 => (rintro w' ⟨q0, q1⟩; go_simp; try (with_reducible rfl))
    try simp only [Act.put, List.getElem_toArray, List.getElem_cons_zero, List.getElem_cons_succ, List.setIfInBounds_toArray, List.set_cons_zero, List.set_cons_succ]
    refine wpAnyH_done (by kernel_rfl) ?_ _
    try simp only [Act.put, List.getElem_toArray, List.getElem_cons_zero, List.getElem_cons_succ, List.setIfInBounds_toArray, List.set_cons_zero, List.set_cons_succ]
    rw [← hW1]
    rw [← hW1] at v1 v2
    clear hW1
    have hnz : (0 : Int) ≤ (k : Int) := by omega
    by_cases hg : (N : Int) < (e : Int)
    · obtain ⟨x50, x51, xf50, xf51, xl5⟩ := z5
      obtain ⟨x20, x21, xf20, xf21, xl2⟩ := z2b
      have xl5' : W0.heap.size < W1.heap.size := xl5
      go_wp2
      all_goals refine bodyPost_ret (v := .tuple #[.agg #[.int .i64 g1, .int .i64 0], .int .i64 0]) ?_ rfl ⟨g1, 0, 0, rfl, ?_, ?_, Or.inr ⟨?_, rfl⟩, ?_⟩
      all_goals first | (simp [results, Tryz.results49, go_sem, x50, x51, x20, x21, xl5, xl2]; done) | skip
      case refine_2 => exact HSV.out.2
      case refine_3 => exact ⟨by decide, by decide⟩
      case refine_4 => (rw [code_of l s c hc, HSV.out.1, ← HK.out]; exact if_neg fun h => by have := h.2.1; have := HNp.out; omega)
      case refine_5 => exact (((hbW.trans (hb1.mono hbW.size)).setCell (p := ⟨W.heap.size, 0, none⟩) (Nat.le_refl _) _).setCell (p := ⟨W.heap.size, 1, none⟩) (Nat.le_refl _) _)
    · have hg2 : decide ((N : Int) < (e : Int)) = false := decide_eq_false hg
      go_wp2
      have hpb : (p : Int) ≤ (cb : Int) := by have := HN.out; omega
      have hec : (e : Int) ≤ (cb : Int) := by have := HN.out; omega
      have hcp1 : ¬ cb = p := by have := HN.out; omega
      refine wp_region_held_drew (S := fun w' => w'.cell? ⟨rb, 1, none⟩ = some (.slice (some ⟨b, off, none⟩) N cb) ∧ w'.cell? ⟨rb, 2, none⟩ = some (.int .i64 (p : Int))) (by kernel_rfl) ⟨v1, v2⟩ (fun hHeld => ?_)
      refine wpAnyH_take (i := 0) (v := ?v0_25) rfl (by kernel_rfl) (by kernel_rfl) (by kernel_rfl) (fun _ _ _ h => h) (Or.inl ⟨by kernel_rfl, ?h0_25⟩) hHeld ?r0_25
      case h0_25 => (rintro w' ⟨q0, q1⟩; go_simp; try (with_reducible rfl))
      try simp only [Act.put, List.getElem_toArray, List.getElem_cons_zero, List.getElem_cons_succ, List.setIfInBounds_toArray, List.set_cons_zero, List.set_cons_succ]
      refine wpAnyH_take (i := 1) (v := ?v1_26) rfl (by kernel_rfl) (by kernel_rfl) (by kernel_rfl) (fun _ _ _ h => h) (Or.inl ⟨by kernel_rfl, ?h1_26⟩) hHeld ?r1_26
      case h1_26 => (rintro w' ⟨q0, q1⟩; go_simp; try (with_reducible rfl))
      try simp only [Act.put, List.getElem_toArray, List.getElem_cons_zero, List.getElem_cons_succ, List.setIfInBounds_toArray, List.set_cons_zero, List.set_cons_succ]
      refine wpAnyH_take (i := 2) (v := ?v2_27) rfl (by kernel_rfl) (by kernel_rfl) (by kernel_rfl) (fun _ _ _ h => h) (Or.inl ⟨by kernel_rfl, ?h2_27⟩) hHeld ?r2_27
      case h2_27 => (rintro w' ⟨q0, q1⟩; go_simp; try (with_reducible rfl))
      try simp only [Act.put, List.getElem_toArray, List.getElem_cons_zero, List.getElem_cons_succ, List.setIfInBounds_toArray, List.set_cons_zero, List.set_cons_succ]
      refine wpAnyH_take (i := 3) (v := ?v3_28) rfl (by kernel_rfl) (by kernel_rfl) (by kernel_rfl) (fun _ _ _ h => h) (Or.inl ⟨by kernel_rfl, ?h3_28⟩) hHeld ?r3_28
      case h3_28 => (rintro w' ⟨q0, q1⟩; go_simp; try (with_reducible rfl))
      try simp only [Act.put, List.getElem_toArray, List.getElem_cons_zero, List.getElem_cons_succ, List.setIfInBounds_toArray, List.set_cons_zero, List.set_cons_succ]
      refine wpAnyH_take (i := 4) (v := ?v4_29) rfl (by kernel_rfl) (by kernel_rfl) (by kernel_rfl) (fun _ _ _ h => h) (Or.inl ⟨by kernel_rfl, ?h4_29⟩) hHeld ?r4_29
      case h4_29 => (rintro w' ⟨q0, q1⟩; go_simp; try (with_reducible rfl))
      try simp only [Act.put, List.getElem_toArray, List.getElem_cons_zero, List.getElem_cons_succ, List.setIfInBounds_toArray, List.set_cons_zero, List.set_cons_succ]
      refine wpAnyH_take (i := 5) (v := ?v5_30) rfl (by kernel_rfl) (by kernel_rfl) (by kernel_rfl) (fun _ _ _ h => h) (Or.inl ⟨by kernel_rfl, ?h5_30⟩) hHeld ?r5_30
      case h5_30 => (rintro w' ⟨q0, q1⟩; go_simp; try (with_reducible rfl))
      try simp only [Act.put, List.getElem_toArray, List.getElem_cons_zero, List.getElem_cons_succ, List.setIfInBounds_toArray, List.set_cons_zero, List.set_cons_succ]
      refine wpAnyH_take (i := 6) (v := ?v6_31) rfl (by kernel_rfl) (by kernel_rfl) (by kernel_rfl) (fun _ _ _ h => h) (Or.inl ⟨by kernel_rfl, ?h6_31⟩) hHeld ?r6_31
      case h6_31 => (rintro w' ⟨q0, q1⟩; go_simp; try (with_reducible rfl))
      try simp only [Act.put, List.getElem_toArray, List.getElem_cons_zero, List.getElem_cons_succ, List.setIfInBounds_toArray, List.set_cons_zero, List.set_cons_succ]
      refine wpAnyH_take (i := 7) (v := ?v7_32) rfl (by kernel_rfl) (by kernel_rfl) (by kernel_rfl) (fun _ _ _ h => h) (Or.inl ⟨by kernel_rfl, ?h7_32⟩) hHeld ?r7_32
      case h7_32 => (rintro w' ⟨q0, q1⟩; go_simp; try (with_reducible rfl))
      try simp only [Act.put, List.getElem_toArray, List.getElem_cons_zero, List.getElem_cons_succ, List.setIfInBounds_toArray, List.set_cons_zero, List.set_cons_succ]
      refine wpAnyH_take (i := 8) (v := ?v8_33) rfl (by kernel_rfl) (by kernel_rfl) (by kernel_rfl) (fun _ _ _ h => h) (Or.inl ⟨by kernel_rfl, ?h8_33⟩) hHeld ?r8_33
      case h8_33 => (rintro w' ⟨q0, q1⟩; go_simp; try (with_reducible rfl))
      try simp only [Act.put, List.getElem_toArray, List.getElem_cons_zero, List.getElem_cons_succ, List.setIfInBounds_toArray, List.set_cons_zero, List.set_cons_succ]
      refine wpAnyH_take (i := 9) (v := ?v9_34) rfl (by kernel_rfl) (by kernel_rfl) (by kernel_rfl) (fun _ _ _ h => h) (Or.inl ⟨by kernel_rfl, ?h9_34⟩) hHeld ?r9_34
      case h9_34 => (rintro w' ⟨q0, q1⟩; go_simp; try (with_reducible rfl))
      try simp only [Act.put, List.getElem_toArray, List.getElem_cons_zero, List.getElem_cons_succ, List.setIfInBounds_toArray, List.set_cons_zero, List.set_cons_succ]
      refine wpAnyH_take (i := 10) (v := ?v10_35) rfl (by kernel_rfl) (by kernel_rfl) (by kernel_rfl) (fun _ _ _ h => h) (Or.inl ⟨by kernel_rfl, ?h10_35⟩) hHeld ?r10_35
      case h10_35 => (rintro w' ⟨q0, q1⟩; go_simp; try (with_reducible rfl))
      try simp only [Act.put, List.getElem_toArray, List.getElem_cons_zero, List.getElem_cons_succ, List.setIfInBounds_toArray, List.set_cons_zero, List.set_cons_succ]
      refine wpAnyH_take (i := 11) (v := ?v11_36) rfl (by kernel_rfl) (by kernel_rfl) (by kernel_rfl) (fun _ _ _ h => h) (Or.inl ⟨by kernel_rfl, ?h11_36⟩) hHeld ?r11_36
      case h11_36 => (rintro w' ⟨q0, q1⟩; go_simp; try (with_reducible rfl))
      try simp only [Act.put, List.getElem_toArray, List.getElem_cons_zero, List.getElem_cons_succ, List.setIfInBounds_toArray, List.set_cons_zero, List.set_cons_succ]
      refine wpAnyH_take (i := 12) (v := ?v12_37) rfl (by kernel_rfl) (by kernel_rfl) (by kernel_rfl) (fun _ _ _ h => h) (Or.inl ⟨by kernel_rfl, ?h12_37⟩) hHeld ?r12_37
      case h12_37 => (rintro w' ⟨q0, q1⟩; go_simp; try (with_reducible rfl))
      try simp only [Act.put, List.getElem_toArray, List.getElem_cons_zero, List.getElem_cons_succ, List.setIfInBounds_toArray, List.set_cons_zero, List.set_cons_succ]
      refine wpAnyH_take (i := 13) (v := ?v13_38) rfl (by kernel_rfl) (by kernel_rfl) (by kernel_rfl) (fun _ _ _ h => h) (Or.inl ⟨by kernel_rfl, ?h13_38⟩) hHeld ?r13_38
      case h13_38 => (rintro w' ⟨q0, q1⟩; go_simp; try (with_reducible rfl))
      try simp only [Act.put, List.getElem_toArray, List.getElem_cons_zero, List.getElem_cons_succ, List.setIfInBounds_toArray, List.set_cons_zero, List.set_cons_succ]
      refine wpAnyH_take (i := 14) (v := ?v14_39) rfl (by kernel_rfl) (by kernel_rfl) (by kernel_rfl) (fun _ _ _ h => h) (Or.inl ⟨by kernel_rfl, ?h14_39⟩) hHeld ?r14_39
      case h14_39 => (rintro w' ⟨q0, q1⟩; go_simp; try (with_reducible rfl))
      try simp only [Act.put, List.getElem_toArray, List.getElem_cons_zero, List.getElem_cons_succ, List.setIfInBounds_toArray, List.set_cons_zero, List.set_cons_succ]
      refine wpAnyH_take (i := 15) (v := ?v15_40) rfl (by kernel_rfl) (by kernel_rfl) (by kernel_rfl) (fun _ _ _ h => h) (Or.inl ⟨by kernel_rfl, ?h15_40⟩) hHeld ?r15_40
      case h15_40 => (rintro w' ⟨q0, q1⟩; go_simp; try (with_reducible rfl))
      try simp only [Act.put, List.getElem_toArray, List.getElem_cons_zero, List.getElem_cons_succ, List.setIfInBounds_toArray, List.set_cons_zero, List.set_cons_succ]
      refine wpAnyH_take (i := 16) (v := ?v16_41) rfl (by kernel_rfl) (by kernel_rfl) (by kernel_rfl) (fun _ _ _ h => h) (Or.inl ⟨by kernel_rfl, ?h16_41⟩) hHeld ?r16_41
      case h16_41 => (rintro w' ⟨q0, q1⟩; go_simp; try (with_reducible rfl))
      try simp only [Act.put, List.getElem_toArray, List.getElem_cons_zero, List.getElem_cons_succ, List.setIfInBounds_toArray, List.set_cons_zero, List.set_cons_succ]
      refine wpAnyH_done (by kernel_rfl) ?_ _
      try simp only [Act.put, List.getElem_toArray, List.getElem_cons_zero, List.getElem_cons_succ, List.setIfInBounds_toArray, List.set_cons_zero, List.set_cons_succ]
      clear v1 v2
      have HSD : Aside (128 = sideV c) := es.symm
      have hbW1 : Below W.heap.size W W1.drew := (hbW.trans (hb1.mono hbW.size)).drew
      have HLx : Aside (∀ wr i, Below W.heap.size W wr → i < k → ∃ x, l[p + i]? = some x ∧ (0 ≤ x ∧ x ≤ 255) ∧ wr.cell? ⟨b, off + p + i, none⟩ = some (.int .u8 x)) := fun wr i hb hik => by
        have hlen : p + i < l.length := by have := HNp.out.1; omega
        have hx := List.getElem?_eq_getElem hlen
        refine ⟨_, hx, hl _ (List.mem_of_getElem? hx), ?_⟩
        have h1 := hF1.cl _ _ hx
        rw [← Nat.add_assoc] at h1
        exact ((hb.cell (p := ⟨b, off + p + i, none⟩) HBL.out).trans (hbW1.cell (p := ⟨b, off + p + i, none⟩) HBL.out).symm).trans h1
      obtain ⟨q0, q1⟩ := hHeld
      have z5' : Cells2 W1.drew W0.heap.size g1 0 := z5.drew
      have z2' : Cells2 W1.drew W.heap.size 0 0 := z2b.drew
      clear z5 z2b
      go_wp2
      go_loopg [66] k (fun g v66 wr => ∃ i : Nat, v66 = .int .i64 (i : Int) ∧ i ≤ k ∧ k - i ≤ g ∧ Cells2 wr W0.heap.size g1 (Rd.numV ((l.drop p).take i)) ∧ Cells2 wr W.heap.size 0 0 ∧ Aside (Below W.heap.size W wr ∧ ((l.drop p).take i).all (grV (sideV c)) = true))
      case atStart => exact ⟨0, rfl, by omega, by omega, by simpa [Rd.numV] using z5', z2', hbW1, rfl⟩
      case round =>
        obtain ⟨i, rfl, hi, hg1, ⟨a50, a51, af50, af51, al5⟩, ⟨a20, a21, af20, af21, al2⟩, HI⟩ := hrel
        have al5' : W0.heap.size < wr.heap.size := al5
        by_cases hlt : i < k
        · obtain ⟨x, hx, hxr, hxc⟩ := HLx.out wr i HI.out.1 hlt
          have hlti : (i : Int) < (k : Int) := by omega
          have hi0 : (0 : Int) ≤ (i : Int) := by omega
          have hxn := not128 x hxr
          have cG := fun X => cGraphic x 128 (by omega) X
          obtain ⟨n, hn⟩ : ∃ n, n = Rd.numV ((l.drop p).take i) := ⟨_, rfl⟩
          rw [← hn] at a51
          have HNn : Aside (n = Rd.numV ((l.drop p).take i)) := hn
          clear hn
          by_cases hgr : grV 128 x = true
          · rw [hgr] at cG
            go_wp2_with (go_at_call 68; refine (cG _).mono ?_; rintro _ w9 ⟨rfl, rfl⟩)
            have hz5 : Cells2 wr W0.heap.size g1 n := ⟨a50, a51, af50, af51, al5⟩
            have hz2 : Cells2 wr W.heap.size 0 0 := ⟨a20, a21, af20, af21, al2⟩
            have hst := num_step l p i x n hx HNn.out (by omega)
            go_roundg (k - (i + 1))
            case measure => omega
            case rel => exact ⟨i + 1, by first | rfl | go_num, by omega, by omega, by rw [hst]; exact cells2_put1 hz5 _, hz2.below ((Below.refl _ wr).setCell (p := ⟨W0.heap.size, 1, none⟩) (Nat.le_refl _) _) HZ.out, HI.out.1.setCell (p := ⟨W0.heap.size, 1, none⟩) (Nat.le_of_lt HZ.out) _, by rw [List.take_succ, List.getElem?_drop, hx, List.all_append, HI.out.2, ← HSD.out]; simp [hgr]⟩
          · have hgf : grV 128 x = false := by simpa using hgr
            rw [hgf] at cG
            go_wp2_with (go_at_call 68; refine (cG _).mono ?_; rintro _ w9 ⟨rfl, rfl⟩)
            refine bodyPost_ret (v := .tuple #[.agg #[.int .i64 g1, .int .i64 n], .int .i64 0]) ?_ rfl ⟨g1, n, 0, rfl, HSV.out.2, by rw [HNn.out]; exact W64_num (by rw [List.length_take]; omega), Or.inr ⟨?_, rfl⟩, ?_⟩
            · (simp [results, Tryz.results49, go_sem, a50, a51, a20, a21, al5, al2]; done)
            · (rw [code_of l s c hc, HSV.out.1, ← HK.out]; exact if_neg fun h => by have h2 := List.all_eq_true.1 h.2.2 x (take_mem (by rw [← HNp.out.2.1]; exact hx) hlt); rw [← HSD.out, hgf] at h2; exact absurd h2 (by decide))
            · exact (HI.out.1.setCell (p := ⟨W.heap.size, 0, none⟩) (Nat.le_refl _) _).setCell (p := ⟨W.heap.size, 1, none⟩) (Nat.le_refl _) _
        · have hik : i = k := by omega
          subst hik
          have hd : decide ((i : Int) < (i : Int)) = false := by simp
          go_wp2
          refine bodyPost_ret (v := .tuple #[.agg #[.int .i64 g1, .int .i64 (Rd.numV ((l.drop p).take i))], .int .i64 (i : Int)]) ?_ rfl ⟨g1, _, i, rfl, HSV.out.2, W64_num (by rw [List.length_take]; omega), ?_, ?_⟩
          · (simp [results, Tryz.results49, go_sem, a50, a51, a20, a21, al5, al2]; done)
          · rw [code_of l s c hc, HSV.out.1, ← HK.out, ← HNp.out.2.1]
            by_cases h0 : 0 < i
            · exact Or.inl (if_pos ⟨h0, by have := HNp.out.1; omega, HI.out.2⟩)
            · exact Or.inr ⟨if_neg fun h => h0 h.1, by omega⟩
          · exact (HI.out.1.setCell (p := ⟨W.heap.size, 0, none⟩) (Nat.le_refl _) _).setCell (p := ⟨W.heap.size, 1, none⟩) (Nat.le_refl _) _
  · have es : sideV c = 0 := if_neg hi
    rw [es] at ea
    obtain ⟨W1, hW1⟩ : ∃ W1, W1 = (W0.alloc (.cells #[.int .i64 g0, .int .i64 0] 89)).drew := ⟨_, rfl⟩
    have hb1 : Below W0.heap.size W0 W1 := by rw [hW1]; exact ((Below.refl _ W0).alloc (Nat.le_refl _) _).drew
    have z5 : Cells2 W1 W0.heap.size g0 0 := by rw [hW1]; exact (cells2_of 89 (MapKept.heap_alloc W0 _).1).drew
    have hF1 := hF.below hb1 hF.rlt hF.blt
    have z2b : Cells2 W1 W.heap.size 0 0 := z2.below hb1 z2.lt
    clear z2
    have cS := fun X => cSize g0 X
    obtain ⟨k, hk⟩ : ∃ k, k = sizeV g0 := ⟨_, rfl⟩
    rw [← hk] at cS
    have hk3 : k ≤ 3 := by rw [hk]; unfold sizeV; split <;> (try split) <;> omega
    have HK : Aside (k = sizeV g0) := hk
    clear hk
    have HSV : Aside (setV s c = g0 ∧ W64 g0) := by obtain ⟨_, _, e0, e1, k0, k1⟩ := HNp.out; rw [e0]; exact ⟨if_neg hi, k0⟩
    obtain ⟨e, he⟩ : ∃ e, e = p + k := ⟨_, rfl⟩
    have HWR : Aside (e = p + k ∧ IntKind.i64.wrap ((p : Int) + (k : Int)) = (e : Int)) := ⟨he, by rw [IntKind.wrap_i64]; omega⟩
    clear he
    have v1 := hF1.c1
    have v2 := hF1.c2
    go_enter Tryz.func49, Tryz.ntmps49
    go_wp2
    rw [hW0] at y1 y2 yb
    refine wp_region_held_drew (S := fun w' => w'.cell? ⟨rb, 1, none⟩ = some (.slice (some ⟨b, off, none⟩) N cb) ∧ w'.cell? ⟨rb, 2, none⟩ = some (.int .i64 (p : Int)) ∧ w'.cell? ⟨b, off + p, none⟩ = some (.int .u8 c)) (by kernel_rfl) ⟨y1, y2, yb⟩ (fun hHeld => ?_)
    refine wpAnyH_take (i := 0) (v := ?v0_42) rfl (by kernel_rfl) (by kernel_rfl) (by kernel_rfl) (fun _ _ _ h => h) (Or.inl ⟨by kernel_rfl, ?h0_42⟩) hHeld ?r0_42
    case h0_42 => (rintro w' ⟨q0, q1, q2⟩; go_simp; try (with_reducible rfl))
    try simp only [Act.put, List.getElem_toArray, List.getElem_cons_zero, List.getElem_cons_succ, List.setIfInBounds_toArray, List.set_cons_zero, List.set_cons_succ]
    refine wpAnyH_take (i := 1) (v := ?v1_43) rfl (by kernel_rfl) (by kernel_rfl) (by kernel_rfl) (fun _ _ _ h => h) (Or.inl ⟨by kernel_rfl, ?h1_43⟩) hHeld ?r1_43
    case h1_43 => (rintro w' ⟨q0, q1, q2⟩; go_simp; try (with_reducible rfl))
    try simp only [Act.put, List.getElem_toArray, List.getElem_cons_zero, List.getElem_cons_succ, List.setIfInBounds_toArray, List.set_cons_zero, List.set_cons_succ]
    refine wpAnyH_take (i := 2) (v := ?v2_44) rfl (by kernel_rfl) (by kernel_rfl) (by kernel_rfl) (fun _ _ _ h => h) (Or.inl ⟨by kernel_rfl, ?h2_44⟩) hHeld ?r2_44
    case h2_44 => (rintro w' ⟨q0, q1, q2⟩; go_simp; try (with_reducible rfl))
    try simp only [Act.put, List.getElem_toArray, List.getElem_cons_zero, List.getElem_cons_succ, List.setIfInBounds_toArray, List.set_cons_zero, List.set_cons_succ]
    refine wpAnyH_take (i := 3) (v := ?v3_45) rfl (by kernel_rfl) (by kernel_rfl) (by kernel_rfl) (fun _ _ _ h => h) (Or.inl ⟨by kernel_rfl, ?h3_45⟩) hHeld ?r3_45
    case h3_45 => (rintro w' ⟨q0, q1, q2⟩; go_simp; try (with_reducible rfl))
    try simp only [Act.put, List.getElem_toArray, List.getElem_cons_zero, List.getElem_cons_succ, List.setIfInBounds_toArray, List.set_cons_zero, List.set_cons_succ]
    refine wpAnyH_take (i := 4) (v := ?v4_46) rfl (by kernel_rfl) (by kernel_rfl) (by kernel_rfl) (fun _ _ _ h => h) (Or.inl ⟨by kernel_rfl, ?h4_46⟩) hHeld ?r4_46
    case h4_46 => (rintro w' ⟨q0, q1, q2⟩; go_simp; try (with_reducible rfl))
    try simp only [Act.put, List.getElem_toArray, List.getElem_cons_zero, List.getElem_cons_succ, List.setIfInBounds_toArray, List.set_cons_zero, List.set_cons_succ]
    refine wpAnyH_take (i := 5) (v := ?v5_47) rfl (by kernel_rfl) (by kernel_rfl) (by kernel_rfl) (fun _ _ _ h => h) (Or.inl ⟨by kernel_rfl, ?h5_47⟩) hHeld ?r5_47
    case h5_47 => (rintro w' ⟨q0, q1, q2⟩; go_simp; try (with_reducible rfl))
    try simp only [Act.put, List.getElem_toArray, List.getElem_cons_zero, List.getElem_cons_succ, List.setIfInBounds_toArray, List.set_cons_zero, List.set_cons_succ]
    refine wpAnyH_take (i := 6) (v := ?v6_48) rfl (by kernel_rfl) (by kernel_rfl) (by kernel_rfl) (fun _ _ _ h => h) (Or.inl ⟨by kernel_rfl, ?h6_48⟩) hHeld ?r6_48
    case h6_48 => (rintro w' ⟨q0, q1, q2⟩; go_simp; try (with_reducible rfl))
    try simp only [Act.put, List.getElem_toArray, List.getElem_cons_zero, List.getElem_cons_succ, List.setIfInBounds_toArray, List.set_cons_zero, List.set_cons_succ]
    refine wpAnyH_take (i := 7) (v := ?v7_49) rfl (by kernel_rfl) (by kernel_rfl) (by kernel_rfl) (fun _ _ _ h => h) (Or.inl ⟨by kernel_rfl, ?h7_49⟩) hHeld ?r7_49
    case h7_49 => (rintro w' ⟨q0, q1, q2⟩; go_simp; try (with_reducible rfl))
    try simp only [Act.put, List.getElem_toArray, List.getElem_cons_zero, List.getElem_cons_succ, List.setIfInBounds_toArray, List.set_cons_zero, List.set_cons_succ]
    refine wpAnyH_take (i := 8) (v := ?v8_50) rfl (by kernel_rfl) (by kernel_rfl) (by kernel_rfl) (fun _ _ _ h => h) (Or.inl ⟨by kernel_rfl, ?h8_50⟩) hHeld ?r8_50
    case h8_50 => (rintro w' ⟨q0, q1, q2⟩; go_simp; try (with_reducible rfl))
    try simp only [Act.put, List.getElem_toArray, List.getElem_cons_zero, List.getElem_cons_succ, List.setIfInBounds_toArray, List.set_cons_zero, List.set_cons_succ]
    refine wpAnyH_take (i := 9) (v := ?v9_51) rfl (by kernel_rfl) (by kernel_rfl) (by kernel_rfl) (fun _ _ _ h => h) (Or.inl ⟨by kernel_rfl, ?h9_51⟩) hHeld ?r9_51
    case h9_51 => (rintro w' ⟨q0, q1, q2⟩; go_simp; try (with_reducible rfl))
    try simp only [Act.put, List.getElem_toArray, List.getElem_cons_zero, List.getElem_cons_succ, List.setIfInBounds_toArray, List.set_cons_zero, List.set_cons_succ]
    refine wpAnyH_take (i := 10) (v := ?v10_52) rfl (by kernel_rfl) (by kernel_rfl) (by kernel_rfl) (fun _ _ _ h => h) (Or.inl ⟨by kernel_rfl, ?h10_52⟩) hHeld ?r10_52
    case h10_52 => (rintro w' ⟨q0, q1, q2⟩; go_simp; try (with_reducible rfl))
    try simp only [Act.put, List.getElem_toArray, List.getElem_cons_zero, List.getElem_cons_succ, List.setIfInBounds_toArray, List.set_cons_zero, List.set_cons_succ]
    refine wpAnyH_take (i := 11) (v := ?v11_53) rfl (by kernel_rfl) (by kernel_rfl) (by kernel_rfl) (fun _ _ _ h => h) (Or.inl ⟨by kernel_rfl, ?h11_53⟩) hHeld ?r11_53
    case h11_53 => (rintro w' ⟨q0, q1, q2⟩; go_simp; try (with_reducible rfl))
    try simp only [Act.put, List.getElem_toArray, List.getElem_cons_zero, List.getElem_cons_succ, List.setIfInBounds_toArray, List.set_cons_zero, List.set_cons_succ]
    refine wpAnyH_done (by kernel_rfl) ?_ _
    try simp only [Act.put, List.getElem_toArray, List.getElem_cons_zero, List.getElem_cons_succ, List.setIfInBounds_toArray, List.set_cons_zero, List.set_cons_succ]
    rw [← hW0]
    rw [← hW0] at y1 y2 yb
    have y3 := hF.c3
    have y4 := (show (W0.alloc (.cells #[.int .i64 g0, .int .i64 0] 89)).cell? ⟨rb, 4, none⟩ = W0.cell? ⟨rb, 4, none⟩ from World.cell?_alloc_lt _ _ _ hF.rlt).trans hF.c4
    clear hW0
    go_wp2_with (go_at_call 67; refine (cS _).mono ?_; rintro _ w9 ⟨rfl, rfl⟩)
    rw [hW1] at v1 v2
    have hwr : IntKind.i64.wrap ((p : Int) + (k : Int)) = (e : Int) := HWR.out.2
    have hek : e - p = k := by have := HWR.out.1; omega
    have hpe : p ≤ e := by have := HWR.out.1; omega
    have hpe2 : (p : Int) ≤ (e : Int) := by have := HWR.out.1; omega
    refine wp_region_held_drew (S := fun w' => w'.cell? ⟨rb, 1, none⟩ = some (.slice (some ⟨b, off, none⟩) N cb) ∧ w'.cell? ⟨rb, 2, none⟩ = some (.int .i64 (p : Int))) (by kernel_rfl) ⟨v1, v2⟩ (fun hHeld => ?_)
    refine wpAnyH_take (i := 0) (v := ?v0_54) rfl (by kernel_rfl) (by kernel_rfl) (by kernel_rfl) (fun _ _ _ h => h) (Or.inl ⟨by kernel_rfl, ?h0_54⟩) hHeld ?r0_54
    case h0_54 => (rintro w' ⟨q0, q1⟩; go_simp; try (with_reducible rfl))
    try simp only [Act.put, List.getElem_toArray, List.getElem_cons_zero, List.getElem_cons_succ, List.setIfInBounds_toArray, List.set_cons_zero, List.set_cons_succ]
    refine wpAnyH_take (i := 1) (v := ?v1_55) rfl (by kernel_rfl) (by kernel_rfl) (by kernel_rfl) (fun _ _ _ h => h) (Or.inl ⟨by kernel_rfl, ?h1_55⟩) hHeld ?r1_55
    case h1_55 => (rintro w' ⟨q0, q1⟩; go_simp; try (with_reducible rfl))
    try simp only [Act.put, List.getElem_toArray, List.getElem_cons_zero, List.getElem_cons_succ, List.setIfInBounds_toArray, List.set_cons_zero, List.set_cons_succ]
    refine wpAnyH_take (i := 2) (v := ?v2_56) rfl (by kernel_rfl) (by kernel_rfl) (by kernel_rfl) (fun _ _ _ h => h) (Or.inl ⟨by kernel_rfl, ?h2_56⟩) hHeld ?r2_56
    case h2_56 => (rintro w' ⟨q0, q1⟩; go_simp; try (with_reducible rfl))
    try simp only [Act.put, List.getElem_toArray, List.getElem_cons_zero, List.getElem_cons_succ, List.setIfInBounds_toArray, List.set_cons_zero, List.set_cons_succ]
    refine wpAnyH_take (i := 3) (v := ?v3_57) rfl (by kernel_rfl) (by kernel_rfl) (by kernel_rfl) (fun _ _ _ h => h) (Or.inl ⟨by kernel_rfl, ?h3_57⟩) hHeld ?r3_57
    case h3_57 => (rintro w' ⟨q0, q1⟩; go_simp; try (with_reducible rfl))
    try simp only [Act.put, List.getElem_toArray, List.getElem_cons_zero, List.getElem_cons_succ, List.setIfInBounds_toArray, List.set_cons_zero, List.set_cons_succ]
    refine wpAnyH_take (i := 4) (v := ?v4_58) rfl (by kernel_rfl) (by kernel_rfl) (by kernel_rfl) (fun _ _ _ h => h) (Or.inl ⟨by kernel_rfl, ?h4_58⟩) hHeld ?r4_58
    case h4_58 => (rintro w' ⟨q0, q1⟩; go_simp; try (with_reducible rfl))
    try simp only [Act.put, List.getElem_toArray, List.getElem_cons_zero, List.getElem_cons_succ, List.setIfInBounds_toArray, List.set_cons_zero, List.set_cons_succ]
    refine wpAnyH_take (i := 5) (v := ?v5_59) rfl (by kernel_rfl) (by kernel_rfl) (by kernel_rfl) (fun _ _ _ h => h) (Or.inl ⟨by kernel_rfl, ?h5_59⟩) hHeld ?r5_59
    case h5_59 => (rintro w' ⟨q0, q1⟩; go_simp; try (with_reducible rfl))
    try simp only [Act.put, List.getElem_toArray, List.getElem_cons_zero, List.getElem_cons_succ, List.setIfInBounds_toArray, List.set_cons_zero, List.set_cons_succ]
    refine wpAnyH_take (i := 6) (v := ?v6_60) rfl (by kernel_rfl) (by kernel_rfl) (by kernel_rfl) (fun _ _ _ h => h) (Or.inl ⟨by kernel_rfl, ?h6_60⟩) hHeld ?r6_60
    case h6_60 => (rintro w' ⟨q0, q1⟩; go_simp; try (with_reducible rfl))
    try simp only [Act.put, List.getElem_toArray, List.getElem_cons_zero, List.getElem_cons_succ, List.setIfInBounds_toArray, List.set_cons_zero, List.set_cons_succ]
    refine wpAnyH_take (i := 7) (v := ?v7_61) rfl (by kernel_rfl) (by kernel_rfl) (by kernel_rfl) (fun _ _ _ h => h) (Or.inl ⟨by kernel_rfl, ?h7_61⟩) hHeld ?r7_61
    case h7_61 => (rintro w' ⟨q0, q1⟩; go_simp; try (with_reducible rfl))
    try simp only [Act.put, List.getElem_toArray, List.getElem_cons_zero, List.getElem_cons_succ, List.setIfInBounds_toArray, List.set_cons_zero, List.set_cons_succ]
    refine wpAnyH_take (i := 8) (v := ?v8_62) rfl (by kernel_rfl) (by kernel_rfl) (by kernel_rfl) (fun _ _ _ h => h) (Or.inl ⟨by kernel_rfl, ?h8_62⟩) hHeld ?r8_62
    case h8_62 => (rintro w' ⟨q0, q1⟩; go_simp; try (with_reducible rfl))
    try simp only [Act.put, List.getElem_toArray, List.getElem_cons_zero, List.getElem_cons_succ, List.setIfInBounds_toArray, List.set_cons_zero, List.set_cons_succ]
    refine wpAnyH_take (i := 9) (v := ?v9_63) rfl (by kernel_rfl) (by kernel_rfl) (by kernel_rfl) (fun _ _ _ h => h) (Or.inl ⟨by kernel_rfl, ?h9_63⟩) hHeld ?r9_63
    case h9_63 => (rintro w' ⟨q0, q1⟩; go_simp; try (with_reducible rfl))
    try simp only [Act.put, List.getElem_toArray, List.getElem_cons_zero, List.getElem_cons_succ, List.setIfInBounds_toArray, List.set_cons_zero, List.set_cons_succ]
    refine wpAnyH_take (i := 10) (v := ?v10_64) rfl (by kernel_rfl) (by kernel_rfl) (by kernel_rfl) (fun _ _ _ h => h) (Or.inl ⟨by kernel_rfl, ?h10_64⟩) hHeld ?r10_64
    case h10_64 => (rintro w' ⟨q0, q1⟩; go_simp; try (with_reducible rfl))
    try simp only [Act.put, List.getElem_toArray, List.getElem_cons_zero, List.getElem_cons_succ, List.setIfInBounds_toArray, List.set_cons_zero, List.set_cons_succ]
    refine wpAnyH_take (i := 11) (v := ?v11_65) rfl (by kernel_rfl) (by kernel_rfl) (by kernel_rfl) (fun _ _ _ h => h) (Or.inl ⟨by kernel_rfl, ?h11_65⟩) hHeld ?r11_65
    case h11_65 => (rintro w' ⟨q0, q1⟩; go_simp; try (with_reducible rfl))
    try simp only [Act.put, List.getElem_toArray, List.getElem_cons_zero, List.getElem_cons_succ, List.setIfInBounds_toArray, List.set_cons_zero, List.set_cons_succ]
    refine wpAnyH_done (by kernel_rfl) ?_ _
    try simp only [Act.put, List.getElem_toArray, List.getElem_cons_zero, List.getElem_cons_succ, List.setIfInBounds_toArray, List.set_cons_zero, List.set_cons_succ]
    rw [← hW1]
    rw [← hW1] at v1 v2
    clear hW1
    have hnz : (0 : Int) ≤ (k : Int) := by omega
    by_cases hg : (N : Int) < (e : Int)
    · obtain ⟨x50, x51, xf50, xf51, xl5⟩ := z5
      obtain ⟨x20, x21, xf20, xf21, xl2⟩ := z2b
      have xl5' : W0.heap.size < W1.heap.size := xl5
      go_wp2
      all_goals refine bodyPost_ret (v := .tuple #[.agg #[.int .i64 g0, .int .i64 0], .int .i64 0]) ?_ rfl ⟨g0, 0, 0, rfl, ?_, ?_, Or.inr ⟨?_, rfl⟩, ?_⟩
      all_goals first | (simp [results, Tryz.results49, go_sem, x50, x51, x20, x21, xl5, xl2]; done) | skip
      case refine_2 => exact HSV.out.2
      case refine_3 => exact ⟨by decide, by decide⟩
      case refine_4 => (rw [code_of l s c hc, HSV.out.1, ← HK.out]; exact if_neg fun h => by have := h.2.1; have := HNp.out; omega)
      case refine_5 => exact (((hbW.trans (hb1.mono hbW.size)).setCell (p := ⟨W.heap.size, 0, none⟩) (Nat.le_refl _) _).setCell (p := ⟨W.heap.size, 1, none⟩) (Nat.le_refl _) _)
    · have hg2 : decide ((N : Int) < (e : Int)) = false := decide_eq_false hg
      go_wp2
      have hpb : (p : Int) ≤ (cb : Int) := by have := HN.out; omega
      have hec : (e : Int) ≤ (cb : Int) := by have := HN.out; omega
      have hcp1 : ¬ cb = p := by have := HN.out; omega
      refine wp_region_held_drew (S := fun w' => w'.cell? ⟨rb, 1, none⟩ = some (.slice (some ⟨b, off, none⟩) N cb) ∧ w'.cell? ⟨rb, 2, none⟩ = some (.int .i64 (p : Int))) (by kernel_rfl) ⟨v1, v2⟩ (fun hHeld => ?_)
      refine wpAnyH_take (i := 0) (v := ?v0_66) rfl (by kernel_rfl) (by kernel_rfl) (by kernel_rfl) (fun _ _ _ h => h) (Or.inl ⟨by kernel_rfl, ?h0_66⟩) hHeld ?r0_66
      case h0_66 => (rintro w' ⟨q0, q1⟩; go_simp; try (with_reducible rfl))
      try simp only [Act.put, List.getElem_toArray, List.getElem_cons_zero, List.getElem_cons_succ, List.setIfInBounds_toArray, List.set_cons_zero, List.set_cons_succ]
      refine wpAnyH_take (i := 1) (v := ?v1_67) rfl (by kernel_rfl) (by kernel_rfl) (by kernel_rfl) (fun _ _ _ h => h) (Or.inl ⟨by kernel_rfl, ?h1_67⟩) hHeld ?r1_67
      case h1_67 => (rintro w' ⟨q0, q1⟩; go_simp; try (with_reducible rfl))
      try simp only [Act.put, List.getElem_toArray, List.getElem_cons_zero, List.getElem_cons_succ, List.setIfInBounds_toArray, List.set_cons_zero, List.set_cons_succ]
      refine wpAnyH_take (i := 2) (v := ?v2_68) rfl (by kernel_rfl) (by kernel_rfl) (by kernel_rfl) (fun _ _ _ h => h) (Or.inl ⟨by kernel_rfl, ?h2_68⟩) hHeld ?r2_68
      case h2_68 => (rintro w' ⟨q0, q1⟩; go_simp; try (with_reducible rfl))
      try simp only [Act.put, List.getElem_toArray, List.getElem_cons_zero, List.getElem_cons_succ, List.setIfInBounds_toArray, List.set_cons_zero, List.set_cons_succ]
      refine wpAnyH_take (i := 3) (v := ?v3_69) rfl (by kernel_rfl) (by kernel_rfl) (by kernel_rfl) (fun _ _ _ h => h) (Or.inl ⟨by kernel_rfl, ?h3_69⟩) hHeld ?r3_69
      case h3_69 => (rintro w' ⟨q0, q1⟩; go_simp; try (with_reducible rfl))
      try simp only [Act.put, List.getElem_toArray, List.getElem_cons_zero, List.getElem_cons_succ, List.setIfInBounds_toArray, List.set_cons_zero, List.set_cons_succ]
      refine wpAnyH_take (i := 4) (v := ?v4_70) rfl (by kernel_rfl) (by kernel_rfl) (by kernel_rfl) (fun _ _ _ h => h) (Or.inl ⟨by kernel_rfl, ?h4_70⟩) hHeld ?r4_70
      case h4_70 => (rintro w' ⟨q0, q1⟩; go_simp; try (with_reducible rfl))
      try simp only [Act.put, List.getElem_toArray, List.getElem_cons_zero, List.getElem_cons_succ, List.setIfInBounds_toArray, List.set_cons_zero, List.set_cons_succ]
      refine wpAnyH_take (i := 5) (v := ?v5_71) rfl (by kernel_rfl) (by kernel_rfl) (by kernel_rfl) (fun _ _ _ h => h) (Or.inl ⟨by kernel_rfl, ?h5_71⟩) hHeld ?r5_71
      case h5_71 => (rintro w' ⟨q0, q1⟩; go_simp; try (with_reducible rfl))
      try simp only [Act.put, List.getElem_toArray, List.getElem_cons_zero, List.getElem_cons_succ, List.setIfInBounds_toArray, List.set_cons_zero, List.set_cons_succ]
      refine wpAnyH_take (i := 6) (v := ?v6_72) rfl (by kernel_rfl) (by kernel_rfl) (by kernel_rfl) (fun _ _ _ h => h) (Or.inl ⟨by kernel_rfl, ?h6_72⟩) hHeld ?r6_72
      case h6_72 => (rintro w' ⟨q0, q1⟩; go_simp; try (with_reducible rfl))
      try simp only [Act.put, List.getElem_toArray, List.getElem_cons_zero, List.getElem_cons_succ, List.setIfInBounds_toArray, List.set_cons_zero, List.set_cons_succ]
      refine wpAnyH_take (i := 7) (v := ?v7_73) rfl (by kernel_rfl) (by kernel_rfl) (by kernel_rfl) (fun _ _ _ h => h) (Or.inl ⟨by kernel_rfl, ?h7_73⟩) hHeld ?r7_73
      case h7_73 => (rintro w' ⟨q0, q1⟩; go_simp; try (with_reducible rfl))
      try simp only [Act.put, List.getElem_toArray, List.getElem_cons_zero, List.getElem_cons_succ, List.setIfInBounds_toArray, List.set_cons_zero, List.set_cons_succ]
      refine wpAnyH_take (i := 8) (v := ?v8_74) rfl (by kernel_rfl) (by kernel_rfl) (by kernel_rfl) (fun _ _ _ h => h) (Or.inl ⟨by kernel_rfl, ?h8_74⟩) hHeld ?r8_74
      case h8_74 => (rintro w' ⟨q0, q1⟩; go_simp; try (with_reducible rfl))
      try simp only [Act.put, List.getElem_toArray, List.getElem_cons_zero, List.getElem_cons_succ, List.setIfInBounds_toArray, List.set_cons_zero, List.set_cons_succ]
      refine wpAnyH_take (i := 9) (v := ?v9_75) rfl (by kernel_rfl) (by kernel_rfl) (by kernel_rfl) (fun _ _ _ h => h) (Or.inl ⟨by kernel_rfl, ?h9_75⟩) hHeld ?r9_75
      case h9_75 => (rintro w' ⟨q0, q1⟩; go_simp; try (with_reducible rfl))
      try simp only [Act.put, List.getElem_toArray, List.getElem_cons_zero, List.getElem_cons_succ, List.setIfInBounds_toArray, List.set_cons_zero, List.set_cons_succ]
      refine wpAnyH_take (i := 10) (v := ?v10_76) rfl (by kernel_rfl) (by kernel_rfl) (by kernel_rfl) (fun _ _ _ h => h) (Or.inl ⟨by kernel_rfl, ?h10_76⟩) hHeld ?r10_76
      case h10_76 => (rintro w' ⟨q0, q1⟩; go_simp; try (with_reducible rfl))
      try simp only [Act.put, List.getElem_toArray, List.getElem_cons_zero, List.getElem_cons_succ, List.setIfInBounds_toArray, List.set_cons_zero, List.set_cons_succ]
      refine wpAnyH_take (i := 11) (v := ?v11_77) rfl (by kernel_rfl) (by kernel_rfl) (by kernel_rfl) (fun _ _ _ h => h) (Or.inl ⟨by kernel_rfl, ?h11_77⟩) hHeld ?r11_77
      case h11_77 => (rintro w' ⟨q0, q1⟩; go_simp; try (with_reducible rfl))
      try simp only [Act.put, List.getElem_toArray, List.getElem_cons_zero, List.getElem_cons_succ, List.setIfInBounds_toArray, List.set_cons_zero, List.set_cons_succ]
      refine wpAnyH_take (i := 12) (v := ?v12_78) rfl (by kernel_rfl) (by kernel_rfl) (by kernel_rfl) (fun _ _ _ h => h) (Or.inl ⟨by kernel_rfl, ?h12_78⟩) hHeld ?r12_78
      case h12_78 => (rintro w' ⟨q0, q1⟩; go_simp; try (with_reducible rfl))
      try simp only [Act.put, List.getElem_toArray, List.getElem_cons_zero, List.getElem_cons_succ, List.setIfInBounds_toArray, List.set_cons_zero, List.set_cons_succ]
      refine wpAnyH_take (i := 13) (v := ?v13_79) rfl (by kernel_rfl) (by kernel_rfl) (by kernel_rfl) (fun _ _ _ h => h) (Or.inl ⟨by kernel_rfl, ?h13_79⟩) hHeld ?r13_79
      case h13_79 => (rintro w' ⟨q0, q1⟩; go_simp; try (with_reducible rfl))
      try simp only [Act.put, List.getElem_toArray, List.getElem_cons_zero, List.getElem_cons_succ, List.setIfInBounds_toArray, List.set_cons_zero, List.set_cons_succ]
      refine wpAnyH_take (i := 14) (v := ?v14_80) rfl (by kernel_rfl) (by kernel_rfl) (by kernel_rfl) (fun _ _ _ h => h) (Or.inl ⟨by kernel_rfl, ?h14_80⟩) hHeld ?r14_80
      case h14_80 => (rintro w' ⟨q0, q1⟩; go_simp; try (with_reducible rfl))
      try simp only [Act.put, List.getElem_toArray, List.getElem_cons_zero, List.getElem_cons_succ, List.setIfInBounds_toArray, List.set_cons_zero, List.set_cons_succ]
      refine wpAnyH_take (i := 15) (v := ?v15_81) rfl (by kernel_rfl) (by kernel_rfl) (by kernel_rfl) (fun _ _ _ h => h) (Or.inl ⟨by kernel_rfl, ?h15_81⟩) hHeld ?r15_81
      case h15_81 => (rintro w' ⟨q0, q1⟩; go_simp; try (with_reducible rfl))
      try simp only [Act.put, List.getElem_toArray, List.getElem_cons_zero, List.getElem_cons_succ, List.setIfInBounds_toArray, List.set_cons_zero, List.set_cons_succ]
      refine wpAnyH_take (i := 16) (v := ?v16_82) rfl (by kernel_rfl) (by kernel_rfl) (by kernel_rfl) (fun _ _ _ h => h) (Or.inl ⟨by kernel_rfl, ?h16_82⟩) hHeld ?r16_82
      case h16_82 => (rintro w' ⟨q0, q1⟩; go_simp; try (with_reducible rfl))
      try simp only [Act.put, List.getElem_toArray, List.getElem_cons_zero, List.getElem_cons_succ, List.setIfInBounds_toArray, List.set_cons_zero, List.set_cons_succ]
      refine wpAnyH_done (by kernel_rfl) ?_ _
      try simp only [Act.put, List.getElem_toArray, List.getElem_cons_zero, List.getElem_cons_succ, List.setIfInBounds_toArray, List.set_cons_zero, List.set_cons_succ]
      clear v1 v2
      have HSD : Aside (0 = sideV c) := es.symm
      have hbW1 : Below W.heap.size W W1.drew := (hbW.trans (hb1.mono hbW.size)).drew
      have HLx : Aside (∀ wr i, Below W.heap.size W wr → i < k → ∃ x, l[p + i]? = some x ∧ (0 ≤ x ∧ x ≤ 255) ∧ wr.cell? ⟨b, off + p + i, none⟩ = some (.int .u8 x)) := fun wr i hb hik => by
        have hlen : p + i < l.length := by have := HNp.out.1; omega
        have hx := List.getElem?_eq_getElem hlen
        refine ⟨_, hx, hl _ (List.mem_of_getElem? hx), ?_⟩
        have h1 := hF1.cl _ _ hx
        rw [← Nat.add_assoc] at h1
        exact ((hb.cell (p := ⟨b, off + p + i, none⟩) HBL.out).trans (hbW1.cell (p := ⟨b, off + p + i, none⟩) HBL.out).symm).trans h1
      obtain ⟨q0, q1⟩ := hHeld
      have z5' : Cells2 W1.drew W0.heap.size g0 0 := z5.drew
      have z2' : Cells2 W1.drew W.heap.size 0 0 := z2b.drew
      clear z5 z2b
      go_wp2
      go_loopg [66] k (fun g v66 wr => ∃ i : Nat, v66 = .int .i64 (i : Int) ∧ i ≤ k ∧ k - i ≤ g ∧ Cells2 wr W0.heap.size g0 (Rd.numV ((l.drop p).take i)) ∧ Cells2 wr W.heap.size 0 0 ∧ Aside (Below W.heap.size W wr ∧ ((l.drop p).take i).all (grV (sideV c)) = true))
      case atStart => exact ⟨0, rfl, by omega, by omega, by simpa [Rd.numV] using z5', z2', hbW1, rfl⟩
      case round =>
        obtain ⟨i, rfl, hi, hg1, ⟨a50, a51, af50, af51, al5⟩, ⟨a20, a21, af20, af21, al2⟩, HI⟩ := hrel
        have al5' : W0.heap.size < wr.heap.size := al5
        by_cases hlt : i < k
        · obtain ⟨x, hx, hxr, hxc⟩ := HLx.out wr i HI.out.1 hlt
          have hlti : (i : Int) < (k : Int) := by omega
          have hi0 : (0 : Int) ≤ (i : Int) := by omega
          have hxn := not128 x hxr
          have cG := fun X => cGraphic x 0 (by omega) X
          obtain ⟨n, hn⟩ : ∃ n, n = Rd.numV ((l.drop p).take i) := ⟨_, rfl⟩
          rw [← hn] at a51
          have HNn : Aside (n = Rd.numV ((l.drop p).take i)) := hn
          clear hn
          by_cases hgr : grV 0 x = true
          · rw [hgr] at cG
            go_wp2_with (go_at_call 68; refine (cG _).mono ?_; rintro _ w9 ⟨rfl, rfl⟩)
            have hz5 : Cells2 wr W0.heap.size g0 n := ⟨a50, a51, af50, af51, al5⟩
            have hz2 : Cells2 wr W.heap.size 0 0 := ⟨a20, a21, af20, af21, al2⟩
            have hst := num_step l p i x n hx HNn.out (by omega)
            go_roundg (k - (i + 1))
            case measure => omega
            case rel => exact ⟨i + 1, by first | rfl | go_num, by omega, by omega, by rw [hst]; exact cells2_put1 hz5 _, hz2.below ((Below.refl _ wr).setCell (p := ⟨W0.heap.size, 1, none⟩) (Nat.le_refl _) _) HZ.out, HI.out.1.setCell (p := ⟨W0.heap.size, 1, none⟩) (Nat.le_of_lt HZ.out) _, by rw [List.take_succ, List.getElem?_drop, hx, List.all_append, HI.out.2, ← HSD.out]; simp [hgr]⟩
          · have hgf : grV 0 x = false := by simpa using hgr
            rw [hgf] at cG
            go_wp2_with (go_at_call 68; refine (cG _).mono ?_; rintro _ w9 ⟨rfl, rfl⟩)
            refine bodyPost_ret (v := .tuple #[.agg #[.int .i64 g0, .int .i64 n], .int .i64 0]) ?_ rfl ⟨g0, n, 0, rfl, HSV.out.2, by rw [HNn.out]; exact W64_num (by rw [List.length_take]; omega), Or.inr ⟨?_, rfl⟩, ?_⟩
            · (simp [results, Tryz.results49, go_sem, a50, a51, a20, a21, al5, al2]; done)
            · (rw [code_of l s c hc, HSV.out.1, ← HK.out]; exact if_neg fun h => by have h2 := List.all_eq_true.1 h.2.2 x (take_mem (by rw [← HNp.out.2.1]; exact hx) hlt); rw [← HSD.out, hgf] at h2; exact absurd h2 (by decide))
            · exact (HI.out.1.setCell (p := ⟨W.heap.size, 0, none⟩) (Nat.le_refl _) _).setCell (p := ⟨W.heap.size, 1, none⟩) (Nat.le_refl _) _
        · have hik : i = k := by omega
          subst hik
          have hd : decide ((i : Int) < (i : Int)) = false := by simp
          go_wp2
          refine bodyPost_ret (v := .tuple #[.agg #[.int .i64 g0, .int .i64 (Rd.numV ((l.drop p).take i))], .int .i64 (i : Int)]) ?_ rfl ⟨g0, _, i, rfl, HSV.out.2, W64_num (by rw [List.length_take]; omega), ?_, ?_⟩
          · (simp [results, Tryz.results49, go_sem, a50, a51, a20, a21, al5, al2]; done)
          · rw [code_of l s c hc, HSV.out.1, ← HK.out, ← HNp.out.2.1]
            by_cases h0 : 0 < i
            · exact Or.inl (if_pos ⟨h0, by have := HNp.out.1; omega, HI.out.2⟩)
            · exact Or.inr ⟨if_neg fun h => h0 h.1, by omega⟩
          · exact (HI.out.1.setCell (p := ⟨W.heap.size, 0, none⟩) (Nat.le_refl _) _).setCell (p := ⟨W.heap.size, 1, none⟩) (Nat.le_refl _) _

end Go.Proofs.YtemhfcgkfdklhaaGreatDoor.Look
