/- (*reader).next at a code; next. -/
import Derived.Test.YtemhfcgkfdklhaaGreatDoorNext2
set_option linter.all false
namespace Go.Proofs.YtemhfcgkfdklhaaGreatDoor.Look
open Go Go.RowKit Go.Shelf Go.Proofs Go.Proofs.YtemhfcgkfdklhaaGreatDoor.Rd
open Go.Proofs.YtemhfcgkfdklhaaGreatDoor.Idx (W64 Idx Adds tabA)

def codeStep (mk : Int → Bool) (T : Tab) (s : RS) : Option (Int × Int × Nat) → Step
  | none => .bad 4 s.pos
  | some (set, n, k) => match T set n with
    | none => .bad 4 s.pos
    | some r => .ok (putS mk s r k)

set_option maxHeartbeats 8000000 in
set_option maxRecDepth 100000 in
theorem cNextCode (wr W : World) (rb lim b off cb : Nat) (xb bc br base : Nat) (A : Adds) (O : Nat → Prop) (l : List Int) (s : RS) (c : Int) (h : RA wr W rb lim (.pointer (some ⟨xb, 0, none⟩)) (.slice (some ⟨b, off, none⟩) l.length cb) s) (hb : b < rb) (hl : ∀ j x, l[j]? = some x → wr.cell? ⟨b, off + j, none⟩ = some (.int .u8 x)) (hc : l[s.pos]? = some c) (h27 : c ≠ 27) (hcb : l.length ≤ cb) (hcN : cb ≤ 9223372036854775807) (hn2 : l.length ≤ 2000000) (hlim : lim ≤ W.heap.size) (hom : s.out.length + s.marks.length ≤ 2000000) (hI : Idx wr xb bc br base A O) (hrb : wr.heap.size ≤ rb) (hlr : ∀ x ∈ l, 0 ≤ x ∧ x ≤ 255) (h0 : W64 s.g0) (h1 : W64 s.g1) (hr : plainV c = none) :
    Calls Tryz.prog 33 #[.pointer (some ⟨rb, 0, none⟩)] W fun e W' => NextOk wr W rb lim (.pointer (some ⟨xb, 0, none⟩)) (.slice (some ⟨b, off, none⟩) l.length cb) (nextV markV (tabA A) l s) e W' := by
  have hpos : s.pos < l.length := (List.getElem?_eq_some_iff.1 hc).1
  have hd : l.drop s.pos = c :: l.drop (s.pos + 1) := by
    rw [List.drop_eq_getElem_cons hpos]
    rw [List.getElem?_eq_getElem hpos] at hc
    rw [Option.some.inj hc]
  have hcf := h.cf hb hl
  have hrw := hcf.rlt
  obtain ⟨W0, hW0⟩ : ∃ W0, W0 = (W.alloc (.cells #[.int .i64 0, .int .i64 0] 26)).drew := ⟨_, rfl⟩
  have hbW : Below W.heap.size W W0 := by rw [hW0]; exact ((Below.refl _ W).alloc (Nat.le_refl _) _).drew
  have hF := hcf.below hbW hcf.rlt hcf.blt
  have ht0 : W0.heap[W.heap.size]? = some (.cells #[.int .i64 0, .int .i64 0] 26) := by rw [hW0]; exact (MapKept.heap_alloc W _).1
  have y1 := hF.c1
  have y2 := hF.c2
  have yb := hF.cl _ _ hc
  obtain ⟨W1, hW1⟩ : ∃ W1, W1 = W0.drew := ⟨_, rfl⟩
  have hb1 : Below W.heap.size W W1 := by rw [hW1]; exact hbW.drew
  have ht1 : W1.heap[W.heap.size]? = some (.cells #[.int .i64 0, .int .i64 0] 26) := by rw [hW1]; exact ht0
  have hR1 : RA wr W1 rb lim (.pointer (some ⟨xb, 0, none⟩)) (.slice (some ⟨b, off, none⟩) l.length cb) s := h.go hb1 (Nat.le_refl _)
  have hz1 : Cells2 W1 W.heap.size 0 0 := cells2_of _ ht1
  have hF1 := hcf.below hb1 hcf.rlt hcf.blt
  rw [nextV_cons hd, if_neg h27]
  have hPl := fun X => cPlain c X
  rw [hr] at hPl ⊢
  simp only [Option.getD_none, Option.isSome_none] at hPl
  rw [← hd]
  have hCo : Calls Tryz.prog 49 #[.pointer (some ⟨rb, 0, none⟩)] W1 fun e W' => ∃ (st nn : Int) (k : Nat), e = .returned (.tuple #[.agg #[.int .i64 st, .int .i64 nn], .int .i64 k]) ∧ W64 st ∧ W64 nn ∧ (codeV (l.drop s.pos) s = some (st, nn, k) ∨ (codeV (l.drop s.pos) s = none ∧ k = 0)) ∧ Below W1.heap.size W1 W' := cCode rb b off cb l s W1 hF1 hpos hcb hcN hn2 hlr h0 h1
  have hcvs := @codeV_some (l.drop s.pos) s
  show Calls _ _ _ _ fun e W' => NextOk wr W rb lim (.pointer (some ⟨xb, 0, none⟩)) (.slice (some ⟨b, off, none⟩) l.length cb) (codeStep markV (tabA A) s (codeV (l.drop s.pos) s)) e W'
  generalize codeV (l.drop s.pos) s = cv at hCo hcvs ⊢
  have HF : Aside (Below W.heap.size W W1 ∧ W1.heap[W.heap.size]? = some (.cells #[.int .i64 0, .int .i64 0] 26) ∧ lim ≤ W.heap.size) := ⟨hb1, ht1, hlim⟩
  obtain ⟨vo, vm, hC, hO, hM, _, _, _⟩ := hR1.ex
  obtain ⟨N, hN⟩ : ∃ N, N = l.length := ⟨_, rfl⟩
  obtain ⟨p, hp⟩ : ∃ p, p = s.pos := ⟨_, rfl⟩
  rw [← hN] at y1
  rw [← hp] at y2 yb
  have hpN : (p : Int) < (N : Int) := by omega
  have hp0 : (0 : Int) ≤ (p : Int) := by omega
  have hNN : (N : Int) ≤ 9223372036854775807 := by omega
  have n2 : W.heap.size ≠ rb := by omega
  have n5 : rb ≠ W.heap.size := n2.symm
  have HI : Aside (∀ X, Below rb wr X → Idx X xb bc br base A O) := fun X hX => hI.kept hX.size fun k hk => hX.block k (Nat.lt_of_lt_of_le (hI.lt k hk) hrb)
  have HR : Aside (RA wr W1 rb lim (.pointer (some ⟨xb, 0, none⟩)) (.slice (some ⟨b, off, none⟩) l.length cb) s ∧ p = s.pos ∧ l.length ≤ 2000000 ∧ s.out.length + s.marks.length ≤ 2000000 ∧ s.pos < l.length ∧ rb < W.heap.size ∧ RC W1 rb (RV (.pointer (some ⟨xb, 0, none⟩)) (.slice (some ⟨b, off, none⟩) l.length cb) s vo vm)) := ⟨hR1, hp, hn2, hom, hpos, hrw, hC⟩
  have HCo := Lib.hid hCo
  have HCV : Aside (∀ x, cv = some x → 0 < x.2.2 ∧ x.2.2 ≤ 3) := fun x hx => ⟨(hcvs hx).1, (hcvs hx).2.2⟩
  clear hCo hcvs hC hO hM hcf hF hF1 hd hl hbW ht0 hb1 ht1 hlim hI hrb hlr h0 h1 hR1 hN hp hc hn2 hom h hcb hcN hpos hrw hr hz1
  go_enter Tryz.func33, Tryz.ntmps33
  go_wp2
  rw [hW0] at y1 y2 yb
  refine wp_region_held_drew (S := fun w' => w'.cell? ⟨rb, 1, none⟩ = some (.slice (some ⟨b, off, none⟩) N cb) ∧ w'.cell? ⟨rb, 2, none⟩ = some (.int .i64 (p : Int)) ∧ w'.cell? ⟨b, off + p, none⟩ = some (.int .u8 c)) (by kernel_rfl) ⟨y1, y2, yb⟩ (fun hHeld => ?_)
  refine wpAnyH_take (i := 0) (v := ?v0_53) rfl (by kernel_rfl) (by kernel_rfl) (by kernel_rfl) (fun _ _ _ h => h) (Or.inl ⟨by kernel_rfl, ?h0_53⟩) hHeld ?r0_53
  case h0_53 => (rintro w' ⟨q0, q1, q2⟩; go_simp; try (with_reducible rfl))
  try simp only [Act.put, List.getElem_toArray, List.getElem_cons_zero, List.getElem_cons_succ, List.setIfInBounds_toArray, List.set_cons_zero, List.set_cons_succ]
  refine wpAnyH_take (i := 1) (v := ?v1_54) rfl (by kernel_rfl) (by kernel_rfl) (by kernel_rfl) (fun _ _ _ h => h) (Or.inl ⟨by kernel_rfl, ?h1_54⟩) hHeld ?r1_54
  case h1_54 => (rintro w' ⟨q0, q1, q2⟩; go_simp; try (with_reducible rfl))
  try simp only [Act.put, List.getElem_toArray, List.getElem_cons_zero, List.getElem_cons_succ, List.setIfInBounds_toArray, List.set_cons_zero, List.set_cons_succ]
  refine wpAnyH_take (i := 2) (v := ?v2_55) rfl (by kernel_rfl) (by kernel_rfl) (by kernel_rfl) (fun _ _ _ h => h) (Or.inl ⟨by kernel_rfl, ?h2_55⟩) hHeld ?r2_55
  case h2_55 => (rintro w' ⟨q0, q1, q2⟩; go_simp; try (with_reducible rfl))
  try simp only [Act.put, List.getElem_toArray, List.getElem_cons_zero, List.getElem_cons_succ, List.setIfInBounds_toArray, List.set_cons_zero, List.set_cons_succ]
  refine wpAnyH_take (i := 3) (v := ?v3_56) rfl (by kernel_rfl) (by kernel_rfl) (by kernel_rfl) (fun _ _ _ h => h) (Or.inl ⟨by kernel_rfl, ?h3_56⟩) hHeld ?r3_56
  case h3_56 => (rintro w' ⟨q0, q1, q2⟩; go_simp; try (with_reducible rfl))
  try simp only [Act.put, List.getElem_toArray, List.getElem_cons_zero, List.getElem_cons_succ, List.setIfInBounds_toArray, List.set_cons_zero, List.set_cons_succ]
  refine wpAnyH_take (i := 4) (v := ?v4_57) rfl (by kernel_rfl) (by kernel_rfl) (by kernel_rfl) (fun _ _ _ h => h) (Or.inl ⟨by kernel_rfl, ?h4_57⟩) hHeld ?r4_57
  case h4_57 => (rintro w' ⟨q0, q1, q2⟩; go_simp; try (with_reducible rfl))
  try simp only [Act.put, List.getElem_toArray, List.getElem_cons_zero, List.getElem_cons_succ, List.setIfInBounds_toArray, List.set_cons_zero, List.set_cons_succ]
  refine wpAnyH_take (i := 5) (v := ?v5_58) rfl (by kernel_rfl) (by kernel_rfl) (by kernel_rfl) (fun _ _ _ h => h) (Or.inl ⟨by kernel_rfl, ?h5_58⟩) hHeld ?r5_58
  case h5_58 => (rintro w' ⟨q0, q1, q2⟩; go_simp; try (with_reducible rfl))
  try simp only [Act.put, List.getElem_toArray, List.getElem_cons_zero, List.getElem_cons_succ, List.setIfInBounds_toArray, List.set_cons_zero, List.set_cons_succ]
  refine wpAnyH_take (i := 6) (v := ?v6_59) rfl (by kernel_rfl) (by kernel_rfl) (by kernel_rfl) (fun _ _ _ h => h) (Or.inl ⟨by kernel_rfl, ?h6_59⟩) hHeld ?r6_59
  case h6_59 => (rintro w' ⟨q0, q1, q2⟩; go_simp; try (with_reducible rfl))
  try simp only [Act.put, List.getElem_toArray, List.getElem_cons_zero, List.getElem_cons_succ, List.setIfInBounds_toArray, List.set_cons_zero, List.set_cons_succ]
  refine wpAnyH_take (i := 7) (v := ?v7_60) rfl (by kernel_rfl) (by kernel_rfl) (by kernel_rfl) (fun _ _ _ h => h) (Or.inl ⟨by kernel_rfl, ?h7_60⟩) hHeld ?r7_60
  case h7_60 => (rintro w' ⟨q0, q1, q2⟩; go_simp; try (with_reducible rfl))
  try simp only [Act.put, List.getElem_toArray, List.getElem_cons_zero, List.getElem_cons_succ, List.setIfInBounds_toArray, List.set_cons_zero, List.set_cons_succ]
  refine wpAnyH_take (i := 8) (v := ?v8_61) rfl (by kernel_rfl) (by kernel_rfl) (by kernel_rfl) (fun _ _ _ h => h) (Or.inl ⟨by kernel_rfl, ?h8_61⟩) hHeld ?r8_61
  case h8_61 => (rintro w' ⟨q0, q1, q2⟩; go_simp; try (with_reducible rfl))
  try simp only [Act.put, List.getElem_toArray, List.getElem_cons_zero, List.getElem_cons_succ, List.setIfInBounds_toArray, List.set_cons_zero, List.set_cons_succ]
  refine wpAnyH_take (i := 9) (v := ?v9_62) rfl (by kernel_rfl) (by kernel_rfl) (by kernel_rfl) (fun _ _ _ h => h) (Or.inl ⟨by kernel_rfl, ?h9_62⟩) hHeld ?r9_62
  case h9_62 => (rintro w' ⟨q0, q1, q2⟩; go_simp; try (with_reducible rfl))
  try simp only [Act.put, List.getElem_toArray, List.getElem_cons_zero, List.getElem_cons_succ, List.setIfInBounds_toArray, List.set_cons_zero, List.set_cons_succ]
  refine wpAnyH_take (i := 10) (v := ?v10_63) rfl (by kernel_rfl) (by kernel_rfl) (by kernel_rfl) (fun _ _ _ h => h) (Or.inl ⟨by kernel_rfl, ?h10_63⟩) hHeld ?r10_63
  case h10_63 => (rintro w' ⟨q0, q1, q2⟩; go_simp; try (with_reducible rfl))
  try simp only [Act.put, List.getElem_toArray, List.getElem_cons_zero, List.getElem_cons_succ, List.setIfInBounds_toArray, List.set_cons_zero, List.set_cons_succ]
  refine wpAnyH_done (by kernel_rfl) ?_ _
  try simp only [Act.put, List.getElem_toArray, List.getElem_cons_zero, List.getElem_cons_succ, List.setIfInBounds_toArray, List.set_cons_zero, List.set_cons_succ]
  rw [← hW0]
  rw [← hW0] at y1 y2 yb
  clear hW0
  have h27b : (c == 27) = false := by simpa using h27
  clear h27
  go_wp2
  refine wp_region_held_drew (S := fun w' => w'.cell? ⟨rb, 1, none⟩ = some (.slice (some ⟨b, off, none⟩) N cb) ∧ w'.cell? ⟨rb, 2, none⟩ = some (.int .i64 (p : Int)) ∧ w'.cell? ⟨b, off + p, none⟩ = some (.int .u8 c)) (by kernel_rfl) ⟨y1, y2, yb⟩ (fun hHeld => ?_)
  refine wpAnyH_take (i := 0) (v := ?v0_64) rfl (by kernel_rfl) (by kernel_rfl) (by kernel_rfl) (fun _ _ _ h => h) (Or.inl ⟨by kernel_rfl, ?h0_64⟩) hHeld ?r0_64
  case h0_64 => (rintro w' ⟨q0, q1, q2⟩; go_simp; try (with_reducible rfl))
  try simp only [Act.put, List.getElem_toArray, List.getElem_cons_zero, List.getElem_cons_succ, List.setIfInBounds_toArray, List.set_cons_zero, List.set_cons_succ]
  refine wpAnyH_take (i := 1) (v := ?v1_65) rfl (by kernel_rfl) (by kernel_rfl) (by kernel_rfl) (fun _ _ _ h => h) (Or.inl ⟨by kernel_rfl, ?h1_65⟩) hHeld ?r1_65
  case h1_65 => (rintro w' ⟨q0, q1, q2⟩; go_simp; try (with_reducible rfl))
  try simp only [Act.put, List.getElem_toArray, List.getElem_cons_zero, List.getElem_cons_succ, List.setIfInBounds_toArray, List.set_cons_zero, List.set_cons_succ]
  refine wpAnyH_take (i := 2) (v := ?v2_66) rfl (by kernel_rfl) (by kernel_rfl) (by kernel_rfl) (fun _ _ _ h => h) (Or.inl ⟨by kernel_rfl, ?h2_66⟩) hHeld ?r2_66
  case h2_66 => (rintro w' ⟨q0, q1, q2⟩; go_simp; try (with_reducible rfl))
  try simp only [Act.put, List.getElem_toArray, List.getElem_cons_zero, List.getElem_cons_succ, List.setIfInBounds_toArray, List.set_cons_zero, List.set_cons_succ]
  refine wpAnyH_take (i := 3) (v := ?v3_67) rfl (by kernel_rfl) (by kernel_rfl) (by kernel_rfl) (fun _ _ _ h => h) (Or.inl ⟨by kernel_rfl, ?h3_67⟩) hHeld ?r3_67
  case h3_67 => (rintro w' ⟨q0, q1, q2⟩; go_simp; try (with_reducible rfl))
  try simp only [Act.put, List.getElem_toArray, List.getElem_cons_zero, List.getElem_cons_succ, List.setIfInBounds_toArray, List.set_cons_zero, List.set_cons_succ]
  refine wpAnyH_take (i := 4) (v := ?v4_68) rfl (by kernel_rfl) (by kernel_rfl) (by kernel_rfl) (fun _ _ _ h => h) (Or.inl ⟨by kernel_rfl, ?h4_68⟩) hHeld ?r4_68
  case h4_68 => (rintro w' ⟨q0, q1, q2⟩; go_simp; try (with_reducible rfl))
  try simp only [Act.put, List.getElem_toArray, List.getElem_cons_zero, List.getElem_cons_succ, List.setIfInBounds_toArray, List.set_cons_zero, List.set_cons_succ]
  refine wpAnyH_take (i := 5) (v := ?v5_69) rfl (by kernel_rfl) (by kernel_rfl) (by kernel_rfl) (fun _ _ _ h => h) (Or.inl ⟨by kernel_rfl, ?h5_69⟩) hHeld ?r5_69
  case h5_69 => (rintro w' ⟨q0, q1, q2⟩; go_simp; try (with_reducible rfl))
  try simp only [Act.put, List.getElem_toArray, List.getElem_cons_zero, List.getElem_cons_succ, List.setIfInBounds_toArray, List.set_cons_zero, List.set_cons_succ]
  refine wpAnyH_take (i := 6) (v := ?v6_70) rfl (by kernel_rfl) (by kernel_rfl) (by kernel_rfl) (fun _ _ _ h => h) (Or.inl ⟨by kernel_rfl, ?h6_70⟩) hHeld ?r6_70
  case h6_70 => (rintro w' ⟨q0, q1, q2⟩; go_simp; try (with_reducible rfl))
  try simp only [Act.put, List.getElem_toArray, List.getElem_cons_zero, List.getElem_cons_succ, List.setIfInBounds_toArray, List.set_cons_zero, List.set_cons_succ]
  refine wpAnyH_take (i := 7) (v := ?v7_71) rfl (by kernel_rfl) (by kernel_rfl) (by kernel_rfl) (fun _ _ _ h => h) (Or.inl ⟨by kernel_rfl, ?h7_71⟩) hHeld ?r7_71
  case h7_71 => (rintro w' ⟨q0, q1, q2⟩; go_simp; try (with_reducible rfl))
  try simp only [Act.put, List.getElem_toArray, List.getElem_cons_zero, List.getElem_cons_succ, List.setIfInBounds_toArray, List.set_cons_zero, List.set_cons_succ]
  refine wpAnyH_take (i := 8) (v := ?v8_72) rfl (by kernel_rfl) (by kernel_rfl) (by kernel_rfl) (fun _ _ _ h => h) (Or.inl ⟨by kernel_rfl, ?h8_72⟩) hHeld ?r8_72
  case h8_72 => (rintro w' ⟨q0, q1, q2⟩; go_simp; try (with_reducible rfl))
  try simp only [Act.put, List.getElem_toArray, List.getElem_cons_zero, List.getElem_cons_succ, List.setIfInBounds_toArray, List.set_cons_zero, List.set_cons_succ]
  refine wpAnyH_take (i := 9) (v := ?v9_73) rfl (by kernel_rfl) (by kernel_rfl) (by kernel_rfl) (fun _ _ _ h => h) (Or.inl ⟨by kernel_rfl, ?h9_73⟩) hHeld ?r9_73
  case h9_73 => (rintro w' ⟨q0, q1, q2⟩; go_simp; try (with_reducible rfl))
  try simp only [Act.put, List.getElem_toArray, List.getElem_cons_zero, List.getElem_cons_succ, List.setIfInBounds_toArray, List.set_cons_zero, List.set_cons_succ]
  refine wpAnyH_ready (rs := [10]) (by kernel_rfl) (by simp) ?_
  refine AllReadyH.cons (o := { dst := some 67, op := Op.call { callee := Callee.value (Operand.func 47), args := #[Operand.tmp 66], argTypes := #[5] }, type := 94, pos := "read.go:98", after := #[{ on := 9, ground := Ground.data }], guard := none }) rfl (fun K hK => ?_) AllReadyH.nil
  go_simp
  refine (hPl _).mono ?_
  rintro _ w9 ⟨rfl, rfl⟩
  refine hK.out _ _ hHeld (fun hH2 => ?_)
  clear hK K
  try simp only [Act.put, List.getElem_toArray, List.getElem_cons_zero, List.getElem_cons_succ, List.setIfInBounds_toArray, List.set_cons_zero, List.set_cons_succ]
  refine wpAnyH_take (i := 11) (v := ?v11_74) rfl (by kernel_rfl) (by kernel_rfl) (by kernel_rfl) (fun _ _ _ h => h) (Or.inl ⟨by kernel_rfl, ?h11_74⟩) hH2 ?r11_74
  case h11_74 => (rintro w' ⟨q0, q1, q2⟩; go_simp; try (with_reducible rfl))
  try simp only [Act.put, List.getElem_toArray, List.getElem_cons_zero, List.getElem_cons_succ, List.setIfInBounds_toArray, List.set_cons_zero, List.set_cons_succ]
  refine wpAnyH_take (i := 12) (v := ?v12_75) rfl (by kernel_rfl) (by kernel_rfl) (by kernel_rfl) (fun _ _ _ h => h) (Or.inl ⟨by kernel_rfl, ?h12_75⟩) hH2 ?r12_75
  case h12_75 => (rintro w' ⟨q0, q1, q2⟩; go_simp; try (with_reducible rfl))
  try simp only [Act.put, List.getElem_toArray, List.getElem_cons_zero, List.getElem_cons_succ, List.setIfInBounds_toArray, List.set_cons_zero, List.set_cons_succ]
  refine wpAnyH_take (i := 13) (v := ?v13_76) rfl (by kernel_rfl) (by kernel_rfl) (by kernel_rfl) (fun _ _ _ h => h) (Or.inl ⟨by kernel_rfl, ?h13_76⟩) hH2 ?r13_76
  case h13_76 => (rintro w' ⟨q0, q1, q2⟩; go_simp; try (with_reducible rfl))
  try simp only [Act.put, List.getElem_toArray, List.getElem_cons_zero, List.getElem_cons_succ, List.setIfInBounds_toArray, List.set_cons_zero, List.set_cons_succ]
  refine wpAnyH_take (i := 14) (v := ?v14_77) rfl (by kernel_rfl) (by kernel_rfl) (by kernel_rfl) (fun _ _ _ h => h) (Or.inl ⟨by kernel_rfl, ?h14_77⟩) hH2 ?r14_77
  case h14_77 => (rintro w' ⟨q0, q1, q2⟩; go_simp; try (with_reducible rfl))
  try simp only [Act.put, List.getElem_toArray, List.getElem_cons_zero, List.getElem_cons_succ, List.setIfInBounds_toArray, List.set_cons_zero, List.set_cons_succ]
  refine wpAnyH_take (i := 15) (v := ?v15_78) rfl (by kernel_rfl) (by kernel_rfl) (by kernel_rfl) (fun _ _ _ h => h) (Or.inl ⟨by kernel_rfl, ?h15_78⟩) hH2 ?r15_78
  case h15_78 => (rintro w' ⟨q0, q1, q2⟩; go_simp; try (with_reducible rfl))
  try simp only [Act.put, List.getElem_toArray, List.getElem_cons_zero, List.getElem_cons_succ, List.setIfInBounds_toArray, List.set_cons_zero, List.set_cons_succ]
  refine wpAnyH_done (by kernel_rfl) ?_ _
  try simp only [Act.put, List.getElem_toArray, List.getElem_cons_zero, List.getElem_cons_succ, List.setIfInBounds_toArray, List.set_cons_zero, List.set_cons_succ]
  rw [← hW1]
  clear hH2 hHeld hW1 y1 y2 yb
  go_wp2_with (go_at_call 49; refine HCo.out.mono ?_; rintro e W2 ⟨st, nn, k, rfl, hst, hnn, hcv, hb2⟩; have HQ : Aside (W64 st ∧ W64 nn ∧ (cv = some (st, nn, k) ∨ (cv = none ∧ k = 0)) ∧ Below W1.heap.size W1 W2) := ⟨hst, hnn, hcv, hb2⟩; clear HCo hst hnn hcv hb2)
  obtain ⟨W3, hW3⟩ : ∃ W3, W3 = (W2.alloc (.cells #[.int .i64 st, .int .i64 nn] 89)).drew := ⟨_, rfl⟩
  have hb2 := HQ.out.2.2.2
  have hb23 : Below W2.heap.size W2 W3 := by rw [hW3]; exact ((Below.refl _ W2).alloc (Nat.le_refl _) _).drew
  have hb13 : Below W1.heap.size W1 W3 := hb2.trans (hb23.mono hb2.size)
  have hbW3 : Below W.heap.size W W3 := HF.out.1.trans (hb13.mono HF.out.1.size)
  have hk8 : Cells2 W3 W2.heap.size st nn := cells2_of 89 (by rw [hW3]; exact (MapKept.heap_alloc W2 _).1)
  have hR3 : RA wr W3 rb lim (.pointer (some ⟨xb, 0, none⟩)) (.slice (some ⟨b, off, none⟩) l.length cb) s := HR.out.1.go hb13 (Nat.le_refl _)
  have hrw := HR.out.2.2.2.2.2.1
  have rl1 : rb < W1.heap.size := Nat.lt_of_lt_of_le hrw HF.out.1.size
  have rl3 : rb < W3.heap.size := Nat.lt_of_lt_of_le rl1 hb13.size
  have cl3 := hk8.lt
  have t0 : W3.cell? ⟨rb, 0, none⟩ = some (.pointer (some ⟨xb, 0, none⟩)) := (hb13.cell (p := ⟨rb, 0, none⟩) rl1).trans (HR.out.2.2.2.2.2.2.cell 0 _ rfl)
  have t1 := hk8.c0
  have t2 := hk8.c1
  obtain ⟨r, hr⟩ : ∃ r, r = (tabA A st nn).getD 0 := ⟨_, rfl⟩
  obtain ⟨t, ht⟩ : ∃ t, t = (tabA A st nn).isSome := ⟨_, rfl⟩
  have HRu : Hid (Calls Tryz.prog 50 #[.pointer (some ⟨xb, 0, none⟩), .agg #[.int .i64 st, .int .i64 nn]] W3 fun e w' => e = .returned (.tuple #[.int .i32 r, .bool t]) ∧ Below W3.heap.size W3 w') := by
    rw [hr, ht]
    exact cIRune xb bc br base A O st nn W3 (HI.out W3 hR3.below) HQ.out.1 HQ.out.2.1
  have HT : Aside (r = (tabA A st nn).getD 0 ∧ t = (tabA A st nn).isSome) := ⟨hr, ht⟩
  clear hr ht hk8
  have HB3 : Aside (Below W.heap.size W W3 ∧ Below W1.heap.size W1 W3) := ⟨hbW3, hb13⟩
  clear hbW3 hb13 hb23 hb2 hR3 hrw rl1
  rw [hW3] at t0 t1 t2
  rw [hW3] at HRu rl3 cl3
  refine wp_region_held_drew (S := fun w' => w'.cell? ⟨rb, 0, none⟩ = some (.pointer (some ⟨xb, 0, none⟩)) ∧ w'.cell? ⟨W2.heap.size, 0, none⟩ = some (.int .i64 st) ∧ w'.cell? ⟨W2.heap.size, 1, none⟩ = some (.int .i64 nn)) (by kernel_rfl) ⟨t0, t1, t2⟩ (fun hHeld => ?_)
  refine wpAnyH_take (i := 0) (v := ?v0_79) rfl (by kernel_rfl) (by kernel_rfl) (by kernel_rfl) (fun _ _ _ h => h) (Or.inl ⟨by kernel_rfl, ?h0_79⟩) hHeld ?r0_79
  case h0_79 => (rintro w' ⟨q0, q1, q2⟩; go_simp; try (with_reducible rfl))
  try simp only [Act.put, List.getElem_toArray, List.getElem_cons_zero, List.getElem_cons_succ, List.setIfInBounds_toArray, List.set_cons_zero, List.set_cons_succ]
  refine wpAnyH_take (i := 1) (v := ?v1_80) rfl (by kernel_rfl) (by kernel_rfl) (by kernel_rfl) (fun _ _ _ h => h) (Or.inl ⟨by kernel_rfl, ?h1_80⟩) hHeld ?r1_80
  case h1_80 => (rintro w' ⟨q0, q1, q2⟩; go_simp; try (with_reducible rfl))
  try simp only [Act.put, List.getElem_toArray, List.getElem_cons_zero, List.getElem_cons_succ, List.setIfInBounds_toArray, List.set_cons_zero, List.set_cons_succ]
  refine wpAnyH_take (i := 2) (v := ?v2_81) rfl (by kernel_rfl) (by kernel_rfl) (by kernel_rfl) (fun _ _ _ h => h) (Or.inl ⟨by kernel_rfl, ?h2_81⟩) hHeld ?r2_81
  case h2_81 => (rintro w' ⟨q0, q1, q2⟩; go_simp; try (with_reducible rfl))
  try simp only [Act.put, List.getElem_toArray, List.getElem_cons_zero, List.getElem_cons_succ, List.setIfInBounds_toArray, List.set_cons_zero, List.set_cons_succ]
  refine wpAnyH_take (i := 3) (v := ?v3_82) rfl (by kernel_rfl) (by kernel_rfl) (by kernel_rfl) (fun _ _ _ h => h) (Or.inl ⟨by kernel_rfl, ?h3_82⟩) hHeld ?r3_82
  case h3_82 => (rintro w' ⟨q0, q1, q2⟩; go_simp; try (with_reducible rfl))
  try simp only [Act.put, List.getElem_toArray, List.getElem_cons_zero, List.getElem_cons_succ, List.setIfInBounds_toArray, List.set_cons_zero, List.set_cons_succ]
  refine wpAnyH_take (i := 4) (v := ?v4_83) rfl (by kernel_rfl) (by kernel_rfl) (by kernel_rfl) (fun _ _ _ h => h) (Or.inl ⟨by kernel_rfl, ?h4_83⟩) hHeld ?r4_83
  case h4_83 => (rintro w' ⟨q0, q1, q2⟩; go_simp; try (with_reducible rfl))
  try simp only [Act.put, List.getElem_toArray, List.getElem_cons_zero, List.getElem_cons_succ, List.setIfInBounds_toArray, List.set_cons_zero, List.set_cons_succ]
  refine wpAnyH_ready (rs := [5]) (by kernel_rfl) (by simp) ?_
  refine AllReadyH.cons (o := { dst := some 97, op := Op.call { callee := Callee.value (Operand.func 50), args := #[Operand.tmp 95, Operand.tmp 96], argTypes := #[76, 89] }, type := 94, pos := "read.go:106", after := #[{ on := 3, ground := Ground.data }, { on := 4, ground := Ground.data }], guard := none }) rfl (fun K hK => ?_) AllReadyH.nil
  go_simp
  refine HRu.out.mono ?_
  rintro _ X ⟨rfl, hX⟩
  refine hK.out _ _ ⟨(hX.cell (p := ⟨rb, 0, none⟩) rl3).trans t0, (hX.cell (p := ⟨W2.heap.size, 0, none⟩) cl3).trans t1, (hX.cell (p := ⟨W2.heap.size, 1, none⟩) cl3).trans t2⟩ (fun hH2 => ?_)
  clear hK K
  try simp only [Act.put, List.getElem_toArray, List.getElem_cons_zero, List.getElem_cons_succ, List.setIfInBounds_toArray, List.set_cons_zero, List.set_cons_succ]
  refine wpAnyH_take (i := 6) (v := ?v6_84) rfl (by kernel_rfl) (by kernel_rfl) (by kernel_rfl) (fun _ _ _ h => h) (Or.inl ⟨by kernel_rfl, ?h6_84⟩) hH2 ?r6_84
  case h6_84 => (rintro w' ⟨q0, q1, q2⟩; go_simp; try (with_reducible rfl))
  try simp only [Act.put, List.getElem_toArray, List.getElem_cons_zero, List.getElem_cons_succ, List.setIfInBounds_toArray, List.set_cons_zero, List.set_cons_succ]
  refine wpAnyH_take (i := 7) (v := ?v7_85) rfl (by kernel_rfl) (by kernel_rfl) (by kernel_rfl) (fun _ _ _ h => h) (Or.inl ⟨by kernel_rfl, ?h7_85⟩) hH2 ?r7_85
  case h7_85 => (rintro w' ⟨q0, q1, q2⟩; go_simp; try (with_reducible rfl))
  try simp only [Act.put, List.getElem_toArray, List.getElem_cons_zero, List.getElem_cons_succ, List.setIfInBounds_toArray, List.set_cons_zero, List.set_cons_succ]
  refine wpAnyH_take (i := 8) (v := ?v8_86) rfl (by kernel_rfl) (by kernel_rfl) (by kernel_rfl) (fun _ _ _ h => h) (Or.inl ⟨by kernel_rfl, ?h8_86⟩) hH2 ?r8_86
  case h8_86 => (rintro w' ⟨q0, q1, q2⟩; go_simp; try (with_reducible rfl))
  try simp only [Act.put, List.getElem_toArray, List.getElem_cons_zero, List.getElem_cons_succ, List.setIfInBounds_toArray, List.set_cons_zero, List.set_cons_succ]
  refine wpAnyH_take (i := 9) (v := ?v9_87) rfl (by kernel_rfl) (by kernel_rfl) (by kernel_rfl) (fun _ _ _ h => h) (Or.inl ⟨by kernel_rfl, ?h9_87⟩) hH2 ?r9_87
  case h9_87 => (rintro w' ⟨q0, q1, q2⟩; go_simp; try (with_reducible rfl))
  try simp only [Act.put, List.getElem_toArray, List.getElem_cons_zero, List.getElem_cons_succ, List.setIfInBounds_toArray, List.set_cons_zero, List.set_cons_succ]
  refine wpAnyH_take (i := 10) (v := ?v10_88) rfl (by kernel_rfl) (by kernel_rfl) (by kernel_rfl) (fun _ _ _ h => h) (Or.inl ⟨by kernel_rfl, ?h10_88⟩) hH2 ?r10_88
  case h10_88 => (rintro w' ⟨q0, q1, q2⟩; go_simp; try (with_reducible rfl))
  try simp only [Act.put, List.getElem_toArray, List.getElem_cons_zero, List.getElem_cons_succ, List.setIfInBounds_toArray, List.set_cons_zero, List.set_cons_succ]
  refine wpAnyH_done (by kernel_rfl) ?_ _
  try simp only [Act.put, List.getElem_toArray, List.getElem_cons_zero, List.getElem_cons_succ, List.setIfInBounds_toArray, List.set_cons_zero, List.set_cons_succ]
  clear hH2 hHeld t0 t1 t2
  rw [← hW3] at hX
  clear hW3 HRu rl3 cl3
  have hbX : Aside (Below W.heap.size W X) := HB3.out.1.trans (hX.mono HB3.out.1.size)
  have hbX : Below W.heap.size W X := hbX.out
  have hb1X : Below W1.heap.size W1 X := HB3.out.2.trans (hX.mono HB3.out.2.size)
  have htX : X.heap[W.heap.size]? = some (.cells #[.int .i64 0, .int .i64 0] 26) := (hb1X.block _ (Array.getElem?_eq_some_iff.1 HF.out.2.1).1).trans HF.out.2.1
  have hzX : Cells2 X W.heap.size 0 0 := cells2_of _ htX
  have hrX : RA wr X rb lim (.pointer (some ⟨xb, 0, none⟩)) (.slice (some ⟨b, off, none⟩) l.length cb) s := HR.out.1.go hb1X (Nat.le_refl _)
  have x2 : X.cell? ⟨rb, 2, none⟩ = some (.int .i64 (p : Int)) := by
    rw [HR.out.2.1]
    exact (hb1X.cell (p := ⟨rb, 2, none⟩) HR.out.2.2.2.2.2.2.lt).trans (HR.out.2.2.2.2.2.2.cell 2 _ rfl)
  clear hX hb1X
  by_cases hk0 : k = 0
  · have hst : codeStep markV (tabA A) s cv = .bad 4 s.pos := by
      rcases HQ.out.2.2.1 with h | h
      · have := (HCV.out _ h).1
        simp only at this
        omega
      · rw [h.1]; rfl
    have HST : Aside (codeStep markV (tabA A) s cv = .bad 4 s.pos) := hst
    clear hst
    subst hk0
    have hX2 : Aside (Below W.heap.size W X) := hbX
    clear hrX htX
    have HC : Hid (Calls Tryz.prog 19 #[.int .i64 4, .int .i64 (p : Int)] X fun e W' => e = .returned (.agg #[.int .i64 4, .int .i64 (p : Int)]) ∧ Cells2 W' W.heap.size 0 0 ∧ Aside (Below W.heap.size W W')) := by
      refine (cFault 4 p X).mono ?_
      rintro e W' ⟨rfl, hb'⟩
      exact ⟨rfl, hzX.below hb' hzX.lt, hbX.trans (hb'.mono hbX.size)⟩
    clear hzX
    go_wp2_with (go_at_call 19; refine HC.out.mono ?_; rintro e W' ⟨rfl, ⟨z0, z1, zf0, zf1, zl⟩, hP⟩; clear HC)
    refine bodyPost_ret (v := .agg #[.int .i64 4, .int .i64 (p : Int)]) ?_ rfl ?_
    · simp [results, Tryz.results33, go_sem, z0, z1, zl, zf0, zf1]
    · rw [HST.out, HR.out.2.1]
      have hrw := HR.out.2.2.2.2.2.1
      exact ⟨rfl, ((hP.out.mono (Nat.le_of_lt hrw)).setCell (p := ⟨W.heap.size, 0, none⟩) (Nat.le_of_lt hrw) _).setCell (p := ⟨W.heap.size, 1, none⟩) (Nat.le_of_lt hrw) _⟩
  · have hkb : ((k : Int) == 0) = false := by simpa using hk0
    have hk1 : ¬ (k : Int) = 0 := by omega
    cases t with
    | false =>
      have hst : codeStep markV (tabA A) s cv = .bad 4 s.pos := by
        rcases HQ.out.2.2.1 with h | h
        · rw [h]
          have h2 : tabA A st nn = none := by simpa using HT.out.2.symm
          simp only [codeStep, h2]
        · exact absurd h.2 hk0
      have HST : Aside (codeStep markV (tabA A) s cv = .bad 4 s.pos) := hst
      clear hst hk0 hrX htX
      have HC : Hid (Calls Tryz.prog 19 #[.int .i64 4, .int .i64 (p : Int)] X fun e W' => e = .returned (.agg #[.int .i64 4, .int .i64 (p : Int)]) ∧ Cells2 W' W.heap.size 0 0 ∧ Aside (Below W.heap.size W W')) := by
        refine (cFault 4 p X).mono ?_
        rintro e W' ⟨rfl, hb'⟩
        exact ⟨rfl, hzX.below hb' hzX.lt, hbX.trans (hb'.mono hbX.size)⟩
      clear hzX
      go_wp2_with (go_at_call 19; refine HC.out.mono ?_; rintro e W' ⟨rfl, ⟨z0, z1, zf0, zf1, zl⟩, hP⟩; clear HC)
      refine bodyPost_ret (v := .agg #[.int .i64 4, .int .i64 (p : Int)]) ?_ rfl ?_
      · simp [results, Tryz.results33, go_sem, z0, z1, zl, zf0, zf1]
      · rw [HST.out, HR.out.2.1]
        have hrw := HR.out.2.2.2.2.2.1
        exact ⟨rfl, ((hP.out.mono (Nat.le_of_lt hrw)).setCell (p := ⟨W.heap.size, 0, none⟩) (Nat.le_of_lt hrw) _).setCell (p := ⟨W.heap.size, 1, none⟩) (Nat.le_of_lt hrw) _⟩
    | true =>
      have hst : codeStep markV (tabA A) s cv = .ok (putS markV s r k) := by
        rcases HQ.out.2.2.1 with h | h
        · rw [h]
          have h2 : tabA A st nn = some r := by
            have h3 := HT.out.2.symm
            rw [HT.out.1]
            revert h3
            cases tabA A st nn <;> simp
          simp only [codeStep, h2]
        · exact absurd h.2 hk0
      have hk3 : k ≤ 3 := by
        rcases HQ.out.2.2.1 with h | h
        · exact (HCV.out _ h).2
        · omega
      have HST : Aside (codeStep markV (tabA A) s cv = .ok (putS markV s r k)) := hst
      have HP : Hid (Calls Tryz.prog 48 #[.pointer (some ⟨rb, 0, none⟩), .int .i32 r, .int .i64 k] X fun e W' => e = .returned (.tuple #[]) ∧ Cells2 W' W.heap.size 0 0 ∧ Aside (PutOk wr X rb lim (.pointer (some ⟨xb, 0, none⟩)) (.slice (some ⟨b, off, none⟩) l.length cb) (putS markV s r k) W')) := by
        have hll := HF.out.2.2
        have hsz := hbX.size
        refine (cPut wr X rb lim _ _ s r k hrX (by omega) hk3 HR.out.2.2.2.1 (by have := HR.out.2.2; omega)).mono ?_
        rintro e W' ⟨rfl, hP⟩
        exact ⟨rfl, cells2_of _ ((hP.keep _ hll hzX.lt (by have := HR.out.2.2.2.2.2.1; omega)).trans htX), hP⟩
      have HX : Aside (Below W.heap.size W X ∧ X.heap[W.heap.size]? = some (.cells #[.int .i64 0, .int .i64 0] 26)) := ⟨hbX, htX⟩
      clear hst hk0 hk3 hrX htX hbX hzX x2
      go_wp2_with (go_at_call 48; refine HP.out.mono ?_; rintro e W' ⟨rfl, ⟨z0, z1, zf0, zf1, zl⟩, hP⟩; clear HP)
      refine bodyPost_ret (v := .agg #[.int .i64 0, .int .i64 0]) ?_ rfl ?_
      · simp [results, Tryz.results33, go_sem, z0, z1, zl, zf0, zf1]
      · rw [HST.out]
        exact ⟨rfl, hP.out.res HX.out.1 HF.out.2.2 HR.out.2.2.2.2.2.1 rfl HX.out.2 _ _⟩

theorem plainV_cases (c : Int) : plainV c = none ∨ ∃ r, plainV c = some r := by
  cases plainV c with
  | none => exact .inl rfl
  | some r => exact .inr ⟨r, rfl⟩
theorem cNext (wr W : World) (rb lim cb xb bc br base : Nat) (A : Adds) (O : Nat → Prop) (a : Option Addr) (l : List Int) (s : RS) (h : RA wr W rb lim (.pointer (some ⟨xb, 0, none⟩)) (.slice a l.length cb) s) (hrow : RowB wr a l) (hcb : l.length ≤ cb) (hcN : cb ≤ 9223372036854775807) (hn2 : l.length ≤ 2000000) (hlim : lim ≤ W.heap.size) (hom : s.out.length + s.marks.length ≤ 2000000)
    (hI : Idx wr xb bc br base A O) (hrb : wr.heap.size ≤ rb) (hlr : ∀ x ∈ l, 0 ≤ x ∧ x ≤ 255) (h0 : W64 s.g0) (h1 : W64 s.g1) (hpos : s.pos < l.length) :
    Calls Tryz.prog 33 #[.pointer (some ⟨rb, 0, none⟩)] W fun e W' => NextOk wr W rb lim (.pointer (some ⟨xb, 0, none⟩)) (.slice a l.length cb) (nextV markV (tabA A) l s) e W' := by
  obtain ⟨b, off, rfl, hb, hc⟩ := hrow (fun e => by rw [e] at hpos; simp at hpos)
  have hbr : b < rb := Nat.lt_of_lt_of_le hb hrb
  have hcx := List.getElem?_eq_getElem hpos
  by_cases h27 : l[s.pos] = 27
  · exact cNextEsc wr W rb lim b off cb _ l s h hbr hc (by rw [hcx, h27]) hcb hcN hn2 hlim _ _
  · rcases plainV_cases l[s.pos] with hr | ⟨r, hr⟩
    · exact cNextCode wr W rb lim b off cb xb bc br base A O l s _ h hbr hc hcx h27 hcb hcN hn2 hlim hom hI hrb hlr h0 h1 hr
    · exact cNextPlain wr W rb lim b off cb _ l s _ h hbr hc hcx h27 hcb hcN hn2 hlim hom _ r hr
end Go.Proofs.YtemhfcgkfdklhaaGreatDoor.Look
