/- read.Decode. -/
import Derived.Test.YtemhfcgkfdklhaaGreatDoorNext3
import Derived.Test.YtemhfcgkfdklhaaGreatDoorMay
import Derived.Test.YtemhfcgkfdklhaaGreatDoorGNew
set_option linter.all false
namespace Go.Proofs.YtemhfcgkfdklhaaGreatDoor.Look
open Go Go.RowKit Go.Shelf Go.Proofs Go.Proofs.YtemhfcgkfdklhaaGreatDoor.Rd
open Go.Proofs.YtemhfcgkfdklhaaGreatDoor.Idx (W64 Idx Adds tabA)

/-! ### What holds all the way -/
structure Good (l : List Int) (s : RS) : Prop where
  may : MayS s
  fits : s.out.length + s.marks.length ≤ s.pos
  le : s.pos ≤ l.length
theorem putS_len (mk : Int → Bool) (s : RS) (r : Int) (n : Nat) : (putS mk s r n).out.length + (putS mk s r n).marks.length = s.out.length + s.marks.length + 1 := by
  unfold putS
  split <;> simp <;> omega
theorem Good.next {mk : Int → Bool} {T : Tab} {b : List Int} {s s' : RS} (h : Good b s) (hs : s.pos < b.length) (hn : nextV mk T b s = .ok s') : Good b s' := by
  refine ⟨h.may.next hn, ?_, (nextV_pos hs hn).2⟩
  have hp := (nextV_pos hs hn).1
  have hf := h.fits
  unfold nextV at hn
  simp only at hn
  split at hn
  · split at hn
    · cases hn
    · injection hn with hn
      rw [← hn] at hp ⊢
      simp only at hp ⊢
      omega
  · split at hn
    · split at hn
      · cases hn
      · injection hn with hn
        rw [← hn] at hp ⊢
        rw [putS_len]
        omega
    · split at hn
      · cases hn
      · split at hn
        · cases hn
        · injection hn with hn
          rw [← hn] at hp ⊢
          rw [putS_len]
          omega
theorem Good.w64 {l : List Int} {s : RS} (h : Good l s) : W64 s.g0 ∧ W64 s.g1 := by
  obtain ⟨h1, h2, h3, h4⟩ := h.may
  exact ⟨⟨by omega, by omega⟩, by omega, by omega⟩
/-- Nothing is marked frozen beyond: the new reader. -/
theorem RA.start (wr : World) (xp bs : Value) (g0 g1 : Int) {W : World} (hW : W = wr.alloc (.cells #[xp, bs, .int .i64 0, .int .i64 g0, .int .i64 g1, .slice none 0 0, .slice none 0 0, .int .i64 0] 79)) :
    RA wr W wr.heap.size W.heap.size xp bs ⟨0, g0, g1, [], [], 0⟩ := by
  have hx : W.heap[wr.heap.size]? = some (.cells #[xp, bs, .int .i64 0, .int .i64 g0, .int .i64 g1, .slice none 0 0, .slice none 0 0, .int .i64 0] 79) := by rw [hW]; exact (MapKept.heap_alloc wr _).1
  refine ⟨⟨.slice none 0 0, .slice none 0 0, ⟨fun k v hk => ?_, fun k => ?_, (Array.getElem?_eq_some_iff.1 hx).1⟩, World.ownsRow_nil _ _ _ _, World.ownsRow_nil _ _ _ _, .inl rfl, fun g hg => by simp [Value.ownBlock] at hg, fun g hg => by simp [Value.ownBlock] at hg⟩, ?_⟩
  · simp only [World.cell?, hx]
    simpa [RV] using hk
  · simp [World.frozen?, hx]
  · rw [hW]; exact (Below.refl _ wr).alloc (Nat.le_refl _) _
theorem three (w : World) (x y : Int) : Cells2 (((w.alloc (.cells #[.int .i64 x, .int .i64 y] 53)).alloc (.cells #[.int .i64 0, .int .i64 0] 53)).alloc (.cells #[.int .i64 0, .int .i64 0] 26)) w.heap.size x y ∧
    Cells2 (((w.alloc (.cells #[.int .i64 x, .int .i64 y] 53)).alloc (.cells #[.int .i64 0, .int .i64 0] 53)).alloc (.cells #[.int .i64 0, .int .i64 0] 26)) (w.heap.size + 1) 0 0 ∧
    Cells2 (((w.alloc (.cells #[.int .i64 x, .int .i64 y] 53)).alloc (.cells #[.int .i64 0, .int .i64 0] 53)).alloc (.cells #[.int .i64 0, .int .i64 0] 26)) (w.heap.size + 1 + 1) 0 0 ∧
    Below w.heap.size w (((w.alloc (.cells #[.int .i64 x, .int .i64 y] 53)).alloc (.cells #[.int .i64 0, .int .i64 0] 53)).alloc (.cells #[.int .i64 0, .int .i64 0] 26)) := by
  have hn0 : ∀ (u : World) (o : Obj), (u.alloc o).heap[u.heap.size]? = some o := fun u o => (MapKept.heap_alloc u o).1
  have ho0 : ∀ (u : World) (o : Obj) (k : Nat), k < u.heap.size → (u.alloc o).heap[k]? = u.heap[k]? := fun u o k hk => (World.grownBy_alloc u o none).block k hk (by simp)
  have k0 := hn0 w (.cells #[.int .i64 x, .int .i64 y] 53)
  have k1 := hn0 (w.alloc (.cells #[.int .i64 x, .int .i64 y] 53)) (.cells #[.int .i64 0, .int .i64 0] 53)
  have k2 := hn0 ((w.alloc (.cells #[.int .i64 x, .int .i64 y] 53)).alloc (.cells #[.int .i64 0, .int .i64 0] 53)) (.cells #[.int .i64 0, .int .i64 0] 26)
  rw [World.size_alloc] at k1
  rw [World.size_alloc, World.size_alloc] at k2
  exact ⟨cells2_of _ ((ho0 _ _ _ (by simp; omega)).trans ((ho0 _ _ _ (by simp)).trans k0)), cells2_of _ ((ho0 _ _ _ (by simp)).trans k1), cells2_of _ k2, (((Below.refl _ w).alloc (Nat.le_refl _) _).alloc (by simp) _).alloc (by simp; omega) _⟩
def DecOk (w w' : World) : Step → Ending → Prop
  | .ok s, e => ∃ v, e = .returned (.tuple #[v, .agg #[.int .i64 s.g0, .int .i64 s.g1], .agg #[.int .i64 0, .int .i64 0]]) ∧ OwnR w' w.heap.size v s.out ∧ Below w.heap.size w w'
  | .bad c p, e => e = .returned (.tuple #[.slice none 0 0, .agg #[.int .i64 0, .int .i64 0], .agg #[.int .i64 c, .int .i64 p]]) ∧ Below w.heap.size w w'

set_option maxHeartbeats 8000000 in
set_option maxRecDepth 100000 in
theorem cDecodeNo (w : World) (a : Option Addr) (N cp : Nat) (g0 g1 : Int) (hm : mayV g0 g1 = false) :
    Calls Tryz.prog 17 #[.slice a N cp, .agg #[.int .i64 g0, .int .i64 g1]] w fun e w' => DecOk w w' (.bad 1 0) e := by
  have cM := fun X => cMay g0 g1 X
  rw [hm] at cM
  obtain ⟨k0, k1, k2, hw1⟩ := three w g0 g1
  obtain ⟨W1, hW1⟩ : ∃ W1, W1 = (((w.alloc (.cells #[.int .i64 g0, .int .i64 g1] 53)).alloc (.cells #[.int .i64 0, .int .i64 0] 53)).alloc (.cells #[.int .i64 0, .int .i64 0] 26)) := ⟨_, rfl⟩
  rw [← hW1] at k0 k1 k2 hw1
  have HM : Hid (Calls Tryz.prog 31 #[.agg #[.int .i64 g0, .int .i64 g1]] W1 fun e W' => e = .returned (.bool false) ∧ Cells2 W' (w.heap.size + 1) 0 0 ∧ Cells2 W' (w.heap.size + 1 + 1) 0 0 ∧ Aside (Below w.heap.size w W')) := by
    refine (cM W1).mono ?_
    rintro e W' ⟨rfl, hb⟩
    exact ⟨rfl, k1.below hb k1.lt, k2.below hb k2.lt, hw1.trans (hb.mono hw1.size)⟩
  have HF : Hid (∀ X, Cells2 X (w.heap.size + 1) 0 0 → Cells2 X (w.heap.size + 1 + 1) 0 0 → Aside (Below w.heap.size w X) → Calls Tryz.prog 19 #[.int .i64 1, .int .i64 0] X fun e W' => e = .returned (.agg #[.int .i64 1, .int .i64 0]) ∧ Cells2 W' (w.heap.size + 1) 0 0 ∧ Cells2 W' (w.heap.size + 1 + 1) 0 0 ∧ Aside (Below w.heap.size w W')) := by
    intro X x1 x2 hX
    refine (cFault 1 0 X).mono ?_
    rintro e W' ⟨rfl, hb⟩
    exact ⟨rfl, x1.below hb x1.lt, x2.below hb x2.lt, hX.out.trans (hb.mono hX.out.size)⟩
  clear k0 k1 k2 hw1 cM hm
  rw [hW1] at HM
  clear hW1
  go_enter Tryz.func17, Tryz.ntmps17
  go_wp2_with (first
    | (go_at_call 31; refine HM.out.mono ?_; rintro e w1 ⟨rfl, h1, h2, hA⟩; obtain ⟨z0, z1, zf0, zf1, zl⟩ := h1; obtain ⟨y0, y1, yf0, yf1, yl⟩ := h2; clear HM)
    | (go_at_call 19; refine (HF.out _ ⟨z0, z1, zf0, zf1, zl⟩ ⟨y0, y1, yf0, yf1, yl⟩ hA).mono ?_; rintro e w2 ⟨rfl, h1, h2, hB⟩; obtain ⟨u0, u1, uf0, uf1, ul⟩ := h1; obtain ⟨v0, v1, vf0, vf1, vl⟩ := h2; clear HF z0 z1 zf0 zf1 zl y0 y1 yf0 yf1 yl hA))
  refine bodyPost_ret (v := .tuple #[.slice none 0 0, .agg #[.int .i64 0, .int .i64 0], .agg #[.int .i64 1, .int .i64 0]]) ?_ rfl ⟨rfl, ?_⟩
  · simp [results, Tryz.results17, go_sem, u0, u1, ul, v0, v1, vl, uf0, uf1, vf0, vf1]
  · exact (((hB.out.setCell (p := ⟨w.heap.size + 1, 0, none⟩) (Nat.le_add_right w.heap.size 1) _).setCell (p := ⟨w.heap.size + 1, 1, none⟩) (Nat.le_add_right w.heap.size 1) _).setCell (p := ⟨w.heap.size + 1 + 1, 0, none⟩) (Nat.le_add_right w.heap.size 2) _).setCell (p := ⟨w.heap.size + 1 + 1, 1, none⟩) (Nat.le_add_right w.heap.size 2) _
end Go.Proofs.YtemhfcgkfdklhaaGreatDoor.Look
set_option linter.all false
namespace Go.Proofs.YtemhfcgkfdklhaaGreatDoor.Look
open Go Go.RowKit Go.Shelf Go.Proofs Go.Proofs.YtemhfcgkfdklhaaGreatDoor.Rd
open Go.Proofs.YtemhfcgkfdklhaaGreatDoor.Idx (W64 Idx Adds tabA)

/-- The table that New lays. -/
def T0 : Tab := tabA allAdds
theorem nextV_bad {mk : Int → Bool} {T : Tab} {b : List Int} {s : RS} {e p : Int} (h : nextV mk T b s = .bad e p) : e ≠ 0 := by
  unfold nextV at h
  simp only at h
  split at h
  · split at h
    · injection h with h1 h2; omega
    · cases h
  · split at h
    · split at h
      · injection h with h1 h2; omega
      · cases h
    · split at h
      · injection h with h1 h2; omega
      · split at h
        · injection h with h1 h2; omega
        · cases h
theorem far2 {W : World} {p b o : Nat} {u v : Value} (hne : p ≠ b) : ((W.setCell ⟨p, 0, none⟩ u).setCell ⟨p, 1, none⟩ v).cell? ⟨b, o, none⟩ = W.cell? ⟨b, o, none⟩ :=
  (World.cell?_setCell_far _ ⟨p, 1, none⟩ ⟨b, o, none⟩ _ hne).trans (World.cell?_setCell_far _ ⟨p, 0, none⟩ ⟨b, o, none⟩ _ hne)
theorem RC.drew {w : World} {rb : Nat} {cs : List Value} (h : RC w rb cs) : RC w.drew rb cs := ⟨h.cell, h.free, h.lt⟩
theorem OwnR.drew {w : World} {base : Nat} {v : Value} {l : List Int} (h : OwnR w base v l) : OwnR w.drew base v l := h
theorem OwnR.base {w : World} {base b2 : Nat} {v : Value} {l : List Int} (h : OwnR w base v l) (hb : b2 ≤ base) : OwnR w b2 v l := by
  refine ⟨h.1, ?_⟩
  rcases h.2 with h0 | ⟨g, cap, cur, h1, h2, h3⟩
  · exact .inl h0
  · exact .inr ⟨g, cap, cur, h1, Nat.le_trans hb h2, h3⟩
/-- What the reader's text and index are, all the way. -/
structure Env (wr : World) (rb xb : Nat) (a : Option Addr) (cp : Nat) (l : List Int) : Prop where
  row : RowB wr a l
  cap : l.length ≤ cp ∧ cp ≤ 9223372036854775807 ∧ l.length ≤ 2000000
  idx : ∃ bc br base O, Idx wr xb bc br base allAdds O
  rbz : wr.heap.size ≤ rb
  byte : ∀ x ∈ l, 0 ≤ x ∧ x ≤ 255
theorem Env.next {wr W : World} {rb xb cp : Nat} {a : Option Addr} {l : List Int} (E : Env wr rb xb a cp l) {s : RS} (h : RA wr W rb W.heap.size (.pointer (some ⟨xb, 0, none⟩)) (.slice a l.length cp) s) (hG : Good l s) (hp : s.pos < l.length) :
    Calls Tryz.prog 33 #[.pointer (some ⟨rb, 0, none⟩)] W fun e W' => NextOk wr W rb W.heap.size (.pointer (some ⟨xb, 0, none⟩)) (.slice a l.length cp) (nextV markV T0 l s) e W' := by
  obtain ⟨h1, ⟨h2, h3, h4⟩, ⟨bc, br, base, O, hI⟩, h6, h7⟩ := E
  have hf := hG.fits
  exact cNext wr W rb W.heap.size cp xb bc br base allAdds O a l s h h1 h2 h3 h4 (Nat.le_refl _) (by omega) hI h6 h7 hG.w64.1 hG.w64.2 hp

set_option maxHeartbeats 8000000 in
set_option maxRecDepth 100000 in
theorem cDecodeYes (w : World) (hT : Tabs w) (a : Option Addr) (cp : Nat) (l : List Int) (g0 g1 : Int) (hrow : RowB w a l) (hcp : l.length ≤ cp) (hcN : cp ≤ 9223372036854775807) (hn2 : l.length ≤ 2000000) (hlr : ∀ x ∈ l, 0 ≤ x ∧ x ≤ 255) (hm : mayV g0 g1 = true) :
    Calls Tryz.prog 17 #[.slice a l.length cp, .agg #[.int .i64 g0, .int .i64 g1]] w fun e w' => DecOk w w' (endV (run markV T0 l ⟨0, g0, g1, [], [], 0⟩)) e := by
  have cM := fun X => cMay g0 g1 X
  rw [hm] at cM
  have hG0 : Good l ⟨0, g0, g1, [], [], 0⟩ := by
    have := of_decide_eq_true hm
    exact ⟨⟨this.1.1, this.1.2, this.2.1, this.2.2⟩, by simp, by simp⟩
  obtain ⟨k0, k1, k2, hw1⟩ := three w g0 g1
  obtain ⟨W1, hW1⟩ : ∃ W1, W1 = (((w.alloc (.cells #[.int .i64 g0, .int .i64 g1] 53)).alloc (.cells #[.int .i64 0, .int .i64 0] 53)).alloc (.cells #[.int .i64 0, .int .i64 0] 26)) := ⟨_, rfl⟩
  rw [← hW1] at k0 k1 k2 hw1
  have HM : Hid (Calls Tryz.prog 31 #[.agg #[.int .i64 g0, .int .i64 g1]] W1 fun e W' => e = .returned (.bool true) ∧ Aside (Below w.heap.size w W' ∧ Cells2 W' w.heap.size g0 g1 ∧ Cells2 W' (w.heap.size + 1) 0 0 ∧ Cells2 W' (w.heap.size + 1 + 1) 0 0)) := by
    refine (cM W1).mono ?_
    rintro e W' ⟨rfl, hb⟩
    exact ⟨rfl, hw1.trans (hb.mono hw1.size), k0.below hb k0.lt, k1.below hb k1.lt, k2.below hb k2.lt⟩
  have HE : Aside (RowB w a l ∧ (l.length ≤ cp ∧ cp ≤ 9223372036854775807 ∧ l.length ≤ 2000000) ∧ (∀ x ∈ l, 0 ≤ x ∧ x ≤ 255) ∧ Tabs w ∧ Good l ⟨0, g0, g1, [], [], 0⟩) := ⟨hrow, ⟨hcp, hcN, hn2⟩, hlr, hT, hG0⟩
  clear k0 k1 k2 hw1 cM hm hrow hlr hT hG0
  rw [hW1] at HM
  clear hW1
  obtain ⟨N, hN⟩ : ∃ N, N = l.length := ⟨_, rfl⟩
  rw [← hN] at hcp hn2 ⊢
  have HNl : Aside (N = l.length) := hN
  clear hN
  go_enter Tryz.func17, Tryz.ntmps17
  go_wp2_with (go_at_call 31; refine HM.out.mono ?_; rintro e w1 ⟨rfl, hA⟩; clear HM)
  obtain ⟨X1, hX1⟩ : ∃ X1, X1 = w1.drew := ⟨_, rfl⟩
  have hA1 : Aside (Below w.heap.size w X1 ∧ Cells2 X1 w.heap.size g0 g1 ∧ Cells2 X1 (w.heap.size + 1) 0 0 ∧ Cells2 X1 (w.heap.size + 1 + 1) 0 0) := by rw [hX1]; exact ⟨hA.out.1.drew, hA.out.2.1.drew, hA.out.2.2.1.drew, hA.out.2.2.2.drew⟩
  have HN : Hid (Calls Tryz.prog 32 #[] X1 fun e w' => e = .returned (.pointer (some ⟨X1.heap.size + 2, 0, none⟩)) ∧ GI X1 w' allAdds) := new X1 (HE.out.2.2.2.1.below hA1.out.1)
  have k0 := hA1.out.2.1.c0
  have k1 := hA1.out.2.1.c1
  have kl := hA1.out.2.1.lt
  rw [hX1] at k0 k1 kl HN
  refine wp_region_held_drew (S := fun w' => w'.cell? ⟨w.heap.size, 0, none⟩ = some (.int .i64 g0) ∧ w'.cell? ⟨w.heap.size, 1, none⟩ = some (.int .i64 g1)) (by kernel_rfl) ⟨k0, k1⟩ (fun hHeld => ?_)
  refine wpAnyH_take (i := 1) (v := ?v1_1) rfl (by kernel_rfl) (by kernel_rfl) (by kernel_rfl) (fun _ _ _ h => h) (Or.inl ⟨by kernel_rfl, ?h1_1⟩) hHeld ?r1_1
  case h1_1 => (rintro w' ⟨q0, q1⟩; go_simp; try (with_reducible rfl))
  try simp only [Act.put, List.getElem_toArray, List.getElem_cons_zero, List.getElem_cons_succ, List.setIfInBounds_toArray, List.set_cons_zero, List.set_cons_succ]
  refine wpAnyH_take (i := 2) (v := ?v2_2) rfl (by kernel_rfl) (by kernel_rfl) (by kernel_rfl) (fun _ _ _ h => h) (Or.inl ⟨by kernel_rfl, ?h2_2⟩) hHeld ?r2_2
  case h2_2 => (rintro w' ⟨q0, q1⟩; go_simp; try (with_reducible rfl))
  try simp only [Act.put, List.getElem_toArray, List.getElem_cons_zero, List.getElem_cons_succ, List.setIfInBounds_toArray, List.set_cons_zero, List.set_cons_succ]
  refine wpAnyH_ready (rs := [0]) (by kernel_rfl) (by simp) ?_
  refine AllReadyH.cons (o := { dst := some 14, op := Op.call { callee := Callee.value (Operand.func 32), args := #[], argTypes := #[] }, type := 76, pos := "read.go:126", after := #[], guard := none }) rfl (fun K hK => ?_) AllReadyH.nil
  go_simp
  refine HN.out.mono ?_
  rintro _ X2 ⟨rfl, hG⟩
  refine hK.out _ _ ⟨(hG.below.cell (p := ⟨w.heap.size, 0, none⟩) kl).trans k0, (hG.below.cell (p := ⟨w.heap.size, 1, none⟩) kl).trans k1⟩ (fun hH2 => ?_)
  clear hK K
  try simp only [Act.put, List.getElem_toArray, List.getElem_cons_zero, List.getElem_cons_succ, List.setIfInBounds_toArray, List.set_cons_zero, List.set_cons_succ]
  refine wpAnyH_take (i := 3) (v := ?v3_3) rfl (by kernel_rfl) (by kernel_rfl) (by kernel_rfl) (fun _ _ _ h => h) (Or.inl ⟨by kernel_rfl, ?h3_3⟩) hH2 ?r3_3
  case h3_3 => (rintro w' ⟨q0, q1⟩; go_simp; try (with_reducible rfl))
  try simp only [Act.put, List.getElem_toArray, List.getElem_cons_zero, List.getElem_cons_succ, List.setIfInBounds_toArray, List.set_cons_zero, List.set_cons_succ]
  refine wpAnyH_ready (rs := [4]) (by kernel_rfl) (by simp) ?_
  refine AllReadyH.cons (o := { dst := some 18, op := Op.box 79 (Operand.tmp 17), type := 75, pos := "read.go:126", after := #[{ on := 3, ground := Ground.data }], guard := none }) rfl (fun K hK => ?_) AllReadyH.nil
  go_simp
  refine hK.out _ _ ⟨(World.cell?_alloc_some _ _ _ (by rw [hH2.1]; rfl)).trans hH2.1, (World.cell?_alloc_some _ _ _ (by rw [hH2.2]; rfl)).trans hH2.2⟩ (fun hH3 => ?_)
  clear hK K
  try simp only [Act.put, List.getElem_toArray, List.getElem_cons_zero, List.getElem_cons_succ, List.setIfInBounds_toArray, List.set_cons_zero, List.set_cons_succ]
  refine wpAnyH_take (i := 5) (v := ?v5_4) rfl (by kernel_rfl) (by kernel_rfl) (by kernel_rfl) (fun _ _ _ h => h) (Or.inl ⟨by kernel_rfl, ?h5_4⟩) hH3 ?r5_4
  case h5_4 => (rintro w' ⟨q0, q1⟩; go_simp; try (with_reducible rfl))
  try simp only [Act.put, List.getElem_toArray, List.getElem_cons_zero, List.getElem_cons_succ, List.setIfInBounds_toArray, List.set_cons_zero, List.set_cons_succ]
  refine wpAnyH_done (by kernel_rfl) ?_ _
  try simp only [Act.put, List.getElem_toArray, List.getElem_cons_zero, List.getElem_cons_succ, List.setIfInBounds_toArray, List.set_cons_zero, List.set_cons_succ]
  clear hH3 hH2 hHeld
  rw [← hX1] at hG
  have hsz : w1.heap.size = X1.heap.size := by rw [hX1]; rfl
  rw [hsz]
  clear hsz hX1 hA k0 k1 kl HN
  have HG : Aside (GI X1 X2 allAdds) := hG
  clear hG
  obtain ⟨xb, hxb⟩ : ∃ xb, xb = X1.heap.size + 2 := ⟨_, rfl⟩
  rw [← hxb]
  obtain ⟨W5, hW5⟩ : ∃ W5, W5 = X2.alloc (.cells #[.pointer (some ⟨xb, 0, none⟩), .slice a N cp, .int .i64 0, .int .i64 g0, .int .i64 g1, .slice none 0 0, .slice none 0 0, .int .i64 0] 79) := ⟨_, rfl⟩
  rw [← hW5]
  have hS : RA X2 W5 X2.heap.size W5.heap.size (.pointer (some ⟨xb, 0, none⟩)) (.slice a l.length cp) ⟨0, g0, g1, [], [], 0⟩ := RA.start X2 (.pointer (some ⟨xb, 0, none⟩)) (.slice a l.length cp) g0 g1 (W := W5) (by rw [← HNl.out, hW5])
  have hX12 : Below X1.heap.size X1 X2 := HG.out.below
  have hEnv : Env X2 X2.heap.size xb a cp l := by
    refine ⟨(HE.out.1.below (hA1.out.1.mono (Nat.le_refl _))).below hX12, HE.out.2.1, ?_, Nat.le_refl _, HE.out.2.2.1⟩
    obtain ⟨⟨O, hI, _⟩, _, _⟩ := HG.out
    exact ⟨_, _, _, O, by rw [hxb]; exact hI⟩
  have hZ : Cells2 X2 (w.heap.size + 1) 0 0 ∧ Cells2 X2 (w.heap.size + 1 + 1) 0 0 := ⟨hA1.out.2.2.1.below hX12 hA1.out.2.2.1.lt, hA1.out.2.2.2.below hX12 hA1.out.2.2.2.lt⟩
  have hB2 : Below w.heap.size w X2 := hA1.out.1.trans (hX12.mono hA1.out.1.size)
  obtain ⟨rb, hrb⟩ : ∃ rb, rb = X2.heap.size := ⟨_, rfl⟩
  rw [← hrb] at hS hEnv ⊢
  have HS : Aside (RA X2 W5 rb W5.heap.size (.pointer (some ⟨xb, 0, none⟩)) (.slice a l.length cp) ⟨0, g0, g1, [], [], 0⟩ ∧ Env X2 rb xb a cp l ∧ (Cells2 X2 (w.heap.size + 1) 0 0 ∧ Cells2 X2 (w.heap.size + 1 + 1) 0 0) ∧ Below w.heap.size w X2 ∧ rb = X2.heap.size ∧ Good l ⟨0, g0, g1, [], [], 0⟩) := ⟨hS, hEnv, hZ, hB2, hrb, HE.out.2.2.2.2⟩
  clear hS hEnv hZ hB2 hrb hX12 hW5 hxb HG HE hA1
  go_wp2
  go_loopg [8] N (fun g v8 wr => Aside (∃ s, RA X2 wr rb wr.heap.size (.pointer (some ⟨xb, 0, none⟩)) (.slice a l.length cp) s ∧ Good l s ∧ run markV T0 l ⟨0, g0, g1, [], [], 0⟩ = run markV T0 l s ∧ l.length - s.pos ≤ g))
  case atStart => exact ⟨_, HS.out.1, HS.out.2.2.2.2.2, rfl, by rw [HNl.out]; exact Nat.sub_le _ _⟩
  case round =>
    obtain ⟨s, hRA, hGd, hrun, hg⟩ := hrel.out
    clear hrel
    obtain ⟨vo, vm, hC, hO, hM, _, _, _⟩ := hRA.ex
    obtain ⟨am, cm, rfl⟩ := hM.form
    obtain ⟨ao, co, rfl⟩ := hO.form
    have x2 := hC.cell 2 _ rfl
    have hrbl := hC.lt
    have hz1 : Cells2 wr (w.heap.size + 1) 0 0 := HS.out.2.2.1.1.below hRA.below (by have := HS.out.2.2.1.1.lt; have := HS.out.2.2.2.2.1; omega)
    have hz2 : Cells2 wr (w.heap.size + 1 + 1) 0 0 := HS.out.2.2.1.2.below hRA.below (by have := HS.out.2.2.1.2.lt; have := HS.out.2.2.2.2.1; omega)
    have hBw : Below w.heap.size w wr := HS.out.2.2.2.1.trans (hRA.below.mono (by have := HS.out.2.2.2.1.size; have := HS.out.2.2.2.2.1; omega))
    have hn2rb : w.heap.size + 1 + 1 < rb := by have := HS.out.2.2.1.2.lt; have := HS.out.2.2.2.2.1; omega
    obtain ⟨p, hp⟩ : ∃ p, p = s.pos := ⟨_, rfl⟩
    rw [← hp] at x2
    have HW : Aside (RA X2 wr rb wr.heap.size (.pointer (some ⟨xb, 0, none⟩)) (.slice a l.length cp) s ∧ Good l s ∧ run markV T0 l ⟨0, g0, g1, [], [], 0⟩ = run markV T0 l s ∧ l.length - s.pos ≤ gk ∧ Below w.heap.size w wr ∧ p = s.pos ∧ RC wr rb (RV (.pointer (some ⟨xb, 0, none⟩)) (.slice a l.length cp) s (.slice ao s.out.length co) (.slice am s.marks.length cm)) ∧ OwnR wr (rb + 1) (.slice ao s.out.length co) s.out) := ⟨hRA, hGd, hrun, hg, hBw, hp, hC, hO⟩
    clear hC hO hM hrun hBw
    by_cases hlt : s.pos < l.length
    · have hpN : (p : Int) < (N : Int) := by have := HNl.out; omega
      have hnx := HS.out.2.1.next hRA hGd hlt
      clear hRA hGd hg hp
      cases hx : nextV markV T0 l s with
      | ok s1 =>
        rw [hx] at hnx
        have HC : Hid (Calls Tryz.prog 33 #[.pointer (some ⟨rb, 0, none⟩)] wr fun e W' => e = .returned (.agg #[.int .i64 0, .int .i64 0]) ∧ Aside (PutOk X2 wr rb wr.heap.size (.pointer (some ⟨xb, 0, none⟩)) (.slice a l.length cp) s1 W')) := hnx.mono fun e W' h => ⟨h.1, h.2⟩
        have HL : Aside (s.pos < l.length ∧ nextV markV T0 l s = .ok s1) := ⟨hlt, hx⟩
        clear hnx hlt hx hz1 hz2
        go_wp2_with (go_at_call 33; refine HC.out.mono ?_; rintro e W2 ⟨rfl, hP⟩; clear HC)
        have h1 := nextV_pos HL.out.1 HL.out.2
        have h2 := HW.out.2.2.2.1
        go_roundg (l.length - s1.pos)
        case measure => omega
        case rel => exact ⟨s1, hP.out.ra.go ((Below.refl _ W2).alloc (Nat.le_refl _) _) (by simp), HW.out.2.1.next HL.out.1 HL.out.2, HW.out.2.2.1.trans (run_step HL.out.1 HL.out.2), Nat.le_refl _⟩
      | bad ec ep =>
        rw [hx] at hnx
        have hec := nextV_bad hx
        have hecb : (ec == 0) = false := by simpa using hec
        have HC : Hid (Calls Tryz.prog 33 #[.pointer (some ⟨rb, 0, none⟩)] wr fun e W' => e = .returned (.agg #[.int .i64 ec, .int .i64 ep]) ∧ Aside (Below rb wr W') ∧ Cells2 (W'.alloc (.cells #[.int .i64 ec, .int .i64 ep] 26)).drew (w.heap.size + 1) 0 0 ∧ Cells2 (W'.alloc (.cells #[.int .i64 ec, .int .i64 ep] 26)).drew (w.heap.size + 1 + 1) 0 0 ∧ Cells2 (W'.alloc (.cells #[.int .i64 ec, .int .i64 ep] 26)).drew W'.heap.size ec ep ∧ w.heap.size + 1 ≠ W'.heap.size ∧ w.heap.size + 1 + 1 ≠ W'.heap.size) := by
          refine hnx.mono ?_
          rintro e W' ⟨rfl, hb⟩
          have b1 : Below W'.heap.size W' (W'.alloc (.cells #[.int .i64 ec, .int .i64 ep] 26)).drew := ((Below.refl _ W').alloc (Nat.le_refl _) _).drew
          have j1 := hz1.below hb (by omega)
          have j2 := hz2.below hb (by omega)
          have := j1.lt
          have := j2.lt
          exact ⟨rfl, hb, j1.below b1 j1.lt, j2.below b1 j2.lt, (cells2_of _ (MapKept.heap_alloc W' _).1).drew, by omega, by omega⟩
        have HL : Aside (s.pos < l.length ∧ nextV markV T0 l s = .bad ec ep) := ⟨hlt, hx⟩
        clear hnx hlt hx hz1 hz2
        go_wp2_with (go_at_call 33; refine HC.out.mono ?_; rintro e W2 ⟨rfl, hb2, ⟨a0, a1, af0, af1, al⟩, ⟨c0, c1, cf0, cf1, cl⟩, ⟨t0, t1, tf0, tf1, tl⟩, m1, m2⟩; clear HC)
        refine wp_region_held_drew (S := fun w' => w'.cell? ⟨W2.heap.size, 0, none⟩ = some (.int .i64 ec) ∧ w'.cell? ⟨W2.heap.size, 1, none⟩ = some (.int .i64 ep)) (by kernel_rfl) ⟨t0, t1⟩ (fun hHeld => ?_)
        obtain ⟨X0, hX0⟩ : ∃ Z, Z = (W2.alloc (.cells #[.int .i64 ec, .int .i64 ep] 26)).drew := ⟨_, rfl⟩
        rw [← hX0] at hHeld a0 a1 af0 af1 al c0 c1 cf0 cf1 cl t0 t1 ⊢
        replace hX0 := Lib.hid hX0
        refine wpAnyH_take (i := 0) (v := ?v0_5) rfl (by kernel_rfl) (by kernel_rfl) (by kernel_rfl) (fun _ _ _ h => h) (Or.inl ⟨by kernel_rfl, ?h0_5⟩) hHeld ?r0_5
        case h0_5 => (rintro w' ⟨q0, q1⟩; go_simp; try (with_reducible rfl))
        try simp only [Act.put, List.getElem_toArray, List.getElem_cons_zero, List.getElem_cons_succ, List.setIfInBounds_toArray, List.set_cons_zero, List.set_cons_succ]
        refine wpAnyH_take (i := 1) (v := ?v1_6) rfl (by kernel_rfl) (by kernel_rfl) (by kernel_rfl) (fun _ _ _ h => h) (Or.inl ⟨by kernel_rfl, ?h1_6⟩) hHeld ?r1_6
        case h1_6 => (rintro w' ⟨q0, q1⟩; go_simp; try (with_reducible rfl))
        try simp only [Act.put, List.getElem_toArray, List.getElem_cons_zero, List.getElem_cons_succ, List.setIfInBounds_toArray, List.set_cons_zero, List.set_cons_succ]
        refine wpAnyH_take (i := 2) (v := ?v2_7) rfl (by kernel_rfl) (by kernel_rfl) (by kernel_rfl) (fun _ _ _ h => h) (Or.inl ⟨by kernel_rfl, ?h2_7⟩) hHeld ?r2_7
        case h2_7 => (rintro w' ⟨q0, q1⟩; go_simp; try (with_reducible rfl))
        try simp only [Act.put, List.getElem_toArray, List.getElem_cons_zero, List.getElem_cons_succ, List.setIfInBounds_toArray, List.set_cons_zero, List.set_cons_succ]
        refine wpAnyH_ready (rs := [3]) (by kernel_rfl) (by simp) ?_
        refine AllReadyH.cons (o := { dst := none, op := Op.store 53 (Operand.tmp 5) (Operand.tmp 31), type := 0, pos := "read.go:129", after := #[{ on := 0, ground := Ground.data }, { on := 2, ground := Ground.chain }, { on := 0, ground := Ground.phase }, { on := 1, ground := Ground.textOnly Departure.lateStores }, { on := 2, ground := Ground.phase }], guard := none }) rfl (fun K hK => ?_) AllReadyH.nil
        go_simp
        refine hK.out _ _ ⟨(far2 m1).trans t0, (far2 m1).trans t1⟩ (fun hH2 => ?_)
        clear hK K
        try simp only [Act.put, List.getElem_toArray, List.getElem_cons_zero, List.getElem_cons_succ, List.setIfInBounds_toArray, List.set_cons_zero, List.set_cons_succ]
        refine wpAnyH_ready (rs := [4]) (by kernel_rfl) (by simp) ?_
        refine AllReadyH.cons (o := { dst := none, op := Op.store 26 (Operand.tmp 6) (Operand.tmp 32), type := 0, pos := "read.go:129", after := #[{ on := 1, ground := Ground.data }, { on := 3, ground := Ground.chain }, { on := 0, ground := Ground.phase }, { on := 1, ground := Ground.phase }, { on := 2, ground := Ground.phase }, { on := 3, ground := Ground.phase }], guard := none }) rfl (fun K hK => ?_) AllReadyH.nil
        go_simp
        refine hK.out _ _ ⟨(far2 m2).trans hH2.1, (far2 m2).trans hH2.2⟩ (fun hH3 => ?_)
        clear hK K
        try simp only [Act.put, List.getElem_toArray, List.getElem_cons_zero, List.getElem_cons_succ, List.setIfInBounds_toArray, List.set_cons_zero, List.set_cons_succ]
        refine wpAnyH_done (by kernel_rfl) ?_ _
        try simp only [Act.put, List.getElem_toArray, List.getElem_cons_zero, List.getElem_cons_succ, List.setIfInBounds_toArray, List.set_cons_zero, List.set_cons_succ]
        clear hH3 hH2 hHeld
        go_wp2
        refine bodyPost_ret (v := .tuple #[.slice none 0 0, .agg #[.int .i64 0, .int .i64 0], .agg #[.int .i64 ec, .int .i64 ep]]) ?_ rfl ?_
        · simp [results, Tryz.results17, go_sem, a0, a1, al, af0, af1, c0, c1, cl, cf0, cf1]
        · rw [HW.out.2.2.1, run_bad HL.out.1 HL.out.2]
          have hb3 : Below w.heap.size w W2 := HW.out.2.2.2.2.1.trans (hb2.out.mono (by omega))
          have hb4 := (hb3.alloc hb3.size (.cells #[.int .i64 ec, .int .i64 ep] 26)).drew
          rw [← hX0.out] at hb4
          exact ⟨rfl, (((hb4.setCell (p := ⟨w.heap.size + 1, 0, none⟩) (Nat.le_add_right w.heap.size 1) _).setCell (p := ⟨w.heap.size + 1, 1, none⟩) (Nat.le_add_right w.heap.size 1) _).setCell (p := ⟨w.heap.size + 1 + 1, 0, none⟩) (Nat.le_add_right w.heap.size 2) _).setCell (p := ⟨w.heap.size + 1 + 1, 1, none⟩) (Nat.le_add_right w.heap.size 2) _⟩
    · have hd : decide ((p : Int) < (N : Int)) = false := decide_eq_false (by have := HNl.out; omega)
      have hge : (N : Int) ≤ (p : Int) := by have := HNl.out; omega
      have HL : Aside (run markV T0 l ⟨0, g0, g1, [], [], 0⟩ = .ok s) := HW.out.2.2.1.trans (run_end (by omega))
      have x6 := HW.out.2.2.2.2.2.2.1.cell 6 _ rfl
      clear hRA hGd hg hp hlt hrbl
      by_cases hm : s.marks = []
      · have hM0 : s.marks.length = 0 := by rw [hm]; rfl
        rw [hM0] at x6
        have HE : Aside (endV (run markV T0 l ⟨0, g0, g1, [], [], 0⟩) = .ok s) := by
          show endV _ = _
          rw [HL.out]
          show (if s.marks ≠ [] then Step.bad 6 s.wh else Step.ok s) = _
          exact if_neg (fun h => h hm)
        clear hM0 hm
        have t0 := HW.out.2.2.2.2.2.2.1.drew.cell 3 _ rfl
        have t1 := HW.out.2.2.2.2.2.2.1.drew.cell 4 _ rfl
        have t2 := HW.out.2.2.2.2.2.2.1.drew.cell 5 _ rfl
        obtain ⟨a0, a1, af0, af1, al⟩ := hz1.drew
        obtain ⟨c0, c1, cf0, cf1, cl⟩ := hz2.drew
        have m1 : w.heap.size + 1 ≠ rb := by omega
        have m2 : w.heap.size + 1 + 1 ≠ rb := by omega
        obtain ⟨sg0, hsg0⟩ : ∃ z, z = s.g0 := ⟨_, rfl⟩
        obtain ⟨sg1, hsg1⟩ : ∃ z, z = s.g1 := ⟨_, rfl⟩
        obtain ⟨No, hNo⟩ : ∃ z, z = s.out.length := ⟨_, rfl⟩
        rw [← hsg0] at t0
        rw [← hsg1] at t1
        rw [← hNo] at t2
        replace hsg0 := Lib.hid hsg0
        replace hsg1 := Lib.hid hsg1
        replace hNo := Lib.hid hNo
        go_wp2
        refine wp_region_held_drew (S := fun w' => w'.cell? ⟨rb, 3, none⟩ = some (.int .i64 sg0) ∧ w'.cell? ⟨rb, 4, none⟩ = some (.int .i64 sg1) ∧ w'.cell? ⟨rb, 5, none⟩ = some (.slice ao No co)) (by kernel_rfl) ⟨t0, t1, t2⟩ (fun hHeld => ?_)
        obtain ⟨X0, hX0⟩ : ∃ Z, Z = wr.drew := ⟨_, rfl⟩
        rw [← hX0] at hHeld a0 a1 af0 af1 al c0 c1 cf0 cf1 cl t0 t1 t2 ⊢
        replace hX0 := Lib.hid hX0
        refine wpAnyH_take (i := 0) (v := ?v0_8) rfl (by kernel_rfl) (by kernel_rfl) (by kernel_rfl) (fun _ _ _ h => h) (Or.inl ⟨by kernel_rfl, ?h0_8⟩) hHeld ?r0_8
        case h0_8 => (rintro w' ⟨q0, q1, q2⟩; go_simp; try (with_reducible rfl))
        try simp only [Act.put, List.getElem_toArray, List.getElem_cons_zero, List.getElem_cons_succ, List.setIfInBounds_toArray, List.set_cons_zero, List.set_cons_succ]
        refine wpAnyH_take (i := 1) (v := ?v1_9) rfl (by kernel_rfl) (by kernel_rfl) (by kernel_rfl) (fun _ _ _ h => h) (Or.inl ⟨by kernel_rfl, ?h1_9⟩) hHeld ?r1_9
        case h1_9 => (rintro w' ⟨q0, q1, q2⟩; go_simp; try (with_reducible rfl))
        try simp only [Act.put, List.getElem_toArray, List.getElem_cons_zero, List.getElem_cons_succ, List.setIfInBounds_toArray, List.set_cons_zero, List.set_cons_succ]
        refine wpAnyH_take (i := 2) (v := ?v2_10) rfl (by kernel_rfl) (by kernel_rfl) (by kernel_rfl) (fun _ _ _ h => h) (Or.inl ⟨by kernel_rfl, ?h2_10⟩) hHeld ?r2_10
        case h2_10 => (rintro w' ⟨q0, q1, q2⟩; go_simp; try (with_reducible rfl))
        try simp only [Act.put, List.getElem_toArray, List.getElem_cons_zero, List.getElem_cons_succ, List.setIfInBounds_toArray, List.set_cons_zero, List.set_cons_succ]
        refine wpAnyH_take (i := 3) (v := ?v3_11) rfl (by kernel_rfl) (by kernel_rfl) (by kernel_rfl) (fun _ _ _ h => h) (Or.inl ⟨by kernel_rfl, ?h3_11⟩) hHeld ?r3_11
        case h3_11 => (rintro w' ⟨q0, q1, q2⟩; go_simp; try (with_reducible rfl))
        try simp only [Act.put, List.getElem_toArray, List.getElem_cons_zero, List.getElem_cons_succ, List.setIfInBounds_toArray, List.set_cons_zero, List.set_cons_succ]
        refine wpAnyH_take (i := 4) (v := ?v4_12) rfl (by kernel_rfl) (by kernel_rfl) (by kernel_rfl) (fun _ _ _ h => h) (Or.inl ⟨by kernel_rfl, ?h4_12⟩) hHeld ?r4_12
        case h4_12 => (rintro w' ⟨q0, q1, q2⟩; go_simp; try (with_reducible rfl))
        try simp only [Act.put, List.getElem_toArray, List.getElem_cons_zero, List.getElem_cons_succ, List.setIfInBounds_toArray, List.set_cons_zero, List.set_cons_succ]
        refine wpAnyH_take (i := 5) (v := ?v5_13) rfl (by kernel_rfl) (by kernel_rfl) (by kernel_rfl) (fun _ _ _ h => h) (Or.inl ⟨by kernel_rfl, ?h5_13⟩) hHeld ?r5_13
        case h5_13 => (rintro w' ⟨q0, q1, q2⟩; go_simp; try (with_reducible rfl))
        try simp only [Act.put, List.getElem_toArray, List.getElem_cons_zero, List.getElem_cons_succ, List.setIfInBounds_toArray, List.set_cons_zero, List.set_cons_succ]
        refine wpAnyH_take (i := 6) (v := ?v6_14) rfl (by kernel_rfl) (by kernel_rfl) (by kernel_rfl) (fun _ _ _ h => h) (Or.inl ⟨by kernel_rfl, ?h6_14⟩) hHeld ?r6_14
        case h6_14 => (rintro w' ⟨q0, q1, q2⟩; go_simp; try (with_reducible rfl))
        try simp only [Act.put, List.getElem_toArray, List.getElem_cons_zero, List.getElem_cons_succ, List.setIfInBounds_toArray, List.set_cons_zero, List.set_cons_succ]
        refine wpAnyH_take (i := 7) (v := ?v7_15) rfl (by kernel_rfl) (by kernel_rfl) (by kernel_rfl) (fun _ _ _ h => h) (Or.inl ⟨by kernel_rfl, ?h7_15⟩) hHeld ?r7_15
        case h7_15 => (rintro w' ⟨q0, q1, q2⟩; go_simp; try (with_reducible rfl))
        try simp only [Act.put, List.getElem_toArray, List.getElem_cons_zero, List.getElem_cons_succ, List.setIfInBounds_toArray, List.set_cons_zero, List.set_cons_succ]
        refine wpAnyH_take (i := 8) (v := ?v8_16) rfl (by kernel_rfl) (by kernel_rfl) (by kernel_rfl) (fun _ _ _ h => h) (Or.inl ⟨by kernel_rfl, ?h8_16⟩) hHeld ?r8_16
        case h8_16 => (rintro w' ⟨q0, q1, q2⟩; go_simp; try (with_reducible rfl))
        try simp only [Act.put, List.getElem_toArray, List.getElem_cons_zero, List.getElem_cons_succ, List.setIfInBounds_toArray, List.set_cons_zero, List.set_cons_succ]
        refine wpAnyH_take (i := 9) (v := ?v9_17) rfl (by kernel_rfl) (by kernel_rfl) (by kernel_rfl) (fun _ _ _ h => h) (Or.inl ⟨by kernel_rfl, ?h9_17⟩) hHeld ?r9_17
        case h9_17 => (rintro w' ⟨q0, q1, q2⟩; go_simp; try (with_reducible rfl))
        try simp only [Act.put, List.getElem_toArray, List.getElem_cons_zero, List.getElem_cons_succ, List.setIfInBounds_toArray, List.set_cons_zero, List.set_cons_succ]
        refine wpAnyH_ready (rs := [10]) (by kernel_rfl) (by simp) ?_
        refine AllReadyH.cons (o := { dst := none, op := Op.store 53 (Operand.tmp 5) (Operand.tmp 52), type := 0, pos := "read.go:135", after := #[{ on := 7, ground := Ground.data }, { on := 9, ground := Ground.chain }, { on := 0, ground := Ground.phase }, { on := 1, ground := Ground.phase }, { on := 2, ground := Ground.phase }, { on := 3, ground := Ground.phase }, { on := 4, ground := Ground.phase }, { on := 5, ground := Ground.phase }, { on := 6, ground := Ground.phase }, { on := 7, ground := Ground.phase }, { on := 8, ground := Ground.textOnly Departure.lateStores }, { on := 9, ground := Ground.phase }], guard := none }) rfl (fun K hK => ?_) AllReadyH.nil
        go_simp
        refine hK.out _ _ ⟨(far2 m1).trans t0, (far2 m1).trans t1, (far2 m1).trans t2⟩ (fun hH2 => ?_)
        clear hK K
        try simp only [Act.put, List.getElem_toArray, List.getElem_cons_zero, List.getElem_cons_succ, List.setIfInBounds_toArray, List.set_cons_zero, List.set_cons_succ]
        refine wpAnyH_ready (rs := [11]) (by kernel_rfl) (by simp) ?_
        refine AllReadyH.cons (o := { dst := none, op := Op.store 26 (Operand.tmp 6) (Operand.tmp 53), type := 0, pos := "read.go:135", after := #[{ on := 8, ground := Ground.data }, { on := 10, ground := Ground.chain }, { on := 0, ground := Ground.phase }, { on := 1, ground := Ground.phase }, { on := 2, ground := Ground.phase }, { on := 3, ground := Ground.phase }, { on := 4, ground := Ground.phase }, { on := 5, ground := Ground.phase }, { on := 6, ground := Ground.phase }, { on := 7, ground := Ground.phase }, { on := 8, ground := Ground.phase }, { on := 9, ground := Ground.phase }, { on := 10, ground := Ground.phase }], guard := none }) rfl (fun K hK => ?_) AllReadyH.nil
        go_simp
        refine hK.out _ _ ⟨(far2 m2).trans hH2.1, (far2 m2).trans hH2.2.1, (far2 m2).trans hH2.2.2⟩ (fun hH3 => ?_)
        clear hK K
        try simp only [Act.put, List.getElem_toArray, List.getElem_cons_zero, List.getElem_cons_succ, List.setIfInBounds_toArray, List.set_cons_zero, List.set_cons_succ]
        refine wpAnyH_done (by kernel_rfl) ?_ _
        try simp only [Act.put, List.getElem_toArray, List.getElem_cons_zero, List.getElem_cons_succ, List.setIfInBounds_toArray, List.set_cons_zero, List.set_cons_succ]
        clear hH3 hH2 hHeld
        go_wp2
        refine bodyPost_ret (v := .tuple #[.slice ao No co, .agg #[.int .i64 sg0, .int .i64 sg1], .agg #[.int .i64 0, .int .i64 0]]) ?_ rfl ?_
        · simp [results, Tryz.results17, go_sem, a0, a1, al, af0, af1, c0, c1, cl, cf0, cf1]
        · rw [HE.out]
          have hb4 := HW.out.2.2.2.2.1.drew
          rw [← hX0.out] at hb4
          have hO := HW.out.2.2.2.2.2.2.2
          rw [← hNo.out] at hO
          have hO2 := (OwnR.drew hO)
          rw [← hX0.out] at hO2
          exact ⟨_, by rw [hsg0.out, hsg1.out], ((((hO2.put (a := ⟨w.heap.size + 1, 0, none⟩) (by show w.heap.size + 1 < rb + 1; omega) _).put (a := ⟨w.heap.size + 1, 1, none⟩) (by show w.heap.size + 1 < rb + 1; omega) _).put (a := ⟨w.heap.size + 1 + 1, 0, none⟩) (by show w.heap.size + 1 + 1 < rb + 1; omega) _).put (a := ⟨w.heap.size + 1 + 1, 1, none⟩) (by show w.heap.size + 1 + 1 < rb + 1; omega) _).base (by omega), (((hb4.setCell (p := ⟨w.heap.size + 1, 0, none⟩) (Nat.le_add_right w.heap.size 1) _).setCell (p := ⟨w.heap.size + 1, 1, none⟩) (Nat.le_add_right w.heap.size 1) _).setCell (p := ⟨w.heap.size + 1 + 1, 0, none⟩) (Nat.le_add_right w.heap.size 2) _).setCell (p := ⟨w.heap.size + 1 + 1, 1, none⟩) (Nat.le_add_right w.heap.size 2) _⟩
      · have hM0 : (0 : Int) < (s.marks.length : Int) := by have := List.length_pos_iff.2 hm; omega
        obtain ⟨M, hM⟩ : ∃ M, M = s.marks.length := ⟨_, rfl⟩
        rw [← hM] at x6 hM0
        have hM1 : decide ((0 : Int) < (M : Int)) = true := decide_eq_true hM0
        have HE : Aside (endV (run markV T0 l ⟨0, g0, g1, [], [], 0⟩) = .bad 6 s.wh) := by
          show endV _ = _
          rw [HL.out]
          show (if s.marks ≠ [] then Step.bad 6 s.wh else Step.ok s) = _
          exact if_pos hm
        clear hM hm
        have x7 := HW.out.2.2.2.2.2.2.1.cell 7 _ rfl
        obtain ⟨wh, hwh⟩ : ∃ z, z = s.wh := ⟨_, rfl⟩
        rw [← hwh] at x7
        replace hwh := Lib.hid hwh
        have HC : Hid (Calls Tryz.prog 19 #[.int .i64 6, .int .i64 wh] wr fun e W' => e = .returned (.agg #[.int .i64 6, .int .i64 wh]) ∧ Cells2 W' (w.heap.size + 1) 0 0 ∧ Cells2 W' (w.heap.size + 1 + 1) 0 0 ∧ Aside (Below w.heap.size w W')) := by
          refine (cFault 6 wh wr).mono ?_
          rintro e W' ⟨rfl, hb'⟩
          exact ⟨rfl, hz1.below hb' hz1.lt, hz2.below hb' hz2.lt, HW.out.2.2.2.2.1.trans (hb'.mono HW.out.2.2.2.2.1.size)⟩
        clear hz1 hz2
        go_wp2_with (go_at_call 19; refine HC.out.mono ?_; rintro e W' ⟨rfl, ⟨a0, a1, af0, af1, al⟩, ⟨c0, c1, cf0, cf1, cl⟩, hP⟩; clear HC)
        refine bodyPost_ret (v := .tuple #[.slice none 0 0, .agg #[.int .i64 0, .int .i64 0], .agg #[.int .i64 6, .int .i64 wh]]) ?_ rfl ?_
        · simp [results, Tryz.results17, go_sem, a0, a1, al, af0, af1, c0, c1, cl, cf0, cf1]
        · rw [HE.out, ← hwh.out]
          have hb4 := hP.out
          exact ⟨rfl, (((hb4.setCell (p := ⟨w.heap.size + 1, 0, none⟩) (Nat.le_add_right w.heap.size 1) _).setCell (p := ⟨w.heap.size + 1, 1, none⟩) (Nat.le_add_right w.heap.size 1) _).setCell (p := ⟨w.heap.size + 1 + 1, 0, none⟩) (Nat.le_add_right w.heap.size 2) _).setCell (p := ⟨w.heap.size + 1 + 1, 1, none⟩) (Nat.le_add_right w.heap.size 2) _⟩
end Go.Proofs.YtemhfcgkfdklhaaGreatDoor.Look
