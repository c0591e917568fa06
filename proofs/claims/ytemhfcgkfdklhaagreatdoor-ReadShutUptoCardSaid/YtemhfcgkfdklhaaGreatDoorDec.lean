/- read.Decode. -/
import Derived.Test.YtemhfcgkfdklhaaGreatDoorNext3
import Derived.Test.YtemhfcgkfdklhaaGreatDoorMay
import Derived.Test.YtemhfcgkfdklhaaGreatDoorGNew
set_option linter.all false
namespace Go.Proofs.YtemhfcgkfdklhaaGreatDoor.Look
open Go Go.RowKit Go.Shelf Go.Proofs Go.Proofs.YtemhfcgkfdklhaaGreatDoor.Rd
open Go.Proofs.YtemhfcgkfdklhaaGreatDoor.Idx (W64 Idx Adds tabA)

/-! ### What holds all the way -/
structure Good (l : List Int) (s : RS) : Prop where
  may : MayS s
  fits : s.out.length + s.marks.length ≤ s.pos
  le : s.pos ≤ l.length
theorem putS_len (mk : Int → Bool) (s : RS) (r : Int) (n : Nat) : (putS mk s r n).out.length + (putS mk s r n).marks.length = s.out.length + s.marks.length + 1 := by
  unfold putS
  split <;> simp <;> omega
theorem Good.next {mk : Int → Bool} {T : Tab} {b : List Int} {s s' : RS} (h : Good b s) (hs : s.pos < b.length) (hn : nextV mk T b s = .ok s') : Good b s' := by
  refine ⟨h.may.next hn, ?_, (nextV_pos hs hn).2⟩
  have hp := (nextV_pos hs hn).1
  have hf := h.fits
  unfold nextV at hn
  simp only at hn
  split at hn
  · split at hn
    · cases hn
    · injection hn with hn
      rw [← hn] at hp ⊢
      simp only at hp ⊢
      omega
  · split at hn
    · split at hn
      · cases hn
      · injection hn with hn
        rw [← hn] at hp ⊢
        rw [putS_len]
        omega
    · split at hn
      · cases hn
      · split at hn
        · cases hn
        · injection hn with hn
          rw [← hn] at hp ⊢
          rw [putS_len]
          omega
theorem Good.w64 {l : List Int} {s : RS} (h : Good l s) : W64 s.g0 ∧ W64 s.g1 := by
  obtain ⟨h1, h2, h3, h4⟩ := h.may
  exact ⟨⟨by omega, by omega⟩, by omega, by omega⟩
/-- Nothing is marked frozen beyond: the new reader. -/
theorem RA.start (wr : World) (xp bs : Value) (g0 g1 : Int) {W : World} (hW : W = wr.alloc (.cells #[xp, bs, .int .i64 0, .int .i64 g0, .int .i64 g1, .slice none 0 0, .slice none 0 0, .int .i64 0] 79)) :
    RA wr W wr.heap.size W.heap.size xp bs ⟨0, g0, g1, [], [], 0⟩ := by
  have hx : W.heap[wr.heap.size]? = some (.cells #[xp, bs, .int .i64 0, .int .i64 g0, .int .i64 g1, .slice none 0 0, .slice none 0 0, .int .i64 0] 79) := by rw [hW]; exact (MapKept.heap_alloc wr _).1
  refine ⟨⟨.slice none 0 0, .slice none 0 0, ⟨fun k v hk => ?_, fun k => ?_, (Array.getElem?_eq_some_iff.1 hx).1⟩, World.ownsRow_nil _ _ _ _, World.ownsRow_nil _ _ _ _, .inl rfl, fun g hg => by simp [Value.ownBlock] at hg, fun g hg => by simp [Value.ownBlock] at hg⟩, ?_⟩
  · simp only [World.cell?, hx]
    simpa [RV] using hk
  · simp [World.frozen?, hx]
  · rw [hW]; exact (Below.refl _ wr).alloc (Nat.le_refl _) _
theorem three (w : World) (x y : Int) : Cells2 (((w.alloc (.cells #[.int .i64 x, .int .i64 y] 53)).alloc (.cells #[.int .i64 0, .int .i64 0] 53)).alloc (.cells #[.int .i64 0, .int .i64 0] 26)) w.heap.size x y ∧
    Cells2 (((w.alloc (.cells #[.int .i64 x, .int .i64 y] 53)).alloc (.cells #[.int .i64 0, .int .i64 0] 53)).alloc (.cells #[.int .i64 0, .int .i64 0] 26)) (w.heap.size + 1) 0 0 ∧
    Cells2 (((w.alloc (.cells #[.int .i64 x, .int .i64 y] 53)).alloc (.cells #[.int .i64 0, .int .i64 0] 53)).alloc (.cells #[.int .i64 0, .int .i64 0] 26)) (w.heap.size + 1 + 1) 0 0 ∧
    Below w.heap.size w (((w.alloc (.cells #[.int .i64 x, .int .i64 y] 53)).alloc (.cells #[.int .i64 0, .int .i64 0] 53)).alloc (.cells #[.int .i64 0, .int .i64 0] 26)) := by
  have hn0 : ∀ (u : World) (o : Obj), (u.alloc o).heap[u.heap.size]? = some o := fun u o => (MapKept.heap_alloc u o).1
  have ho0 : ∀ (u : World) (o : Obj) (k : Nat), k < u.heap.size → (u.alloc o).heap[k]? = u.heap[k]? := fun u o k hk => (World.grownBy_alloc u o none).block k hk (by simp)
  have k0 := hn0 w (.cells #[.int .i64 x, .int .i64 y] 53)
  have k1 := hn0 (w.alloc (.cells #[.int .i64 x, .int .i64 y] 53)) (.cells #[.int .i64 0, .int .i64 0] 53)
  have k2 := hn0 ((w.alloc (.cells #[.int .i64 x, .int .i64 y] 53)).alloc (.cells #[.int .i64 0, .int .i64 0] 53)) (.cells #[.int .i64 0, .int .i64 0] 26)
  rw [World.size_alloc] at k1
  rw [World.size_alloc, World.size_alloc] at k2
  exact ⟨cells2_of _ ((ho0 _ _ _ (by simp; omega)).trans ((ho0 _ _ _ (by simp)).trans k0)), cells2_of _ ((ho0 _ _ _ (by simp)).trans k1), cells2_of _ k2, (((Below.refl _ w).alloc (Nat.le_refl _) _).alloc (by simp) _).alloc (by simp; omega) _⟩
def DecOk (w w' : World) : Step → Ending → Prop
  | .ok s, e => ∃ v, e = .returned (.tuple #[v, .agg #[.int .i64 s.g0, .int .i64 s.g1], .agg #[.int .i64 0, .int .i64 0]]) ∧ OwnR w' w.heap.size v s.out ∧ Below w.heap.size w w'
  | .bad c p, e => e = .returned (.tuple #[.slice none 0 0, .agg #[.int .i64 0, .int .i64 0], .agg #[.int .i64 c, .int .i64 p]]) ∧ Below w.heap.size w w'

set_option maxHeartbeats 8000000 in
set_option maxRecDepth 100000 in
theorem cDecodeNo (w : World) (a : Option Addr) (N cp : Nat) (g0 g1 : Int) (hm : mayV g0 g1 = false) :
    Calls Tryz.prog 17 #[.slice a N cp, .agg #[.int .i64 g0, .int .i64 g1]] w fun e w' => DecOk w w' (.bad 1 0) e := by
  have cM := fun X => cMay g0 g1 X
  rw [hm] at cM
  obtain ⟨k0, k1, k2, hw1⟩ := three w g0 g1
  obtain ⟨W1, hW1⟩ : ∃ W1, W1 = (((w.alloc (.cells #[.int .i64 g0, .int .i64 g1] 53)).alloc (.cells #[.int .i64 0, .int .i64 0] 53)).alloc (.cells #[.int .i64 0, .int .i64 0] 26)) := ⟨_, rfl⟩
  rw [← hW1] at k0 k1 k2 hw1
  have HM : Hid (Calls Tryz.prog 31 #[.agg #[.int .i64 g0, .int .i64 g1]] W1 fun e W' => e = .returned (.bool false) ∧ Cells2 W' (w.heap.size + 1) 0 0 ∧ Cells2 W' (w.heap.size + 1 + 1) 0 0 ∧ Aside (Below w.heap.size w W')) := by
    refine (cM W1).mono ?_
    rintro e W' ⟨rfl, hb⟩
    exact ⟨rfl, k1.below hb k1.lt, k2.below hb k2.lt, hw1.trans (hb.mono hw1.size)⟩
  have HF : Hid (∀ X, Cells2 X (w.heap.size + 1) 0 0 → Cells2 X (w.heap.size + 1 + 1) 0 0 → Aside (Below w.heap.size w X) → Calls Tryz.prog 19 #[.int .i64 1, .int .i64 0] X fun e W' => e = .returned (.agg #[.int .i64 1, .int .i64 0]) ∧ Cells2 W' (w.heap.size + 1) 0 0 ∧ Cells2 W' (w.heap.size + 1 + 1) 0 0 ∧ Aside (Below w.heap.size w W')) := by
    intro X x1 x2 hX
    refine (cFault 1 0 X).mono ?_
    rintro e W' ⟨rfl, hb⟩
    exact ⟨rfl, x1.below hb x1.lt, x2.below hb x2.lt, hX.out.trans (hb.mono hX.out.size)⟩
  clear k0 k1 k2 hw1 cM hm
  rw [hW1] at HM
  clear hW1
  go_enter Tryz.func17, Tryz.ntmps17
  go_wp2_with (first
    | (go_at_call 31; refine HM.out.mono ?_; rintro e w1 ⟨rfl, h1, h2, hA⟩; obtain ⟨z0, z1, zf0, zf1, zl⟩ := h1; obtain ⟨y0, y1, yf0, yf1, yl⟩ := h2; clear HM)
    | (go_at_call 19; refine (HF.out _ ⟨z0, z1, zf0, zf1, zl⟩ ⟨y0, y1, yf0, yf1, yl⟩ hA).mono ?_; rintro e w2 ⟨rfl, h1, h2, hB⟩; obtain ⟨u0, u1, uf0, uf1, ul⟩ := h1; obtain ⟨v0, v1, vf0, vf1, vl⟩ := h2; clear HF z0 z1 zf0 zf1 zl y0 y1 yf0 yf1 yl hA))
  refine bodyPost_ret (v := .tuple #[.slice none 0 0, .agg #[.int .i64 0, .int .i64 0], .agg #[.int .i64 1, .int .i64 0]]) ?_ rfl ⟨rfl, ?_⟩
  · simp [results, Tryz.results17, go_sem, u0, u1, ul, v0, v1, vl, uf0, uf1, vf0, vf1]
  · exact (((hB.out.setCell (p := ⟨w.heap.size + 1, 0, none⟩) (Nat.le_add_right w.heap.size 1) _).setCell (p := ⟨w.heap.size + 1, 1, none⟩) (Nat.le_add_right w.heap.size 1) _).setCell (p := ⟨w.heap.size + 1 + 1, 0, none⟩) (Nat.le_add_right w.heap.size 2) _).setCell (p := ⟨w.heap.size + 1 + 1, 1, none⟩) (Nat.le_add_right w.heap.size 2) _
end Go.Proofs.YtemhfcgkfdklhaaGreatDoor.Look
