/- escape.Next at an escape. -/
import Derived.Test.YtemhfcgkfdklhaaGreatDoorEsc3
set_option linter.unusedVariables false
namespace Go.Proofs.YtemhfcgkfdklhaaGreatDoor.Look
open Go Go.RowKit Go.Shelf Go.Proofs Go.Proofs.YtemhfcgkfdklhaaGreatDoor.Rd

theorem RowB.drop {w : World} {b off k : Nat} {l : List Int} (h : RowB w (some ⟨b, off, none⟩) l) {E : Option Addr} (hE : l.drop k ≠ [] → E = some ⟨b, off + k, none⟩) : RowB w E (l.drop k) := fun hne => by
  have hl : l ≠ [] := fun e => by rw [e] at hne; simp at hne
  obtain ⟨b', off', e, h1, h2⟩ := h hl
  simp only [Option.some.injEq, Addr.mk.injEq, and_true] at e
  obtain ⟨rfl, rfl⟩ := e
  refine ⟨b, off + k, hE hne, h1, fun j x hx => ?_⟩
  rw [List.getElem?_drop] at hx
  rw [Nat.add_assoc]
  exact h2 _ x hx

/-- A variable of two numbers. -/
structure Cells2 (w : World) (b : Nat) (x y : Int) : Prop where
  c0 : w.cell? ⟨b, 0, none⟩ = some (.int .i64 x)
  c1 : w.cell? ⟨b, 1, none⟩ = some (.int .i64 y)
  f0 : w.frozen? ⟨b, 0, none⟩ = false
  f1 : w.frozen? ⟨b, 1, none⟩ = false
  lt : b < w.heap.size
theorem cells2_of {w : World} {b : Nat} {x y : Int} (t : TypeId) (h : w.heap[b]? = some (.cells #[.int .i64 x, .int .i64 y] t)) : Cells2 w b x y :=
  ⟨by simp [World.cell?, h], by simp [World.cell?, h], by simp [World.frozen?, h], by simp [World.frozen?, h], (Array.getElem?_eq_some_iff.1 h).1⟩
set_option maxHeartbeats 8000000 in
set_option maxRecDepth 100000 in
theorem cNextE (a : Option Addr) (cp k : Nat) (l : List Int) (g0 g1 : Int) (w : World) (hl : RowB w a l) (hcp : l.length ≤ cp) (hn : cp ≤ 9223372036854775807) (hn2 : l.length ≤ 2000000) (hk : l[k]? = some 27) :
    Calls Tryz.prog 46 #[.slice a l.length cp, .int .i64 k, .agg #[.int .i64 g0, .int .i64 g1]] w fun e w' => (e = if (parseV (l.drop (k + 1))).2.2 = 0 then .returned (.tuple #[.agg #[.int .i64 0, .int .i64 0], .int .i64 0, .agg #[.int .i64 5, .int .i64 k]])
      else .returned (.tuple #[.agg #[.int .i64 (if (parseV (l.drop (k + 1))).1 = 0 then (parseV (l.drop (k + 1))).2.1 else g0), .int .i64 (if (parseV (l.drop (k + 1))).1 = 0 then g1 else (parseV (l.drop (k + 1))).2.1)], .int .i64 ((parseV (l.drop (k + 1))).2.2 + 1), .agg #[.int .i64 0, .int .i64 0]])) ∧ Below w.heap.size w w' := by
  have hkl : k < l.length := (List.getElem?_eq_some_iff.1 hk).1
  obtain ⟨b, off, rfl, hb, hc⟩ := hl (fun e => by rw [e] at hkl; simp at hkl)
  have hc0 : w.cell? ⟨b, off + k, none⟩ = some (.int .u8 27) := hc k 27 hk
  have H1 : Hid (∀ W E cp', Below w.heap.size w W → (l.drop (k + 1) ≠ [] → E = some ⟨b, off + (k + 1), none⟩) → l.length - (k + 1) ≤ cp' → cp' ≤ cp → Calls Tryz.prog 65 #[.slice E (l.length - (k + 1)) cp'] W fun e w' => e = .returned (.tuple #[.int .i64 (parseV (l.drop (k + 1))).1, .int .i64 (parseV (l.drop (k + 1))).2.1, .int .i64 (parseV (l.drop (k + 1))).2.2]) ∧ Below W.heap.size W w') := fun W E cp' hW hE h1 h2 => by
    have := cParse E cp' (l.drop (k + 1)) W ((hl.below hW).drop hE) (by rw [List.length_drop]; exact h1) (by omega) (by rw [List.length_drop]; omega)
    rwa [List.length_drop] at this
  have HT : Aside (l.drop (k + 1) ≠ [] → k + 1 < l.length) := fun h => by
    have := List.length_pos_iff.2 h
    rw [List.length_drop] at this
    omega
  have hpl := parseV_le (l.drop (k + 1))
  rw [List.length_drop] at hpl
  obtain ⟨N, hN⟩ : ∃ N, N = l.length := ⟨_, rfl⟩
  rw [← hN] at H1 HT hcp hn2 hkl hpl ⊢
  generalize parseV (l.drop (k + 1)) = R at H1 hpl ⊢
  obtain ⟨sd, st, n⟩ := R
  simp only at H1 hpl ⊢
  have HP : Aside (0 ≤ n ∧ n ≤ 2000000) := ⟨hpl.1, by omega⟩
  have hcW : (((w.alloc (.cells #[.int .i64 g0, .int .i64 g1] 53)).alloc (.cells #[.int .i64 0, .int .i64 0] 53)).alloc (.cells #[.int .i64 0, .int .i64 0] 26)).cell? ⟨b, off + k, none⟩ = some (.int .u8 27) := by
    rw [World.cell?_alloc_lt _ _ _ (by simp; omega), World.cell?_alloc_lt _ _ _ (by simp; omega), World.cell?_alloc_lt _ _ _ hb]
    exact hc0
  have hbW : Below w.heap.size w (((w.alloc (.cells #[.int .i64 g0, .int .i64 g1] 53)).alloc (.cells #[.int .i64 0, .int .i64 0] 53)).alloc (.cells #[.int .i64 0, .int .i64 0] 26)) := (((Below.refl _ w).alloc (Nat.le_refl _) _).alloc (by simp) _).alloc (by simp; omega) _
  have HN2 : Aside (N - (k + 1) ≤ cp - (k + 1) ∧ cp - (k + 1) ≤ cp) := ⟨by omega, by omega⟩
  clear hpl hl hc hk hN hc0
  have hkz : (k : Int) < (N : Int) := by omega
  have hk0 : (0 : Int) ≤ (k : Int) := by omega
  have hkd : decide ((k : Int) < 0) = false := decide_eq_false (by omega)
  have hkd2 : decide (N ≤ k) = false := decide_eq_false (by omega)
  have hn0 : ∀ (u : World) (o : Obj), (u.alloc o).heap[u.heap.size]? = some o := fun u o => (MapKept.heap_alloc u o).1
  have ho0 : ∀ (u : World) (o : Obj) (k : Nat), k < u.heap.size → (u.alloc o).heap[k]? = u.heap[k]? := fun u o k hk => (World.grownBy_alloc u o none).block k hk (by simp)
  have C1 : Calls Tryz.prog 65 #[.slice (if cp = k + 1 then some ⟨b, off, none⟩ else some ⟨b, off + (k + 1), none⟩) (N - (k + 1)) (cp - (k + 1))] (((w.alloc (.cells #[.int .i64 g0, .int .i64 g1] 53)).alloc (.cells #[.int .i64 0, .int .i64 0] 53)).alloc (.cells #[.int .i64 0, .int .i64 0] 26)) fun e w' => e = .returned (.tuple #[.int .i64 sd, .int .i64 st, .int .i64 n]) ∧
      Aside (Below w.heap.size w w') ∧ Cells2 w' w.heap.size g0 g1 ∧ Cells2 w' (w.heap.size + 1) 0 0 ∧ Cells2 w' (w.heap.size + 1 + 1) 0 0 := by
    refine (H1.out _ _ _ hbW (fun ht => if_neg fun e => by have := HT.out ht; omega) HN2.out.1 HN2.out.2).mono ?_
    rintro e w' ⟨rfl, hb2⟩
    have k0 := hn0 w (.cells #[.int .i64 g0, .int .i64 g1] 53)
    have k1 := hn0 (w.alloc (.cells #[.int .i64 g0, .int .i64 g1] 53)) (.cells #[.int .i64 0, .int .i64 0] 53)
    have k2 := hn0 ((w.alloc (.cells #[.int .i64 g0, .int .i64 g1] 53)).alloc (.cells #[.int .i64 0, .int .i64 0] 53)) (.cells #[.int .i64 0, .int .i64 0] 26)
    rw [World.size_alloc] at k1
    rw [World.size_alloc, World.size_alloc] at k2
    refine ⟨rfl, hbW.trans (hb2.mono hbW.size), cells2_of _ ((hb2.block _ (by simp; omega)).trans ((ho0 _ _ _ (by simp; omega)).trans ((ho0 _ _ _ (by simp)).trans k0))), cells2_of _ ((hb2.block _ (by simp)).trans ((ho0 _ _ _ (by simp)).trans k1)), cells2_of _ ((hb2.block _ (by simp)).trans k2)⟩
  have HC := Lib.hid C1
  clear C1 H1 HT HN2 hn0 ho0 hbW
  by_cases hz : n = 0
  · subst hz
    rw [if_pos rfl]
    go_enter Tryz.func46, Tryz.ntmps46
    go_wp2_with (go_at_call 65; refine HC.out.mono ?_; rintro e w1 ⟨rfl, hb1, ⟨x00, x01, xf0, xf1, xl⟩, ⟨y00, y01, yf0, yf1, yl⟩, ⟨z00, z01, zf0, zf1, zl⟩⟩; clear HC)
    all_goals refine bodyPost_ret (v := .tuple #[.agg #[.int .i64 0, .int .i64 0], .int .i64 0, .agg #[.int .i64 5, .int .i64 k]]) ?_ rfl ⟨rfl, ?_⟩
    all_goals first | (simp [results, Tryz.results46, go_sem, x00, x01, y00, y01, z00, z01, xl, yl, zl]; done) | exact ((((hb1.out.setCell (p := ⟨w.heap.size + 1, 0, none⟩) (Nat.le_add_right w.heap.size 1) _).setCell (p := ⟨w.heap.size + 1, 1, none⟩) (Nat.le_add_right w.heap.size 1) _).setCell (p := ⟨w.heap.size + 1 + 1, 0, none⟩) (Nat.le_add_right w.heap.size 2) _).setCell (p := ⟨w.heap.size + 1 + 1, 1, none⟩) (Nat.le_add_right w.heap.size 2) _)
  · rw [if_neg hz]
    have hzb : (n == 0) = false := by simpa using hz
    obtain ⟨p1, p2⟩ := HP.out
    by_cases hs : sd = 0
    · subst hs
      rw [if_pos rfl, if_pos rfl]
      have HQ : Aside (0 ≤ n ∧ n ≤ 2000000) := ⟨p1, p2⟩
      clear p1 p2 HP
      go_enter Tryz.func46, Tryz.ntmps46
      go_wp2_with (go_at_call 65; refine HC.out.mono ?_; rintro e w1 ⟨rfl, hb1, ⟨x00, x01, xf0, xf1, xl⟩, ⟨y00, y01, yf0, yf1, yl⟩, ⟨z00, z01, zf0, zf1, zl⟩⟩; have p1 := HQ.out.1; have p2 := HQ.out.2; clear HC HQ)
      all_goals refine bodyPost_ret (v := .tuple #[.agg #[.int .i64 st, .int .i64 g1], .int .i64 (n + 1), .agg #[.int .i64 0, .int .i64 0]]) ?_ rfl ⟨rfl, ?_⟩
      all_goals first | (simp [results, Tryz.results46, go_sem, x00, x01, y00, y01, z00, z01, xl, yl, zl]; done) | exact (((((hb1.out.setCell (p := ⟨w.heap.size, 0, none⟩) (Nat.le_refl _) _).setCell (p := ⟨w.heap.size + 1, 0, none⟩) (Nat.le_add_right w.heap.size 1) _).setCell (p := ⟨w.heap.size + 1, 1, none⟩) (Nat.le_add_right w.heap.size 1) _).setCell (p := ⟨w.heap.size + 1 + 1, 0, none⟩) (Nat.le_add_right w.heap.size 2) _).setCell (p := ⟨w.heap.size + 1 + 1, 1, none⟩) (Nat.le_add_right w.heap.size 2) _)
    · rw [if_neg hs, if_neg hs]
      have hsb : (sd == 0) = false := by simpa using hs
      have HQ : Aside (0 ≤ n ∧ n ≤ 2000000) := ⟨p1, p2⟩
      clear p1 p2 HP
      go_enter Tryz.func46, Tryz.ntmps46
      go_wp2_with (go_at_call 65; refine HC.out.mono ?_; rintro e w1 ⟨rfl, hb1, ⟨x00, x01, xf0, xf1, xl⟩, ⟨y00, y01, yf0, yf1, yl⟩, ⟨z00, z01, zf0, zf1, zl⟩⟩; have p1 := HQ.out.1; have p2 := HQ.out.2; clear HC HQ)
      all_goals refine bodyPost_ret (v := .tuple #[.agg #[.int .i64 g0, .int .i64 st], .int .i64 (n + 1), .agg #[.int .i64 0, .int .i64 0]]) ?_ rfl ⟨rfl, ?_⟩
      all_goals first | (simp [results, Tryz.results46, go_sem, x00, x01, y00, y01, z00, z01, xl, yl, zl]; done) | exact (((((hb1.out.setCell (p := ⟨w.heap.size, 1, none⟩) (Nat.le_refl _) _).setCell (p := ⟨w.heap.size + 1, 0, none⟩) (Nat.le_add_right w.heap.size 1) _).setCell (p := ⟨w.heap.size + 1, 1, none⟩) (Nat.le_add_right w.heap.size 1) _).setCell (p := ⟨w.heap.size + 1 + 1, 0, none⟩) (Nat.le_add_right w.heap.size 2) _).setCell (p := ⟨w.heap.size + 1 + 1, 1, none⟩) (Nat.le_add_right w.heap.size 2) _)
end Go.Proofs.YtemhfcgkfdklhaaGreatDoor.Look
