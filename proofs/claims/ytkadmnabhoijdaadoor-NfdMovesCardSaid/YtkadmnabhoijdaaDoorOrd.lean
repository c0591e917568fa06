/- nfd.Order: each run of marks, stably sorted. -/
import Derived.Test.YtkadmnabhoijdaaDoorClone
set_option linter.unusedVariables false
namespace Go.Proofs.YtkadmnabhoijdaaDoor.Look
open Go Go.RowKit Go.Shelf Go.Proofs Go.Lib Go.Sort
open Go.Proofs.YtkadmnabhoijdaaDoor.Stab

def orderA (acc : List Int) : List Int → List Int
  | [] => sortK kOf acc
  | y :: r => if 0 < kOf y then orderA (acc ++ [y]) r else sortK kOf acc ++ y :: orderA [] r
/-- Each run of marks sorted. -/
def orderV (l : List Int) : List Int := orderA [] l
theorem orderA_run : ∀ (U acc R : List Int), (∀ x ∈ U, 0 < kOf x) → orderA acc (U ++ R) = orderA (acc ++ U) R
  | [], acc, R, h => by simp
  | x :: U, acc, R, h => by
    show orderA acc (x :: (U ++ R)) = _
    rw [orderA, if_pos (h x (by simp)), orderA_run U _ R (fun y hy => h y (by simp [hy]))]
    simp
theorem RowL.at {w : World} {b : Nat} {A Q : List Int} {x : Int} (h : RowL w b (A ++ x :: Q)) : w.cell? ⟨b, A.length, none⟩ = some (enc32 x) := by
  have := (h.1 A.length (by simp)).1
  rw [toArray_at _ _ (by simp), Nat.zero_add] at this
  rw [this]
  simp
theorem RowL.grown {w : World} {b : Nat} {l : List Int} (h : RowL w b l) (q : Nat) (os : Array Obj) : RowL (grow (w.drewN q) os) b l := by
  refine ⟨fun j hj => ?_, by rw [size_grow]; exact Nat.lt_of_lt_of_le h.2 (Nat.le_add_right _ _)⟩
  have h0 := h.1 j hj
  exact ⟨by rw [cell?_grow _ _ _ (by exact h.2)]; exact h0.1, by rw [frozen?_grow _ _ _ (by exact h.2)]; exact h0.2⟩
theorem below_grown {w : World} (q : Nat) (os : Array Obj) (B : Nat) (hB : B ≤ w.heap.size) : Below B w (grow (w.drewN q) os) :=
  ⟨rfl, rfl, rfl, by rw [size_grow]; exact Nat.le_add_right _ _, fun k hk => by rw [heap_grow_old _ _ (by exact Nat.lt_of_lt_of_le hk hB)]; rfl⟩

/-- How far the walk has come. -/
def OrdAt (B b c : Nat) (l : List Int) (w wr : World) (i : Nat) : Prop :=
  Below B w wr ∧ Shp wr b c ∧ ((∃ Z R, RowL wr b (Z ++ R) ∧ Z.length = i ∧ i + R.length = l.length ∧ orderV l = Z ++ orderV R) ∨ (i = l.length + 1 ∧ RowL wr b (orderV l)))

set_option maxHeartbeats 16000000 in
set_option maxRecDepth 1000000 in
theorem ord (v : Value) (l : List Int) (w : World) (h : SlV w v l) (hn : l.length ≤ 1000000000000) :
    Calls Tryd.prog 8 #[v] w fun e w' => ∃ b c, e = .returned (.slice (some ⟨b, 0, none⟩) l.length c) ∧ w.heap.size ≤ b ∧ RowL w' b (orderV l) ∧ Below w.heap.size w w' ∧ l.length ≤ c ∧ c ≤ maxLen ∧ Shp w' b c := by
  have hcl := clone v l w h hn
  have HM : Aside (∀ (x : Int) (w : World), Calls Tryd.prog 17 #[.int .i32 x] w fun e w' => e = .returned (.bool (decide (0 < kOf x))) ∧ ∃ q os, w' = grow (w.drewN q) os) := mark
  have HS : Aside (∀ (b cap : Nat) (A U Q : List Int) (w : World), RowL w b (A ++ U ++ Q) → U.length < 1152921504606846976 →
    Calls Tryd.prog 18 #[.slice (some ⟨b, A.length, none⟩) U.length cap, .func (.func 19) #[] #[]] w fun e w' => e = .returned (.tuple #[]) ∧ RowL w' b (A ++ sortK kOf U ++ Q) ∧ Below b w w' ∧ ∀ c, Shp w b c → Shp w' b c) := sortS
  clear h
  obtain ⟨N, hN⟩ : ∃ N, N = l.length := ⟨_, rfl⟩
  rw [← hN] at hn
  simp only [← hN] at hcl ⊢
  have HN : Aside (N = l.length) := hN
  clear hN
  go_enter Tryd.func8, Tryd.ntmps8
  go_wp2_with (go_at_call 16; refine hcl.mono ?_; rintro e w1 ⟨b, c, rfl, hb', hrow', hbw', hc1, hc2, hsh'⟩; have hsh : Aside (Shp w1 b c) := hsh'; have hcc : Aside (N ≤ c ∧ c ≤ maxLen) := ⟨hc1, hc2⟩; have hb : Aside (w.heap.size ≤ b) := hb'; have hrow : Aside (RowL w1 b l) := hrow'; have hbw : Aside (Below w.heap.size w w1) := hbw'; clear hb' hrow' hbw' hcl hsh')
  have O0 : Aside (OrdAt w.heap.size b c l w w1 0) := ⟨hbw.out, hsh.out, .inl ⟨[], l, by simpa using hrow.out, rfl, by simp, by simp⟩⟩
  clear hrow hbw hsh
  go_loopg [4] (N + 1) (fun g1 vi wr => ∃ (i : Nat), vi = .int .i64 i ∧ i ≤ N + 1 ∧ N + 1 - i ≤ g1 ∧ Aside (OrdAt w.heap.size b c l w wr i))
  case atStart => exact ⟨0, rfl, by omega, by omega, O0⟩
  case round =>
    clear O0
    obtain ⟨i, rfl, hi, hg1, OI⟩ := hrel
    by_cases hlt : i < N
    · have hltz : (i : Int) < (N : Int) := by omega
      have OZ : Aside (∃ Z R, (Below w.heap.size w wr ∧ Shp wr b c) ∧ RowL wr b (Z ++ R) ∧ Z.length = i ∧ i + R.length = l.length ∧ orderV l = Z ++ orderV R) := by
        obtain ⟨h1, h1s, ⟨Z, R, h2, h3, h4, h5⟩ | ⟨h2, h3⟩⟩ := OI.out
        · exact ⟨Z, R, ⟨h1, h1s⟩, h2, h3, h4, h5⟩
        · have := HN.out; omega
      clear OI
      obtain ⟨Z, R, hZR⟩ := OZ.out
      have HZ : Aside (Z.length = i ∧ i + R.length = l.length ∧ orderV l = Z ++ orderV R) := hZR.2.2
      have hstart : Aside ((Below w.heap.size w wr ∧ Shp wr b c) ∧ RowL wr b (Z ++ R) ∧ ∃ U R2, R = U ++ R2 ∧ U.length = 0 ∧ ∀ x ∈ U, 0 < kOf x) := ⟨hZR.1, hZR.2.1, [], R, rfl, rfl, by simp⟩
      clear OZ hZR
      go_wp2
      go_loopg [5] N (fun g2 vn wr => ∃ (n : Nat), vn = .int .i64 n ∧ i + n ≤ N ∧ N - n ≤ g2 ∧ Aside ((Below w.heap.size w wr ∧ Shp wr b c) ∧ RowL wr b (Z ++ R) ∧ ∃ U R2, R = U ++ R2 ∧ U.length = n ∧ ∀ x ∈ U, 0 < kOf x))
      case atStart => exact ⟨0, rfl, by omega, by omega, hstart⟩
      case round =>
        clear hstart
        obtain ⟨n, rfl, hin, hg2, HU⟩ := hrel
        obtain ⟨U, R2, hUR⟩ := HU.out.2.2
        have HL : Aside (R = U ++ R2 ∧ U.length = n ∧ ∀ x ∈ U, 0 < kOf x) := hUR
        have HW : Aside ((Below w.heap.size w wr ∧ Shp wr b c) ∧ RowL wr b (Z ++ R)) := ⟨HU.out.1, HU.out.2.1⟩
        clear hUR HU
        -- what happens when the run is at its end
        have HE : Aside (∀ wx, (Below w.heap.size w wx ∧ Shp wx b c) → RowL wx b (Z ++ R) → (R2 = [] ∨ ∃ y r, R2 = y :: r ∧ ¬ 0 < kOf y) →
            Calls Tryd.prog 18 #[.slice (some ⟨b, i, none⟩) n (c - i), .func (.func 19) #[] #[]] wx fun e w' => e = .returned (.tuple #[]) ∧ Aside (OrdAt w.heap.size b c l w w' (i + (n + 1)))) := by
          intro wx hb1 hr1 hend
          obtain ⟨h1, h2, h3⟩ := HL.out
          obtain ⟨g1, g2, g3⟩ := HZ.out
          have := HS.out b (c - i) Z U R2 wx (by rw [List.append_assoc, ← h1]; exact hr1) (by have := HN.out; omega)
          rw [g1, h2] at this
          refine this.mono ?_
          rintro e w' ⟨rfl, k1, k2, k3⟩
          refine ⟨rfl, hb1.1.trans ⟨k2.os, k2.tape, k2.output, k2.size, fun k hk => k2.block k (Nat.lt_of_lt_of_le hk hb.out)⟩, k3 _ hb1.2, ?_⟩
          have hov : orderV R = orderA U R2 := by rw [h1]; unfold orderV; rw [orderA_run _ _ _ h3]; rfl
          rcases hend with rfl | ⟨y, r, rfl, hy⟩
          · rw [List.append_nil] at h1 k1
            refine .inr ⟨by rw [h1] at g2; omega, ?_⟩
            rw [g3, hov]
            exact k1
          · refine .inl ⟨Z ++ sortK kOf U ++ [y], r, by simpa using k1, by simp [sortK_len]; omega, by rw [h1] at g2; simp at g2; omega, ?_⟩
            rw [g3, hov, orderA, if_neg hy]
            simp [orderV]
        by_cases hnn : i + n < N
        · have hnz : (i : Int) + (n : Int) < (N : Int) := by omega
          have HY : Aside (∃ y r, R2 = y :: r ∧ wr.cell? ⟨b, i + n, none⟩ = some (enc32 y)) := by
            obtain ⟨h1, h2, h3⟩ := HL.out
            obtain ⟨g1, g2, g3⟩ := HZ.out
            cases hR2 : R2 with
            | nil => rw [hR2] at h1; rw [h1] at g2; simp at g2; have := HN.out; omega
            | cons y r =>
              have := RowL.at (A := Z ++ U) (Q := r) (x := y) (by have := HW.out.2; rw [h1, hR2] at this; simpa using this)
              rw [List.length_append, g1, h2] at this
              exact ⟨y, r, rfl, this⟩
          obtain ⟨y, r, hR2, hcell⟩ := HY.out
          have HR2 : Aside (R2 = y :: r) := hR2
          clear hR2 HY
          have en : ((i : Int) + (n : Int)).toNat = i + n := by omega
          have hmk := HM.out y
          by_cases hy : 0 < kOf y
          · have hmk2 : ∀ w, Calls Tryd.prog 17 #[enc32 y] w fun e w' => e = .returned (.bool true) ∧ ∃ q os, w' = grow (w.drewN q) os := fun w => by
              have := HM.out y w
              rw [decide_eq_true hy] at this
              exact this
            clear hmk HE
            go_wp2_with (go_at_call 17; refine (hmk2 _).mono ?_; rintro e wm ⟨rfl, q, os, rfl⟩)
            go_roundg (N - (n + 1))
            case measure => omega
            case rel =>
              refine ⟨n + 1, by first | rfl | go_num, by omega, by omega, ⟨⟨HW.out.1.1.trans (below_grown q os _ HW.out.1.1.size), HW.out.1.2.grown q os⟩, HW.out.2.grown q os, U ++ [y], r, by rw [HL.out.1, HR2.out]; simp, by simp [HL.out.2.1], fun x hx => ?_⟩⟩
              rcases List.mem_append.1 hx with hx | hx
              · exact HL.out.2.2 x hx
              · simp at hx; rw [hx]; exact hy
          · have hmk2 : ∀ w, Calls Tryd.prog 17 #[enc32 y] w fun e w' => e = .returned (.bool false) ∧ ∃ q os, w' = grow (w.drewN q) os := fun w => by
              have := HM.out y w
              rw [decide_eq_false hy] at this
              exact this
            have HC : Aside (∀ q os, Calls Tryd.prog 18 #[.slice (some ⟨b, i, none⟩) n (c - i), .func (.func 19) #[] #[]] (grow (wr.drewN q) os) fun e w' => e = .returned (.tuple #[]) ∧ Aside (OrdAt w.heap.size b c l w w' (i + (n + 1)))) := fun q os => HE.out _ ⟨HW.out.1.1.trans (below_grown q os _ HW.out.1.1.size), HW.out.1.2.grown q os⟩ (HW.out.2.grown q os) (.inr ⟨y, r, HR2.out, hy⟩)
            clear hmk HE
            go_wp2_with (first | (go_at_call 17; refine (hmk2 _).mono ?_; rintro e wm ⟨rfl, q, os, rfl⟩) | (go_at_call 18; refine (HC.out _ _).mono ?_; rintro e ws ⟨rfl, hO⟩))
            go_roundg (N + 1 - (i + (n + 1)))
            case measure => omega
            case rel => exact ⟨i + (n + 1), by first | rfl | go_num | (congr 1; omega), by omega, by omega, hO⟩
        · have hnz : ¬ (i : Int) + (n : Int) < (N : Int) := by omega
          have HC : Aside (Calls Tryd.prog 18 #[.slice (some ⟨b, i, none⟩) n (c - i), .func (.func 19) #[] #[]] wr fun e w' => e = .returned (.tuple #[]) ∧ Aside (OrdAt w.heap.size b c l w w' (i + (n + 1)))) := HE.out _ HW.out.1 HW.out.2 (.inl (by
            obtain ⟨h1, h2, h3⟩ := HL.out
            obtain ⟨g1, g2, g3⟩ := HZ.out
            rw [h1] at g2
            simp at g2
            exact List.eq_nil_of_length_eq_zero (by have := HN.out; omega)))
          clear HE
          go_wp2_with (go_at_call 18; refine HC.out.mono ?_; rintro e ws ⟨rfl, hO⟩)
          go_roundg (N + 1 - (i + (n + 1)))
          case measure => omega
          case rel => exact ⟨i + (n + 1), by first | rfl | go_num | (congr 1; omega), by omega, by omega, hO⟩
    · have hltz : ¬ (i : Int) < (N : Int) := by omega
      go_wp2
      go_ret
      refine ⟨b, c, rfl, hb.out, ?_, OI.out.1, hcc.out.1, hcc.out.2, OI.out.2.1⟩
      obtain ⟨h1, h1s, ⟨Z, R, h2, h3, h4, h5⟩ | ⟨h2, h3⟩⟩ := OI.out
      · have : R = [] := List.eq_nil_of_length_eq_zero (by have := HN.out; omega)
        subst this
        rw [h5]
        exact h2
      · exact h3
end Go.Proofs.YtkadmnabhoijdaaDoor.Look
