/- slices.rotateCmpFunc at runes: two neighbouring pieces of a row change places. -/
import Derived.Test.YtkadmnabhoijdaaDoorSwapR
set_option linter.unusedVariables false
namespace Go.Proofs.YtkadmnabhoijdaaDoor.Look
open Go Go.RowKit Go.Shelf Go.Proofs Go.Lib Go.Sort
open Go.Proofs.YtkadmnabhoijdaaDoor.Stab

theorem tk2 (j : Nat) (A U V Q : List Int) : A ++ U ++ V ++ Q = A ++ U.take j ++ U.drop j ++ V ++ Q := by
  rw [List.append_assoc A (U.take j), List.take_append_drop]
theorem tk3 (j : Nat) (A U V Q : List Int) : A ++ U ++ V ++ Q = A ++ U ++ V.take j ++ V.drop j ++ Q := by
  rw [List.append_assoc (A ++ U) (V.take j), List.take_append_drop]

set_option maxHeartbeats 16000000 in
set_option maxRecDepth 1000000 in
theorem rot (blk off cap a m b : Nat) (d0 d : Array Int) (w0 w : World) (fv : Value) (A U V Q : List Int)
    (R : Row1 enc32 w0 blk off d0) (hs : d0.size = d.size) (S : SW enc32 w0 blk off d w) (hd : d.toList = A ++ U ++ V ++ Q) (hA : A.length = a) (hU : a + U.length = m) (hV : m + V.length = b) (hu : a < m) (hv : m < b) (hsz : d.size < 4611686018427387904) :
    Calls Tryd.prog 39 #[.slice (some ⟨blk, off, none⟩) d.size cap, .int .i64 a, .int .i64 m, .int .i64 b, fv] w fun e w' => e = .returned (.tuple #[]) ∧ ∃ T : Array Int, SW enc32 w0 blk off T w' ∧ T.size = d.size ∧ T.toList = A ++ V ++ U ++ Q := by
  have hlen : b ≤ d.size := by rw [← Array.length_toList, hd]; simp; omega
  have S0 : Aside (SW enc32 w0 blk off d w) := S
  have HD : Aside (d.toList = A ++ U ++ V ++ Q ∧ A.length = a ∧ a + U.length = m ∧ m + V.length = b) := ⟨hd, hA, hU, hV⟩
  clear S hd hA hU hV
  -- one exchange, at the numbers that the program works out
  have HS : Aside (∀ (dk : Array Int) (wr : World) (x y z : Int) (A U M V Q : List Int), dk.size = d.size → SW enc32 w0 blk off dk wr → dk.toList = A ++ U ++ M ++ V ++ Q → (A.length : Int) = x → (U.length : Int) = z → (V.length : Int) = z → (A.length : Int) + U.length + M.length = y →
      Calls Tryd.prog 50 #[.slice (some ⟨blk, off, none⟩) d.size cap, .int .i64 x, .int .i64 y, .int .i64 z, fv] wr fun e w' => e = .returned (.tuple #[]) ∧ ∃ T : Array Int, SW enc32 w0 blk off T w' ∧ T.size = d.size ∧ T.toList = A ++ V ++ M ++ U ++ Q) := by
    intro dk wr x y z A U M V Q h1 h2 h3 h4 h5 h6 h7
    have := swapR blk off cap A.length (A.length + U.length + M.length) U.length d0 dk w0 wr fv A U M V Q R (by omega) h2 h3 rfl rfl (by omega) rfl (by omega)
    rw [h1] at this
    rw [← h4, ← h5, ← h7]
    simpa using this
  go_enter Tryd.func39, Tryd.ntmps39
  go_wp2
  go_loopg [10, 11] (b - a) (fun g1 vi vj wr => ∃ (i j : Nat) (dk : Array Int), vi = .int .i64 i ∧ vj = .int .i64 j ∧ 0 < i ∧ 0 < j ∧ i ≤ m ∧ m + j ≤ d.size ∧ i + j ≤ g1 ∧ dk.size = d.size ∧ Aside (SW enc32 w0 blk off dk wr) ∧ Aside (∃ A' U' V' Q', dk.toList = A' ++ U' ++ V' ++ Q' ∧ A'.length + i = m ∧ U'.length = i ∧ V'.length = j ∧ A' ++ V' ++ U' ++ Q' = A ++ V ++ U ++ Q))
  case atStart =>
    obtain ⟨h1, h2, h3, h4⟩ := HD.out
    exact ⟨m - a, b - m, d, by first | rfl | (congr 1; omega), by first | rfl | (congr 1; omega), by omega, by omega, by omega, by omega, by omega, rfl, S0, ⟨A, U, V, Q, h1, by omega, by omega, by omega, rfl⟩⟩
  case round =>
    clear S0 HD
    obtain ⟨i, j, dk, rfl, rfl, hi, hj, him, hjm, hg1, hsk, SJ, HI⟩ := hrel
    by_cases hij : j < i
    · have hijz : (j : Int) < (i : Int) := by omega
      have hne : ¬ (i : Int) = (j : Int) := by omega
      obtain ⟨A', U', V', Q', hI⟩ := HI.out
      clear HI
      have HI : Aside _ := hI
      clear hI
      have HC : Aside (Calls Tryd.prog 50 #[.slice (some ⟨blk, off, none⟩) d.size cap, .int .i64 ((m : Int) - (i : Int)), .int .i64 m, .int .i64 j, fv] wr fun e w' => e = .returned (.tuple #[]) ∧ ∃ T : Array Int, SW enc32 w0 blk off T w' ∧ T.size = d.size ∧ T.toList = A' ++ V' ++ U'.drop j ++ U'.take j ++ Q') := by
        obtain ⟨h1, h2, h3, h4, h5⟩ := HI.out
        exact HS.out dk wr _ _ _ A' (U'.take j) (U'.drop j) V' Q' hsk SJ.out (by rw [h1]; exact tk2 j A' U' V' Q') (by omega) (by simp; omega) (by omega) (by simp; omega)
      clear SJ
      go_wp2_with (go_at_call 50; refine HC.out.mono ?_; rintro e w2 ⟨rfl, T, S2', hT, hl'⟩; have S2 : Aside _ := S2'; have hl : Aside _ := hl'; clear S2' hl')
      go_roundg (i - j + j)
      case measure => omega
      case rel =>
        obtain ⟨h1, h2, h3, h4, h5⟩ := HI.out
        exact ⟨i - j, j, T, by first | rfl | (congr 1; omega), by first | rfl | (congr 1; omega), by omega, by omega, by omega, by omega, by omega, hT, S2, ⟨A' ++ V', U'.drop j, U'.take j, Q', hl.out, by simp; omega, by simp; omega, by simp; omega, by rw [← h5]; simp⟩⟩
    · by_cases hji : i < j
      · have hijz : ¬ (j : Int) < (i : Int) := by omega
        have hijz' : (i : Int) < (j : Int) := by omega
        have hne : ¬ (i : Int) = (j : Int) := by omega
        obtain ⟨A', U', V', Q', hI⟩ := HI.out
        clear HI
        have HI : Aside _ := hI
        clear hI
        have HC : Aside (Calls Tryd.prog 50 #[.slice (some ⟨blk, off, none⟩) d.size cap, .int .i64 ((m : Int) - (i : Int)), .int .i64 ((m : Int) + (j : Int) - (i : Int)), .int .i64 i, fv] wr fun e w' => e = .returned (.tuple #[]) ∧ ∃ T : Array Int, SW enc32 w0 blk off T w' ∧ T.size = d.size ∧ T.toList = A' ++ V'.drop (j - i) ++ V'.take (j - i) ++ U' ++ Q') := by
          obtain ⟨h1, h2, h3, h4, h5⟩ := HI.out
          exact HS.out dk wr _ _ _ A' U' (V'.take (j - i)) (V'.drop (j - i)) Q' hsk SJ.out (by rw [h1]; exact tk3 (j - i) A' U' V' Q') (by omega) (by omega) (by simp; omega) (by simp; omega)
        clear SJ
        go_wp2_with (go_at_call 50; refine HC.out.mono ?_; rintro e w2 ⟨rfl, T, S2', hT, hl'⟩; have S2 : Aside _ := S2'; have hl : Aside _ := hl'; clear S2' hl')
        go_roundg (i + (j - i))
        case measure => omega
        case rel =>
          obtain ⟨h1, h2, h3, h4, h5⟩ := HI.out
          exact ⟨i, j - i, T, by first | rfl | (congr 1; omega), by first | rfl | (congr 1; omega), by omega, by omega, by omega, by omega, by omega, hT, S2, ⟨A', V'.drop (j - i), V'.take (j - i), U' ++ Q', by rw [hl.out]; simp, by omega, by simp; omega, by simp; omega, by rw [← h5, ← List.append_assoc, List.append_assoc A' (V'.take (j - i)), List.take_append_drop]⟩⟩
      · obtain rfl : i = j := by omega
        obtain ⟨A', U', V', Q', hI⟩ := HI.out
        clear HI
        have HI : Aside _ := hI
        clear hI
        have HC : Aside (Calls Tryd.prog 50 #[.slice (some ⟨blk, off, none⟩) d.size cap, .int .i64 ((m : Int) - (i : Int)), .int .i64 m, .int .i64 i, fv] wr fun e w' => e = .returned (.tuple #[]) ∧ ∃ T : Array Int, SW enc32 w0 blk off T w' ∧ T.size = d.size ∧ T.toList = A' ++ V' ++ [] ++ U' ++ Q') := by
          obtain ⟨h1, h2, h3, h4, h5⟩ := HI.out
          exact HS.out dk wr _ _ _ A' U' [] V' Q' hsk SJ.out (by rw [h1]; simp) (by omega) (by omega) (by omega) (by simp; omega)
        clear SJ
        go_wp2_with (go_at_call 50; refine HC.out.mono ?_; rintro e w2 ⟨rfl, T, S2', hT, hl'⟩; have S2 : Aside _ := S2'; have hl : Aside _ := hl'; clear S2' hl')
        go_end0
        obtain ⟨h1, h2, h3, h4, h5⟩ := HI.out
        exact ⟨rfl, T, S2.out, hT, by rw [hl.out, ← h5]; simp⟩
end Go.Proofs.YtkadmnabhoijdaaDoor.Look
