/- slices.swapRangeCmpFunc at runes: two pieces of a row change places. -/
import Derived.Test.YtkadmnabhoijdaaDoorSwp
set_option linter.unusedVariables false
namespace Go.Proofs.YtkadmnabhoijdaaDoor.Look
open Go Go.RowKit Go.Shelf Go.Proofs Go.Lib Go.Sort
open Go.Proofs.YtkadmnabhoijdaaDoor.Stab

set_option maxHeartbeats 16000000 in
set_option maxRecDepth 1000000 in
theorem swapR (blk off cap a b n : Nat) (d0 d : Array Int) (w0 w : World) (fv : Value) (A U M V Q : List Int)
    (R : Row1 enc32 w0 blk off d0) (hs : d0.size = d.size) (S : SW enc32 w0 blk off d w) (hd : d.toList = A ++ U ++ M ++ V ++ Q) (hA : A.length = a) (hU : U.length = n) (hV : V.length = n) (hb : a + n + M.length = b) (hsz : d.size < 4611686018427387904) :
    Calls Tryd.prog 50 #[.slice (some ⟨blk, off, none⟩) d.size cap, .int .i64 a, .int .i64 b, .int .i64 n, fv] w fun e w' => e = .returned (.tuple #[]) ∧ ∃ T : Array Int, SW enc32 w0 blk off T w' ∧ T.size = d.size ∧ T.toList = A ++ V ++ M ++ U ++ Q := by
  have mixed : Tryd.prog.follows Departure.mixedOrders = true := by kernel_rfl
  have hlen : b + n ≤ d.size := by rw [← Array.length_toList, hd]; simp; omega
  have hcl0 := R.hO.cells
  simp only [Value.cells] at hcl0
  have hst := R.hO.store Tryd.prog
  have S0 : Aside (SW enc32 w0 blk off d w) := S
  have HD : Aside (d.toList = A ++ U ++ M ++ V ++ Q) := hd
  clear S hd
  go_enter Tryd.func50, Tryd.ntmps50
  go_wp2
  go_loopg [10] n (fun g1 vi wr => ∃ (i : Nat) (dk : Array Int) (U1 U2 V1 V2 : List Int), vi = .int .i64 i ∧ i ≤ n ∧ n - i ≤ g1 ∧ dk.size = d.size ∧ Aside (SW enc32 w0 blk off dk wr) ∧ Aside (U = U1 ++ U2 ∧ V = V1 ++ V2 ∧ U1.length = i ∧ V1.length = i ∧ dk.toList = A ++ V1 ++ U2 ++ M ++ U1 ++ V2 ++ Q))
  case atStart => exact ⟨0, d, [], U, [], V, by go_num, by omega, by omega, rfl, S0, ⟨rfl, rfl, rfl, rfl, by simpa using HD.out⟩⟩
  case round =>
    clear S0
    obtain ⟨i, dk, U1, U2, V1, V2, rfl, hin, hg1, hsk, SJ, HI⟩ := hrel
    by_cases hlt : i < n
    · have hltz : (i : Int) < (n : Int) := by omega
      have HX : Aside (∃ x y, dk[a + i]! = x ∧ dk[b + i]! = y ∧ ∃ U1 U2 V1 V2, U = U1 ++ U2 ∧ V = V1 ++ V2 ∧ U1.length = i + 1 ∧ V1.length = i + 1 ∧ (swp dk (a + i) (b + i)).toList = A ++ V1 ++ U2 ++ M ++ U1 ++ V2 ++ Q) := by
        obtain ⟨h1, h2, h3, h4, h5⟩ := HI.out
        cases U2 with
        | nil => rw [h1] at hU; simp at hU; omega
        | cons x U2 =>
          cases V2 with
          | nil => rw [h2] at hV; simp at hV; omega
          | cons y V2 =>
            have hl : U2.length + 1 + i = n := by rw [← hU, h1]; simp; omega
            have h6 : dk.toList = (A ++ V1) ++ x :: ((U2 ++ M ++ U1) ++ y :: (V2 ++ Q)) := by rw [h5]; simp
            have h7 := swp_list h6 (a + i) (b + i) (by simp; omega) (by simp; omega)
            exact ⟨_, _, rfl, rfl, U1 ++ [x], U2, V1 ++ [y], V2, by rw [h1]; simp, by rw [h2]; simp, by simp [h3], by simp [h4], by rw [h7]; simp⟩
      clear HI
      obtain ⟨x, hx⟩ : ∃ x, x = dk[a + i]! := ⟨_, rfl⟩
      obtain ⟨y, hy⟩ : ∃ x, x = dk[b + i]! := ⟨_, rfl⟩
      obtain ⟨iN, hiN⟩ : ∃ q, q = a + i := ⟨_, rfl⟩
      obtain ⟨jN, hjN⟩ : ∃ q, q = b + i := ⟨_, rfl⟩
      have ea : ((a : Int) + (i : Int)).toNat = iN := by omega
      have pa : (0 : Int) ≤ (a : Int) + (i : Int) := by omega
      have ba : (a : Int) + (i : Int) < (d.size : Int) := by omega
      have ra : IntKind.i64.wrap ((a : Int) + (i : Int)) = (a : Int) + (i : Int) := by rw [IntKind.wrap_i64]; omega
      have ec : ((b : Int) + (i : Int)).toNat = jN := by omega
      have pc : (0 : Int) ≤ (b : Int) + (i : Int) := by omega
      have bc : (b : Int) + (i : Int) < (d.size : Int) := by omega
      have rc : IntKind.i64.wrap ((b : Int) + (i : Int)) = (b : Int) + (i : Int) := by rw [IntKind.wrap_i64]; omega
      have S3 : Aside (SW enc32 w0 blk off (swp dk (a + i) (b + i)) ((wr.setCell ⟨blk, off + iN, none⟩ (enc32 y)).setCell ⟨blk, off + jN, none⟩ (enc32 x)).drew) := by rw [hiN, hjN, hx, hy]; exact SJ.out.swapped R (a + i) (b + i) (by omega) (by omega)
      have c3a := SJ.out.c1 R (by omega) (a + i) (by omega)
      have c3b := SJ.out.c1 R (by omega) (b + i) (by omega)
      have f3a := SJ.out.f1 R (by omega) (a + i) (by omega)
      have f3b := SJ.out.f1 R (by omega) (b + i) (by omega)
      obtain ⟨u3, c3c⟩ := SJ.out.c2 R (by omega) (a + i) (b + i) (by omega) (by omega) (enc32 y)
      rw [← hjN, ← hiN] at c3c
      rw [← hx, ← hiN] at c3a
      rw [← hy, ← hjN] at c3b
      rw [← hiN] at f3a
      rw [← hjN] at f3b
      clear SJ hx hy hiN hjN
      go_wp2_with fail
      go_big_region_o
      clear c3a c3b c3c f3a f3b
      generalize ((wr.setCell ⟨blk, off + iN, none⟩ (enc32 y)).setCell ⟨blk, off + jN, none⟩ (enc32 x)).drew = w3 at S3 ⊢
      clear ea ec
      go_wp2
      go_roundg (n - (i + 1))
      case measure => omega
      case rel =>
        obtain ⟨_, _, _, _, U1', U2', V1', V2', e1, e2, e3, e4, e5⟩ := HX.out
        exact ⟨i + 1, swp dk (a + i) (b + i), U1', U2', V1', V2', by first | rfl | go_num | (congr 1; omega), by omega, by omega, by rw [size_swp]; exact hsk, S3, ⟨e1, e2, e3, e4, e5⟩⟩
    · have hltz : ¬ (i : Int) < (n : Int) := by omega
      go_wp2
      go_end0
      refine ⟨rfl, dk, SJ.out, hsk, ?_⟩
      obtain ⟨h1, h2, h3, h4, h5⟩ := HI.out
      have e1 : U2 = [] := List.eq_nil_of_length_eq_zero (by rw [h1] at hU; simp at hU; omega)
      have e2 : V2 = [] := List.eq_nil_of_length_eq_zero (by rw [h2] at hV; simp at hV; omega)
      subst e1 e2
      rw [h5, h1, h2]
      simp
end Go.Proofs.YtkadmnabhoijdaaDoor.Look
