/- slices.symMergeCmpFunc in plain Lean: what the search finds parts both pieces well. -/
import Derived.Test.YtkadmnabhoijdaaDoorSym1
set_option linter.unusedVariables false
namespace Go.Proofs.YtkadmnabhoijdaaDoor.Look
open Go Go.RowKit Go.Shelf Go.Proofs Go.Lib Go.Sort
open Go.Proofs.YtkadmnabhoijdaaDoor.Stab

set_option maxHeartbeats 16000000 in
set_option maxRecDepth 1000000 in
theorem sym2 (blk off cap a m b : Nat) (d0 d : Array Int) (w0 w : World) (A U Q : List Int) (x : Int)
    (R : Row1 enc32 w0 blk off d0) (hs : d0.size = d.size) (S : SW enc32 w0 blk off d w) (hd : d.toList = A ++ U ++ x :: Q) (hA : A.length = a) (hU : a + U.length = m) (ham : a + 1 < m) (hb : b = m + 1) (hasc : Asc kOf U) (hsz : d.size < 4611686018427387904) :
    Calls Tryd.prog 30 #[.slice (some ⟨blk, off, none⟩) d.size cap, .int .i64 a, .int .i64 m, .int .i64 b, .func (.func 19) #[] #[]] w fun e w' => e = .returned (.tuple #[]) ∧ ∃ T : Array Int, SW enc32 w0 blk off T w' ∧ T.size = d.size ∧ ∃ S, IsMerge kOf U [x] S ∧ T.toList = A ++ S ++ Q := by
  have mixed : Tryd.prog.follows Departure.mixedOrders = true := by kernel_rfl
  have hlen : b ≤ d.size := by rw [← Array.length_toList, hd]; simp; omega
  have hcl0 := R.hO.cells
  simp only [Value.cells] at hcl0
  have hst := R.hO.store Tryd.prog
  have HC : Aside (CmpLays1 Tryd.prog 19 #[] enc32 cfO blk off d0.size w0) := cmpLays blk off d0.size w0
  have S0 : Aside (SW enc32 w0 blk off d w) := S
  have HD : Aside (d.toList = A ++ U ++ x :: Q ∧ A.length = a ∧ a + U.length = m) := ⟨hd, hA, hU⟩
  have HV : Aside (Asc kOf U) := hasc
  have HM : Aside (b = m + 1) := hb
  have hmb : (b : Int) - (m : Int) = 1 := by omega
  have hma : ¬ (m : Int) - (a : Int) = 1 := by omega
  have hmf : ((m : Int) - (a : Int) == 1) = false := by simpa using hma
  have hbd : b ≤ d.size := hlen
  clear S hd hA hU hasc hb
  go_enter Tryd.func30, Tryd.ntmps30
  go_wp2
  go_loopg [14, 15] (b - a) (fun g1 vi vj wr => ∃ (i j : Nat), vi = .int .i64 i ∧ vj = .int .i64 j ∧ a ≤ i ∧ i ≤ j ∧ j ≤ m ∧ j - i ≤ g1 ∧ Aside (SW enc32 w0 blk off d wr) ∧ Aside ((∀ z ∈ U.take (i - a), kOf z ≤ kOf x) ∧ ∀ z ∈ U.drop (j - a), kOf x < kOf z))
  case atStart =>
    have hm := HM.out
    exact ⟨a, m, rfl, rfl, by omega, by omega, by omega, by omega, S0, ⟨by simp, by have := HD.out; rw [List.drop_eq_nil_of_le (by omega)]; simp⟩⟩
  case round =>
    clear S0
    obtain ⟨i, j, rfl, rfl, hi, hij, hjb, hg1, SJ, HI⟩ := hrel
    have hmd : m < d.size := by have := HM.out; omega
    by_cases hlt : i < j
    · have hltz : (i : Int) < (j : Int) := by omega
      have hh1 : i ≤ (i + j) / 2 := by omega
      have hh2 : (i + j) / 2 < j := by omega
      obtain ⟨h, hh⟩ : ∃ q, q = (i + j) / 2 := ⟨_, rfl⟩
      rw [← hh] at hh1 hh2
      have eh : (((i : Int) + (j : Int)) / 2).toNat = h := by omega
      have ph : (0 : Int) ≤ ((i : Int) + (j : Int)) / 2 := by omega
      have bh : ((i : Int) + (j : Int)) / 2 < (d.size : Int) := by omega
      have pa : (m : Int) < (d.size : Int) := by omega
      have hp : h - a < U.length := by have := HD.out; omega
      have HX : Aside (d[m]! = x ∧ d[h]! = U[h - a]) := ⟨by have := at_list HD.out.1; rw [← this]; congr 1; have := HD.out; simp; omega, at_getElem (A := A) (Q := x :: Q) HD.out.1 hp (by have := HD.out; omega)⟩
      obtain ⟨y, hy⟩ : ∃ y, y = U[h - a] := ⟨_, rfl⟩
      rw [← hy] at HX
      have l1 := SJ.out.cl R (by omega) h (by omega)
      have l2 := SJ.out.cl R (by omega) m (by omega)
      rw [HX.out.2] at l1
      rw [HX.out.1] at l2
      have hc : ∀ n os, Calls Tryd.prog 19 #[enc32 x, enc32 y] (grow (wr.drewN n) os) fun e w' => e = .returned (.int .i64 (cfO x y)) ∧ ∃ q os', w' = grow ((grow (wr.drewN n) os).drewN q) os' := fun n os => SJ.out.cmp HC.out (by omega) x y n os
      have HE : Aside (h = (i + j) / 2) := hh
      have HY : Aside (y = U[h - a]) := hy
      clear hh hy HX
      by_cases hlt2 : kOf x < kOf y
      · have hd2 : decide (cfO x y < 0) = true := decide_eq_true (by unfold cfO; omega)
        have hv2 : cfO x y < 0 := by unfold cfO; omega
        go_wp2_with fail
        go_quiet_grown (first | (go_at_call 19; refine Calls.grown_of (hc _ _)))
        have S2 : Aside (SW enc32 w0 blk off d (grow (wr.drewN nq) osq)) := SJ.out.grown nq osq
        clear l1 l2 hc SJ
        generalize grow (wr.drewN nq) osq = w2 at S2 ⊢
        clear nq osq
        go_wp2
        go_roundg (h - i)
        case measure => omega
        case rel =>
          exact ⟨i, h, rfl, by first | rfl | go_num | (congr 1; have := HE.out; omega), by omega, by omega, by omega, by omega, S2, ⟨HI.out.1, above_asc' HV.out hp (by rw [← HY.out]; exact hlt2)⟩⟩
      · have hd2 : decide (cfO x y < 0) = false := decide_eq_false (by unfold cfO; omega)
        have hv2 : ¬ cfO x y < 0 := by unfold cfO; omega
        go_wp2_with fail
        go_quiet_grown (first | (go_at_call 19; refine Calls.grown_of (hc _ _)))
        have S2 : Aside (SW enc32 w0 blk off d (grow (wr.drewN nq) osq)) := SJ.out.grown nq osq
        clear l1 l2 hc SJ
        generalize grow (wr.drewN nq) osq = w2 at S2 ⊢
        clear nq osq
        go_wp2
        go_roundg (j - (h + 1))
        case measure => omega
        case rel =>
          exact ⟨h + 1, j, by first | rfl | go_num | (congr 1; have := HE.out; omega), rfl, by omega, by omega, by omega, by omega, S2, ⟨by rw [show h + 1 - a = h - a + 1 by omega]; exact below_asc' HV.out hp (by rw [← HY.out]; omega), HI.out.2⟩⟩
    · obtain rfl : i = j := by omega
      have hnlt : ¬ (i : Int) < (i : Int) := by omega
      go_wp2
      go_loopg [17] (m - i) (fun g1 vk wr => ∃ (k : Nat) (dk : Array Int), vk = .int .i64 k ∧ i ≤ k ∧ k ≤ m ∧ k - i ≤ g1 ∧ dk.size = d.size ∧ Aside (SW enc32 w0 blk off dk wr) ∧ Aside (∃ U1 U2, U = U1 ++ U2 ∧ U1.length = k - a ∧ dk.toList = A ++ U1 ++ x :: (U2 ++ Q)))
      case atStart => exact ⟨m, d, rfl, by omega, by omega, by omega, rfl, SJ, ⟨U, [], by simp, by have := HD.out; omega, by simpa using HD.out.1⟩⟩
      case round =>
        clear SJ
        obtain ⟨k, dk, rfl, hik, hkm, hg2, hsk, SJ, HK⟩ := hrel
        by_cases hlt3 : i < k
        · have hlt3z : (i : Int) < (k : Int) := by omega
          obtain ⟨kp, hkp⟩ : ∃ q, q + 1 = k := ⟨k - 1, by omega⟩
          have HX : Aside (∃ U1 U2, U = U1 ++ U2 ∧ U1.length = kp - a ∧ (swp dk k kp).toList = A ++ U1 ++ x :: (U2 ++ Q)) := by
            obtain ⟨U1, U2, h1, h2, h3⟩ := HK.out
            rcases snoc_cases U1 with e | ⟨s, z, e⟩
            · subst e; simp at h2; omega
            · subst e
              simp at h2
              have h4 := HD.out
              have h5 : dk.toList = (A ++ s) ++ z :: ([] ++ x :: (U2 ++ Q)) := by rw [h3]; simp
              have h6 := swp_list' h5 kp k (by simp; omega) (by simp; omega)
              exact ⟨s, z :: U2, by rw [h1]; simp, by omega, by rw [h6]; simp⟩
          clear HK
          obtain ⟨x', hx⟩ : ∃ x, x = dk[k]! := ⟨_, rfl⟩
          obtain ⟨y, hy⟩ : ∃ x, x = dk[kp]! := ⟨_, rfl⟩
          have ea : ((k : Int) - 1).toNat = kp := by omega
          have pa' : (0 : Int) ≤ (k : Int) - 1 := by omega
          have ba' : (k : Int) - 1 < (d.size : Int) := by omega
          have bk' : (k : Int) < (d.size : Int) := by omega
          have ra' : IntKind.i64.wrap ((k : Int) - 1) = (k : Int) - 1 := by rw [IntKind.wrap_i64]; omega
          have c3a := SJ.out.c1 R (by omega) k (by omega)
          have c3b := SJ.out.c1 R (by omega) kp (by omega)
          have f3a := SJ.out.f1 R (by omega) k (by omega)
          have f3b := SJ.out.f1 R (by omega) kp (by omega)
          obtain ⟨u3, c3c⟩ := SJ.out.c2 R (by omega) k kp (by omega) (by omega) (enc32 y)
          have S3 : Aside (SW enc32 w0 blk off (swp dk k kp) ((wr.setCell ⟨blk, off + k, none⟩ (enc32 y)).setCell ⟨blk, off + kp, none⟩ (enc32 x')).drew) := by rw [hx, hy]; exact SJ.out.swapped R k kp (by omega) (by omega)
          rw [← hx] at c3a
          rw [← hy] at c3b
          have HKP : Aside (kp + 1 = k) := hkp
          clear SJ hx hy hkp
          go_wp2_with fail
          go_big_region_o
          clear c3a c3b c3c f3a f3b
          generalize ((wr.setCell ⟨blk, off + k, none⟩ (enc32 y)).setCell ⟨blk, off + kp, none⟩ (enc32 x')).drew = w3 at S3 ⊢
          clear ea
          go_wp2
          have hkp := HKP.out
          go_roundg (kp - i)
          case measure => omega
          case rel =>
            exact ⟨kp, swp dk k kp, by first | rfl | go_num | (congr 1; omega), by omega, by omega, by omega, by rw [size_swp]; exact hsk, S3, HX⟩
        · obtain rfl : i = k := by omega
          go_wp2
          ((try simp only [Exit.inBlock, Exit.then]); refine bodyPost_ret (results_none rfl _ _ _) rfl ?_)
          refine ⟨rfl, dk, SJ.out, hsk, ?_⟩
          obtain ⟨U1, U2, h1, h2, h3⟩ := HK.out
          obtain ⟨g1, g2⟩ := HI.out
          have e1 : U.take (i - a) = U1 := by rw [h1, List.take_left' (by omega)]
          have e2 : U.drop (i - a) = U2 := by rw [h1, List.drop_left' (by omega)]
          rw [e1] at g1
          rw [e2] at g2
          have hv := HV.out
          rw [h1] at hv
          exact ⟨U1 ++ x :: U2, by rw [h1]; exact IsMerge.last hv g1 g2, by rw [h3]; simp⟩
end Go.Proofs.YtkadmnabhoijdaaDoor.Look
set_option linter.unusedVariables false
namespace Go.Proofs.YtkadmnabhoijdaaDoor.Look
open Go Go.RowKit Go.Shelf Go.Proofs Go.Lib Go.Sort
open Go.Proofs.YtkadmnabhoijdaaDoor.Stab

/-- What a merge of two neighbouring pieces says. -/
def SymAt (a m b : Nat) : Prop := ∀ (blk off cap : Nat) (d0 d : Array Int) (w0 w : World) (A U V Q : List Int),
    Row1 enc32 w0 blk off d0 → d0.size = d.size → SW enc32 w0 blk off d w → d.toList = A ++ U ++ V ++ Q → A.length = a → a + U.length = m → m + V.length = b → Asc kOf U → Asc kOf V → d.size < 4611686018427387904 →
    Calls Tryd.prog 30 #[.slice (some ⟨blk, off, none⟩) d.size cap, .int .i64 a, .int .i64 m, .int .i64 b, .func (.func 19) #[] #[]] w fun e w' => e = .returned (.tuple #[]) ∧ ∃ T : Array Int, SW enc32 w0 blk off T w' ∧ T.size = d.size ∧ ∃ S, IsMerge kOf U V S ∧ T.toList = A ++ S ++ Q

theorem split_ok {d : Array Int} {A U V Q : List Int} {a m b mid s e lo hi : Nat} (hd : d.toList = A ++ U ++ V ++ Q) (hA : A.length = a) (hU : a + U.length = m) (hV : m + V.length = b) (hu : Asc kOf U) (hv : Asc kOf V)
    (he : e + s = mid + m) (h1 : a ≤ lo) (h2 : lo ≤ s) (h3 : s ≤ hi) (h4 : hi ≤ m) (h5 : hi ≤ mid) (h6 : mid + m ≤ b + lo) (hlo : lo = a ∨ mid + m = b + lo) (hhi : hi = m ∨ hi = mid)
    (hL : lo < s → kOf d[s - 1]! ≤ kOf d[mid + m - 1 - (s - 1)]!) (hR : s < hi → kOf d[mid + m - 1 - s]! < kOf d[s]!) :
    (∀ x ∈ U.drop (s - a), ∀ y ∈ V.take (e - m), kOf y < kOf x) ∧ (∀ x ∈ U.take (s - a), ∀ y ∈ V.drop (e - m), kOf x ≤ kOf y) := by
  have hdV : d.toList = (A ++ U) ++ V ++ Q := hd
  have hdU : d.toList = A ++ U ++ (V ++ Q) := by rw [hd]; simp
  constructor
  · intro x hx y hy
    by_cases hs : s < hi
    · have hp : s - a < U.length := by omega
      have hq : e - 1 - m < V.length := by omega
      have e1 : d[s]! = U[s - a] := at_getElem hdU hp (by omega)
      have e2 : d[mid + m - 1 - s]! = V[e - 1 - m] := at_getElem hdV hq (by simp; omega)
      have hr := hR hs
      rw [e1, e2] at hr
      have hy' : y ∈ V.take (e - 1 - m + 1) := by rw [show e - 1 - m + 1 = e - m by omega]; exact hy
      have g1 := below_asc hv hq hr y hy'
      have g2 := above_asc hu hp (Int.le_refl _) x hx
      omega
    · rcases hhi with h | h
      · rw [List.drop_eq_nil_of_le (by omega)] at hx; simp at hx
      · rw [show e - m = 0 by omega] at hy; simp at hy
  · intro x hx y hy
    by_cases hs : lo < s
    · by_cases heb : e < b
      · have hp : s - 1 - a < U.length := by omega
        have hq : e - m < V.length := by omega
        have e1 : d[s - 1]! = U[s - 1 - a] := at_getElem hdU hp (by omega)
        have e2 : d[mid + m - 1 - (s - 1)]! = V[e - m] := at_getElem hdV hq (by simp; omega)
        have hr := hL hs
        rw [e1, e2] at hr
        have hx' : x ∈ U.take (s - 1 - a + 1) := by rw [show s - 1 - a + 1 = s - a by omega]; exact hx
        have g1 := below_asc' hu hp (Int.le_refl _) x hx'
        have g2 := above_asc hv hq (Int.le_refl _) y hy
        omega
      · rw [List.drop_eq_nil_of_le (by omega)] at hy; simp at hy
    · rcases hlo with h | h
      · rw [show s - a = 0 by omega] at hx; simp at hx
      · rw [List.drop_eq_nil_of_le (by omega)] at hy; simp at hy
end Go.Proofs.YtkadmnabhoijdaaDoor.Look
