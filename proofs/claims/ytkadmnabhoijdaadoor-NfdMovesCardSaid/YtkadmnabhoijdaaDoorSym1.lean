/- slices.symMergeCmpFunc at runes, one element ahead of many. -/
import Derived.Test.YtkadmnabhoijdaaDoorRot
set_option linter.unusedVariables false
namespace Go.Proofs.YtkadmnabhoijdaaDoor.Look
open Go Go.RowKit Go.Shelf Go.Proofs Go.Lib Go.Sort
open Go.Proofs.YtkadmnabhoijdaaDoor.Stab

theorem get_drop {V : List Int} {p : Nat} (h : p < V.length) : V = V.take p ++ V[p] :: V.drop (p + 1) := by
  rw [← List.drop_eq_getElem_cons h, List.take_append_drop]
theorem below_asc {V : List Int} {p : Nat} (hV : Asc kOf V) (h : p < V.length) {c : Int} (hc : kOf V[p] < c) : ∀ z ∈ V.take (p + 1), kOf z < c := by
  intro z hz
  rw [List.take_succ_eq_append_getElem h] at hz
  rcases List.mem_append.1 hz with hz | hz
  · have e := get_drop h
    have hV2 : Asc kOf (V.take p ++ V[p] :: V.drop (p + 1)) := e ▸ hV
    have := (List.pairwise_append.1 hV2).2.2 z hz V[p] (List.mem_cons_self ..)
    omega
  · simp at hz; rw [hz]; exact hc
theorem below_asc' {V : List Int} {p : Nat} (hV : Asc kOf V) (h : p < V.length) {c : Int} (hc : kOf V[p] ≤ c) : ∀ z ∈ V.take (p + 1), kOf z ≤ c := by
  intro z hz
  have := below_asc (c := c + 1) hV h (by omega) z hz
  omega
theorem above_asc {V : List Int} {p : Nat} (hV : Asc kOf V) (h : p < V.length) {c : Int} (hc : c ≤ kOf V[p]) : ∀ z ∈ V.drop p, c ≤ kOf z := by
  intro z hz
  rw [List.drop_eq_getElem_cons h] at hz
  rcases List.mem_cons.1 hz with hz | hz
  · rw [hz]; exact hc
  · have e := get_drop h
    rw [e] at hV
    have := (List.pairwise_cons.1 (List.pairwise_append.1 hV).2.1).1 z hz
    omega
theorem above_asc' {V : List Int} {p : Nat} (hV : Asc kOf V) (h : p < V.length) {c : Int} (hc : c < kOf V[p]) : ∀ z ∈ V.drop p, c < kOf z := by
  intro z hz
  have := above_asc (c := c + 1) hV h (by omega) z hz
  omega
theorem at_getElem {d : Array Int} {A V Q : List Int} {p q : Nat} (h : d.toList = A ++ V ++ Q) (hp : p < V.length) (hq : q = A.length + p) : d[q]! = V[p] := by
  have e := get_drop hp
  have e2 : d.toList = (A ++ V.take p) ++ V[p] :: (V.drop (p + 1) ++ Q) := by
    rw [h, List.append_assoc A (V.take p), ← List.cons_append, ← List.append_assoc (V.take p), ← e, List.append_assoc]
  rw [← at_list e2]
  congr 1
  simp
  omega

set_option maxHeartbeats 16000000 in
set_option maxRecDepth 1000000 in
theorem sym1 (blk off cap a m b : Nat) (d0 d : Array Int) (w0 w : World) (A V Q : List Int) (x : Int)
    (R : Row1 enc32 w0 blk off d0) (hs : d0.size = d.size) (S : SW enc32 w0 blk off d w) (hd : d.toList = A ++ x :: (V ++ Q)) (hA : A.length = a) (hV : a + 1 + V.length = b) (hb : a + 1 < b) (hm : m = a + 1) (hasc : Asc kOf V) (hsz : d.size < 4611686018427387904) :
    Calls Tryd.prog 30 #[.slice (some ⟨blk, off, none⟩) d.size cap, .int .i64 a, .int .i64 m, .int .i64 b, .func (.func 19) #[] #[]] w fun e w' => e = .returned (.tuple #[]) ∧ ∃ T : Array Int, SW enc32 w0 blk off T w' ∧ T.size = d.size ∧ ∃ S, IsMerge kOf [x] V S ∧ T.toList = A ++ S ++ Q := by
  have mixed : Tryd.prog.follows Departure.mixedOrders = true := by kernel_rfl
  have hlen : b ≤ d.size := by rw [← Array.length_toList, hd]; simp; omega
  have hcl0 := R.hO.cells
  simp only [Value.cells] at hcl0
  have hst := R.hO.store Tryd.prog
  have HC : Aside (CmpLays1 Tryd.prog 19 #[] enc32 cfO blk off d0.size w0) := cmpLays blk off d0.size w0
  have S0 : Aside (SW enc32 w0 blk off d w) := S
  have HD : Aside (d.toList = A ++ x :: (V ++ Q) ∧ A.length = a ∧ a + 1 + V.length = b) := ⟨hd, hA, hV⟩
  have HV : Aside (Asc kOf V) := hasc
  have HM : Aside (m = a + 1) := hm
  have hma : (m : Int) - (a : Int) = 1 := by omega
  clear S hd hA hV hasc hm
  go_enter Tryd.func30, Tryd.ntmps30
  go_wp2
  go_loopg [10, 11] (b - a) (fun g1 vi vj wr => ∃ (i j : Nat), vi = .int .i64 i ∧ vj = .int .i64 j ∧ a + 1 ≤ i ∧ i ≤ j ∧ j ≤ b ∧ j - i ≤ g1 ∧ Aside (SW enc32 w0 blk off d wr) ∧ Aside ((∀ z ∈ V.take (i - (a + 1)), kOf z < kOf x) ∧ ∀ z ∈ V.drop (j - (a + 1)), kOf x ≤ kOf z))
  case atStart =>
    have hm := HM.out
    exact ⟨a + 1, b, by first | rfl | go_num | (congr 1; omega), rfl, by omega, by omega, by omega, by omega, S0, ⟨by simp, by have := HD.out; rw [List.drop_eq_nil_of_le (by omega)]; simp⟩⟩
  case round =>
    clear S0
    obtain ⟨i, j, rfl, rfl, hi, hij, hjb, hg1, SJ, HI⟩ := hrel
    by_cases hlt : i < j
    · have hltz : (i : Int) < (j : Int) := by omega
      have hh1 : i ≤ (i + j) / 2 := by omega
      have hh2 : (i + j) / 2 < j := by omega
      obtain ⟨h, hh⟩ : ∃ q, q = (i + j) / 2 := ⟨_, rfl⟩
      rw [← hh] at hh1 hh2
      have eh : (((i : Int) + (j : Int)) / 2).toNat = h := by omega
      have ph : (0 : Int) ≤ ((i : Int) + (j : Int)) / 2 := by omega
      have bh : ((i : Int) + (j : Int)) / 2 < (d.size : Int) := by omega
      have pa : (a : Int) < (d.size : Int) := by omega
      have hp : h - (a + 1) < V.length := by have := HD.out; omega
      have HX : Aside (d[a]! = x ∧ d[h]! = V[h - (a + 1)]) := ⟨by have := at_list HD.out.1; rw [HD.out.2.1] at this; exact this, at_getElem (A := A ++ [x]) (Q := Q) (by rw [HD.out.1]; simp) hp (by have := HD.out; simp; omega)⟩
      obtain ⟨y, hy⟩ : ∃ y, y = V[h - (a + 1)] := ⟨_, rfl⟩
      rw [← hy] at HX
      have l1 := SJ.out.cl R (by omega) h (by omega)
      have l2 := SJ.out.cl R (by omega) a (by omega)
      rw [HX.out.2] at l1
      rw [HX.out.1] at l2
      have hc : ∀ n os, Calls Tryd.prog 19 #[enc32 y, enc32 x] (grow (wr.drewN n) os) fun e w' => e = .returned (.int .i64 (cfO y x)) ∧ ∃ q os', w' = grow ((grow (wr.drewN n) os).drewN q) os' := fun n os => SJ.out.cmp HC.out (by omega) y x n os
      have HE : Aside (h = (i + j) / 2) := hh
      have HY : Aside (y = V[h - (a + 1)]) := hy
      clear hh hy HX
      by_cases hlt2 : kOf y < kOf x
      · have hd2 : decide (cfO y x < 0) = true := decide_eq_true (by unfold cfO; omega)
        have hv2 : cfO y x < 0 := by unfold cfO; omega
        go_wp2_with fail
        go_quiet_grown (first | (go_at_call 19; refine Calls.grown_of (hc _ _)))
        have S2 : Aside (SW enc32 w0 blk off d (grow (wr.drewN nq) osq)) := SJ.out.grown nq osq
        clear l1 l2 hc SJ
        generalize grow (wr.drewN nq) osq = w2 at S2 ⊢
        clear nq osq
        go_wp2
        go_roundg (j - (h + 1))
        case measure => omega
        case rel =>
          exact ⟨h + 1, j, by first | rfl | go_num | (congr 1; have := HE.out; omega), rfl, by omega, by omega, by omega, by omega, S2, ⟨by rw [show h + 1 - (a + 1) = h - (a + 1) + 1 by omega]; exact below_asc HV.out hp (by rw [← HY.out]; exact hlt2), HI.out.2⟩⟩
      · have hd2 : decide (cfO y x < 0) = false := decide_eq_false (by unfold cfO; omega)
        have hv2 : ¬ cfO y x < 0 := by unfold cfO; omega
        go_wp2_with fail
        go_quiet_grown (first | (go_at_call 19; refine Calls.grown_of (hc _ _)))
        have S2 : Aside (SW enc32 w0 blk off d (grow (wr.drewN nq) osq)) := SJ.out.grown nq osq
        clear l1 l2 hc SJ
        generalize grow (wr.drewN nq) osq = w2 at S2 ⊢
        clear nq osq
        go_wp2
        go_roundg (h - i)
        case measure => omega
        case rel =>
          exact ⟨i, h, rfl, by first | rfl | go_num | (congr 1; have := HE.out; omega), by omega, by omega, by omega, by omega, S2, ⟨HI.out.1, above_asc HV.out hp (by rw [← HY.out]; omega)⟩⟩
    · obtain rfl : i = j := by omega
      have hnlt : ¬ (i : Int) < (i : Int) := by omega
      obtain ⟨ip, hip⟩ : ∃ q, q + 1 = i := ⟨i - 1, by omega⟩
      subst hip
      go_wp2
      go_loopg [13] (ip - a) (fun g1 vk wr => ∃ (k : Nat) (dk : Array Int), vk = .int .i64 k ∧ a ≤ k ∧ k ≤ ip ∧ ip - k ≤ g1 ∧ dk.size = d.size ∧ Aside (SW enc32 w0 blk off dk wr) ∧ Aside (∃ V1 V2, V = V1 ++ V2 ∧ V1.length = k - a ∧ dk.toList = A ++ V1 ++ x :: (V2 ++ Q)))
      case atStart => exact ⟨a, d, rfl, by omega, by omega, by omega, rfl, SJ, ⟨[], V, rfl, by simp, by simpa using HD.out.1⟩⟩
      case round =>
        clear SJ
        obtain ⟨k, dk, rfl, hak, hkp, hg2, hsk, SJ, HK⟩ := hrel
        by_cases hlt3 : k < ip
        · have hlt3z : (k : Int) < (ip : Int) := by omega
          have HX : Aside (∃ V1 V2, V = V1 ++ V2 ∧ V1.length = k + 1 - a ∧ (swp dk k (k + 1)).toList = A ++ V1 ++ x :: (V2 ++ Q)) := by
            obtain ⟨V1, V2, h1, h2, h3⟩ := HK.out
            have h4 := HD.out
            cases V2 with
            | nil => rw [h1] at h4; simp at h4; omega
            | cons y V2 =>
              have h5 : dk.toList = (A ++ V1) ++ x :: ([] ++ y :: (V2 ++ Q)) := by rw [h3]; simp
              have h6 := swp_list h5 k (k + 1) (by simp; omega) (by simp; omega)
              exact ⟨V1 ++ [y], V2, by rw [h1]; simp, by simp; omega, by rw [h6]; simp⟩
          clear HK
          obtain ⟨x', hx⟩ : ∃ x, x = dk[k]! := ⟨_, rfl⟩
          obtain ⟨y, hy⟩ : ∃ x, x = dk[k + 1]! := ⟨_, rfl⟩
          obtain ⟨kN, hkN⟩ : ∃ q, q = k + 1 := ⟨_, rfl⟩
          have ea : ((k : Int) + 1).toNat = kN := by omega
          have pa' : (0 : Int) ≤ (k : Int) + 1 := by omega
          have ba' : (k : Int) + 1 < (d.size : Int) := by omega
          have bk' : (k : Int) < (d.size : Int) := by omega
          have ra' : IntKind.i64.wrap ((k : Int) + 1) = (k : Int) + 1 := by rw [IntKind.wrap_i64]; omega
          have c3a := SJ.out.c1 R (by omega) k (by omega)
          have c3b := SJ.out.c1 R (by omega) (k + 1) (by omega)
          have f3a := SJ.out.f1 R (by omega) k (by omega)
          have f3b := SJ.out.f1 R (by omega) (k + 1) (by omega)
          obtain ⟨u3, c3c⟩ := SJ.out.c2 R (by omega) k (k + 1) (by omega) (by omega) (enc32 y)
          have S3 : Aside (SW enc32 w0 blk off (swp dk k (k + 1)) ((wr.setCell ⟨blk, off + k, none⟩ (enc32 y)).setCell ⟨blk, off + kN, none⟩ (enc32 x')).drew) := by rw [hkN, hx, hy]; exact SJ.out.swapped R k (k + 1) (by omega) (by omega)
          rw [← hkN] at c3c
          rw [← hx] at c3a
          rw [← hy, ← hkN] at c3b
          rw [← hkN] at f3b
          clear SJ hx hy hkN
          go_wp2_with fail
          go_big_region_o
          clear c3a c3b c3c f3a f3b
          generalize ((wr.setCell ⟨blk, off + k, none⟩ (enc32 y)).setCell ⟨blk, off + kN, none⟩ (enc32 x')).drew = w3 at S3 ⊢
          clear ea
          go_wp2
          go_roundg (ip - (k + 1))
          case measure => omega
          case rel =>
            exact ⟨k + 1, swp dk k (k + 1), by first | rfl | go_num, by omega, by omega, by omega, by rw [size_swp]; exact hsk, S3, HX⟩
        · obtain rfl : k = ip := by omega
          go_wp2
          ((try simp only [Exit.inBlock, Exit.then]); refine bodyPost_ret (results_none rfl _ _ _) rfl ?_)
          refine ⟨rfl, dk, SJ.out, hsk, ?_⟩
          obtain ⟨V1, V2, h1, h2, h3⟩ := HK.out
          obtain ⟨g1, g2⟩ := HI.out
          have e1 : V.take (k + 1 - (a + 1)) = V1 := by rw [h1, List.take_left' (by omega)]
          have e2 : V.drop (k + 1 - (a + 1)) = V2 := by rw [h1, List.drop_left' (by omega)]
          rw [e1] at g1
          rw [e2] at g2
          have hv := HV.out
          rw [h1] at hv
          exact ⟨V1 ++ x :: V2, by rw [h1]; exact IsMerge.first hv g1 g2, by rw [h3]; simp⟩
end Go.Proofs.YtkadmnabhoijdaaDoor.Look
