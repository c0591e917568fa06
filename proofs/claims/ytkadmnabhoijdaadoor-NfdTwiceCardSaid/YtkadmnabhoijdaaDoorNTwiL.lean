/- NfdTwice, walked. -/
import Derived.Test.YtkadmnabhoijdaaDoorRSpl
import Derived.Test.YtkadmnabhoijdaaDoorNAns
set_option linter.unusedVariables false
namespace Go.Proofs.YtkadmnabhoijdaaDoor.Nfd
open Go Go.RowKit Go.Shelf Go.Proofs Go.Lib Go.Sort
open Go.Proofs.YtkadmnabhoijdaaDoor.Look Go.Proofs.YtkadmnabhoijdaaDoor.New

set_option maxHeartbeats 4000000 in
set_option maxRecDepth 100000 in
theorem rparts (r : Int) (w : World) (h : ¬ (44032 ≤ r ∧ r < 55204)) : Calls Tryd.prog 14 #[.int .i32 r] w fun e w' => e = .returned (.slice none 0 0) ∧ w = w' := by
  by_cases h1 : r < 44032
  · clear h
    go_enter Tryd.func14, Tryd.ntmps14
    go_wp2
    go_ret
    exact ⟨rfl, rfl⟩
  · have h2 : 55204 ≤ r := by omega
    clear h
    go_enter Tryd.func14, Tryd.ntmps14
    go_wp2
    go_ret
    exact ⟨rfl, rfl⟩

set_option maxHeartbeats 16000000 in
set_option maxRecDepth 1000000 in
theorem twiceLaw (v : Value) (l : List Int) (w : World) (hT : TabsN w) (h : SlN w v l) (hn : l.length ≤ 35184372087808) (hr : ∀ x ∈ l, -2147483648 ≤ x ∧ x ≤ 2147483647) :
    Calls Tryd.prog 5 #[v] w fun e w' => e = .returned (.bool true) ∧ Below w.heap.size w w' := by
  have cA0 := answersN w hT
  by_cases hbig : 300 < l.length
  · obtain ⟨a, c, rfl⟩ := h.len
    generalize l.length = N at *
    have hbz : (300 : Int) < (N : Int) := by omega
    clear hT h hr
    go_enter Tryd.func5, Tryd.ntmps5
    go_wp2_with (go_at_call 7; refine cA0.mono ?_; rintro e w1 ⟨rfl, hb⟩; clear cA0)
    go_ret
    exact ⟨rfl, hb⟩
  clear cA0
  obtain ⟨B, hB⟩ : ∃ B, B = nfdV l := ⟨_, rfl⟩
  have hBl := nfd_len l
  have hBr := nfd_range hr
  have hBa : ∀ e ∈ B, atom e := fun e he => nfd_atoms (by rw [← hB]; exact he)
  have hB2 : nfdV B = B := by rw [hB]; exact nfd_twice l
  rw [← hB] at hBl hBr
  have c1 : Calls Tryd.prog 12 #[v] w fun e w' => ∃ a c, e = .returned (.slice a B.length c) ∧ Aside (StR w w' (.slice a B.length c) B) := by
    refine (nfd v l w hT h (by omega) hr).mono ?_
    rintro e w' ⟨v', rfl, k1, k2⟩
    rw [← hB] at k1
    obtain ⟨a, c, rfl⟩ := k1.sln.len
    exact ⟨a, c, rfl, k1, k2⟩
  have cA : ∀ w2 y, StR w w2 y B → Calls Tryd.prog 7 #[] w2 fun e w' => e = .returned (.bool true) ∧ Aside (StR w w' y B) := fun w2 y hS => by
    refine (answersN w2 (hT.below hS.below)).mono ?_
    rintro e w' ⟨rfl, k⟩
    exact ⟨rfl, hS.go k⟩
  have c2 : ∀ w2 y, StR w w2 y B → Calls Tryd.prog 12 #[y] w2 fun e w' => ∃ z, e = .returned z ∧ Aside (StR w w' y B ∧ SlN w' z B) := fun w2 y hS => by
    refine (nfd y B w2 (hT.below hS.below) hS.row.sln (by omega) hBr).mono ?_
    rintro e w' ⟨z, rfl, k1, k2⟩
    rw [hB2] at k1
    exact ⟨z, rfl, hS.go k2, k1.sln⟩
  have c3 : ∀ w2 y z, StR w w2 y B ∧ SlN w2 z B → Calls Tryd.prog 9 #[z, y] w2 fun e w' => e = .returned (.bool true) ∧ Aside (StR w w' y B) := fun w2 y z hS => by
    refine (runesN z y B B w2 hS.2 hS.1.row.sln (by omega) (by omega)).mono ?_
    rintro e w' ⟨rfl, k⟩
    rw [decide_eq_true rfl]
    exact ⟨rfl, hS.1.go k⟩
  have c4 : ∀ w2 y, StR w w2 y B → Calls Tryd.prog 15 #[y] w2 fun e w' => e = .returned (.bool true) ∧ Below w.heap.size w w' := fun w2 y hS => by
    refine (nis y B w2 (hT.below hS.below) hS.row.sln (by omega) hBr).mono ?_
    rintro e w' ⟨rfl, k⟩
    rw [decide_eq_true hB2]
    exact ⟨rfl, (hS.go k).below⟩
  obtain ⟨a0, c0, hv⟩ := h.len
  subst hv
  obtain ⟨M, hM⟩ : ∃ M, M = B.length := ⟨_, rfl⟩
  obtain ⟨N, hN⟩ : ∃ N, N = l.length := ⟨_, rfl⟩
  have hNM : N ≤ M := by omega
  have hM2 : M ≤ 7200 := by omega
  have hNMz : (N : Int) ≤ (M : Int) := by omega
  have hbz : ¬ (300 : Int) < (N : Int) := by omega
  have HM : Aside (M = B.length) := hM
  have cell : ∀ w2 a c i, StR w w2 (.slice a M c) B → i < M → ∃ g x, a = some ⟨g, 0, none⟩ ∧ w2.cell? ⟨g, i, none⟩ = some (.int .i32 x) ∧ refN x = 0 ∧ ¬ (44032 ≤ x ∧ x < 55204) := fun w2 a c i hS hi => by
    have hO := hS.row
    obtain ⟨g, cap, e, _, hgl⟩ := hO.form (by omega)
    simp only [Value.slice.injEq] at e
    obtain ⟨rfl, _, rfl⟩ := e
    rw [hM] at hO
    obtain ⟨x, hx⟩ : ∃ x, B[i]? = some x := ⟨_, List.getElem?_eq_getElem (by omega)⟩
    have hat := hBa x (List.mem_of_getElem? hx)
    refine ⟨g, x, rfl, hO.cellAt hx, refN_atom hat, fun hh => hanV_some hh hat.1⟩
  simp only [← hM, ← hN] at c1 ⊢
  have Hc1 := Lib.hid c1
  have HcA := Lib.hid cA
  have Hc2 := Lib.hid c2
  have Hc3 := Lib.hid c3
  have Hc4 := Lib.hid c4
  have Hce := Lib.hid cell
  clear c1 cA c2 c3 c4 cell hBl hBr hBa hB2 hB hM hN hT h hr hn hbig hNM
  go_enter Tryd.func5, Tryd.ntmps5
  go_wp2_with (go_at_call 12; refine Hc1.out.mono ?_; rintro e w2 ⟨a, c, rfl, hS1⟩)
  go_loopg [4] M (fun g1 vi wr => ∃ (i : Nat), vi = .int .i64 i ∧ i ≤ M ∧ M - i ≤ g1 ∧ wr = w2)
  case atStart => exact ⟨0, rfl, by omega, by omega, rfl⟩
  case round =>
    obtain ⟨i, rfl, hi, hg1, rfl⟩ := hrel
    by_cases hlt : i < M
    · have hltz : (i : Int) < (M : Int) := by omega
      obtain ⟨g, x, rfl, hcell, hx1, hx2⟩ := Hce.out _ _ _ i hS1.out hlt
      have k1 := rsplit x wr
      rw [hx1] at k1
      have k2 := rparts x wr hx2
      clear hx1 hx2
      go_wp2_with (first | (go_at_call 13; refine k1.mono ?_; rintro e w3 ⟨p, q, rfl, rfl⟩; clear k1) | (go_at_call 14; refine k2.mono ?_; rintro e w3 ⟨rfl, rfl⟩; clear k2))
      go_roundg (M - (i + 1))
      case measure => omega
      case rel => exact ⟨i + 1, by first | rfl | go_num, by omega, by omega, rfl⟩
    · have hltz : ¬ (i : Int) < (M : Int) := by omega
      go_wp2_with (first
        | (go_at_call 15; refine (Hc4.out _ _ hS4.out).mono ?_; rintro e w6 ⟨rfl, hfin⟩; clear hS4)
        | (go_at_call 9; refine (Hc3.out _ _ _ hS3.out).mono ?_; rintro e w5 ⟨rfl, hS4⟩; clear hS3)
        | (go_at_call 12; refine (Hc2.out _ _ hS2.out).mono ?_; rintro e w4 ⟨z, rfl, hS3⟩; clear hS2)
        | (go_at_call 7; refine (HcA.out _ _ hS1.out).mono ?_; rintro e w3 ⟨rfl, hS2⟩; clear hS1))
      go_ret
      exact ⟨rfl, hfin⟩
/-- For the row. -/
theorem nfdTwiceW (v : Value) (l : List Int) {w : World} (h : SlN w v l) (hn : l.length ≤ 35184372087808) (hr : ∀ x ∈ l, -2147483648 ≤ x ∧ x ≤ 2147483647) (w' : World) (hT : TabsN w') (he : w = w' := by rfl) :
    Calls Tryd.prog 5 #[v] w' fun e w2 => e = .returned (.bool true) ∧ Below w'.heap.size w' w2 := by
  subst he
  exact twiceLaw v l w hT h hn hr
end Go.Proofs.YtkadmnabhoijdaaDoor.Nfd
