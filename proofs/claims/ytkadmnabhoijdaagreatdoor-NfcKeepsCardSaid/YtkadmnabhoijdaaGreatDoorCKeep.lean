/- NfcKeeps, walked. -/
import Derived.Test.YtkadmnabhoijdaaGreatDoorCAns
set_option linter.unusedVariables false
namespace Go.Proofs.YtkadmnabhoijdaaGreatDoor.Nfd
open Go Go.RowKit Go.Shelf Go.Proofs Go.Lib Go.Sort
open Go.Proofs.YtkadmnabhoijdaaGreatDoor.Look Go.Proofs.YtkadmnabhoijdaaGreatDoor.New

/-- A row that is written over. -/
structure KAt (w0 wr : World) (base : Nat) (a : Option Addr) (M c : Nat) : Prop where
  below : Below base w0 wr
  row : ∃ L : List Int, L.length = M ∧ OwnR wr base (.slice a M c) L
theorem KAt.cell {w0 wr : World} {base : Nat} {a : Option Addr} {M c i : Nat} (h : KAt w0 wr base a M c) (hi : i < M) : ∃ g u, a = some ⟨g, 0, none⟩ ∧ wr.cell? ⟨g, i, none⟩ = some u ∧ wr.frozen? ⟨g, i, none⟩ = false ∧ g < wr.heap.size ∧ ∀ z : Int, KAt w0 (wr.setCell ⟨g, i, none⟩ (.int .i32 z)) base a M c := by
  obtain ⟨hb, L, hL, hO⟩ := h
  subst hL
  obtain ⟨g, cap, e, hg1, hg2⟩ := hO.form (by omega)
  simp only [Value.slice.injEq] at e
  obtain ⟨rfl, _, rfl⟩ := e
  obtain ⟨x, hx⟩ : ∃ x, L[i]? = some x := ⟨_, List.getElem?_eq_getElem hi⟩
  refine ⟨g, _, rfl, hO.cellAt hx, World.ownsRow.frozenAt hO i, hg2, fun z => ⟨hb.setCell (p := ⟨g, i, none⟩) hg1 _, L.set i z, by simp, ?_⟩⟩
  have := (World.ownsRow.stored hO i (.int .i32 z)).1
  unfold OwnR
  rw [List.length_set, List.map_set]
  exact this

set_option maxHeartbeats 16000000 in
set_option maxRecDepth 1000000 in
theorem keepsLaw (v : Value) (l : List Int) (w : World) (hT : TabsN w) (h : SlN w v l) (hn : l.length ≤ 35184372087808) (hr : ∀ x ∈ l, -2147483648 ≤ x ∧ x ≤ 2147483647) :
    Calls Tryz.prog 4 #[v] w fun e w' => e = .returned (.bool true) ∧ Below w.heap.size w w' := by
  have cA0 := answersC w hT
  by_cases hbig : 100 < l.length
  · obtain ⟨a, c, rfl⟩ := h.len
    generalize l.length = N at *
    have hbz : (100 : Int) < (N : Int) := by omega
    clear hT h hr
    go_enter Tryz.func4, Tryz.ntmps4
    go_wp2_with (go_at_call 6; refine cA0.mono ?_; rintro e w1 ⟨rfl, hb⟩; clear cA0)
    go_ret
    exact ⟨rfl, hb⟩
  clear cA0
  have hCl := nfc_len hr
  have hDl := (nfd_len l).2
  have hW0 : Below w.heap.size w (w.alloc (.cells #[] 21)) := (Below.refl _ w).alloc (Nat.le_refl _) _
  have hV0 : SlN (w.alloc (.cells #[] 21)) v l := h.below hW0
  have c1 : ∀ w1 vi, OwnR w1 w.heap.size vi l → Below w.heap.size w w1 → Calls Tryz.prog 8 #[vi] w1 fun e w' => ∃ a c, e = .returned (.slice a (nfcV l).length c) ∧ Aside (KAt w1 w' w1.heap.size a (nfcV l).length c) := fun w1 vi h1 hb => by
    refine (nfc vi l w1 (hT.below hb) h1.sln (by omega) hr).mono ?_
    rintro e w' ⟨v', rfl, k1, k2⟩
    obtain ⟨a, c, rfl⟩ := k1.sln.len
    exact ⟨a, c, rfl, k2, _, rfl, k1⟩
  have c2 : ∀ w1 w2 vi a M c, OwnR w1 w.heap.size vi l → Below w.heap.size w w1 → KAt w1 w2 w1.heap.size a M c → Calls Tryz.prog 12 #[vi] w2 fun e w' => ∃ a c, e = .returned (.slice a (nfdV l).length c) ∧ Aside (OwnR w2 w.heap.size vi l ∧ Below w.heap.size w w2 ∧ KAt w2 w' w2.heap.size a (nfdV l).length c) := fun w1 w2 vi a M c h1 hb hK => by
    have hb2 : Below w.heap.size w w2 := hb.trans (hK.below.mono hb.size)
    have h2 : OwnR w2 w.heap.size vi l := h1.below hK.below
    refine (nfd vi l w2 (hT.below hb2) h2.sln (by omega) hr).mono ?_
    rintro e w' ⟨v', rfl, k1, k2⟩
    obtain ⟨a, c, rfl⟩ := k1.sln.len
    exact ⟨a, c, rfl, h2, hb2, k2, _, rfl, k1⟩
  have cA : ∀ w2 w3 vi a M c, (OwnR w2 w.heap.size vi l ∧ Below w.heap.size w w2) → KAt w2 w3 w2.heap.size a M c → Calls Tryz.prog 6 #[] w3 fun e w' => e = .returned (.bool true) ∧ Aside (StR w w' vi l) := fun w2 w3 vi a M c h1 hK => by
    have hb3 : Below w.heap.size w w3 := h1.2.trans (hK.below.mono h1.2.size)
    have hS : StR w w3 vi l := ⟨h1.1.below hK.below, hb3⟩
    refine (answersC w3 (hT.below hb3)).mono ?_
    rintro e w' ⟨rfl, k⟩
    exact ⟨rfl, hS.go k⟩
  have cR : ∀ w2 vi, StR w w2 vi l → Calls Tryz.prog 7 #[vi, v] w2 fun e w' => e = .returned (.bool true) ∧ Aside (StR w w' vi l) := fun w2 vi hS => by
    refine (runesN vi v l l w2 hS.row.sln (h.below hS.below) (by omega) (by omega)).mono ?_
    rintro e w' ⟨rfl, k⟩
    rw [decide_eq_true rfl]
    exact ⟨rfl, hS.go k⟩
  have cS : ∀ w2 vi, StR w w2 vi l → Calls Tryz.prog 9 #[vi, v] w2 fun e w' => e = .returned (.bool true) ∧ Below w.heap.size w w' := fun w2 vi hS => by
    refine (csame vi v l l w2 (hT.below hS.below) hS.row.sln (h.below hS.below) (by omega) (by omega) hr hr).mono ?_
    rintro e w' ⟨rfl, k⟩
    rw [decide_eq_true rfl]
    exact ⟨rfl, (hS.go k).below⟩
  obtain ⟨a0, c0, hv⟩ := h.len
  subst hv
  obtain ⟨M, hM⟩ : ∃ M, M = (nfcV l).length := ⟨_, rfl⟩
  obtain ⟨D, hD⟩ : ∃ M, M = (nfdV l).length := ⟨_, rfl⟩
  obtain ⟨N, hN⟩ : ∃ N, N = l.length := ⟨_, rfl⟩
  have hMm : M ≤ 2400 := by omega
  have hDm : D ≤ 2400 := by omega
  have hbz : ¬ (100 : Int) < (N : Int) := by omega
  have HN : Aside (N = l.length ∧ N ≤ 100) := ⟨hN, by omega⟩
  simp only [← hM, ← hD, ← hN] at c1 c2 cR cS hV0 ⊢
  have H1 := Lib.hid c1
  have H2 := Lib.hid c2
  have HA := Lib.hid cA
  have HR := Lib.hid cR
  have HS := Lib.hid cS
  clear c1 c2 cA cR cS hCl hDl hM hD hN hT h hr hn hbig
  go_enter Tryz.func4, Tryz.ntmps4
  go_wp2_with (first
    | (go_at_call 8; refine (H1.out _ _ ho1 hb1).mono ?_; rintro e w2 ⟨a, c, rfl, hK⟩)
    | (at_builtin; refine append_sln rfl _ _ rfl w.heap.size _ [] rfl (OwnR.made w _ (Nat.le_refl _)) _ l rfl hV0 (by have := HN.out; simp; omega) (by simp) ?_; intro vi w1 ho1' hg1 hb1'; have ho1 : OwnR w1 w.heap.size vi l := (by simpa using ho1'); have hb1 : Below w.heap.size w w1 := hW0.trans hb1'; clear hg1 hb1' ho1'))
  go_loopg [5] M (fun g1 vi wr => ∃ (i : Nat), vi = .int .i64 i ∧ i ≤ M ∧ M - i ≤ g1 ∧ Aside (KAt w1 wr w1.heap.size a M c))
  case atStart => exact ⟨0, rfl, by omega, by omega, hK⟩
  case round =>
    clear hK
    obtain ⟨i, rfl, hi, hg1, hK⟩ := hrel
    by_cases hlt : i < M
    · have hltz : (i : Int) < (M : Int) := by omega
      obtain ⟨g, u, rfl, k1, k2, k3, k4⟩ := hK.out.cell hlt
      have hK2 : Aside (KAt w1 (wr.setCell ⟨g, i, none⟩ (.int .i32 113)) w1.heap.size (some ⟨g, 0, none⟩) M c) := k4 113
      clear k4 hK
      go_wp2
      go_roundg (M - (i + 1))
      case measure => omega
      case rel => exact ⟨i + 1, by first | rfl | go_num, by omega, by omega, hK2⟩
    · have hltz : ¬ (i : Int) < (M : Int) := by omega
      go_wp2_with (go_at_call 12; refine (H2.out _ _ _ _ _ _ ho1 hb1 hK.out).mono ?_; rintro e w3 ⟨a3, c3, rfl, hK3⟩)
      have hP : Aside (OwnR wr w.heap.size vi l ∧ Below w.heap.size w wr) := ⟨hK3.out.1, hK3.out.2.1⟩
      have hQ : Aside (KAt wr w3 wr.heap.size a3 D c3) := hK3.out.2.2
      clear hK3
      go_loopg [7] D (fun g1 vi w4 => ∃ (j : Nat), vi = .int .i64 j ∧ j ≤ D ∧ D - j ≤ g1 ∧ Aside (KAt wr w4 wr.heap.size a3 D c3))
      case atStart => exact ⟨0, rfl, by omega, by omega, hQ⟩
      case round =>
        clear hQ
        obtain ⟨j, rfl, hj, hg2, hQ⟩ := hrel
        rename_i w4 _ _ _
        by_cases hlt2 : j < D
        · have hltz2 : (j : Int) < (D : Int) := by omega
          obtain ⟨g, u, rfl, k1, k2, k3, k4⟩ := hQ.out.cell hlt2
          have hQ2 := Lib.hid (k4 113)
          clear k4 hQ
          go_wp2
          go_roundg (D - (j + 1))
          case measure => omega
          case rel => exact ⟨j + 1, by first | rfl | go_num, by omega, by omega, hQ2.out⟩
        · have hltz2 : ¬ (j : Int) < (D : Int) := by omega
          go_wp2_with (first
            | (go_at_call 9; refine (HS.out _ _ hS2.out).mono ?_; rintro e w7 ⟨rfl, hfin⟩)
            | (go_at_call 7; refine (HR.out _ _ hS1.out).mono ?_; rintro e w6 ⟨rfl, hS2⟩; clear hS1)
            | (go_at_call 6; refine (HA.out _ _ _ _ _ _ hP.out hQ.out).mono ?_; rintro e w5 ⟨rfl, hS1⟩))
          go_ret
          exact ⟨rfl, hfin⟩
/-- For the row. -/
theorem nfcKeepsW (v : Value) (l : List Int) {w : World} (h : SlN w v l) (hn : l.length ≤ 35184372087808) (hr : ∀ x ∈ l, -2147483648 ≤ x ∧ x ≤ 2147483647) (w' : World) (hT : TabsN w') (he : w = w' := by rfl) :
    Calls Tryz.prog 4 #[v] w' fun e w2 => e = .returned (.bool true) ∧ Below w'.heap.size w' w2 := by
  subst he
  exact keepsLaw v l w hT h hn hr
end Go.Proofs.YtkadmnabhoijdaaGreatDoor.Nfd
