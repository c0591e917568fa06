/- nfc.NFC, nfc.Is, nfc.Same. -/
import Derived.Test.YtkadmnabhoijdaaGreatDoorNfcA
set_option linter.unusedVariables false
namespace Go.Proofs.YtkadmnabhoijdaaGreatDoor.Nfd
open Go Go.RowKit Go.Shelf Go.Proofs Go.Lib Go.Sort
open Go.Proofs.YtkadmnabhoijdaaGreatDoor.Look Go.Proofs.YtkadmnabhoijdaaGreatDoor.New

theorem compV_len : ∀ (l : List Int) (s : List Int × Int × Int), (l.foldl addS s).1.length ≤ s.1.length + l.length
  | [], s => by simp
  | r :: l, s => by
    have h := compV_len l (addS s r)
    have h1 : (addS s r).1.length ≤ s.1.length + 1 := by
      unfold addS addV
      split
      · split
        · simp
        · split <;> simp
      · split <;> simp
    simp only [List.foldl_cons, List.length_cons]
    omega
/-- The text that is put together on the way. -/
def compTo (D : List Int) (i : Nat) : List Int × Int × Int := (D.take i).foldl addS ([], -1, -1)
/-- How far the walk has come. -/
structure NfcAt (w wr : World) (jb tb cap av : Nat) (D : List Int) (v1 : Value) (i : Nat) : Prop where
  j : JAt wr jb tb cap av (compTo D i)
  row : (∃ c, v1 = .slice (some ⟨av, 0, none⟩) D.length c ∧ ∀ j x, D[j]? = some x → wr.cell? ⟨av, j, none⟩ = some (.int .i32 x)) ∨ (v1 = .slice none 0 0 ∧ D = [])
  below : Below w.heap.size w wr
  avl : av < wr.heap.size
  avj : av ≠ jb
  jbl : w.heap.size ≤ jb

set_option maxHeartbeats 8000000 in
set_option maxRecDepth 1000000 in
/-- nfc.NFC. -/
theorem nfc (v : Value) (l : List Int) (w : World) (hT : TabsN w) (h : SlN w v l) (hn : l.length ≤ 1000000000) (hr : ∀ x ∈ l, -2147483648 ≤ x ∧ x ≤ 2147483647) :
    Calls Tryz.prog 8 #[v] w fun e w' => ∃ v', e = .returned v' ∧ OwnR w' w.heap.size v' (nfcV l) ∧ Below w.heap.size w w' := by
  obtain ⟨D, hD⟩ : ∃ D, D = nfdV l := ⟨_, rfl⟩
  have hDl := nfd_len l
  have hDr := nfd_range hr
  rw [← hD] at hDl hDr
  have c1 : Calls Tryz.prog 14 #[] w fun e w1 => ∃ tb cap, e = .returned (.slice (some ⟨tb, 0, none⟩) 572 cap) ∧ Aside (w.heap.size ≤ tb ∧ RowAt tableT w1 tb ∧ Below w.heap.size w w1) := by
    refine (newT w hT).mono ?_
    rintro e w1 ⟨b, cap, rfl, h1, h2, h3, h4⟩
    exact ⟨b, cap, rfl, h1, ⟨h2, h3⟩, h4⟩
  have c2 : ∀ w1 tb cap, w.heap.size ≤ tb ∧ RowAt tableT w1 tb ∧ Below w.heap.size w w1 → Calls Tryz.prog 12 #[v] (w1.alloc (.cells #[.slice (some ⟨tb, 0, none⟩) 572 cap, .slice none 0 0, .int .i64 (-1), .int .i64 (-1)] 35)) fun e w' => ∃ a c, e = .returned (.slice a D.length c) ∧ Aside (∃ av, NfcAt w w' w1.heap.size tb cap av D (.slice a D.length c) 0) := fun w1 tb cap ⟨h1, h2, h3⟩ => by
    obtain ⟨W, hW⟩ : ∃ W, W = w1.alloc (.cells #[.slice (some ⟨tb, 0, none⟩) 572 cap, .slice none 0 0, .int .i64 (-1), .int .i64 (-1)] 35) := ⟨_, rfl⟩
    have hb : Below w.heap.size w W := by rw [hW]; exact h3.alloc h3.size _
    have hsz : W.heap.size = w1.heap.size + 1 := by rw [hW]; simp
    have hJ : JC W w1.heap.size (.slice (some ⟨tb, 0, none⟩) 572 cap) (.slice none 0 0) (.int .i64 (-1)) (.int .i64 (-1)) := by
      have hn : W.heap[w1.heap.size]? = some (.cells #[.slice (some ⟨tb, 0, none⟩) 572 cap, .slice none 0 0, .int .i64 (-1), .int .i64 (-1)] 35) := by rw [hW]; exact World.alloc_heap_new w1 _
      exact ⟨by omega, by simp [World.cell?, hn], by simp [World.cell?, hn], by simp [World.cell?, hn], by simp [World.cell?, hn], fun k => by simp [World.frozen?, hn]⟩
    have hT2 : RowAt tableT W tb := by rw [hW]; exact h2.below ((Below.refl _ w1).alloc (Nat.le_refl _) _)
    rw [← hW]
    refine (nfd v l W (hT.below hb) (h.below hb) hn hr).mono ?_
    rintro e w' ⟨v', rfl, k1, k2⟩
    rw [← hD] at k1
    have hbw : Below w.heap.size w w' := hb.trans (k2.mono hb.size)
    have hjl : w1.heap.size < W.heap.size := by omega
    have htl := h2.lt
    have hJ2 := hJ.below k2 hjl
    have mk : ∀ av, JAt w' w1.heap.size tb cap av ([], -1, -1) := fun av => ⟨⟨.slice none 0 0, by simp [Value.ownBlock], hJ2, World.ownsRow_nil _ _ _ _⟩, hT2.below k2, htl, by simp [OkS]⟩
    have hw1 : w.heap.size ≤ w1.heap.size := h3.size
    rcases k1.2 with ⟨e1, e2⟩ | ⟨g, cp, cur, e1, e2, e3, _⟩
    · have hD0 : D = [] := List.eq_nil_of_length_eq_zero e2
      subst hD0 e1
      exact ⟨none, 0, rfl, tb, mk tb, .inr ⟨rfl, rfl⟩, hbw, by have := k2.size; omega, by omega, hw1⟩
    · subst e1
      exact ⟨_, _, rfl, g, mk g, .inl ⟨cp, rfl, fun j x hx => k1.cellAt hx⟩, hbw, (Array.getElem?_eq_some_iff.1 e3).1, by omega, hw1⟩
  have step : ∀ wr jb tb cap av v1 i x, NfcAt w wr jb tb cap av D v1 i → D[i]? = some x → Calls Tryz.prog 15 #[.pointer (some ⟨jb, 0, none⟩), .int .i32 x] wr fun e w' => e = .returned (.tuple #[]) ∧ Aside (NfcAt w w' jb tb cap av D v1 (i + 1)) := fun wr jb tb cap av v1 i x hA hx => by
    have hlen : (compTo D i).1.length ≤ 100000000000 := by
      have := compV_len (D.take i) ([], -1, -1)
      have h2 : (D.take i).length ≤ D.length := by rw [List.length_take]; omega
      unfold compTo
      simp only [List.length_nil] at this
      omega
    refine (addW jb tb cap av (compTo D i) x wr hA.avl hA.avj hA.j (hDr x (List.mem_of_getElem? hx)) hlen).mono ?_
    rintro e w' ⟨rfl, k1, k2, k3⟩
    have e : compTo D (i + 1) = addS (compTo D i) x := by
      unfold compTo
      rw [List.take_add_one, hx]
      simp [List.foldl_append]
    refine ⟨rfl, by rw [e]; exact k1, ?_, hA.below.trans (k2.mono hA.jbl), Nat.lt_of_lt_of_le hA.avl k2.size, hA.avj, hA.jbl⟩
    rcases hA.row with ⟨c, r1, r2⟩ | h
    · exact .inl ⟨c, r1, fun j y hy => (World.cell?_of_block (w := wr) (a := ⟨av, j, none⟩) k3).trans (r2 j y hy)⟩
    · exact .inr h
  have fin : ∀ wr jb tb cap av v1, NfcAt w wr jb tb cap av D v1 D.length → ∃ v', wr.cell? ⟨jb, 1, none⟩ = some v' ∧ Aside (OwnR wr w.heap.size v' (nfcV l) ∧ Below w.heap.size w wr) := fun wr jb tb cap av v1 hA => by
    obtain ⟨v', _, h2, h3⟩ := hA.j.ex
    refine ⟨v', h2.c1, ?_, hA.below⟩
    have e : (compTo D D.length).1 = nfcV l := by unfold compTo nfcV compV; rw [List.take_length, hD]
    rw [e] at h3
    exact h3.mono (by have := hA.jbl; omega)
  obtain ⟨N, hN⟩ : ∃ N, N = D.length := ⟨_, rfl⟩
  simp only [← hN] at c2 fin
  have hNm : N ≤ 100000000000 := by omega
  have HX : Aside (∀ i, i < N → ∃ x, D[i]? = some x) := fun i hi => ⟨_, List.getElem?_eq_getElem (by omega)⟩
  have HR : Aside (∀ wr jb tb cap av a c i x, NfcAt w wr jb tb cap av D (.slice a N c) i → D[i]? = some x → ∃ g, a = some ⟨g, 0, none⟩ ∧ wr.cell? ⟨g, i, none⟩ = some (.int .i32 x)) := fun wr jb tb cap av a c i x hA hx => by
    rcases hA.row with ⟨c', r1, r2⟩ | ⟨_, r2⟩
    · simp only [Value.slice.injEq] at r1
      exact ⟨av, r1.1, r2 i x hx⟩
    · rw [r2] at hx; simp at hx
  have H1 := Lib.hid c1
  have H2 := Lib.hid c2
  have HS := Lib.hid step
  have HF := Lib.hid fin
  clear c1 c2 step fin hD hDl hDr h hr hT hn hN
  go_enter Tryz.func8, Tryz.ntmps8
  go_wp2_with (first
    | (go_at_call 12; refine (H2.out _ _ _ hS1.out).mono ?_; rintro e w2 ⟨a, c, rfl, hA⟩)
    | (go_at_call 14; refine H1.out.mono ?_; rintro e w1 ⟨tb, cap, rfl, hS1⟩))
  go_loopg [15] N (fun g1 vi wr => ∃ (i : Nat), vi = .int .i64 i ∧ i ≤ N ∧ N - i ≤ g1 ∧ Aside (∃ av, NfcAt w wr w1.heap.size tb cap av D (.slice a N c) i))
  case atStart => exact ⟨0, rfl, by omega, by omega, hA⟩
  case round =>
    clear hA H1 H2 hS1
    obtain ⟨i, rfl, hi, hg1, HA⟩ := hrel
    obtain ⟨av, hA1⟩ := HA.out
    have hA : Aside (NfcAt w wr w1.heap.size tb cap av D (.slice a N c) i) := hA1
    clear HA hA1
    by_cases hlt : i < N
    · have hltz : (i : Int) < (N : Int) := by omega
      obtain ⟨x, hx⟩ := HX.out i hlt
      obtain ⟨g, rfl, hc⟩ := HR.out _ _ _ _ _ _ _ _ _ hA.out hx
      have c4 := HS.out _ _ _ _ _ _ _ _ hA.out hx
      have hx' := Lib.hid hx
      clear hx
      go_wp2_with (go_at_call 15; refine c4.mono ?_; rintro e w3 ⟨rfl, hA2⟩; clear c4)
      go_roundg (N - (i + 1))
      case measure => omega
      case rel => exact ⟨i + 1, by first | rfl | go_num, by omega, by omega, ⟨av, hA2.out⟩⟩
    · have hltz : ¬ (i : Int) < (N : Int) := by omega
      obtain rfl : i = N := by omega
      obtain ⟨v', hc, hfin⟩ := HF.out _ _ _ _ _ _ hA.out
      go_wp2
      go_ret
      exact ⟨v', rfl, hfin.out⟩

set_option maxHeartbeats 4000000 in
set_option maxRecDepth 100000 in
/-- nfc.Is. -/
theorem cis (v : Value) (l : List Int) (w : World) (hT : TabsN w) (h : SlN w v l) (hn : l.length ≤ 1000000000) (hr : ∀ x ∈ l, -2147483648 ≤ x ∧ x ≤ 2147483647) :
    Calls Tryz.prog 13 #[v] w fun e w' => e = .returned (.bool (decide (nfcV l = l))) ∧ Below w.heap.size w w' := by
  have cN := nfc v l w hT h hn hr
  have hl1 := nfc_len hr
  have hl2 := (nfd_len l).2
  have cE : ∀ v' w1, OwnR w1 w.heap.size v' (nfcV l) → Below w.heap.size w w1 → Calls Tryz.prog 16 #[v', v] w1 fun e w' => e = .returned (.bool (decide (nfcV l = l))) ∧ Below w.heap.size w w' := fun v' w1 h1 hb => by
    refine (equalN v' v (nfcV l) l w1 h1.sln (h.below hb) (by omega) (by omega)).mono ?_
    rintro e w' ⟨rfl, k⟩
    exact ⟨rfl, hb.trans (k.mono hb.size)⟩
  clear h hr hT hl1 hl2
  generalize decide (nfcV l = l) = D at cE ⊢
  go_enter Tryz.func13, Tryz.ntmps13
  go_wp2_with (first | (go_at_call 8; refine cN.mono ?_; rintro e w1 ⟨v', rfl, h1, h2⟩; have c2 := cE v' w1 h1 h2; clear cN cE) | (go_at_call 16; refine c2.mono ?_; rintro e w2 ⟨rfl, hO⟩; clear c2))
  go_ret
  exact ⟨rfl, hO⟩

set_option maxHeartbeats 4000000 in
set_option maxRecDepth 100000 in
/-- nfc.Same. -/
theorem csame (va vb : Value) (la lb : List Int) (w : World) (hT : TabsN w) (ha : SlN w va la) (hb : SlN w vb lb) (hna : la.length ≤ 1000000000) (hnb : lb.length ≤ 1000000000) (hra : ∀ x ∈ la, -2147483648 ≤ x ∧ x ≤ 2147483647) (hrb : ∀ x ∈ lb, -2147483648 ≤ x ∧ x ≤ 2147483647) :
    Calls Tryz.prog 9 #[va, vb] w fun e w' => e = .returned (.bool (decide (nfdV la = nfdV lb))) ∧ Below w.heap.size w w' := by
  have c1 : Calls Tryz.prog 12 #[va] w fun e w' => ∃ v', e = .returned v' ∧ Aside (StR w w' v' (nfdV la)) := by
    refine (nfd va la w hT ha hna hra).mono ?_
    rintro e w' ⟨v', rfl, h1, h2⟩
    exact ⟨v', rfl, h1, h2⟩
  have c2 : ∀ w1 v1, StR w w1 v1 (nfdV la) → Calls Tryz.prog 12 #[vb] w1 fun e w' => ∃ v', e = .returned v' ∧ Aside (StR w w' v1 (nfdV la) ∧ SlN w' v' (nfdV lb)) := fun w1 v1 hS => by
    refine (nfd vb lb w1 (hT.below hS.below) (hb.below hS.below) hnb hrb).mono ?_
    rintro e w' ⟨v', rfl, h1, h2⟩
    exact ⟨v', rfl, hS.go h2, h1.sln⟩
  have c3 : ∀ w1 v1 v2, StR w w1 v1 (nfdV la) ∧ SlN w1 v2 (nfdV lb) → Calls Tryz.prog 16 #[v1, v2] w1 fun e w' => e = .returned (.bool (decide (nfdV la = nfdV lb))) ∧ Below w.heap.size w w' := fun w1 v1 v2 hS => by
    refine (equalN v1 v2 (nfdV la) (nfdV lb) w1 hS.1.row.sln hS.2 (by have := (nfd_len la).2; omega) (by have := (nfd_len lb).2; omega)).mono ?_
    rintro e w' ⟨rfl, k⟩
    exact ⟨rfl, (hS.1.go k).below⟩
  clear ha hb hra hrb hT
  generalize decide (nfdV la = nfdV lb) = D at c3 ⊢
  have H2 := Lib.hid c2
  have H3 := Lib.hid c3
  clear c2 c3
  go_enter Tryz.func9, Tryz.ntmps9
  go_wp2_with (first
    | (go_at_call 16; refine (H3.out _ _ _ hS2.out).mono ?_; rintro e w3 ⟨rfl, hO⟩)
    | (go_at_call 12; refine (H2.out _ _ hS1.out).mono ?_; rintro e w2 ⟨v2, rfl, hS2⟩; clear hS1)
    | (go_at_call 12; refine c1.mono ?_; rintro e w1 ⟨v1, rfl, hS1⟩; clear c1))
  go_ret
  exact ⟨rfl, hO⟩
end Go.Proofs.YtkadmnabhoijdaaGreatDoor.Nfd
