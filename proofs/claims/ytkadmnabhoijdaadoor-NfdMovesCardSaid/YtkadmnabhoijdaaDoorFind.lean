/- pairs: Split (BinarySearchFunc) and Join over the table. -/
import Derived.Deep.QuietTactic
import Derived.BigQuiet
import Derived.Test.YtkadmnabhoijdaaDoorPFacts
set_option linter.unusedVariables false
namespace Go.Proofs.YtkadmnabhoijdaaDoor.New
open Go Go.RowKit Go.Shelf Go.Proofs

set_option maxHeartbeats 4000000 in
set_option maxRecDepth 100000 in
theorem closureF (p : P4) (r : Int) (W : World) : Calls Tryd.prog 49 #[.agg #[.int .i32 p.1, .int .i32 p.2.1, .int .i32 p.2.2.1, .bool p.2.2.2], .int .i32 r] W fun e w' =>
    e = .returned (.int .i64 (wrap32 (p.1 - r))) ∧ Below W.heap.size W w' := by
  have hw : wrap64 (wrap32 (p.1 - r)) = wrap32 (p.1 - r) := by unfold wrap64 wrap32; omega
  go_enter Tryd.func49, Tryd.ntmps49
  go_wp2
  go_ret
  refine ⟨?_, (Below.refl _ W).alloc (Nat.le_refl _) _⟩
  show Ending.returned (.int .i64 (wrap64 (wrap32 (p.1 - r)))) = _
  rw [hw]

/-- The table's row. -/
structure RowAt (T : List P4) (W : World) (b : Nat) : Prop where
  lt : b < W.heap.size
  cell : ∀ j v, (cells4 T)[j]? = some v → W.cell? ⟨b, j, none⟩ = some v
theorem RowAt.below {T : List P4} {W W' : World} {b : Nat} (h : RowAt T W b) (hb : Below W.heap.size W W') : RowAt T W' b :=
  ⟨Nat.lt_of_lt_of_le h.lt hb.size, fun j v hv => (World.cell?_of_block (w := W) (hb.block b h.lt)).trans (h.cell j v hv)⟩
theorem RowAt.at {T : List P4} {W : World} {b : Nat} (h : RowAt T W b) (i : Nat) (p : P4) (hi : T[i]? = some p) :
    W.cell? ⟨b, i * 4, none⟩ = some (.int .i32 p.1) ∧ W.cell? ⟨b, i * 4 + 1, none⟩ = some (.int .i32 p.2.1) ∧ W.cell? ⟨b, i * 4 + 2, none⟩ = some (.int .i32 p.2.2.1) ∧ W.cell? ⟨b, i * 4 + 3, none⟩ = some (.bool p.2.2.2) := by
  refine ⟨h.cell _ _ ((cells4_at _ _ _).2 ⟨p, by rw [show i * 4 / 4 = i by omega]; exact hi, by rw [show i * 4 % 4 = 0 by omega]; rfl⟩), h.cell _ _ ((cells4_at _ _ _).2 ⟨p, by rw [show (i * 4 + 1) / 4 = i by omega]; exact hi, by rw [show (i * 4 + 1) % 4 = 1 by omega]; rfl⟩),
    h.cell _ _ ((cells4_at _ _ _).2 ⟨p, by rw [show (i * 4 + 2) / 4 = i by omega]; exact hi, by rw [show (i * 4 + 2) % 4 = 2 by omega]; rfl⟩), h.cell _ _ ((cells4_at _ _ _).2 ⟨p, by rw [show (i * 4 + 3) / 4 = i by omega]; exact hi, by rw [show (i * 4 + 3) % 4 = 3 by omega]; rfl⟩)⟩

/-- Where a character stands. -/
def sought (T : List P4) (r : Int) (i : Nat) (ok : Bool) : Prop := (ok = true → ∃ p, T[i]? = some p ∧ p.1 = r) ∧ (ok = false → ∀ p ∈ T, p.1 ≠ r)

theorem key_le {T : List P4} (hs : T.Pairwise (fun a b => a.1 < b.1)) {i j : Nat} {p q : P4} (h : i ≤ j) (hi : T[i]? = some p) (hj : T[j]? = some q) : p.1 ≤ q.1 := by
  rcases Nat.lt_or_ge i j with hlt | hge
  · obtain ⟨a1, rfl⟩ := List.getElem?_eq_some_iff.1 hi
    obtain ⟨a2, rfl⟩ := List.getElem?_eq_some_iff.1 hj
    have := List.pairwise_iff_getElem.1 hs i j a1 a2 hlt
    omega
  · obtain rfl : i = j := by omega
    rw [hi] at hj
    cases hj
    exact Int.le_refl _

set_option maxHeartbeats 8000000 in
set_option maxRecDepth 1000000 in
theorem search (T : List P4) (b cap : Nat) (r : Int) (w : World) (hT : RowAt T w b) (hlen : T.length ≤ 100000) (hs : T.Pairwise (fun a b => a.1 < b.1)) (hbd : ∀ p ∈ T, 0 ≤ p.1 ∧ p.1 ≤ 1114111) (hr0 : -2147483648 ≤ r) (hr1 : r ≤ 2147483647) :
    Calls Tryd.prog 48 #[.slice (some ⟨b, 0, none⟩) T.length cap, .int .i32 r, .func (.func 49) #[] #[]] w fun e w' =>
      ∃ (i : Nat) (ok : Bool), e = .returned (.tuple #[.int .i64 i, .bool ok]) ∧ sought T r i ok ∧ Below w.heap.size w w' := by
  have HS : Aside (T.Pairwise (fun a b => a.1 < b.1)) := hs
  have HB : Aside (∀ p ∈ T, 0 ≤ p.1 ∧ p.1 ≤ 1114111) := hbd
  clear hs hbd
  obtain ⟨n, hn⟩ : ∃ n, n = T.length := ⟨_, rfl⟩
  rw [← hn] at hlen ⊢
  have HN : Aside (n = T.length) := hn
  clear hn
  have cF := fun p W => closureF p r W
  go_enter Tryd.func48, Tryd.ntmps48
  go_wp2
  go_loopw [9, 10] (fun vi vj wr => ∃ i j : Nat, vi = .int .i64 i ∧ vj = .int .i64 j ∧ i ≤ j ∧ j ≤ n ∧ Below w.heap.size w wr ∧ Aside (0 ≤ r → (∀ t p, t < i → T[t]? = some p → p.1 < r) ∧ (∀ t p, j ≤ t → T[t]? = some p → r ≤ p.1)))
    (fun vi vj _ => (intOf vj).toNat - (intOf vi).toNat)
  case atStart => exact ⟨0, n, rfl, rfl, Nat.zero_le _, Nat.le_refl _, Below.refl _ _, fun _ => ⟨fun t p h => by omega, fun t p h1 h2 => by have := (List.getElem?_eq_some_iff.1 h2).1; have := HN.out; omega⟩⟩
  case round =>
    obtain ⟨i, j, rfl, rfl, hij, hjn, hbw, HI⟩ := hrel
    have hTr := hT.below hbw
    by_cases hlt : i < j
    · have hltz : (i : Int) < (j : Int) := by omega
      have hh1 : i ≤ (i + j) / 2 := by omega
      have hh2 : (i + j) / 2 < j := by omega
      obtain ⟨p, hp⟩ : ∃ p, T[(i + j) / 2]? = some p := ⟨_, List.getElem?_eq_getElem (by have := HN.out; omega)⟩
      obtain ⟨c0, c1, c2, c3⟩ := hTr.at _ p hp
      have hc : wrap32 (p.1 - r) < 0 ∨ ¬ wrap32 (p.1 - r) < 0 := Classical.em _
      have cG := cF p
      obtain ⟨c, hcv⟩ : ∃ c, wrap32 (p.1 - r) = c := ⟨_, rfl⟩
      rw [hcv] at cG hc
      have HC : Aside (wrap32 (p.1 - r) = c) := hcv
      clear hcv
      have HP : Aside (T[(i + j) / 2]? = some p) := hp
      clear hp
      rcases hc with hc | hc
      · go_wp2_with (go_at_call 49; refine (cG _).mono ?_; rintro e w' ⟨rfl, hb⟩)
        refine ⟨⟨(i + j) / 2 + 1, j, by congr 1, rfl, by omega, hjn, hbw.trans (hb.mono hbw.size), fun h0 => ?_⟩, by simp [intOf]; omega⟩
        obtain ⟨g1, g2⟩ := HI.out h0
        have hpb := HB.out p (List.mem_of_getElem? HP.out)
        have hlt2 : p.1 < r := by
          have e := HC.out
          unfold wrap32 at e
          omega
        refine ⟨fun t q ht hq => ?_, g2⟩
        have := key_le HS.out (show t ≤ (i + j) / 2 by omega) hq HP.out
        omega
      · go_wp2_with (go_at_call 49; refine (cG _).mono ?_; rintro e w' ⟨rfl, hb⟩)
        refine ⟨⟨i, (i + j) / 2, rfl, by congr 1, hh1, by omega, hbw.trans (hb.mono hbw.size), fun h0 => ?_⟩, by simp [intOf]; omega⟩
        obtain ⟨g1, g2⟩ := HI.out h0
        have hpb := HB.out p (List.mem_of_getElem? HP.out)
        have hlt2 : r ≤ p.1 := by
          have e := HC.out
          unfold wrap32 at e
          omega
        refine ⟨g1, fun t q ht hq => ?_⟩
        have := key_le HS.out ht HP.out hq
        omega
    · obtain rfl : i = j := by omega
      have hnlt : ¬ ((i : Int) < (i : Int)) := by omega
      by_cases hin : i < n
      · have hinz : (i : Int) < (n : Int) := by omega
        obtain ⟨p, hp⟩ : ∃ p, T[i]? = some p := ⟨_, List.getElem?_eq_getElem (by have := HN.out; omega)⟩
        obtain ⟨c0, c1, c2, c3⟩ := hTr.at _ p hp
        have cG := cF p
        obtain ⟨c, hcv⟩ : ∃ c, wrap32 (p.1 - r) = c := ⟨_, rfl⟩
        rw [hcv] at cG
        have HC : Aside (wrap32 (p.1 - r) = c) := hcv
        clear hcv
        have HP : Aside (T[i]? = some p) := hp
        clear hp
        have hcc : c = 0 ∨ ¬ c = 0 := Classical.em _
        rcases hcc with hcc | hcc
        · subst hcc
          go_wp2_with (go_at_call 49; refine (cG _).mono ?_; rintro e w' ⟨rfl, hb⟩)
          go_ret2
          refine ⟨i, true, rfl, ⟨fun _ => ⟨p, HP.out, ?_⟩, fun h => by cases h⟩, hbw.trans (hb.mono hbw.size)⟩
          have hpb := HB.out p (List.mem_of_getElem? HP.out)
          have e := HC.out
          unfold wrap32 at e
          omega
        · have hcb : (c == 0) = false := by simpa using hcc
          go_wp2_with (go_at_call 49; refine (cG _).mono ?_; rintro e w' ⟨rfl, hb⟩)
          go_ret2
          refine ⟨i, false, rfl, ⟨fun h => (by cases h), fun _ q hq e => hcc ?_⟩, hbw.trans (hb.mono hbw.size)⟩
          have hpb := HB.out p (List.mem_of_getElem? HP.out)
          have hqb := HB.out q hq
          obtain ⟨t, ht⟩ := List.getElem?_of_mem hq
          have hC := HC.out
          obtain ⟨g1, g2⟩ := HI.out (by omega)
          have g3 := g2 i p (Nat.le_refl _) HP.out
          have hti : i ≤ t := by
            rcases Nat.lt_or_ge t i with h | h
            · have := g1 t q h ht; omega
            · exact h
          have := key_le HS.out hti HP.out ht
          have e2 : p.1 = r := by omega
          rw [← hC, e2]
          simp [wrap32]
      · have hinz : ¬ (i : Int) < (n : Int) := by omega
        go_wp2
        go_ret2
        refine ⟨i, .inl ⟨rfl, ⟨fun h => (by cases h), fun _ q hq e => ?_⟩, hbw⟩⟩
        have hqb := HB.out q hq
        obtain ⟨t, ht⟩ := List.getElem?_of_mem hq
        obtain ⟨g1, g2⟩ := HI.out (by omega)
        have htl := (List.getElem?_eq_some_iff.1 ht).1
        have := g1 t q (by have := HN.out; omega) ht
        omega

/-- What a character is split into. -/
def splitV (T : List P4) (r : Int) : Int × Int × Int := match T.find? (fun p => decide (p.1 = r)) with
  | none => (0, 0, 0)
  | some p => if p.2.2.1 = 0 then (p.2.1, 0, 1) else (p.2.1, p.2.2.1, 2)
theorem find_of {T : List P4} {p : P4} {r : Int} (hs : T.Pairwise (fun a b => a.1 < b.1)) (hp : p ∈ T) (he : p.1 = r) : T.find? (fun p => decide (p.1 = r)) = some p := by
  obtain ⟨q, hq⟩ : ∃ q, T.find? (fun p => decide (p.1 = r)) = some q := by
    cases h : T.find? (fun p => decide (p.1 = r)) with
    | none => have := List.find?_eq_none.1 h p hp; simp [he] at this
    | some q => exact ⟨q, rfl⟩
  rw [hq, pairwise_keys T hs q (List.mem_of_find?_eq_some hq) p hp (by have := List.find?_some hq; simp at this; rw [this, he])]
theorem find_none {T : List P4} {r : Int} (h : ∀ p ∈ T, p.1 ≠ r) : T.find? (fun p => decide (p.1 = r)) = none := List.find?_eq_none.2 (by simpa using h)

set_option maxHeartbeats 8000000 in
set_option maxRecDepth 1000000 in
theorem tsplit (T : List P4) (b cap : Nat) (r : Int) (w : World) (hT : RowAt T w b) (hlen : T.length ≤ 100000) (hs : T.Pairwise (fun a b => a.1 < b.1)) (hbd : ∀ p ∈ T, 0 ≤ p.1 ∧ p.1 ≤ 1114111) (hr0 : -2147483648 ≤ r) (hr1 : r ≤ 2147483647) :
    Calls Tryd.prog 38 #[.slice (some ⟨b, 0, none⟩) T.length cap, .int .i32 r] w fun e w' => e = .returned (.tuple #[.int .i32 (splitV T r).1, .int .i32 (splitV T r).2.1, .int .i64 (splitV T r).2.2]) ∧ Below w.heap.size w w' := by
  have cS := search T b cap r w hT hlen hs hbd hr0 hr1
  cases hf : T.find? (fun p => decide (p.1 = r)) with
  | none =>
    have cN : Calls Tryd.prog 48 #[.slice (some ⟨b, 0, none⟩) T.length cap, .int .i32 r, .func (.func 49) #[] #[]] w fun e w' =>
        ∃ (i : Nat), e = .returned (.tuple #[.int .i64 i, .bool false]) ∧ Below w.heap.size w w' := cS.mono fun e w' ⟨i, ok, h1, h2, h3⟩ => by
      cases ok with
      | false => exact ⟨i, h1, h3⟩
      | true =>
        obtain ⟨p, hp, he⟩ := h2.1 rfl
        have := List.find?_eq_none.1 hf p (List.mem_of_getElem? hp)
        simp [he] at this
    have hV : splitV T r = (0, 0, 0) := by unfold splitV; rw [hf]
    rw [hV]
    clear hV cS hf hs hbd hT
    generalize T.length = n at *
    go_enter Tryd.func38, Tryd.ntmps38
    go_wp2_with (go_at_call 48; refine cN.mono ?_; rintro e w1 ⟨i, rfl, hb⟩)
    go_ret3
    exact ⟨rfl, hb⟩
  | some p =>
    have cN : Calls Tryd.prog 48 #[.slice (some ⟨b, 0, none⟩) T.length cap, .int .i32 r, .func (.func 49) #[] #[]] w fun e w' =>
        ∃ (i : Nat), e = .returned (.tuple #[.int .i64 i, .bool true]) ∧ Below w.heap.size w w' ∧ i < T.length ∧ w'.cell? ⟨b, i * 4, none⟩ = some (.int .i32 p.1) ∧ w'.cell? ⟨b, i * 4 + 1, none⟩ = some (.int .i32 p.2.1) ∧ w'.cell? ⟨b, i * 4 + 2, none⟩ = some (.int .i32 p.2.2.1) ∧ w'.cell? ⟨b, i * 4 + 3, none⟩ = some (.bool p.2.2.2) := cS.mono fun e w' ⟨i, ok, h1, h2, h3⟩ => by
      cases ok with
      | false =>
        have h4 := h2.2 rfl p (List.mem_of_find?_eq_some hf)
        have h5 := List.find?_some hf
        simp at h5
        exact absurd h5 h4
      | true =>
        obtain ⟨q, hq, he⟩ := h2.1 rfl
        have e2 := find_of hs (List.mem_of_getElem? hq) he
        rw [hf] at e2
        cases e2
        exact ⟨i, h1, h3, (List.getElem?_eq_some_iff.1 hq).1, (hT.below h3).at i p hq⟩
    have hV : splitV T r = if p.2.2.1 = 0 then (p.2.1, 0, 1) else (p.2.1, p.2.2.1, 2) := by unfold splitV; rw [hf]
    rw [hV]
    clear hV cS hf hs hbd hT
    generalize T.length = n at *
    by_cases hz : p.2.2.1 = 0
    · rw [if_pos hz]
      rw [hz] at cN
      go_enter Tryd.func38, Tryd.ntmps38
      go_wp2_with (go_at_call 48; refine cN.mono ?_; rintro e w1 ⟨i, rfl, hb, hin, c0, c1, c2, c3⟩; have hinz : (i : Int) < (n : Int) := (by omega))
      go_ret3
      exact ⟨rfl, hb⟩
    · rw [if_neg hz]
      have hzb : (p.2.2.1 == 0) = false := by simpa using hz
      go_enter Tryd.func38, Tryd.ntmps38
      go_wp2_with (go_at_call 48; refine cN.mono ?_; rintro e w1 ⟨i, rfl, hb, hin, c0, c1, c2, c3⟩; have hinz : (i : Int) < (n : Int) := (by omega))
      go_quiet (fail)
      all_goals go_wp2
      go_ret3
      exact ⟨rfl, hb.trans ⟨rfl, rfl, rfl, Nat.le_refl _, fun _ _ => rfl⟩⟩

/-- The table's laws. -/
theorem tab_len : tableT.length = 572 := by decide +kernel
theorem tab_bd : ∀ p ∈ tableT, 0 ≤ p.1 ∧ p.1 ≤ 1114111 := by
  have h : tableT.all (fun p => decide (0 ≤ p.1) && decide (p.1 ≤ 1114111)) = true := by decide +kernel
  intro p hp
  have := List.all_eq_true.1 h p hp
  simpa using this

end Go.Proofs.YtkadmnabhoijdaaDoor.New
