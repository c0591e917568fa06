/- nfd.NFD and nfd.Is, and what they call: rows that may be nil. -/
import Derived.Test.YtkadmnabhoijdaaDoorApart
set_option linter.unusedVariables false
namespace Go.Proofs.YtkadmnabhoijdaaDoor.Nfd
open Go Go.RowKit Go.Shelf Go.Proofs Go.Lib Go.Sort
open Go.Proofs.YtkadmnabhoijdaaDoor.Look Go.Proofs.YtkadmnabhoijdaaDoor.New

/-- A slice value that holds runes, or nil. -/
def SlN (w : World) (v : Value) (l : List Int) : Prop := (∃ (ad : Addr) (c : Nat), v = .slice (some ad) l.length c ∧ (l ≠ [] → ad.spot = none ∧ ad.block < w.heap.size) ∧ ∀ j u, (l.map enc32)[j]? = some u → w.cell? (ad.add j) = some u) ∨ (v = .slice none 0 0 ∧ l = [])
theorem SlN.slo {w : World} {v : Value} {l : List Int} (h : SlN w v l) (hl : l ≠ []) : SlO w v l := by
  rcases h with ⟨⟨b, off, spot⟩, c, rfl, h1, h2⟩ | ⟨_, h⟩
  · obtain ⟨h3, h4⟩ := h1 hl
    simp only at h3 h4
    subst h3
    refine ⟨b, off, c, rfl, h4, fun j x hx => ?_⟩
    have := h2 j (enc32 x) (by rw [List.getElem?_map, hx]; rfl)
    rw [Addr.add_lit] at this
    exact this
  · exact absurd h hl
theorem SlO.sln {w : World} {v : Value} {l : List Int} (h : SlO w v l) : SlN w v l := by
  obtain ⟨b, off, c, rfl, h1, h2⟩ := h
  refine .inl ⟨⟨b, off, none⟩, c, rfl, fun _ => ⟨rfl, h1⟩, fun j u hu => ?_⟩
  rw [List.getElem?_map] at hu
  cases hl : l[j]? with
  | none => rw [hl] at hu; simp at hu
  | some x =>
    rw [hl] at hu; simp at hu; rw [← hu, Addr.add_lit]
    exact h2 j x hl
theorem OwnR.sln {w : World} {base : Nat} {v : Value} {l : List Int} (h : OwnR w base v l) : SlN w v l := by
  rcases h.2 with ⟨h1, h2⟩ | ⟨g, cap, cur, rfl, h2, h3, _⟩
  · exact .inr ⟨h1, List.eq_nil_of_length_eq_zero h2⟩
  · exact .inl ⟨⟨g, 0, none⟩, cap, rfl, fun _ => ⟨rfl, (Array.getElem?_eq_some_iff.1 h3).1⟩, h.news⟩
theorem SlN.below {w w' : World} {v : Value} {l : List Int} (h : SlN w v l) (hb : Below w.heap.size w w') : SlN w' v l := by
  rcases h with ⟨ad, c, rfl, h1, h2⟩ | h
  · refine .inl ⟨ad, c, rfl, fun hl => ⟨(h1 hl).1, Nat.lt_of_lt_of_le (h1 hl).2 hb.size⟩, fun j u hu => ?_⟩
    have hl : l ≠ [] := fun e => by rw [e] at hu; simp at hu
    have hbl : (ad.add j).block = ad.block := by unfold Addr.add; split <;> rfl
    exact (World.cell?_of_block (w := w) (by rw [hbl]; exact hb.block _ (h1 hl).2)).trans (h2 j u hu)
  · exact .inr h
theorem SlN.len {w : World} {v : Value} {l : List Int} (h : SlN w v l) : ∃ a c, v = .slice a l.length c := by
  rcases h with ⟨ad, c, rfl, _⟩ | ⟨rfl, rfl⟩
  · exact ⟨_, _, rfl⟩
  · exact ⟨_, _, rfl⟩
theorem OwnR.mono {w : World} {base base' : Nat} {v : Value} {l : List Int} (h : OwnR w base v l) (hb : base' ≤ base) : OwnR w base' v l :=
  ⟨h.1, h.2.imp id fun ⟨g, cap, cur, h1, h2, h3⟩ => ⟨g, cap, cur, h1, Nat.le_trans hb h2, h3⟩⟩
theorem OwnR.below {w w' : World} {base : Nat} {v : Value} {l : List Int} (h : OwnR w base v l) (hb : Below w.heap.size w w') : OwnR w' base v l := World.ownsRow.kept h (grown_of_below hb) (Classical.em _)
theorem rowOwn {w : World} {b c base : Nat} {l : List Int} (h : RowL w b l) (hs : Shp w b c) (h1 : l.length ≤ c) (h2 : c ≤ maxLen) (hb : base ≤ b) : OwnR w base (.slice (some ⟨b, 0, none⟩) l.length c) l := by
  obtain ⟨cur, hc, hz⟩ := hs
  refine ⟨by simp, .inr ⟨b, c, cur, rfl, hb, hc, h1, h2, by simpa using hz, ?_⟩⟩
  refine List.ext_getElem? fun j => ?_
  rw [List.getElem?_take, List.getElem?_map]
  by_cases hj : j < l.length
  · rw [if_pos (by omega), List.getElem?_eq_getElem hj]
    have h0 := (h.1 j (by simpa using hj)).1
    rw [toArray_at _ _ hj, Nat.zero_add] at h0
    simp only [World.cell?, hc] at h0
    simpa using h0
  · rw [if_neg (by omega), List.getElem?_eq_none (by omega)]
    rfl

theorem eqlNil (w : World) (a : Option Addr) (n c : Nat) : (binOp .eql 22 (.slice a n c) (.slice none 0 0)).run Tryd.prog w = .ok (.bool a.isNone) w := Lib.run_eql_slice_nil w 22 21 a n c 0 0 Tryd.underlying22
set_option maxHeartbeats 4000000 in
set_option maxRecDepth 100000 in
theorem cloneE (a : Option Addr) (c : Nat) (w : World) : Calls Tryd.prog 16 #[.slice a 0 c] w fun e w' => ∃ v', e = .returned v' ∧ OwnR w' w.heap.size v' [] ∧ Below w.heap.size w w' := by
  have h := eqlNil
  have h0 : OwnR w w.heap.size (.slice none 0 0) [] := World.ownsRow_nil _ _ _ _
  obtain ⟨ie, hi, hz, hs, hby⟩ := info_parts i21
  cases a with
  | none =>
    go_enter Tryd.func16, Tryd.ntmps16
    go_wp2
    go_ret
    exact ⟨_, rfl, h0, Below.refl _ _⟩
  | some ad =>
    clear h0
    go_enter Tryd.func16, Tryd.ntmps16
    go_wp2_with (at_builtin; refine wpList_append_own _ rfl _ _ 22 rfl w.heap.size 21 ie (.int .i32 0) 1 4 Tryd.underlying22 hi hz hs hby rfl (by omega) _ _ _ rfl (World.ownsRow_made w #[] 0 (Nat.le_refl _) (Nat.zero_le _) (by simp)) ad 0 c [] rfl rfl (by intro j u hj; simp at hj) (by simp) (by unfold maxLen; omega) (by omega) (by simp) ?_)
    intro v' w1 hown hgrow hnil
    have hb : Below w.heap.size w w1 := ((Below.refl _ w).alloc (Nat.le_refl _) _).grown hgrow (by simp) (by intro k hk; simp [Value.ownBlock] at hk; omega)
    have ho : OwnR w1 w.heap.size v' [] := by simpa [OwnR] using hown
    clear hown hgrow hnil
    go_wp2
    go_ret
    exact ⟨v', rfl, ho, hb⟩
theorem ordE (a : Option Addr) (c : Nat) (w : World) : Calls Tryd.prog 8 #[.slice a 0 c] w fun e w' => ∃ v', e = .returned v' ∧ Aside (OwnR w' w.heap.size v' [] ∧ Below w.heap.size w w') := by
  have hc : Calls Tryd.prog 16 #[.slice a 0 c] w fun e w' => ∃ a' c', e = .returned (.slice a' 0 c') ∧ Aside (OwnR w' w.heap.size (.slice a' 0 c') [] ∧ Below w.heap.size w w') := by
    refine (cloneE a c w).mono ?_
    rintro e w' ⟨v', rfl, h1, h2⟩
    obtain ⟨a', c', rfl⟩ := h1.sln.len
    exact ⟨a', c', rfl, h1, h2⟩
  go_enter Tryd.func8, Tryd.ntmps8
  go_wp2_with (go_at_call 16; refine hc.mono ?_; rintro e w1 ⟨a', c', rfl, hA⟩; clear hc)
  go_loopg [4] 0 (fun g1 vi wr => vi = .int .i64 0 ∧ w1 = wr)
  case atStart => exact ⟨rfl, rfl⟩
  case round =>
    obtain ⟨rfl, rfl⟩ := hrel
    go_wp2
    go_ret
    exact ⟨_, rfl, hA⟩
/-- nfd.Order. -/
theorem ordN (v : Value) (l : List Int) (w : World) (h : SlN w v l) (hn : l.length ≤ 1000000000000) :
    Calls Tryd.prog 8 #[v] w fun e w' => ∃ v', e = .returned v' ∧ OwnR w' w.heap.size v' (orderV l) ∧ Below w.heap.size w w' := by
  by_cases hl : l = []
  · subst hl
    obtain ⟨a, c, rfl⟩ := h.len
    refine (ordE a c w).mono ?_
    rintro e w' ⟨v', rfl, hA⟩
    exact ⟨_, rfl, hA.out.1, hA.out.2⟩
  · refine (ord v l w (h.slo hl).slv hn).mono ?_
    rintro e w' ⟨b, c, rfl, h1, h2, h3, h4, h5, h6⟩
    have hl := orderV_len l
    have := rowOwn h2 h6 (by omega) h5 h1
    rw [hl] at this
    exact ⟨_, rfl, this, h3⟩

/-- Two rows, either of which may be nil. -/
theorem runesN (va vb : Value) (la lb : List Int) (w : World) (ha : SlN w va la) (hb : SlN w vb lb) (hna : la.length ≤ 1000000000000) (hnb : lb.length ≤ 1000000000000) :
    Calls Tryd.prog 9 #[va, vb] w fun e w' => e = .returned (.bool (decide (la = lb))) ∧ Below w.heap.size w w' := by
  have one : ∀ a b n c (w : World), Calls Tryd.prog 9 #[.slice a 0 c, .slice b 0 n] w fun e w' => e = .returned (.bool true) ∧ Below w.heap.size w w' := by
    intro a b n c w
    go_enter Tryd.func9, Tryd.ntmps9
    go_wp2
    go_loopg [5] 0 (fun g1 vi wr => vi = .int .i64 0 ∧ w = wr)
    case atStart => exact ⟨rfl, rfl⟩
    case round =>
      obtain ⟨rfl, rfl⟩ := hrel
      go_wp2
      go_ret
      exact ⟨rfl, Below.refl _ _⟩
  have two : ∀ a b (N M : Nat) c d (w : World), N ≠ M → N ≤ 1000000000000 → M ≤ 1000000000000 → Calls Tryd.prog 9 #[.slice a N c, .slice b M d] w fun e w' => e = .returned (.bool false) ∧ Below w.heap.size w w' := by
    intro a b N M c d w hne h1 h2
    have hNMz : ¬ (N : Int) = (M : Int) := by omega
    have hNMb : ((N : Int) == (M : Int)) = false := by simpa using hNMz
    go_enter Tryd.func9, Tryd.ntmps9
    go_wp2
    go_ret
    exact ⟨rfl, Below.refl _ _⟩
  by_cases hl : la.length = lb.length
  · by_cases he : la = []
    · subst he
      obtain rfl : lb = [] := List.eq_nil_of_length_eq_zero (by simpa using hl.symm)
      obtain ⟨a, c, rfl⟩ := ha.len
      obtain ⟨b, d, rfl⟩ := hb.len
      exact one _ _ _ _ w
    · exact runes va vb la lb w (ha.slo he) (hb.slo fun e => he (List.eq_nil_of_length_eq_zero (by rw [hl, e]; rfl))) hna hnb
  · have hne : la ≠ lb := fun e => hl (by rw [e])
    rw [decide_eq_false hne]
    obtain ⟨a, c, rfl⟩ := ha.len
    obtain ⟨b, d, rfl⟩ := hb.len
    exact two _ _ _ _ _ _ w hl hna hnb

/-- slices.Equal at two rows. -/
theorem equalO (va vb : Value) (la lb : List Int) (w : World) (ha : SlO w va la) (hb : SlO w vb lb) (hna : la.length ≤ 1000000000000) (hnb : lb.length ≤ 1000000000000) (hNM : la.length = lb.length) :
    Calls Tryd.prog 24 #[va, vb] w fun e w' => e = .returned (.bool (decide (la = lb))) ∧ Below w.heap.size w w' := by
  have mixed : Tryd.prog.follows Departure.mixedOrders = true := by kernel_rfl
  obtain ⟨b1, o1, c1, rfl, hb1, hc1⟩ := ha
  obtain ⟨b2, o2, c2, rfl, hb2, hc2⟩ := hb
  rw [← hNM] at hnb ⊢
  obtain ⟨N, hN⟩ : ∃ N, N = la.length := ⟨_, rfl⟩
  rw [← hN] at hna hnb ⊢
  have HL : Aside (N = la.length ∧ N = lb.length) := ⟨hN, by rw [hN]; exact hNM⟩
  have H1 : Aside (∀ j x, la[j]? = some x → w.cell? ⟨b1, o1 + j, none⟩ = some (enc32 x)) := hc1
  have H2 : Aside (∀ j x, lb[j]? = some x → w.cell? ⟨b2, o2 + j, none⟩ = some (enc32 x)) := hc2
  clear hc1 hc2 hN hNM
  obtain ⟨res, hres⟩ : ∃ r, r = decide (la = lb) := ⟨_, rfl⟩
  rw [← hres]
  have HR : Aside (res = decide (la = lb)) := hres
  clear hres
  go_enter Tryd.func24, Tryd.ntmps24
  go_wp2
  go_loopg [13] N (fun g1 vi wr => ∃ (i : Nat), vi = .int .i64 i ∧ i ≤ N ∧ N - i ≤ g1 ∧ Aside ((∃ q os, wr = grow (w.drewN q) os) ∧ la.take i = lb.take i))
  case atStart => exact ⟨0, rfl, by omega, by omega, ⟨⟨0, #[], by rw [grow_empty]; rfl⟩, rfl⟩⟩
  case round =>
    obtain ⟨i, rfl, hi, hg1, HI⟩ := hrel
    by_cases hlt : i < N
    · have hltz : (i : Int) < (N : Int) := by omega
      obtain ⟨x, hx⟩ : ∃ x, la[i]? = some x := ⟨_, List.getElem?_eq_getElem (by have := HL.out; omega)⟩
      obtain ⟨y, hy⟩ : ∃ y, lb[i]? = some y := ⟨_, List.getElem?_eq_getElem (by have := HL.out; omega)⟩
      have l1 : ∀ n os, (grow (wr.drewN n) os).cell? ⟨b1, o1 + i, none⟩ = some (enc32 x) := fun n os => by
        obtain ⟨⟨q, os0, rfl⟩, _⟩ := HI.out
        rw [cell?_grow _ _ _ (by show b1 < (grow (w.drewN q) os0).heap.size; rw [size_grow]; exact Nat.lt_of_lt_of_le hb1 (Nat.le_add_right _ _))]
        show (grow (w.drewN q) os0).cell? _ = _
        rw [cell?_grow _ _ _ (by exact hb1)]
        exact H1.out i x hx
      have l2 : ∀ n os, (grow (wr.drewN n) os).cell? ⟨b2, o2 + i, none⟩ = some (enc32 y) := fun n os => by
        obtain ⟨⟨q, os0, rfl⟩, _⟩ := HI.out
        rw [cell?_grow _ _ _ (by show b2 < (grow (w.drewN q) os0).heap.size; rw [size_grow]; exact Nat.lt_of_lt_of_le hb2 (Nat.le_add_right _ _))]
        show (grow (w.drewN q) os0).cell? _ = _
        rw [cell?_grow _ _ _ (by exact hb2)]
        exact H2.out i y hy
      have HX : Aside (la[i]? = some x ∧ lb[i]? = some y) := ⟨hx, hy⟩
      clear hx hy
      have hu : enc32 x = .int .i32 x ∧ enc32 y = .int .i32 y := ⟨rfl, rfl⟩
      rw [hu.1] at l1
      rw [hu.2] at l2
      clear hu
      go_wp2_with fail
      go_quiet_grown (fail)
      have HI2 : Aside (∃ q os, grow (wr.drewN nq) osq = grow (w.drewN q) os) := by
        obtain ⟨⟨q, os0, rfl⟩, _⟩ := HI.out
        exact grow_two _ _ _ _ _
      have HT : Aside (la.take i = lb.take i) := HI.out.2
      clear l1 l2 HI
      generalize grow (wr.drewN nq) osq = w2 at HI2 ⊢
      clear nq osq
      by_cases hxy : x = y
      · subst hxy
        go_wp2
        go_roundg (N - (i + 1))
        case measure => omega
        case rel =>
          exact ⟨i + 1, by first | rfl | go_num, by omega, by omega, ⟨HI2.out, by rw [List.take_add_one, List.take_add_one, HT.out, HX.out.1, HX.out.2]⟩⟩
      · have hxb : (x == y) = false := by simpa using hxy
        go_wp2
        go_ret
        obtain ⟨q, os, rfl⟩ := HI2.out
        refine ⟨?_, below_grown q os _ (Nat.le_refl _)⟩
        have : res = false := by
          rw [HR.out]
          refine decide_eq_false fun e => hxy ?_
          have := HX.out
          rw [e] at this
          simpa using this.1.symm.trans this.2
        rw [this]; rfl
    · have hltz : ¬ (i : Int) < (N : Int) := by omega
      go_wp2
      go_ret
      obtain ⟨⟨q, os, rfl⟩, ht⟩ := HI.out
      refine ⟨?_, below_grown q os _ (Nat.le_refl _)⟩
      have : res = true := by
        rw [HR.out]
        refine decide_eq_true ?_
        rw [List.take_of_length_le (by have := HL.out; omega), List.take_of_length_le (by have := HL.out; omega)] at ht
        exact ht
      rw [this]; rfl

theorem equalN (va vb : Value) (la lb : List Int) (w : World) (ha : SlN w va la) (hb : SlN w vb lb) (hna : la.length ≤ 1000000000000) (hnb : lb.length ≤ 1000000000000) :
    Calls Tryd.prog 24 #[va, vb] w fun e w' => e = .returned (.bool (decide (la = lb))) ∧ Below w.heap.size w w' := by
  have one : ∀ a b n c (w : World), Calls Tryd.prog 24 #[.slice a 0 c, .slice b 0 n] w fun e w' => e = .returned (.bool true) ∧ Below w.heap.size w w' := by
    intro a b n c w
    go_enter Tryd.func24, Tryd.ntmps24
    go_wp2
    go_loopg [13] 0 (fun g1 vi wr => vi = .int .i64 0 ∧ w = wr)
    case atStart => exact ⟨rfl, rfl⟩
    case round =>
      obtain ⟨rfl, rfl⟩ := hrel
      go_wp2
      go_ret
      exact ⟨rfl, Below.refl _ _⟩
  have two : ∀ a b (N M : Nat) c d (w : World), N ≠ M → N ≤ 1000000000000 → M ≤ 1000000000000 → Calls Tryd.prog 24 #[.slice a N c, .slice b M d] w fun e w' => e = .returned (.bool false) ∧ Below w.heap.size w w' := by
    intro a b N M c d w hne h1 h2
    have hNMz : ¬ (N : Int) = (M : Int) := by omega
    have hNMb : ((N : Int) == (M : Int)) = false := by simpa using hNMz
    go_enter Tryd.func24, Tryd.ntmps24
    go_wp2
    go_ret
    exact ⟨rfl, Below.refl _ _⟩
  by_cases hl : la.length = lb.length
  · by_cases he : la = []
    · subst he
      obtain rfl : lb = [] := List.eq_nil_of_length_eq_zero (by simpa using hl.symm)
      obtain ⟨a, c, rfl⟩ := ha.len
      obtain ⟨b, d, rfl⟩ := hb.len
      exact one _ _ _ _ w
    · exact equalO va vb la lb w (ha.slo he) (hb.slo fun e => he (List.eq_nil_of_length_eq_zero (by rw [hl, e]; rfl))) hna hnb hl
  · have hne : la ≠ lb := fun e => hl (by rw [e])
    rw [decide_eq_false hne]
    obtain ⟨a, c, rfl⟩ := ha.len
    obtain ⟨b, d, rfl⟩ := hb.len
    exact two _ _ _ _ _ _ w hl hna hnb
end Go.Proofs.YtkadmnabhoijdaaDoor.Nfd
