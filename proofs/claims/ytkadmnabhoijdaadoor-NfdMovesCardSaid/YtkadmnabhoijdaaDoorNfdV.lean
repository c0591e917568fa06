/- nfd.New, nfd.NFD, nfd.Is. -/
import Derived.Test.YtkadmnabhoijdaaDoorNfdW
set_option linter.unusedVariables false
namespace Go.Proofs.YtkadmnabhoijdaaDoor.Nfd
open Go Go.RowKit Go.Shelf Go.Proofs Go.Lib Go.Sort
open Go.Proofs.YtkadmnabhoijdaaDoor.Look Go.Proofs.YtkadmnabhoijdaaDoor.New

set_option maxHeartbeats 4000000 in
set_option maxRecDepth 100000 in
theorem nnew (w : World) (hT : TabsN w) : Calls Tryd.prog 22 #[] w fun e w' =>
    ∃ tb cap, e = .returned (.agg #[.slice (some ⟨tb, 0, none⟩) 572 cap]) ∧ w.heap.size ≤ tb ∧ RowAt tableT w' tb ∧ Below w.heap.size w w' := by
  have cN := fun o => newT (w.alloc o) (hT.below ((Below.refl _ w).alloc (Nat.le_refl _) o))
  have hR : ∀ {b W}, b < W.heap.size → (∀ j v, (cells4 tableT)[j]? = some v → W.cell? ⟨b, j, none⟩ = some v) → RowAt tableT W b := fun h1 h2 => ⟨h1, h2⟩
  generalize tableT = T at *
  have hbox : ∀ w1, Below (w.alloc (.cells #[.slice none 0 0] 41)).heap.size (w.alloc (.cells #[.slice none 0 0] 41)) w1 → w1.cell? ⟨w.heap.size, 0, none⟩ = some (.slice none 0 0) ∧ w1.frozen? ⟨w.heap.size, 0, none⟩ = false ∧ w.heap.size < w1.heap.size := fun w1 hb => by
    refine ⟨?_, ?_, by have := hb.size; simp at this; omega⟩
    · rw [hb.cell (p := ⟨w.heap.size, 0, none⟩) (by simp)]; simp
    · rw [hb.frozen (p := ⟨w.heap.size, 0, none⟩) (by simp)]; simp
  go_enter Tryd.func22, Tryd.ntmps22
  go_wp2_with (go_at_call 27; refine (cN _).mono ?_; rintro e w1 ⟨tb, cap, rfl, h1, h2, h3, hb⟩; clear cN; obtain ⟨hc, hf, hz⟩ := hbox _ hb; clear hbox)
  have htb : w.heap.size < tb := by simp at h1; omega
  refine bodyPost_ret (v := .agg #[.slice (some ⟨tb, 0, none⟩) 572 cap]) (by simp [results, Tryd.results22, go_sem, hc]) rfl ⟨tb, cap, rfl, Nat.le_of_lt htb, ⟨by simp; exact h2, fun j v hv => ?_⟩, ?_⟩
  · rw [World.cell?_setCell_other _ _ _ _ (by intro e; simp only [Addr.mk.injEq] at e; omega)]
    exact h3 j v hv
  · exact (((Below.refl _ w).alloc (Nat.le_refl _) _).trans (hb.mono (by simp))).setCell (Nat.le_refl _) _

theorem TabsN.same {w w' : World} (h : TabsN w) (hb : Below w.heap.size w w') : TabsN w' := h.below hb

/-- How far the walk has come. -/
def NfdAt (w w1 wr : World) (l : List Int) (i : Nat) (v : Value) : Prop := Below (w.heap.size + 1) w1 wr ∧ OwnR wr (w.heap.size + 1) v ((l.take i).flatMap apV)
theorem flat_take_len (l : List Int) (i : Nat) (hl : l.length ≤ 1000000000) : ((l.take i).flatMap apV).length ≤ 100000000000 := by
  have := (flat_len (l.take i)).2
  have : (l.take i).length ≤ l.length := by rw [List.length_take]; omega
  omega

set_option maxHeartbeats 8000000 in
set_option maxRecDepth 1000000 in
theorem nfdM (tb cap : Nat) (v : Value) (l : List Int) (w : World) (hT : RowAt tableT w tb) (h : SlN w v l) (hn : l.length ≤ 1000000000) (hr : ∀ x ∈ l, -2147483648 ≤ x ∧ x ≤ 2147483647) :
    Calls Tryd.prog 23 #[.agg #[.slice (some ⟨tb, 0, none⟩) 572 cap], v] w fun e w' => ∃ v', e = .returned v' ∧ OwnR w' w.heap.size v' (nfdV l) ∧ Below w.heap.size w w' := by
  have step : ∀ (i : Nat) (x : Int) (out : Value) (wr : World), l[i]? = some x → NfdAt w (w.alloc (.cells #[.slice (some ⟨tb, 0, none⟩) 572 cap] 41)) wr l i out →
      Calls Tryd.prog 28 #[.agg #[.slice (some ⟨tb, 0, none⟩) 572 cap], out, .int .i32 x] wr fun e w' => ∃ v', e = .returned v' ∧ Aside (NfdAt w (w.alloc (.cells #[.slice (some ⟨tb, 0, none⟩) 572 cap] 41)) w' l (i + 1) v') := by
    intro i x out wr hx hA
    have hlt := hT.lt
    have hsz := hA.1.size
    simp at hsz
    refine (apart_all tb cap x (hr x (List.mem_of_getElem? hx)) out _ (w.heap.size + 1) wr (rowAt_of hT (by omega) ?_) (by omega) (by omega) hA.2 (flat_take_len l i hn)).mono ?_
    · rw [hA.1.block tb (by omega), Below.heap_alloc _ _ _ hlt]
    · rintro e w' ⟨v', rfl, hO⟩
      refine ⟨v', rfl, hA.1.trans (hO.below hA.2 (by omega)), ?_⟩
      have e : (l.take (i + 1)).flatMap apV = (l.take i).flatMap apV ++ apV x := by
        rw [List.take_add_one, hx]
        simp
      rw [e]
      exact hO.own
  have last : ∀ (out : Value) (wr : World), NfdAt w (w.alloc (.cells #[.slice (some ⟨tb, 0, none⟩) 572 cap] 41)) wr l l.length out →
      Calls Tryd.prog 8 #[out] wr fun e w' => ∃ v', e = .returned v' ∧ Aside (OwnR w' w.heap.size v' (nfdV l) ∧ Below w.heap.size w w') := by
    intro out wr hA
    have hsz := hA.1.size
    simp at hsz
    have hA2 := hA.2
    rw [List.take_length] at hA2
    refine (ordN out _ wr hA2.sln (by have := (flat_len l).2; omega)).mono ?_
    rintro e w' ⟨v', rfl, h1, h2⟩
    exact ⟨v', rfl, h1.mono (by omega), (((Below.refl _ w).alloc (Nat.le_refl _) _).trans (hA.1.mono (by omega))).trans (h2.mono (by omega))⟩
  have cells : ∀ (i : Nat) (x : Int) (wr : World) (out : Value), l[i]? = some x → NfdAt w (w.alloc (.cells #[.slice (some ⟨tb, 0, none⟩) 572 cap] 41)) wr l i out → wr.cell? ⟨w.heap.size, 0, none⟩ = some (.slice (some ⟨tb, 0, none⟩) 572 cap) ∧ ∀ b off c, v = .slice (some ⟨b, off, none⟩) l.length c → wr.cell? ⟨b, off + i, none⟩ = some (.int .i32 x) := by
    intro i x wr out hx hA
    refine ⟨by rw [hA.1.cell (p := ⟨w.heap.size, 0, none⟩) (by simp)]; simp, fun b off c hv => ?_⟩
    have hne : l ≠ [] := fun e => by rw [e] at hx; simp at hx
    obtain ⟨b', off', c', h1, h2, h3⟩ := h.slo hne
    · rw [h1] at hv
      simp only [Value.slice.injEq, Option.some.injEq, Addr.mk.injEq, and_true, true_and] at hv
      obtain ⟨⟨rfl, rfl⟩, _⟩ := hv
      rw [hA.1.cell (p := ⟨b', off' + i, none⟩) (by show b' < _; omega)]
      have : (w.alloc (.cells #[.slice (some ⟨tb, 0, none⟩) 572 cap] 41)).cell? ⟨b', off' + i, none⟩ = w.cell? ⟨b', off' + i, none⟩ := World.cell?_of_block (w := w) (Below.heap_alloc _ _ _ h2)
      rw [this]
      exact h3 i x hx
  have start : NfdAt w (w.alloc (.cells #[.slice (some ⟨tb, 0, none⟩) 572 cap] 41)) (w.alloc (.cells #[.slice (some ⟨tb, 0, none⟩) 572 cap] 41)) l 0 (.slice none 0 0) := ⟨Below.refl _ _, World.ownsRow_nil _ _ _ _⟩
  have fin : ∀ w' v', Aside (OwnR w' w.heap.size v' (nfdV l) ∧ Below w.heap.size w w') → ∃ v'', Ending.returned v' = .returned v'' ∧ OwnR w' w.heap.size v'' (nfdV l) ∧ Below w.heap.size w w' := fun w' v' h => ⟨v', rfl, h.out⟩
  have HS : Aside (NfdAt w (w.alloc (.cells #[.slice (some ⟨tb, 0, none⟩) 572 cap] 41)) (w.alloc (.cells #[.slice (some ⟨tb, 0, none⟩) 572 cap] 41)) l 0 (.slice none 0 0)) := start
  obtain ⟨ad, cp, hv⟩ := h.len
  have hsome : 0 < l.length → ∃ b off, ad = some ⟨b, off, none⟩ := fun hp => by
    obtain ⟨b', off', c', h1, _⟩ := h.slo (fun e => by rw [e] at hp; simp at hp)
    rw [h1] at hv
    simp only [Value.slice.injEq] at hv
    exact ⟨b', off', hv.1.symm⟩
  clear h start hr hT
  subst hv
  obtain ⟨N, hN⟩ : ∃ N, N = l.length := ⟨_, rfl⟩
  simp only [← hN] at hn hsome cells last ⊢
  have HX : Aside (∀ i, i < N → ∃ x, l[i]? = some x) := fun i hi => ⟨_, List.getElem?_eq_getElem (by omega)⟩
  clear hN
  have HF := Lib.hid fin
  have HL := Lib.hid last
  have HC := Lib.hid cells
  have HT := Lib.hid step
  have HO := Lib.hid hsome
  clear fin last cells step hsome
  go_enter Tryd.func23, Tryd.ntmps23
  go_wp2
  go_loopg [5, 10] N (fun g1 vo vi wr => ∃ (i : Nat), vi = .int .i64 i ∧ i ≤ N ∧ N - i ≤ g1 ∧ Aside (NfdAt w (w.alloc (.cells #[.slice (some ⟨tb, 0, none⟩) 572 cap] 41)) wr l i vo))
  case atStart => exact ⟨0, rfl, by omega, by omega, HS⟩
  case round =>
    clear HS
    obtain ⟨i, rfl, hi, hg1, HA⟩ := hrel
    by_cases hlt : i < N
    · have hltz : (i : Int) < (N : Int) := by omega
      obtain ⟨b, off, rfl⟩ := HO.out (by omega)
      obtain ⟨x, hx⟩ := HX.out i hlt
      obtain ⟨c1, c2⟩ := HC.out i x wr u5 hx HA.out
      have c3 := c2 b off cp rfl
      have c4 := HT.out i x u5 wr hx HA.out
      have hx' := Lib.hid hx
      clear hx c2
      go_wp2_with (go_at_call 28; refine c4.mono ?_; rintro e w2 ⟨v', rfl, hA2⟩; clear c4)
      go_roundg (N - (i + 1))
      case measure => omega
      case rel => exact ⟨i + 1, by first | rfl | go_num, by omega, by omega, hA2⟩
    · have hltz : ¬ (i : Int) < (N : Int) := by omega
      obtain rfl : i = N := by omega
      have c4 := HL.out u5 wr HA.out
      go_wp2_with (go_at_call 8; refine c4.mono ?_; rintro e w2 ⟨v', rfl, hA2⟩; clear c4)
      go_ret
      exact HF.out _ _ hA2

set_option maxHeartbeats 4000000 in
set_option maxRecDepth 100000 in
/-- nfd.NFD. -/
theorem nfd (v : Value) (l : List Int) (w : World) (hT : TabsN w) (h : SlN w v l) (hn : l.length ≤ 1000000000) (hr : ∀ x ∈ l, -2147483648 ≤ x ∧ x ≤ 2147483647) :
    Calls Tryd.prog 12 #[v] w fun e w' => ∃ v', e = .returned v' ∧ OwnR w' w.heap.size v' (nfdV l) ∧ Below w.heap.size w w' := by
  have cN := nnew w hT
  have cM : ∀ tb cap w1, RowAt tableT w1 tb → Below w.heap.size w w1 → Calls Tryd.prog 23 #[.agg #[.slice (some ⟨tb, 0, none⟩) 572 cap], v] w1 fun e w' => ∃ v', e = .returned v' ∧ Aside (OwnR w' w.heap.size v' (nfdV l) ∧ Below w.heap.size w w') := fun tb cap w1 h1 hb => by
    refine (nfdM tb cap v l w1 h1 (h.below hb) hn hr).mono ?_
    rintro e w' ⟨v', rfl, k1, k2⟩
    exact ⟨v', rfl, k1.mono hb.size, hb.trans (k2.mono hb.size)⟩
  clear h hr hT
  go_enter Tryd.func12, Tryd.ntmps12
  go_wp2_with (first | (go_at_call 22; refine cN.mono ?_; rintro e w1 ⟨tb, cap, rfl, h1, h2, h3⟩; have c2 := cM tb cap w1 h2 h3; clear cN cM) | (go_at_call 23; refine c2.mono ?_; rintro e w2 ⟨v', rfl, hO⟩; clear c2))
  go_ret
  exact ⟨v', rfl, hO.out⟩

/-- A row that is written out. -/
theorem SlN.lit (w : World) (l : List Int) : SlN (w.alloc (.cells (l.map enc32).toArray 21)) (.slice (some ⟨w.heap.size, 0, none⟩) l.length l.length) l := by
  refine SlO.sln ⟨w.heap.size, 0, l.length, rfl, by simp, fun j x hx => ?_⟩
  have hn : (w.alloc (.cells (l.map enc32).toArray 21)).heap[w.heap.size]? = some (.cells (l.map enc32).toArray 21) := World.alloc_heap_new w _
  simp only [World.cell?, hn]
  simp [hx]
theorem OwnR.lit (w : World) (l : List Int) (hl : l.length ≤ 1000000000000) : OwnR (w.alloc (.cells (l.map enc32).toArray 21)) w.heap.size (.slice (some ⟨w.heap.size, 0, none⟩) l.length l.length) l := by
  have := w.ownsRow_lit (base := w.heap.size) (e := 21) (size := 1) (l.map enc32).toArray l.length (Nat.le_refl _) (by unfold maxLen; omega) (by simp)
  simpa [OwnR] using this
theorem OwnR.form {w : World} {base : Nat} {v : Value} {l : List Int} (h : OwnR w base v l) (hl : 0 < l.length) : ∃ g cap, v = .slice (some ⟨g, 0, none⟩) l.length cap ∧ base ≤ g ∧ g < w.heap.size := by
  rcases h.2 with ⟨_, h2⟩ | ⟨g, cap, cur, rfl, h2, h3, _⟩
  · omega
  · exact ⟨g, cap, rfl, h2, (Array.getElem?_eq_some_iff.1 h3).1⟩

end Go.Proofs.YtkadmnabhoijdaaDoor.Nfd
