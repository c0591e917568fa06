/- nfc's joiner: one more character. -/
import Derived.Deep.RegionHeld3
import Derived.BigRegion
import Derived.Test.YtkadmnabhoijdaaGreatDoorNfcP
import Derived.Test.YtkadmnabhoijdaaGreatDoorAppS
set_option linter.unusedVariables false
namespace Go.Proofs.YtkadmnabhoijdaaGreatDoor.Nfd
open Go Go.RowKit Go.Shelf Go.Proofs Go.Lib Go.Sort
open Go.Proofs.YtkadmnabhoijdaaGreatDoor.Look Go.Proofs.YtkadmnabhoijdaaGreatDoor.New

set_option maxHeartbeats 4000000 in
set_option maxRecDepth 100000 in
theorem hjoin (a b : Int) (ha : -2147483648 ≤ a ∧ a ≤ 2147483647) (hb : -2147483648 ≤ b ∧ b ≤ 2147483647) (w : World) :
    Calls Tryz.prog 39 #[.int .i32 a, .int .i32 b] w fun e w' => e = .returned (.tuple #[.int .i32 ((hanJ a b).getD 0), .bool (hanJ a b).isSome]) ∧ w = w' := by
  have cS := syl a w
  obtain ⟨ha1, ha2⟩ := ha
  obtain ⟨hb1, hb2⟩ := hb
  by_cases h1 : 4352 ≤ a ∧ a < 4371
  · obtain ⟨k1, k2⟩ := h1
    rw [decide_eq_false (by omega)] at cS
    by_cases h2 : 4449 ≤ b
    · by_cases h3 : b < 4470
      · have hV : hanJ a b = some (44032 + ((a - 4352) * 21 + b - 4449) * 28) := by unfold hanJ; rw [if_pos ⟨k1, k2, h2, h3⟩]
        rw [hV]
        clear hV cS
        go_enter Tryz.func39, Tryz.ntmps39
        go_wp2
        go_ret2
        exact ⟨rfl, rfl⟩
      · have hV : hanJ a b = none := by unfold hanJ; rw [if_neg (by omega), if_neg (by omega)]
        rw [hV]
        clear hV
        go_enter Tryz.func39, Tryz.ntmps39
        go_wp2_with (go_at_call 64; refine cS.mono ?_; rintro e w' ⟨rfl, rfl⟩)
        go_ret2
        exact ⟨rfl, rfl⟩
    · have hV : hanJ a b = none := by unfold hanJ; rw [if_neg (by omega), if_neg (by omega)]
      rw [hV]
      clear hV
      go_enter Tryz.func39, Tryz.ntmps39
      go_wp2_with (go_at_call 64; refine cS.mono ?_; rintro e w' ⟨rfl, rfl⟩)
      go_ret2
      exact ⟨rfl, rfl⟩
  · by_cases h2 : 44032 ≤ a ∧ a < 55204
    · obtain ⟨k1, k2⟩ := h2
      rw [decide_eq_true ⟨k1, k2⟩] at cS
      clear h1
      obtain ⟨s, rfl⟩ : ∃ s, a = s + 44032 := ⟨a - 44032, by omega⟩
      have s1 : 0 ≤ s := by omega
      have s2 : s < 11172 := by omega
      by_cases h3 : s % 28 = 0
      · by_cases h4 : 4519 < b
        · by_cases h5 : b < 4547
          · have hV : hanJ (s + 44032) b = some (s + 44032 + b - 4519) := by unfold hanJ; rw [if_neg (by omega), if_pos ⟨⟨k1, k2⟩, by omega, h4, h5⟩]
            rw [hV]
            clear hV
            go_enter Tryz.func39, Tryz.ntmps39
            go_wp2_with (go_at_call 64; refine cS.mono ?_; rintro e w' ⟨rfl, rfl⟩)
            go_ret2
            exact ⟨rfl, rfl⟩
          · have hV : hanJ (s + 44032) b = none := by unfold hanJ; rw [if_neg (by omega), if_neg (by omega)]
            rw [hV]
            clear hV
            go_enter Tryz.func39, Tryz.ntmps39
            go_wp2_with (go_at_call 64; refine cS.mono ?_; rintro e w' ⟨rfl, rfl⟩)
            go_ret2
            exact ⟨rfl, rfl⟩
        · have hV : hanJ (s + 44032) b = none := by unfold hanJ; rw [if_neg (by omega), if_neg (by omega)]
          rw [hV]
          clear hV
          go_enter Tryz.func39, Tryz.ntmps39
          go_wp2_with (go_at_call 64; refine cS.mono ?_; rintro e w' ⟨rfl, rfl⟩)
          go_ret2
          exact ⟨rfl, rfl⟩
      · have hV : hanJ (s + 44032) b = none := by unfold hanJ; rw [if_neg (by omega), if_neg (by omega)]
        rw [hV]
        have h3b : (s % 28 == 0) = false := by simpa using h3
        clear hV
        go_enter Tryz.func39, Tryz.ntmps39
        go_wp2_with (go_at_call 64; refine cS.mono ?_; rintro e w' ⟨rfl, rfl⟩)
        go_ret2
        exact ⟨rfl, rfl⟩
    · rw [decide_eq_false h2] at cS
      have hV : hanJ a b = none := by unfold hanJ; rw [if_neg (by omega), if_neg (by omega)]
      rw [hV]
      clear hV h2
      by_cases k1 : 4352 ≤ a
      · have k2 : ¬ a < 4371 := by omega
        clear h1
        go_enter Tryz.func39, Tryz.ntmps39
        go_wp2_with (go_at_call 64; refine cS.mono ?_; rintro e w' ⟨rfl, rfl⟩)
        go_ret2
        exact ⟨rfl, rfl⟩
      · clear h1
        go_enter Tryz.func39, Tryz.ntmps39
        go_wp2_with (go_at_call 64; refine cS.mono ?_; rintro e w' ⟨rfl, rfl⟩)
        go_ret2
        exact ⟨rfl, rfl⟩

set_option maxHeartbeats 4000000 in
set_option maxRecDepth 100000 in
theorem both (jb tb cap : Nat) (a b : Int) (w : World) (ha : -2147483648 ≤ a ∧ a ≤ 2147483647) (hb : -2147483648 ≤ b ∧ b ≤ 2147483647) (hc : w.cell? ⟨jb, 0, none⟩ = some (.slice (some ⟨tb, 0, none⟩) 572 cap)) (hT : RowAt tableT w tb) :
    Calls Tryz.prog 28 #[.pointer (some ⟨jb, 0, none⟩), .int .i32 a, .int .i32 b] w fun e w' => e = .returned (.tuple #[.int .i32 ((bothV a b).getD 0), .bool (bothV a b).isSome]) ∧ Below w.heap.size w w' := by
  have cH := hjoin a b ha hb w
  have cJ := tjoin tableT tb cap a b w hT (by rw [tab_len]; decide)
  rw [tab_len] at cJ
  cases hh : hanJ a b with
  | some x =>
    have hV : bothV a b = some x := by unfold bothV; rw [hh]
    rw [hV]
    rw [hh] at cH
    simp only [Option.getD_some, Option.isSome_some] at cH ⊢
    clear cJ hV hh hT ha hb
    go_enter Tryz.func28, Tryz.ntmps28
    go_wp2_with (go_at_call 39; refine cH.mono ?_; rintro e w' ⟨rfl, rfl⟩)
    go_ret2
    exact ⟨rfl, Below.refl _ _⟩
  | none =>
    have hV : bothV a b = if (joinV tableT a b).2 = true then some (joinV tableT a b).1 else none := by unfold bothV; rw [hh]
    have hz : (joinV tableT a b).2 = false → (joinV tableT a b).1 = 0 := by
      unfold joinV
      split
      · intro _; rfl
      · intro h; cases h
    rw [hV]
    rw [hh] at cH
    simp only [Option.getD_none, Option.isSome_none] at cH
    generalize joinV tableT a b = V at cJ hz ⊢
    obtain ⟨x, t⟩ := V
    have hR : ((if t = true then some x else none).getD 0 = x) ∧ (if t = true then some x else none : Option Int).isSome = t := by
      cases t with
      | true => simp
      | false =>
        obtain rfl : x = 0 := hz rfl
        simp
    simp only at cJ ⊢
    rw [hR.1, hR.2]
    clear hV hz hR hh hT ha hb
    go_enter Tryz.func28, Tryz.ntmps28
    go_wp2_with (first | (go_at_call 39; refine cH.mono ?_; rintro e w' ⟨rfl, rfl⟩) | (go_at_call 40; refine cJ.mono ?_; rintro e w' ⟨rfl, hbl⟩))
    go_ret2
    exact ⟨rfl, hbl⟩
end Go.Proofs.YtkadmnabhoijdaaGreatDoor.Nfd
set_option linter.unusedVariables false
namespace Go.Proofs.YtkadmnabhoijdaaGreatDoor.Nfd
open Go Go.RowKit Go.Shelf Go.Proofs Go.Lib Go.Sort
open Go.Proofs.YtkadmnabhoijdaaGreatDoor.Look Go.Proofs.YtkadmnabhoijdaaGreatDoor.New

theorem append_sln_at {ops : Array Oper} {rest : List Oper} {o : Oper} {a : Act} {Q : Exit → Act → World → Prop} {w : World} (hgd : o.guard = none) (s x : Operand)
    (ho : o.op = .call { callee := .builtin .append, args := #[s, x], argTypes := #[22, 22] })
    (base : Nat) (v : Value) (xs : List Int) (hs : a.eval s = v) (hown : OwnR w base v xs) (ad : Addr) (c : Nat) (l : List Int) (hx : a.eval x = .slice (some ad) l.length c) (hc : ∀ j u, (l.map enc32)[j]? = some u → w.cell? (ad.add j) = some u) (hlen : xs.length + l.length ≤ 1000000000000) (hbase : base ≤ w.heap.size)
    (h : ∀ v' w', OwnR w' base v' (xs ++ l) → w.grownBy w' v.ownBlock → Below base w w' → (v'.ownBlock = v.ownBlock ∨ v'.ownBlock = some w.heap.size) → wpList Tryz.prog ops Q rest (a.put o.dst v') w') : wpList Tryz.prog ops Q (o :: rest) a w := by
  obtain ⟨ie, hi, hz, hsz, hby⟩ := info_parts i21
  refine wpList_append_own_at w hgd s x 22 ho base 21 ie (.int .i32 0) 1 4 Tryz.underlying22 hi hz hsz hby rfl (by omega) v xs.length (xs.map enc32) hs hown ad l.length c (l.map enc32) hx (by simp) hc one32 (by unfold maxLen; omega) (by omega) hbase ?_
  intro v' w' h1 h2 h3 h4
  refine h v' w' ?_ h2 ((Below.refl _ _).grown h2 hbase fun k hk => (hown.lt k hk).1) h4
  unfold OwnR
  rw [List.length_append, List.map_append]
  exact h1
theorem one_cells (W : World) (n : Nat) (r : Int) (hn : n = W.heap.size) : ∀ j u, ([r].map enc32)[j]? = some u → (W.alloc (.cells #[.int .i32 r] 21)).cell? ((⟨n, 0, none⟩ : Addr).add j) = some u := by
  subst hn
  exact cell_one_new W (.int .i32 r) 21
/-- The joiner's four cells. -/
structure JC (w : World) (jb : Nat) (a b c d : Value) : Prop where
  lt : jb < w.heap.size
  c0 : w.cell? ⟨jb, 0, none⟩ = some a
  c1 : w.cell? ⟨jb, 1, none⟩ = some b
  c2 : w.cell? ⟨jb, 2, none⟩ = some c
  c3 : w.cell? ⟨jb, 3, none⟩ = some d
  f : ∀ k, w.frozen? ⟨jb, k, none⟩ = false
theorem JC.below {w w' : World} {jb B : Nat} {a b c d : Value} (h : JC w jb a b c d) (hb : Below B w w') (hB : jb < B) : JC w' jb a b c d :=
  ⟨Nat.lt_of_lt_of_le h.lt hb.size, (hb.cell (p := ⟨jb, 0, none⟩) hB).trans h.c0, (hb.cell (p := ⟨jb, 1, none⟩) hB).trans h.c1, (hb.cell (p := ⟨jb, 2, none⟩) hB).trans h.c2, (hb.cell (p := ⟨jb, 3, none⟩) hB).trans h.c3, fun k => (hb.frozen (p := ⟨jb, k, none⟩) hB).trans (h.f k)⟩
theorem cell_put {w : World} {b o : Nat} {u v : Value} (h : w.cell? ⟨b, o, none⟩ = some v) : (w.setCell ⟨b, o, none⟩ u).cell? ⟨b, o, none⟩ = some u := by
  unfold World.cell? at h ⊢
  simp only [World.setCell, Array.getElem?_modify, if_true]
  split at h
  · rename_i c t f hh
    rw [hh]
    simp only [Option.map_some]
    have : o < c.size := (Array.getElem?_eq_some_iff.1 h).1
    simp [this]
  · cases h
theorem frozen_put {w : World} {a p : Addr} {u : Value} : (w.setCell a u).frozen? p = w.frozen? p := by simp
theorem cell_off {w : World} {b o o' : Nat} {u : Value} (h : o ≠ o') : (w.setCell ⟨b, o, none⟩ u).cell? ⟨b, o', none⟩ = w.cell? ⟨b, o', none⟩ := World.cell?_setCell_other _ _ _ _ (by intro e; simp only [Addr.mk.injEq] at e; omega)
theorem JC.put1 {w : World} {jb : Nat} {a b c d u : Value} (h : JC w jb a b c d) : JC (w.setCell ⟨jb, 1, none⟩ u) jb a u c d :=
  ⟨by simpa using h.lt, (cell_off (by omega)).trans h.c0, cell_put h.c1, (cell_off (by omega)).trans h.c2, (cell_off (by omega)).trans h.c3, fun k => frozen_put.trans (h.f k)⟩
theorem JC.put2 {w : World} {jb : Nat} {a b c d u : Value} (h : JC w jb a b c d) : JC (w.setCell ⟨jb, 2, none⟩ u) jb a b u d :=
  ⟨by simpa using h.lt, (cell_off (by omega)).trans h.c0, (cell_off (by omega)).trans h.c1, cell_put h.c2, (cell_off (by omega)).trans h.c3, fun k => frozen_put.trans (h.f k)⟩
theorem JC.put3 {w : World} {jb : Nat} {a b c d u : Value} (h : JC w jb a b c d) : JC (w.setCell ⟨jb, 3, none⟩ u) jb a b c u :=
  ⟨by simpa using h.lt, (cell_off (by omega)).trans h.c0, (cell_off (by omega)).trans h.c1, (cell_off (by omega)).trans h.c2, cell_put h.c3, fun k => frozen_put.trans (h.f k)⟩
theorem OwnR.put {w : World} {base : Nat} {v : Value} {l : List Int} (h : OwnR w base v l) {a : Addr} (ha : a.block < base) (u : Value) : OwnR (w.setCell a u) base v l := ownsRow_setCell_below h ha u

/-- What holds of the state. -/
def OkS (s : List Int × Int × Int) : Prop := -1 ≤ s.2.1 ∧ s.2.1 < s.1.length ∧ -1 ≤ s.2.2 ∧ s.2.2 ≤ 510 ∧ ∀ x ∈ s.1, -2147483648 ≤ x ∧ x ≤ 2147483647
theorem k_bound (r : Int) : 0 ≤ kOf r ∧ kOf r ≤ 510 := by unfold kOf; exact classV_bound r
theorem okS_push {out : List Int} {i last r : Int} (h : OkS (out, i, last)) (hr : -2147483648 ≤ r ∧ r ≤ 2147483647) : OkS (if kOf r = 0 then (out ++ [r], (out.length : Int), -1) else (out ++ [r], i, kOf r)) := by
  have hk := k_bound r
  obtain ⟨h1, h2, h3, h4, h5⟩ := h
  have h6 : ∀ x ∈ out ++ [r], -2147483648 ≤ x ∧ x ≤ 2147483647 := fun x hx => by
    rcases List.mem_append.1 hx with hx | hx
    · exact h5 x hx
    · simp at hx; rw [hx]; exact hr
  simp only at h1 h2 h3 h4
  split
  · exact ⟨by simp only; omega, by simp; omega, by simp, by simp, h6⟩
  · exact ⟨by simp only; omega, by simp; omega, by simp only; omega, by simp only; omega, h6⟩
theorem okS_set {out : List Int} {i last x : Int} (h : OkS (out, i, last)) (hx : -2147483648 ≤ x ∧ x ≤ 2147483647) : OkS (out.set i.toNat x, i, last) := by
  obtain ⟨h1, h2, h3, h4, h5⟩ := h
  refine ⟨h1, by simpa using h2, h3, h4, fun y hy => ?_⟩
  rcases List.mem_or_eq_of_mem_set hy with hy | rfl
  · exact h5 y hy
  · exact hx

theorem rowAt_of' {T : List P4} {W W' : World} {b B : Nat} (h : RowAt T W b) (hb : Below B W W') (hB : b < B) : RowAt T W' b := rowAt_of h hb.size (hb.block b hB)
/-- The joiner in memory. -/
structure JAt (w : World) (jb tb cap av : Nat) (s : List Int × Int × Int) : Prop where
  ex : ∃ v, v.ownBlock ≠ some av ∧ JC w jb (.slice (some ⟨tb, 0, none⟩) 572 cap) v (.int .i64 s.2.1) (.int .i64 s.2.2) ∧ OwnR w (jb + 1) v s.1
  tab : RowAt tableT w tb
  lt : tb < jb
  ok : OkS s
/-- While the walk goes on. -/
structure JS (w w1 : World) (jb tb cap av : Nat) (v : Value) (out : List Int) (i last : Int) : Prop where
  jc : JC w1 jb (.slice (some ⟨tb, 0, none⟩) 572 cap) v (.int .i64 i) (.int .i64 last)
  own : OwnR w1 (jb + 1) v out
  tab : RowAt tableT w1 tb
  below : Below jb w w1
  ne : v.ownBlock ≠ some av
  keep : w1.heap[av]? = w.heap[av]?
  avl : av < w1.heap.size
theorem JS.go {w w1 w2 : World} {jb tb cap av : Nat} {v : Value} {out : List Int} {i last : Int} (h : JS w w1 jb tb cap av v out i last) (hb : Below w1.heap.size w1 w2) : JS w w2 jb tb cap av v out i last :=
  ⟨h.jc.below hb h.jc.lt, h.own.below hb, h.tab.below hb, h.below.trans (hb.mono (Nat.le_of_lt h.jc.lt)), h.ne, (hb.block av h.avl).trans h.keep, Nat.lt_of_lt_of_le h.avl hb.size⟩

theorem SlN.one (W : World) (n : Nat) (r : Int) (hn : n = W.heap.size) : SlN (W.alloc (.cells #[.int .i32 r] 21)) (.slice (some ⟨n, 0, none⟩) 1 1) [r] := by
  subst hn
  exact SlN.lit W [r]
theorem js_cell {W w3 : World} {jb : Nat} {a b c d : Value} {o : Obj} (hJ : JC W jb a b c d) (hb : Below (jb + 1) (W.alloc o) w3) : w3.cell? ⟨jb, 1, none⟩ = some b ∧ w3.frozen? ⟨jb, 1, none⟩ = false ∧ jb < w3.heap.size := by
  have h := (hJ.below ((Below.refl (jb + 1) W).alloc hJ.lt o) (Nat.lt_succ_self jb)).below hb (Nat.lt_succ_self jb)
  exact ⟨h.c1, h.f 1, h.lt⟩
theorem below_put (w : World) (jb k : Nat) (u : Value) : Below jb w (w.setCell ⟨jb, k, none⟩ u) := (Below.refl jb w).setCell (p := ⟨jb, k, none⟩) (Nat.le_refl _) u
/-- What is left behind the tests: the row grows. -/
theorem js_end {w w1 w3 : World} {jb tb cap av : Nat} {v v' : Value} {out : List Int} {i last i' last' r : Int} {o : Obj} (hS : JS w w1 jb tb cap av v out i last) (hav : av ≠ jb) (W : World) (hJ : JC W jb (.slice (some ⟨tb, 0, none⟩) 572 cap) v (.int .i64 i') (.int .i64 last')) (hb : Below jb w1 W) (hk : W.heap[av]? = w1.heap[av]?) (hb3 : Below (jb + 1) (W.alloc o) w3) (hg : (W.alloc o).grownBy w3 v.ownBlock) (hat : v'.ownBlock = v.ownBlock ∨ v'.ownBlock = some (W.alloc o).heap.size) (ho : OwnR w3 (jb + 1) v' (out ++ [r])) (htb : tb < jb) (hok : OkS (out ++ [r], i', last')) :
    JAt (w3.setCell ⟨jb, 1, none⟩ v') jb tb cap av (out ++ [r], i', last') ∧ Below jb w (w3.setCell ⟨jb, 1, none⟩ v') ∧ (w3.setCell ⟨jb, 1, none⟩ v').heap[av]? = w.heap[av]? := by
  have havW : av < W.heap.size := Nat.lt_of_lt_of_le hS.avl hb.size
  have hb3' : Below (jb + 1) W w3 := ((Below.refl _ _).alloc hJ.lt o).trans hb3
  have hJ3 := hJ.below hb3' (Nat.lt_succ_self jb)
  have hb1 : Below jb w (w3.setCell ⟨jb, 1, none⟩ v') := ((hS.below.trans hb).trans (hb3'.mono (Nat.le_succ jb))).setCell (p := ⟨jb, 1, none⟩) (Nat.le_refl _) _
  refine ⟨⟨⟨v', ?_, hJ3.put1, ho.put (Nat.lt_succ_self jb) _⟩, ?_, htb, hok⟩, hb1, ?_⟩
  · rcases hat with h | h
    · rw [h]; exact hS.ne
    · rw [h]
      intro e
      injection e with e
      simp at e
      omega
  · have hb2 : Below jb w1 (w3.setCell ⟨jb, 1, none⟩ v') := (hb.trans (hb3'.mono (Nat.le_succ jb))).setCell (p := ⟨jb, 1, none⟩) (Nat.le_refl _) _
    exact rowAt_of' hS.tab hb2 htb
  · rw [Below.heap_setCell _ _ _ _ (by exact hav), hg.block av (by simp; omega) (fun e => hS.ne e.symm), Below.heap_alloc _ _ _ havW, hk, hS.keep]
set_option maxHeartbeats 16000000 in
set_option maxRecDepth 1000000 in
/-- A character that is put behind. -/
theorem addPush (jb tb cap av : Nat) (out : List Int) (i last r : Int) (w : World) (hav : av < w.heap.size) (havj : av ≠ jb) (h : JAt w jb tb cap av (out, i, last)) (hr : -2147483648 ≤ r ∧ r ≤ 2147483647) (hl : out.length ≤ 100000000000)
    (hc : i < 0 ∨ (0 ≤ i ∧ kOf r ≤ last) ∨ (0 ≤ i ∧ last < kOf r ∧ bothV (out.getD i.toNat 0) r = none)) :
    Calls Tryz.prog 15 #[.pointer (some ⟨jb, 0, none⟩), .int .i32 r] w fun e w' => e = .returned (.tuple #[]) ∧ JAt w' jb tb cap av (if kOf r = 0 then (out ++ [r], (out.length : Int), -1) else (out ++ [r], i, kOf r)) ∧ Below jb w w' ∧ w'.heap[av]? = w.heap[av]? := by
  obtain ⟨⟨v, hne, hJ, hO⟩, hT, htb, hok⟩ := h
  simp only at hJ hO
  have hkb := k_bound r
  have hok2 := okS_push hok hr
  obtain ⟨o1, o2, o3, o4, o5⟩ := hok
  simp only at o1 o2 o3 o4 o5
  have cO : Calls Tryz.prog 27 #[.int .i32 r] w fun e w' => e = .returned (.int .i64 (kOf r)) ∧ Aside (JS w w' jb tb cap av v out i last) := by
    unfold kOf
    refine (ofc r w).mono ?_
    rintro e w' ⟨rfl, q, os, rfl⟩
    exact ⟨rfl, (⟨hJ, hO, hT, Below.refl _ _, hne, rfl, hav⟩ : JS w w jb tb cap av v out i last).go (below_grown q os _ (Nat.le_refl _))⟩
  obtain ⟨N, a, cp, hv, hN⟩ : ∃ N a cp, v = .slice a N cp ∧ N = out.length := by
    obtain ⟨a, cp, e⟩ := hO.sln.len
    exact ⟨_, a, cp, e, rfl⟩
  subst hv
  have hrow : 0 ≤ i → ∃ g, a = some ⟨g, 0, none⟩ := fun h0 => by
    obtain ⟨g, cap', e, _⟩ := hO.form (by omega)
    simp only [Value.slice.injEq] at e
    exact ⟨g, e.1⟩
  have cell : ∀ w1 g, a = some ⟨g, 0, none⟩ → 0 ≤ i → JS w w1 jb tb cap av (.slice a N cp) out i last → w1.cell? ⟨g, i.toNat, none⟩ = some (.int .i32 (out.getD i.toNat 0)) := fun w1 g e h0 hS => by
    have hO := hS.own
    rw [e, hN] at hO
    refine hO.cellAt ?_
    rw [List.getD_eq_getElem?_getD, List.getElem?_eq_getElem (by omega)]
    rfl
  have cB : ∀ w1 k, 0 ≤ i → bothV (out.getD i.toNat 0) r = none → JS w w1 jb tb cap av (.slice a N cp) out i last → Calls Tryz.prog 28 #[.pointer (some ⟨jb, 0, none⟩), .int .i32 (out.getD i.toNat 0), .int .i32 r] (w1.drewN k) fun e w' => e = .returned (.tuple #[.int .i32 0, .bool false]) ∧ Aside (JS w w' jb tb cap av (.slice a N cp) out i last) := fun w1 k h0 hn hS => by
    have hy := o5 (out.getD i.toNat 0) (by rw [List.getD_eq_getElem?_getD, List.getElem?_eq_getElem (show i.toNat < out.length by omega)]; exact List.getElem_mem _)
    have hS' : JS w (w1.drewN k) jb tb cap av (.slice a N cp) out i last := hS.go ⟨rfl, rfl, rfl, Nat.le_refl _, fun _ _ => rfl⟩
    refine (both jb tb cap (out.getD i.toNat 0) r (w1.drewN k) hy hr hS'.jc.c0 hS'.tab).mono ?_
    rw [hn]
    rintro e w' ⟨rfl, hb⟩
    exact ⟨rfl, hS'.go hb⟩
  obtain ⟨c, hcv⟩ : ∃ c, c = kOf r := ⟨_, rfl⟩
  rw [← hcv] at cO hkb hok2 hc ⊢
  have b1 := hkb.1
  have b2 := hkb.2
  have HN : Aside (N = out.length) := hN
  rw [← hN] at o2 hl
  clear hJ hO hT hkb hN o5 hcv hne
  have hjn : jb ≠ jb + 1 := by omega
  by_cases hz : c = 0
  · subst hz
    rw [if_pos rfl] at hok2 ⊢
    have HO : Aside (OkS (out ++ [r], (out.length : Int), -1)) := hok2
    clear hok2
    rcases hc with h1 | ⟨h1, h2⟩ | ⟨h1, h2, h3⟩
    · obtain rfl : i = -1 := by omega
      clear cB cell hrow h1
      go_enter Tryz.func15, Tryz.ntmps15
      go_wp2_with (first
        | (at_builtin; refine append_sln_at rfl _ _ rfl (jb + 1) _ out rfl (World.ownsRow.alloc (OwnR.put (OwnR.put hS.out.own (Nat.lt_succ_self jb) _) (Nat.lt_succ_self jb) _) _) ⟨w1.heap.size, 0, none⟩ 1 [r] rfl (one_cells _ _ r (by simp)) (by have := HN.out; simp; omega) (by simp; omega) ?_; intro v' w3 ho hg hb3 hat; have hJ3 := js_cell ((hS.out.jc.put2 (u := .int .i64 N)).put3 (u := .int .i64 (-1))) hb3; obtain ⟨q1, q2, q3⟩ := hJ3; obtain ⟨g', cp', e', _, _⟩ := ho.form (by simp); obtain ⟨M', hM'⟩ : ∃ m, m = (out ++ [r]).length := ⟨_, rfl⟩; rw [← hM'] at e'; clear hM'; subst e'; have Hg := Lib.hid hg; have Hat := Lib.hid hat; clear hat hg)
        | (go_at_call 27; refine cO.mono ?_; rintro e w1 ⟨rfl, hS⟩; have g1 := hS.out.jc.c1; have g2 := hS.out.jc.c2; have g3 := hS.out.jc.c3; have gf := hS.out.jc.f; have gl := hS.out.jc.lt; clear cO))
      go_end0
      have hfin := js_end hS.out havj ((w1.setCell ⟨jb, 2, none⟩ (.int .i64 N)).setCell ⟨jb, 3, none⟩ (.int .i64 (-1))) ((hS.out.jc.put2 (u := .int .i64 N)).put3 (u := .int .i64 (-1))) ((below_put _ _ _ _).trans (below_put _ _ _ _)) ((Below.heap_setCell _ _ _ _ (by exact havj)).trans (Below.heap_setCell _ _ _ _ (by exact havj))) hb3 Hg.out Hat.out ho htb (by rw [HN.out]; exact HO.out)
      rw [HN.out] at hfin
      exact ⟨rfl, hfin.1, hfin.2.1, hfin.2.2⟩
    · have h4 : ¬ last < 0 := by omega
      have h5 : ¬ last < 0 := by omega
      clear cB cell hrow
      go_enter Tryz.func15, Tryz.ntmps15
      go_wp2_with (first
        | (at_builtin; refine append_sln_at rfl _ _ rfl (jb + 1) _ out rfl (World.ownsRow.alloc (OwnR.put (OwnR.put hS.out.own (Nat.lt_succ_self jb) _) (Nat.lt_succ_self jb) _) _) ⟨w1.heap.size, 0, none⟩ 1 [r] rfl (one_cells _ _ r (by simp)) (by have := HN.out; simp; omega) (by simp; omega) ?_; intro v' w3 ho hg hb3 hat; have hJ3 := js_cell ((hS.out.jc.put2 (u := .int .i64 N)).put3 (u := .int .i64 (-1))) hb3; obtain ⟨q1, q2, q3⟩ := hJ3; obtain ⟨g', cp', e', _, _⟩ := ho.form (by simp); obtain ⟨M', hM'⟩ : ∃ m, m = (out ++ [r]).length := ⟨_, rfl⟩; rw [← hM'] at e'; clear hM'; subst e'; have Hg := Lib.hid hg; have Hat := Lib.hid hat; clear hat hg)
        | (go_at_call 27; refine cO.mono ?_; rintro e w1 ⟨rfl, hS⟩; have g1 := hS.out.jc.c1; have g2 := hS.out.jc.c2; have g3 := hS.out.jc.c3; have gf := hS.out.jc.f; have gl := hS.out.jc.lt; clear cO))
      go_end0
      have hfin := js_end hS.out havj ((w1.setCell ⟨jb, 2, none⟩ (.int .i64 N)).setCell ⟨jb, 3, none⟩ (.int .i64 (-1))) ((hS.out.jc.put2 (u := .int .i64 N)).put3 (u := .int .i64 (-1))) ((below_put _ _ _ _).trans (below_put _ _ _ _)) ((Below.heap_setCell _ _ _ _ (by exact havj)).trans (Below.heap_setCell _ _ _ _ (by exact havj))) hb3 Hg.out Hat.out ho htb (by rw [HN.out]; exact HO.out)
      rw [HN.out] at hfin
      exact ⟨rfl, hfin.1, hfin.2.1, hfin.2.2⟩
    · obtain ⟨k, rfl⟩ : ∃ k : Nat, i = (k : Int) := ⟨i.toNat, by omega⟩
      obtain ⟨g, rfl⟩ := hrow h1
      have hkn : (k : Int).toNat = k := by omega
      obtain ⟨y, hy⟩ : ∃ y, y = out.getD (k : Int).toNat 0 := ⟨_, rfl⟩
      rw [← hy] at cB h3
      have cell2 : ∀ w1, JS w w1 jb tb cap av (.slice (some ⟨g, 0, none⟩) N cp) out k last → w1.cell? ⟨g, k, none⟩ = some (.int .i32 y) := fun w1 hS => by
        have := cell w1 g rfl h1 hS
        rw [← hy, hkn] at this
        exact this
      have HB := Lib.hid (fun w1 k hS => cB w1 k h1 h3 hS)
      have HCE := Lib.hid cell2
      clear cB cell cell2 hrow hy h3
      go_enter Tryz.func15, Tryz.ntmps15
      go_wp2_with (first
        | (go_at_call 27; refine cO.mono ?_; rintro e w1 ⟨rfl, hS⟩; have g1 := hS.out.jc.c1; have g2 := hS.out.jc.c2; have g3 := hS.out.jc.c3; have gf := hS.out.jc.f; have gl := hS.out.jc.lt; have gc := HCE.out w1 hS.out; clear cO))
      go_region_held3 (fun w' => w'.cell? ⟨jb, 1, none⟩ = some (.slice (some ⟨g, 0, none⟩) N cp) ∧ w'.cell? ⟨jb, 2, none⟩ = some (.int .i64 k) ∧ w'.cell? ⟨g, k, none⟩ = some (.int .i32 y)) (first | (refine ⟨?_, ?_, ?_⟩ <;> assumption) | go_keep)
        (first
          | (go_at_call 28; refine (HB.out _ _ hS.out).mono ?_; rintro e w2 ⟨rfl, hS2⟩; have j1 := hS2.out.jc.c1; have j2 := hS2.out.jc.c2; have j3 := HCE.out w2 hS2.out))
      clear g1 g2 g3 gf gl gc hS HB HCE
      have gf := hS2.out.jc.f
      have gl := hS2.out.jc.lt
      have g3 := hS2.out.jc.c3
      obtain ⟨w1, rfl⟩ : ∃ w1, w1 = w2 := ⟨_, rfl⟩
      have hS := hS2
      clear hS2 j3
      go_wp2_with (first
        | (at_builtin; refine append_sln_at rfl _ _ rfl (jb + 1) _ out rfl (World.ownsRow.alloc (OwnR.put (OwnR.put hS.out.own (Nat.lt_succ_self jb) _) (Nat.lt_succ_self jb) _) _) ⟨w1.heap.size, 0, none⟩ 1 [r] rfl (one_cells _ _ r (by simp)) (by have := HN.out; simp; omega) (by simp; omega) ?_; intro v' w3 ho hg hb3 hat; have hJ3 := js_cell ((hS.out.jc.put2 (u := .int .i64 N)).put3 (u := .int .i64 (-1))) hb3; obtain ⟨q1, q2, q3⟩ := hJ3; obtain ⟨g', cp', e', _, _⟩ := ho.form (by simp); obtain ⟨M', hM'⟩ : ∃ m, m = (out ++ [r]).length := ⟨_, rfl⟩; rw [← hM'] at e'; clear hM'; subst e'; have Hg := Lib.hid hg; have Hat := Lib.hid hat; clear hat hg))
      go_end0
      have hfin := js_end hS.out havj ((w1.setCell ⟨jb, 2, none⟩ (.int .i64 N)).setCell ⟨jb, 3, none⟩ (.int .i64 (-1))) ((hS.out.jc.put2 (u := .int .i64 N)).put3 (u := .int .i64 (-1))) ((below_put _ _ _ _).trans (below_put _ _ _ _)) ((Below.heap_setCell _ _ _ _ (by exact havj)).trans (Below.heap_setCell _ _ _ _ (by exact havj))) hb3 Hg.out Hat.out ho htb (by rw [HN.out]; exact HO.out)
      rw [HN.out] at hfin
      exact ⟨rfl, hfin.1, hfin.2.1, hfin.2.2⟩
  · rw [if_neg hz] at hok2 ⊢
    have HO : Aside (OkS (out ++ [r], i, c)) := hok2
    have hzb : (c == 0) = false := by simpa using hz
    clear hok2
    rcases hc with h1 | ⟨h1, h2⟩ | ⟨h1, h2, h3⟩
    · obtain rfl : i = -1 := by omega
      clear cB cell hrow h1
      go_enter Tryz.func15, Tryz.ntmps15
      go_wp2_with (first
        | (at_builtin; refine append_sln_at rfl _ _ rfl (jb + 1) _ out rfl (World.ownsRow.alloc (OwnR.put hS.out.own (Nat.lt_succ_self jb) _) _) ⟨w1.heap.size, 0, none⟩ 1 [r] rfl (one_cells _ _ r (by simp)) (by have := HN.out; simp; omega) (by simp; omega) ?_; intro v' w3 ho hg hb3 hat; have hJ3 := js_cell (hS.out.jc.put3 (u := .int .i64 c)) hb3; obtain ⟨q1, q2, q3⟩ := hJ3; obtain ⟨g', cp', e', _, _⟩ := ho.form (by simp); obtain ⟨M', hM'⟩ : ∃ m, m = (out ++ [r]).length := ⟨_, rfl⟩; rw [← hM'] at e'; clear hM'; subst e'; have Hg := Lib.hid hg; have Hat := Lib.hid hat; clear hat hg)
        | (go_at_call 27; refine cO.mono ?_; rintro e w1 ⟨rfl, hS⟩; have g1 := hS.out.jc.c1; have g2 := hS.out.jc.c2; have g3 := hS.out.jc.c3; have gf := hS.out.jc.f; have gl := hS.out.jc.lt; clear cO))
      go_end0
      have hfin := js_end hS.out havj (w1.setCell ⟨jb, 3, none⟩ (.int .i64 c)) (hS.out.jc.put3 (u := .int .i64 c)) (below_put _ _ _ _) (Below.heap_setCell _ _ _ _ (by exact havj)) hb3 Hg.out Hat.out ho htb HO.out
      exact ⟨rfl, hfin.1, hfin.2.1, hfin.2.2⟩
    · have h4 : ¬ last < c := by omega
      have h5 : ¬ last < 0 := by omega
      clear cB cell hrow
      go_enter Tryz.func15, Tryz.ntmps15
      go_wp2_with (first
        | (at_builtin; refine append_sln_at rfl _ _ rfl (jb + 1) _ out rfl (World.ownsRow.alloc (OwnR.put hS.out.own (Nat.lt_succ_self jb) _) _) ⟨w1.heap.size, 0, none⟩ 1 [r] rfl (one_cells _ _ r (by simp)) (by have := HN.out; simp; omega) (by simp; omega) ?_; intro v' w3 ho hg hb3 hat; have hJ3 := js_cell (hS.out.jc.put3 (u := .int .i64 c)) hb3; obtain ⟨q1, q2, q3⟩ := hJ3; obtain ⟨g', cp', e', _, _⟩ := ho.form (by simp); obtain ⟨M', hM'⟩ : ∃ m, m = (out ++ [r]).length := ⟨_, rfl⟩; rw [← hM'] at e'; clear hM'; subst e'; have Hg := Lib.hid hg; have Hat := Lib.hid hat; clear hat hg)
        | (go_at_call 27; refine cO.mono ?_; rintro e w1 ⟨rfl, hS⟩; have g1 := hS.out.jc.c1; have g2 := hS.out.jc.c2; have g3 := hS.out.jc.c3; have gf := hS.out.jc.f; have gl := hS.out.jc.lt; clear cO))
      go_end0
      have hfin := js_end hS.out havj (w1.setCell ⟨jb, 3, none⟩ (.int .i64 c)) (hS.out.jc.put3 (u := .int .i64 c)) (below_put _ _ _ _) (Below.heap_setCell _ _ _ _ (by exact havj)) hb3 Hg.out Hat.out ho htb HO.out
      exact ⟨rfl, hfin.1, hfin.2.1, hfin.2.2⟩
    · obtain ⟨k, rfl⟩ : ∃ k : Nat, i = (k : Int) := ⟨i.toNat, by omega⟩
      obtain ⟨g, rfl⟩ := hrow h1
      have hkn : (k : Int).toNat = k := by omega
      obtain ⟨y, hy⟩ : ∃ y, y = out.getD (k : Int).toNat 0 := ⟨_, rfl⟩
      rw [← hy] at cB h3
      have cell2 : ∀ w1, JS w w1 jb tb cap av (.slice (some ⟨g, 0, none⟩) N cp) out k last → w1.cell? ⟨g, k, none⟩ = some (.int .i32 y) := fun w1 hS => by
        have := cell w1 g rfl h1 hS
        rw [← hy, hkn] at this
        exact this
      have HB := Lib.hid (fun w1 k hS => cB w1 k h1 h3 hS)
      have HCE := Lib.hid cell2
      clear cB cell cell2 hrow hy h3
      go_enter Tryz.func15, Tryz.ntmps15
      go_wp2_with (first
        | (go_at_call 27; refine cO.mono ?_; rintro e w1 ⟨rfl, hS⟩; have g1 := hS.out.jc.c1; have g2 := hS.out.jc.c2; have g3 := hS.out.jc.c3; have gf := hS.out.jc.f; have gl := hS.out.jc.lt; have gc := HCE.out w1 hS.out; clear cO))
      go_region_held3 (fun w' => w'.cell? ⟨jb, 1, none⟩ = some (.slice (some ⟨g, 0, none⟩) N cp) ∧ w'.cell? ⟨jb, 2, none⟩ = some (.int .i64 k) ∧ w'.cell? ⟨g, k, none⟩ = some (.int .i32 y)) (first | (refine ⟨?_, ?_, ?_⟩ <;> assumption) | go_keep)
        (first
          | (go_at_call 28; refine (HB.out _ _ hS.out).mono ?_; rintro e w2 ⟨rfl, hS2⟩; have j1 := hS2.out.jc.c1; have j2 := hS2.out.jc.c2; have j3 := HCE.out w2 hS2.out))
      clear g1 g2 g3 gf gl gc hS HB HCE
      have gf := hS2.out.jc.f
      have gl := hS2.out.jc.lt
      have g3 := hS2.out.jc.c3
      obtain ⟨w1, rfl⟩ : ∃ w1, w1 = w2 := ⟨_, rfl⟩
      have hS := hS2
      clear hS2 j3
      go_wp2_with (first
        | (at_builtin; refine append_sln_at rfl _ _ rfl (jb + 1) _ out rfl (World.ownsRow.alloc (OwnR.put hS.out.own (Nat.lt_succ_self jb) _) _) ⟨w1.heap.size, 0, none⟩ 1 [r] rfl (one_cells _ _ r (by simp)) (by have := HN.out; simp; omega) (by simp; omega) ?_; intro v' w3 ho hg hb3 hat; have hJ3 := js_cell (hS.out.jc.put3 (u := .int .i64 c)) hb3; obtain ⟨q1, q2, q3⟩ := hJ3; obtain ⟨g', cp', e', _, _⟩ := ho.form (by simp); obtain ⟨M', hM'⟩ : ∃ m, m = (out ++ [r]).length := ⟨_, rfl⟩; rw [← hM'] at e'; clear hM'; subst e'; have Hg := Lib.hid hg; have Hat := Lib.hid hat; clear hat hg))
      go_end0
      have hfin := js_end hS.out havj (w1.setCell ⟨jb, 3, none⟩ (.int .i64 c)) (hS.out.jc.put3 (u := .int .i64 c)) (below_put _ _ _ _) (Below.heap_setCell _ _ _ _ (by exact havj)) hb3 Hg.out Hat.out ho htb HO.out
      exact ⟨rfl, hfin.1, hfin.2.1, hfin.2.2⟩

set_option maxHeartbeats 16000000 in
set_option maxRecDepth 1000000 in
/-- A character that is put together with the last starter. -/
theorem addJoin (jb tb cap av : Nat) (out : List Int) (i last r x : Int) (w : World) (hav : av < w.heap.size) (havj : av ≠ jb) (h : JAt w jb tb cap av (out, i, last)) (hr : -2147483648 ≤ r ∧ r ≤ 2147483647) (hl : out.length ≤ 100000000000)
    (h1 : 0 ≤ i) (h2 : last < kOf r) (h3 : bothV (out.getD i.toNat 0) r = some x) :
    Calls Tryz.prog 15 #[.pointer (some ⟨jb, 0, none⟩), .int .i32 r] w fun e w' => e = .returned (.tuple #[]) ∧ JAt w' jb tb cap av (out.set i.toNat x, i, last) ∧ Below jb w w' ∧ w'.heap[av]? = w.heap[av]? := by
  obtain ⟨⟨v, hne, hJ, hO⟩, hT, htb, hok⟩ := h
  simp only at hJ hO
  have hkb := k_bound r
  have hxr := (both_ok h3).2.2
  have hok2 := okS_set hok hxr
  obtain ⟨o1, o2, o3, o4, o5⟩ := hok
  simp only at o1 o2 o3 o4 o5
  have cO : Calls Tryz.prog 27 #[.int .i32 r] w fun e w' => e = .returned (.int .i64 (kOf r)) ∧ Aside (JS w w' jb tb cap av v out i last) := by
    unfold kOf
    refine (ofc r w).mono ?_
    rintro e w' ⟨rfl, q, os, rfl⟩
    exact ⟨rfl, (⟨hJ, hO, hT, Below.refl _ _, hne, rfl, hav⟩ : JS w w jb tb cap av v out i last).go (below_grown q os _ (Nat.le_refl _))⟩
  obtain ⟨k, rfl⟩ : ∃ k : Nat, i = (k : Int) := ⟨i.toNat, by omega⟩
  have hkn : (k : Int).toNat = k := by omega
  obtain ⟨g, cp, hv, hgb, _⟩ := OwnR.form hO (by omega)
  obtain ⟨N, hN⟩ : ∃ N, N = out.length := ⟨_, rfl⟩
  rw [← hN] at hv o2 hl
  subst hv
  obtain ⟨y, hy⟩ : ∃ y, y = out.getD (k : Int).toNat 0 := ⟨_, rfl⟩
  rw [← hy] at h3
  have cell : ∀ w1, JS w w1 jb tb cap av (.slice (some ⟨g, 0, none⟩) N cp) out k last → w1.cell? ⟨g, k, none⟩ = some (.int .i32 y) ∧ w1.frozen? ⟨g, k, none⟩ = false ∧ g < w1.heap.size := fun w1 hS => by
    have hO := hS.own
    rw [hN] at hO
    have hfz := World.ownsRow.frozenAt hO k
    refine ⟨?_, hfz, (World.ownsRow.lt hO g rfl).2⟩
    refine hO.cellAt ?_
    rw [hy, hkn, List.getD_eq_getElem?_getD, List.getElem?_eq_getElem (by omega)]
    rfl
  have hyr : -2147483648 ≤ y ∧ y ≤ 2147483647 := o5 y (by rw [hy, List.getD_eq_getElem?_getD, List.getElem?_eq_getElem (show (k : Int).toNat < out.length by omega)]; exact List.getElem_mem _)
  have cB : ∀ w1 q, JS w w1 jb tb cap av (.slice (some ⟨g, 0, none⟩) N cp) out k last → Calls Tryz.prog 28 #[.pointer (some ⟨jb, 0, none⟩), .int .i32 y, .int .i32 r] (w1.drewN q) fun e w' => e = .returned (.tuple #[.int .i32 x, .bool true]) ∧ Aside (JS w w' jb tb cap av (.slice (some ⟨g, 0, none⟩) N cp) out k last) := fun w1 q hS => by
    have hS' : JS w (w1.drewN q) jb tb cap av (.slice (some ⟨g, 0, none⟩) N cp) out k last := hS.go ⟨rfl, rfl, rfl, Nat.le_refl _, fun _ _ => rfl⟩
    refine (both jb tb cap y r (w1.drewN q) hyr hr hS'.jc.c0 hS'.tab).mono ?_
    rw [h3]
    rintro e w' ⟨rfl, hb⟩
    exact ⟨rfl, hS'.go hb⟩
  have fin : ∀ w2, JS w w2 jb tb cap av (.slice (some ⟨g, 0, none⟩) N cp) out k last → JAt (w2.setCell ⟨g, k, none⟩ (.int .i32 x)).drew jb tb cap av (out.set (k : Int).toNat x, k, last) ∧ Below jb w (w2.setCell ⟨g, k, none⟩ (.int .i32 x)).drew ∧ (w2.setCell ⟨g, k, none⟩ (.int .i32 x)).drew.heap[av]? = w.heap[av]? := fun w2 hS => by
    have hO2 := hS.own
    rw [hN] at hO2
    have hst := World.ownsRow.stored hO2 k (.int .i32 x)
    have hB1 : Below (jb + 1) w2 (w2.setCell ⟨g, k, none⟩ (.int .i32 x)).drew := ((Below.refl _ _).setCell (p := ⟨g, k, none⟩) (by exact hgb) _).drew
    refine ⟨⟨⟨.slice (some ⟨g, 0, none⟩) N cp, hS.ne, hS.jc.below hB1 (Nat.lt_succ_self jb), ?_⟩, rowAt_of' hS.tab hB1 (by omega), htb, hok2⟩, hS.below.trans (hB1.mono (Nat.le_succ jb)), (Below.heap_setCell _ _ _ _ (fun e => hS.ne (by rw [e]; rfl))).trans hS.keep⟩
    unfold OwnR
    rw [hkn, List.length_set, hN, List.map_set]
    exact hst.1
  have hgj : g ≠ jb := by omega
  have HB := Lib.hid cB
  have HCE := Lib.hid cell
  have HF := Lib.hid fin
  obtain ⟨c, hcv⟩ : ∃ c, c = kOf r := ⟨_, rfl⟩
  rw [← hcv] at cO hkb h2
  have b1 := hkb.1
  have b2 := hkb.2
  clear hJ hO hT hok2 hkb cB cell fin hyr hy h3 hxr o5 hcv hgb hN hne
  go_enter Tryz.func15, Tryz.ntmps15
  go_wp2_with (first
    | (go_at_call 27; refine cO.mono ?_; rintro e w1 ⟨rfl, hS⟩; have g1 := hS.out.jc.c1; have g2 := hS.out.jc.c2; have g3 := hS.out.jc.c3; have gf := hS.out.jc.f; have gl := hS.out.jc.lt; have gc := (HCE.out w1 hS.out).1; clear cO))
  go_region_held3 (fun w' => w'.cell? ⟨jb, 1, none⟩ = some (.slice (some ⟨g, 0, none⟩) N cp) ∧ w'.cell? ⟨jb, 2, none⟩ = some (.int .i64 k) ∧ w'.cell? ⟨g, k, none⟩ = some (.int .i32 y)) (first | (refine ⟨?_, ?_, ?_⟩ <;> assumption) | go_keep)
    (first
      | (go_at_call 28; refine (HB.out _ _ hS.out).mono ?_; rintro e w2 ⟨rfl, hS2⟩; have j1 := hS2.out.jc.c1; have j2 := hS2.out.jc.c2; have j3 := (HCE.out w2 hS2.out).1))
  obtain ⟨g4, g5, g6⟩ := HCE.out w2 hS2.out
  clear g1 g2 g3 gf gl gc hS HB HCE j3
  have gf := hS2.out.jc.f
  have gl := hS2.out.jc.lt
  go_wp2
  go_region
  all_goals
    go_wp2
    have hfin := HF.out w2 hS2.out
    exact bodyPost_ret (v := .tuple #[]) (by simp [results, Tryz.results15, go_sem]) rfl ⟨rfl, hfin.1, hfin.2.1, hfin.2.2⟩

/-- One more character. -/
theorem addW (jb tb cap av : Nat) (s : List Int × Int × Int) (r : Int) (w : World) (hav : av < w.heap.size) (havj : av ≠ jb) (h : JAt w jb tb cap av s) (hr : -2147483648 ≤ r ∧ r ≤ 2147483647) (hl : s.1.length ≤ 100000000000) :
    Calls Tryz.prog 15 #[.pointer (some ⟨jb, 0, none⟩), .int .i32 r] w fun e w' => e = .returned (.tuple #[]) ∧ JAt w' jb tb cap av (addS s r) ∧ Below jb w w' ∧ w'.heap[av]? = w.heap[av]? := by
  obtain ⟨out, i, last⟩ := s
  have hk := k_bound r
  have hok := h.ok
  simp only [OkS] at hok
  by_cases h1 : 0 ≤ i
  · by_cases h2 : last < kOf r
    · cases h3 : bothV (out.getD i.toNat 0) r with
      | some x =>
        have e : addS (out, i, last) r = (out.set i.toNat x, i, last) := by
          unfold addS addV
          simp only
          rw [if_pos ⟨h1, .inl h2⟩, h3]
        rw [e]
        exact addJoin jb tb cap av out i last r x w hav havj h hr hl h1 h2 h3
      | none =>
        have e : addS (out, i, last) r = if kOf r = 0 then (out ++ [r], (out.length : Int), -1) else (out ++ [r], i, kOf r) := by
          unfold addS addV
          simp only
          rw [if_pos ⟨h1, .inl h2⟩, h3]
        rw [e]
        exact addPush jb tb cap av out i last r w hav havj h hr hl (.inr (.inr ⟨h1, h2, h3⟩))
    · have e : addS (out, i, last) r = if kOf r = 0 then (out ++ [r], (out.length : Int), -1) else (out ++ [r], i, kOf r) := by
        unfold addS addV
        simp only
        rw [if_neg (by omega)]
      rw [e]
      exact addPush jb tb cap av out i last r w hav havj h hr hl (.inr (.inl ⟨h1, by omega⟩))
  · have e : addS (out, i, last) r = if kOf r = 0 then (out ++ [r], (out.length : Int), -1) else (out ++ [r], i, kOf r) := by
      unfold addS addV
      simp only
      rw [if_neg (by omega)]
    rw [e]
    exact addPush jb tb cap av out i last r w hav havj h hr hl (.inl (by omega))
end Go.Proofs.YtkadmnabhoijdaaGreatDoor.Nfd
