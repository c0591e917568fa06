/- amanuensisref01.Runes; appends of bytes and of runes; what a reading leaves, in parts. -/
import Derived.Test.YtemhfcgkfdklhaaGreatDoorText
set_option linter.all false
namespace Go.Proofs.YtemhfcgkfdklhaaGreatDoor.Look
open Go Go.RowKit Go.Shelf Go.Proofs Go.Proofs.YtemhfcgkfdklhaaGreatDoor.Rd

def RowR (w : World) (a : Option Addr) (l : List Int) : Prop := l ≠ [] → ∃ b off, a = some ⟨b, off, none⟩ ∧ b < w.heap.size ∧ ∀ j x, l[j]? = some x → w.cell? ⟨b, off + j, none⟩ = some (.int .i32 x)
theorem RowR.below {w w' : World} {a : Option Addr} {l : List Int} (h : RowR w a l) (hb : Below w.heap.size w w') : RowR w' a l := fun hl => by
  obtain ⟨b, off, h1, h2, h3⟩ := h hl
  exact ⟨b, off, h1, Nat.lt_of_lt_of_le h2 hb.size, fun j x hx => (hb.cell (p := ⟨b, off + j, none⟩) h2).trans (h3 j x hx)⟩
theorem OwnR.rowR {w : World} {base : Nat} {v : Value} {l : List Int} (h : OwnR w base v l) : ∃ a c, v = .slice a l.length c ∧ RowR w a l := by
  have hc := fun g hg => World.ownsRow.cells h (g := g) hg
  rcases h.2 with ⟨rfl, h0⟩ | ⟨g, cap, cur, rfl, hb, hg, _⟩
  · exact ⟨none, 0, by rw [h0], fun hl => absurd (List.eq_nil_of_length_eq_zero h0) hl⟩
  · refine ⟨_, cap, rfl, fun _ => ⟨g, 0, rfl, (Array.getElem?_eq_some_iff.1 hg).1, fun j x hx => ?_⟩⟩
    have := hc g rfl j (.int .i32 x) (by rw [List.getElem?_map, hx]; rfl)
    rw [Addr.add_lit] at this
    exact this

set_option maxHeartbeats 8000000 in
set_option maxRecDepth 100000 in
theorem cRunes (a b : Option Addr) (c1 c2 : Nat) (la lb : List Int) (w : World) (ha : RowR w a la) (hb : RowR w b lb) (hna : la.length ≤ 1000000000000) (hnb : lb.length ≤ 1000000000000) :
    Calls Tryz.prog 10 #[.slice a la.length c1, .slice b lb.length c2] w fun e w' => e = .returned (.bool (decide (la = lb))) ∧ Below w.heap.size w w' := by
  obtain ⟨N, hN⟩ : ∃ N, N = la.length := ⟨_, rfl⟩
  obtain ⟨M, hM⟩ : ∃ M, M = lb.length := ⟨_, rfl⟩
  rw [← hN] at hna ⊢
  rw [← hM] at hnb ⊢
  have HL : Aside (N = la.length ∧ M = lb.length ∧ RowR w a la ∧ RowR w b lb) := ⟨hN, hM, ha, hb⟩
  clear hN hM ha hb
  obtain ⟨res, hres⟩ : ∃ r, r = decide (la = lb) := ⟨_, rfl⟩
  rw [← hres]
  have HR : Aside (res = decide (la = lb)) := hres
  clear hres
  go_enter Tryz.func10, Tryz.ntmps10
  by_cases hNM : N = M
  · subst hNM
    go_wp2
    go_loopg [5] N (fun g1 vi wr => ∃ (i : Nat), vi = .int .i64 i ∧ i ≤ N ∧ N - i ≤ g1 ∧ Aside (Below w.heap.size w wr ∧ la.take i = lb.take i))
    case atStart => exact ⟨0, rfl, by omega, by omega, ⟨Below.refl _ _, rfl⟩⟩
    case round =>
      obtain ⟨i, rfl, hi, hg1, HI⟩ := hrel
      by_cases hlt : i < N
      · have hltz : (i : Int) < (N : Int) := by omega
        have hi0 : (0 : Int) ≤ (i : Int) := by omega
        obtain ⟨x, hx⟩ : ∃ x, la[i]? = some x := ⟨_, List.getElem?_eq_getElem (by have := HL.out; omega)⟩
        obtain ⟨y, hy⟩ : ∃ y, lb[i]? = some y := ⟨_, List.getElem?_eq_getElem (by have := HL.out; omega)⟩
        obtain ⟨b1, o1, rfl, hb1, hc1⟩ := HL.out.2.2.1 (fun e => by rw [e] at hx; simp at hx)
        obtain ⟨b2, o2, rfl, hb2, hc2⟩ := HL.out.2.2.2 (fun e => by rw [e] at hy; simp at hy)
        have l1 : wr.cell? ⟨b1, o1 + i, none⟩ = some (.int .i32 x) := (HI.out.1.cell (p := ⟨b1, o1 + i, none⟩) hb1).trans (hc1 i x hx)
        have l2 : wr.cell? ⟨b2, o2 + i, none⟩ = some (.int .i32 y) := (HI.out.1.cell (p := ⟨b2, o2 + i, none⟩) hb2).trans (hc2 i y hy)
        have HX : Aside (la[i]? = some x ∧ lb[i]? = some y) := ⟨hx, hy⟩
        clear hx hy hc1 hc2
        go_wp2
        refine wp_region_held_drew (S := fun w' => w'.cell? ⟨b1, o1 + i, none⟩ = some (.int .i32 x) ∧ w'.cell? ⟨b2, o2 + i, none⟩ = some (.int .i32 y)) (by kernel_rfl) ⟨l1, l2⟩ (fun hHeld => ?_)
        refine wpAnyH_take (i := 0) (v := ?v0_1) rfl (by kernel_rfl) (by kernel_rfl) (by kernel_rfl) (fun _ _ _ h => h) (Or.inl ⟨by kernel_rfl, ?h0_1⟩) hHeld ?r0_1
        case h0_1 => (rintro w' ⟨q0, q1⟩; go_simp; try (with_reducible rfl))
        try simp only [Act.put, List.getElem_toArray, List.getElem_cons_zero, List.getElem_cons_succ, List.setIfInBounds_toArray, List.set_cons_zero, List.set_cons_succ]
        refine wpAnyH_take (i := 1) (v := ?v1_2) rfl (by kernel_rfl) (by kernel_rfl) (by kernel_rfl) (fun _ _ _ h => h) (Or.inl ⟨by kernel_rfl, ?h1_2⟩) hHeld ?r1_2
        case h1_2 => (rintro w' ⟨q0, q1⟩; go_simp; try (with_reducible rfl))
        try simp only [Act.put, List.getElem_toArray, List.getElem_cons_zero, List.getElem_cons_succ, List.setIfInBounds_toArray, List.set_cons_zero, List.set_cons_succ]
        refine wpAnyH_take (i := 2) (v := ?v2_3) rfl (by kernel_rfl) (by kernel_rfl) (by kernel_rfl) (fun _ _ _ h => h) (Or.inl ⟨by kernel_rfl, ?h2_3⟩) hHeld ?r2_3
        case h2_3 => (rintro w' ⟨q0, q1⟩; go_simp; try (with_reducible rfl))
        try simp only [Act.put, List.getElem_toArray, List.getElem_cons_zero, List.getElem_cons_succ, List.setIfInBounds_toArray, List.set_cons_zero, List.set_cons_succ]
        refine wpAnyH_take (i := 3) (v := ?v3_4) rfl (by kernel_rfl) (by kernel_rfl) (by kernel_rfl) (fun _ _ _ h => h) (Or.inl ⟨by kernel_rfl, ?h3_4⟩) hHeld ?r3_4
        case h3_4 => (rintro w' ⟨q0, q1⟩; go_simp; try (with_reducible rfl))
        try simp only [Act.put, List.getElem_toArray, List.getElem_cons_zero, List.getElem_cons_succ, List.setIfInBounds_toArray, List.set_cons_zero, List.set_cons_succ]
        refine wpAnyH_take (i := 4) (v := ?v4_5) rfl (by kernel_rfl) (by kernel_rfl) (by kernel_rfl) (fun _ _ _ h => h) (Or.inl ⟨by kernel_rfl, ?h4_5⟩) hHeld ?r4_5
        case h4_5 => (rintro w' ⟨q0, q1⟩; go_simp; try (with_reducible rfl))
        try simp only [Act.put, List.getElem_toArray, List.getElem_cons_zero, List.getElem_cons_succ, List.setIfInBounds_toArray, List.set_cons_zero, List.set_cons_succ]
        refine wpAnyH_take (i := 5) (v := ?v5_6) rfl (by kernel_rfl) (by kernel_rfl) (by kernel_rfl) (fun _ _ _ h => h) (Or.inl ⟨by kernel_rfl, ?h5_6⟩) hHeld ?r5_6
        case h5_6 => (rintro w' ⟨q0, q1⟩; go_simp; try (with_reducible rfl))
        try simp only [Act.put, List.getElem_toArray, List.getElem_cons_zero, List.getElem_cons_succ, List.setIfInBounds_toArray, List.set_cons_zero, List.set_cons_succ]
        refine wpAnyH_take (i := 6) (v := ?v6_7) rfl (by kernel_rfl) (by kernel_rfl) (by kernel_rfl) (fun _ _ _ h => h) (Or.inl ⟨by kernel_rfl, ?h6_7⟩) hHeld ?r6_7
        case h6_7 => (rintro w' ⟨q0, q1⟩; go_simp; try (with_reducible rfl))
        try simp only [Act.put, List.getElem_toArray, List.getElem_cons_zero, List.getElem_cons_succ, List.setIfInBounds_toArray, List.set_cons_zero, List.set_cons_succ]
        refine wpAnyH_take (i := 7) (v := ?v7_8) rfl (by kernel_rfl) (by kernel_rfl) (by kernel_rfl) (fun _ _ _ h => h) (Or.inl ⟨by kernel_rfl, ?h7_8⟩) hHeld ?r7_8
        case h7_8 => (rintro w' ⟨q0, q1⟩; go_simp; try (with_reducible rfl))
        try simp only [Act.put, List.getElem_toArray, List.getElem_cons_zero, List.getElem_cons_succ, List.setIfInBounds_toArray, List.set_cons_zero, List.set_cons_succ]
        refine wpAnyH_take (i := 8) (v := ?v8_9) rfl (by kernel_rfl) (by kernel_rfl) (by kernel_rfl) (fun _ _ _ h => h) (Or.inl ⟨by kernel_rfl, ?h8_9⟩) hHeld ?r8_9
        case h8_9 => (rintro w' ⟨q0, q1⟩; go_simp; try (with_reducible rfl))
        try simp only [Act.put, List.getElem_toArray, List.getElem_cons_zero, List.getElem_cons_succ, List.setIfInBounds_toArray, List.set_cons_zero, List.set_cons_succ]
        refine wpAnyH_done (by kernel_rfl) ?_ _
        try simp only [Act.put, List.getElem_toArray, List.getElem_cons_zero, List.getElem_cons_succ, List.setIfInBounds_toArray, List.set_cons_zero, List.set_cons_succ]
        clear l1 l2
        by_cases hxy : x = y
        · subst hxy
          go_wp2
          go_roundg (N - (i + 1))
          case measure => omega
          case rel =>
            exact ⟨i + 1, by first | rfl | go_num, by omega, by omega, HI.out.1.drew, by rw [List.take_add_one, List.take_add_one, HI.out.2, HX.out.1, HX.out.2]⟩
        · have hxb : (x == y) = false := by simpa using hxy
          go_wp2
          go_ret
          refine ⟨?_, HI.out.1.drew⟩
          have : res = false := by
            rw [HR.out]
            refine decide_eq_false fun e => hxy ?_
            have := HX.out
            rw [e] at this
            simpa using this.1.symm.trans this.2
          rw [this]; rfl
      · have hltz : ¬ (i : Int) < (N : Int) := by omega
        have hlt2 : (N : Int) ≤ (i : Int) := by omega
        go_wp2
        go_ret
        refine ⟨?_, HI.out.1⟩
        have ht := HI.out.2
        have : res = true := by
          rw [HR.out]
          refine decide_eq_true ?_
          rw [List.take_of_length_le (by have := HL.out; omega), List.take_of_length_le (by have := HL.out; omega)] at ht
          exact ht
        rw [this]; rfl
  · have hNMz : ¬ (N : Int) = (M : Int) := by omega
    have hNMb : ((N : Int) == (M : Int)) = false := by simpa using hNMz
    go_wp2
    go_ret
    refine ⟨?_, Below.refl _ _⟩
    have : res = false := by
      rw [HR.out]
      exact decide_eq_false fun e => hNM (by rw [HL.out.1, HL.out.2.1, e])
    rw [this]; rfl

/-! ### bytes -/
theorem iByteY : (Tryz.prog.info? 5).map (fun i => (i.zero, i.size, i.bytes)) = some (some (.int .u8 0), 1, 1) := by kernel_rfl
def encB (x : Int) : Value := .int .u8 x
theorem oneB {l : List Int} : ∀ u ∈ l.map encB, u.oneCell' = true := fun u hu => by
  obtain ⟨x, _, rfl⟩ := List.mem_map.1 hu
  rfl
def OwnY (w : World) (base : Nat) (v : Value) (l : List Int) : Prop := w.ownsRow base 5 1 v l.length (l.map encB)
def SrcY (w : World) (v : Value) (l : List Int) : Prop := (∃ (ad : Addr) (c : Nat), v = .slice (some ad) l.length c ∧ ∀ j u, (l.map encB)[j]? = some u → w.cell? (ad.add j) = some u) ∨ (v = .slice none 0 0 ∧ l = [])
theorem RowB.src {w : World} {a : Option Addr} {c : Nat} {l : List Int} (h : RowB w a l) (hn : a = none → c = 0) : SrcY w (.slice a l.length c) l := by
  cases a with
  | none =>
    obtain rfl := hn rfl
    have : l = [] := Decidable.byContradiction fun hl => by
      obtain ⟨b, off, e, _⟩ := h hl
      cases e
    subst this
    exact .inr ⟨rfl, rfl⟩
  | some ad =>
    refine .inl ⟨ad, c, rfl, fun j u hu => ?_⟩
    rw [List.getElem?_map] at hu
    cases hg : l[j]? with
    | none => rw [hg] at hu; simp at hu
    | some x =>
      rw [hg] at hu
      simp at hu
      obtain ⟨b, off, e, hb, hc⟩ := h (fun e => by rw [e] at hg; simp at hg)
      obtain rfl := Option.some.inj e
      rw [Addr.add_lit, ← hu]
      exact hc j x hg
theorem OwnY.rowB {w : World} {base : Nat} {v : Value} {l : List Int} (h : OwnY w base v l) : ∃ a c, v = .slice a l.length c ∧ RowB w a l ∧ l.length ≤ c ∧ (a = none → c = 0) := by
  have hc := fun g hg => World.ownsRow.cells h (g := g) hg
  rcases h.2 with ⟨rfl, h0⟩ | ⟨g, cap, cur, rfl, hb, hg, hcap, _⟩
  · exact ⟨none, 0, by rw [h0], fun hl => absurd (List.eq_nil_of_length_eq_zero h0) hl, by omega, fun _ => rfl⟩
  · refine ⟨_, cap, rfl, fun _ => ⟨g, 0, rfl, (Array.getElem?_eq_some_iff.1 hg).1, fun j x hx => ?_⟩, hcap, fun e => by cases e⟩
    have := hc g rfl j (.int .u8 x) (by rw [List.getElem?_map, hx]; rfl)
    rw [Addr.add_lit] at this
    exact this
theorem OwnY.alloc {w : World} {base : Nat} {v : Value} {l : List Int} (h : OwnY w base v l) (o : Obj) : OwnY (w.alloc o) base v l := World.ownsRow.alloc h o
theorem OwnY.made (w : World) (base : Nat) (hb : base ≤ w.heap.size) : OwnY (w.alloc (.cells #[] 5)) base (.slice (some ⟨w.heap.size, 0, none⟩) 0 0) [] := World.ownsRow_made w #[] 0 hb (Nat.zero_le _) (by simp)
theorem OwnR.made (w : World) (base : Nat) (hb : base ≤ w.heap.size) : OwnR (w.alloc (.cells #[] 21)) base (.slice (some ⟨w.heap.size, 0, none⟩) 0 0) [] := World.ownsRow_made w #[] 0 hb (Nat.zero_le _) (by simp)
theorem step_append_bytes {ops : Array Oper} {o : Oper} {a : Act} {K : Act → World → Prop} {Q : Exit → Act → World → Prop} {E : Prop} {w : World} (hgd : o.guard = none) (s x : Operand)
    (ho : o.op = .call { callee := .builtin .append, args := #[s, x], argTypes := #[22, 22] }) (base : Nat) (v : Value) (xs : List Int) (hs : a.eval s = v) (hown : OwnY w base v xs) (vx : Value) (l : List Int) (hx : a.eval x = vx) (hsrc : SrcY w vx l)
    (hlen : xs.length + l.length ≤ 1000000000) (hbase : base ≤ w.heap.size)
    (h : ∀ v' w', OwnY w' base v' (xs ++ l) → Below base w w' → w.grownBy w' v.ownBlock → K (a.put o.dst v') w') :
    if Region.wanted o (yielded ops a.tmps) = true then Oper.wp Tryz.prog o a w K Q else E := by
  have hw : Region.wanted o (yielded ops a.tmps) = true := by simp [Region.wanted, hgd]
  rw [if_pos hw]
  obtain ⟨ie, hi, hz, hsz, hby⟩ := info_parts iByteY
  rcases hsrc with ⟨ad, c, rfl, hc⟩ | ⟨rfl, rfl⟩
  · obtain ⟨v', w', hr, h2, h3, _, h5⟩ := run_append_own_at (P := Tryz.prog) w base 22 o.type 5 ie (.int .u8 0) 1 1 Tryz.underlying22 hi hz hsz hby rfl (by decide) v xs.length (xs.map encB) hown ad l.length c (l.map encB) (by simp) hc oneB (by unfold maxLen; omega) (by omega) hbase
    unfold Oper.wp
    simp [execOp, ho, resolve, invoke, builtin, hs, hx, hr, Result.andThen]
    refine h v' w' ?_ ((Below.refl _ _).grown h3 hbase fun k hk => (World.ownsRow.lt hown k hk).1) h3
    unfold OwnY
    rw [List.length_append, List.map_append]
    exact h2
  · have hrun := run_append_owned_none (P := Tryz.prog) (w := w) base 22 o.type 5 ie 1 Tryz.underlying22 hi v xs.length (xs.map encB) hown
    unfold Oper.wp
    simp [execOp, ho, resolve, invoke, builtin, hs, hx, hrun, Result.andThen]
    exact h v w (by simpa using hown) (Below.refl _ _) ⟨rfl, rfl, rfl, Nat.le_refl _, fun _ _ _ => rfl⟩
/-- An append of runes, at a list of operations; guarded or not. -/
theorem append_src {ops : Array Oper} {rest : List Oper} {o : Oper} {a : Act} {Q : Exit → Act → World → Prop} {w : World} (hw : Region.wanted o (yielded ops a.tmps) = true) (s x : Operand)
    (ho : o.op = .call { callee := .builtin .append, args := #[s, x], argTypes := #[23, 23] })
    (base : Nat) (v : Value) (xs : List Int) (hs : a.eval s = v) (hown : OwnR w base v xs) (vx : Value) (l : List Int) (hx : a.eval x = vx) (hl : SrcR w vx l) (hlen : xs.length + l.length ≤ 1000000000) (hbase : base ≤ w.heap.size)
    (h : ∀ v' w', OwnR w' base v' (xs ++ l) → Below base w w' → wpList Tryz.prog ops Q rest (a.put o.dst v') w') : wpList Tryz.prog ops Q (o :: rest) a w := by
  refine wpList_step fun K hK => ?_
  rw [if_pos hw]
  obtain ⟨ie, hi, hz, hsz, hby⟩ := info_parts i32I
  rcases hl with ⟨ad, c, rfl, hc⟩ | ⟨rfl, rfl⟩
  · obtain ⟨v', w', hr, h2, h3, _, h5⟩ := run_append_own_at (P := Tryz.prog) w base 23 o.type 21 ie (.int .i32 0) 1 4 Tryz.underlying23 hi hz hsz hby rfl (by decide) v xs.length (xs.map enc32) hown ad l.length c (l.map enc32) (by simp) hc one32 (by unfold maxLen; omega) (by omega) hbase
    unfold Oper.wp
    simp [execOp, ho, resolve, invoke, builtin, hs, hx, hr, Result.andThen]
    refine hK _ _ (h v' w' ?_ ((Below.refl _ _).grown h3 hbase fun k hk => (hown.lt k hk).1))
    unfold OwnR
    rw [List.length_append, List.map_append]
    exact h2
  · have hrun := run_append_owned_none (P := Tryz.prog) (w := w) base 23 o.type 21 ie 1 Tryz.underlying23 hi v xs.length (xs.map enc32) hown
    unfold Oper.wp
    simp [execOp, ho, resolve, invoke, builtin, hs, hx, hrun, Result.andThen]
    exact hK _ _ (h v w (by simpa using hown) (Below.refl _ _))

/-! ### a variable of two numbers, with its type -/
def At2 (W : World) (b : Nat) (x y : Int) (t : TypeId) : Prop := W.heap[b]? = some (.cells #[.int .i64 x, .int .i64 y] t)
theorem At2.cells {W : World} {b : Nat} {x y : Int} {t : TypeId} (h : At2 W b x y t) : Cells2 W b x y := cells2_of t h
theorem At2.lt {W : World} {b : Nat} {x y : Int} {t : TypeId} (h : At2 W b x y t) : b < W.heap.size := (Array.getElem?_eq_some_iff.1 h).1
theorem At2.new (W : World) (x y : Int) (t : TypeId) : At2 (W.alloc (.cells #[.int .i64 x, .int .i64 y] t)) W.heap.size x y t := (MapKept.heap_alloc W _).1
theorem At2.below {W W' : World} {B b : Nat} {x y : Int} {t : TypeId} (h : At2 W b x y t) (hb : Below B W W') (hB : b < B) : At2 W' b x y t := (hb.block b hB).trans h
theorem At2.alloc {W : World} {b : Nat} {x y : Int} {t : TypeId} (h : At2 W b x y t) (o : Obj) : At2 (W.alloc o) b x y t := h.below ((Below.refl _ W).alloc (Nat.le_refl _) o) h.lt
theorem At2.drew {W : World} {b : Nat} {x y : Int} {t : TypeId} (h : At2 W b x y t) : At2 W.drew b x y t := h
theorem At2.ne_own {W : World} {b : Nat} {x y : Int} {t e : TypeId} (h : At2 W b x y t) (hte : t ≠ e) {base size k : Nat} {v : Value} {xs : List Value} (hr : W.ownsRow base e size v k xs) : some b ≠ v.ownBlock := by
  rcases hr.2 with ⟨rfl, _⟩ | ⟨g, cap, cur, rfl, _, hgb, _⟩
  · simp [Value.ownBlock]
  · intro e'
    obtain rfl : b = g := by simpa [Value.ownBlock] using e'
    have := (show W.heap[b]? = _ from h).symm.trans hgb
    simp at this
    exact hte this.2
theorem At2.grown {W W' : World} {b : Nat} {x y : Int} {t : TypeId} {r : Option Nat} (h : At2 W b x y t) (hg : W.grownBy W' r) (hr : some b ≠ r) : At2 W' b x y t := (hg.block b h.lt hr).trans h
theorem At2.ne {W : World} {b b' : Nat} {x y x' y' : Int} {t t' : TypeId} (h : At2 W b x y t) (h' : At2 W b' x' y' t') (hte : t ≠ t') : b ≠ b' := by
  rintro rfl
  have := (show W.heap[b]? = _ from h).symm.trans h'
  simp at this
  exact hte this.2
theorem At2.put {W : World} {b : Nat} {x y : Int} {t : TypeId} (h : At2 W b x y t) (x' y' : Int) : At2 ((W.setCell ⟨b, 0, none⟩ (.int .i64 x')).setCell ⟨b, 1, none⟩ (.int .i64 y')) b x' y' t := by
  unfold At2 at h ⊢
  simp only [World.setCell, Array.getElem?_modify, if_true, h, Option.map_some]
  simp
theorem At2.off {W : World} {b b' : Nat} {x y x' y' : Int} {t t' : TypeId} (h : At2 W b x y t) (h' : At2 W b' x' y' t') (hte : t ≠ t') (u v : Value) : At2 ((W.setCell ⟨b', 0, none⟩ u).setCell ⟨b', 1, none⟩ v) b x y t := by
  have hne := h.ne h' hte
  unfold At2 at h ⊢
  rw [heap_put hne, heap_put hne]
  exact h
theorem OwnR.far {W : World} {base b : Nat} {z : Value} {l : List Int} {x y : Int} {t : TypeId} (hz : OwnR W base z l) (h : At2 W b x y t) (ht : t ≠ 21) (u v : Value) : OwnR ((W.setCell ⟨b, 0, none⟩ u).setCell ⟨b, 1, none⟩ v) base z l := by
  refine World.ownsRow.kept (row := some b) hz ((grown_put _ b 0 u).trans (grown_put _ b 1 v)) ?_
  exact .inr fun e => h.ne_own ht hz e.symm

/-! ### a reading, in parts -/
def outV : Step → List Int | .ok s => s.out | .bad _ _ => []
def gA : Step → Int | .ok s => s.g0 | .bad _ _ => 0
def gB : Step → Int | .ok s => s.g1 | .bad _ _ => 0
def eA : Step → Int | .ok _ => 0 | .bad e _ => e
def eB : Step → Int | .ok _ => 0 | .bad _ p => p
theorem DecOk.parts {w w' : World} {D : Step} {e : Ending} (h : DecOk w w' D e) : ∃ v, e = .returned (.tuple #[v, .agg #[.int .i64 (gA D), .int .i64 (gB D)], .agg #[.int .i64 (eA D), .int .i64 (eB D)]]) ∧ OwnR w' w.heap.size v (outV D) ∧ Below w.heap.size w w' := by
  cases D with
  | ok s => exact h
  | bad c p => exact ⟨_, h.1, World.ownsRow_nil _ _ _ _, h.2⟩
end Go.Proofs.YtemhfcgkfdklhaaGreatDoor.Look
