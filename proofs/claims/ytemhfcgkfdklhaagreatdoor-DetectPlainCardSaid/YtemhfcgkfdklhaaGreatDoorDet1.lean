/- dir.Control, bytes.Clone, field.Texts. -/
import Derived.Test.YtemhfcgkfdklhaaGreatDoorUtd
set_option linter.all false
namespace Go.Proofs.YtemhfcgkfdklhaaGreatDoor.Look
open Go Go.RowKit Go.Shelf Go.Proofs Go.Proofs.YtemhfcgkfdklhaaGreatDoor.Rd

/-- Is it a control field's tag? -/
def ctlV (s : ByteArray) : Bool := if 2 ≤ s.size then ((s.extract 0 2).toList == [48, 48]) else false

set_option maxHeartbeats 8000000 in
set_option maxRecDepth 100000 in
theorem cControl (s : ByteArray) (w : World) : Calls Tryz.prog 34 #[.string s] w fun e w' => e = .returned (.bool (ctlV s)) ∧ w = w' := by
  have cP : ∀ X, Calls Tryz.prog 69 #[.string s, .string ⟨#[48, 48]⟩] X fun e w' => e = .returned (.bool (ctlV s)) ∧ X = w' := by
    intro X
    unfold ctlV
    by_cases h : 2 ≤ s.size
    · rw [if_pos h]
      have h2 : (2 : Int) ≤ (s.size : Int) := by omega
      have hd : decide ((s.size : Int) < 2) = false := decide_eq_false (by omega)
      go_enter Tryz.func69, Tryz.ntmps69
      go_wp2
      go_ret
      exact ⟨rfl, rfl⟩
    · rw [if_neg h]
      have h2 : ¬ (2 : Int) ≤ (s.size : Int) := by omega
      have hd : decide ((2 : Int) ≤ (s.size : Int)) = false := decide_eq_false (by omega)
      go_enter Tryz.func69, Tryz.ntmps69
      go_wp2
      go_ret
      exact ⟨rfl, rfl⟩
  have cH : ∀ X, Calls Tryz.prog 51 #[.string s, .string ⟨#[48, 48]⟩] X fun e w' => e = .returned (.bool (ctlV s)) ∧ X = w' := by
    intro X
    go_enter Tryz.func51, Tryz.ntmps51
    go_wp2_with (go_at_call 69; refine (cP _).mono ?_; rintro _ w9 ⟨rfl, rfl⟩)
    go_ret
    exact ⟨rfl, rfl⟩
  go_enter Tryz.func34, Tryz.ntmps34
  go_wp2_with (go_at_call 51; refine (cH _).mono ?_; rintro _ w9 ⟨rfl, rfl⟩)
  go_ret
  exact ⟨rfl, rfl⟩

/-! ### a text in memory -/
def TextV (w : World) (v : Value) (l : List Int) : Prop := ∃ a c, v = .slice a l.length c ∧ RowB w a l ∧ l.length ≤ c ∧ c ≤ 9223372036854775807 ∧ (a = none → c = 0)
theorem TextV.below {w w' : World} {v : Value} {l : List Int} (h : TextV w v l) (hb : Below w.heap.size w w') : TextV w' v l := by
  obtain ⟨a, c, h1, h2, h3⟩ := h
  exact ⟨a, c, h1, h2.below hb, h3⟩
theorem OwnY.text {w : World} {base : Nat} {v : Value} {l : List Int} (h : OwnY w base v l) : TextV w v l := by
  obtain ⟨a, c, rfl, h1, h2, h3⟩ := h.rowB
  exact ⟨a, c, rfl, h1, h2, h.capm.2.1, h3⟩
theorem TextV.one {w : World} {v : Value} {l : List Int} (h : TextV w v l) : v.oneCell' = true := by
  obtain ⟨a, c, rfl, _⟩ := h
  rfl

set_option maxHeartbeats 8000000 in
set_option maxRecDepth 100000 in
theorem cClone (v : Value) (l : List Int) (w : World) (h : TextV w v l) (hn : l.length ≤ 1000000) : Calls Tryz.prog 35 #[v] w fun e w' => ∃ v', e = .returned v' ∧ Aside (OwnY w' 0 v' l ∧ Below w.heap.size w w') := by
  obtain ⟨a, c, rfl, h1, h2, h3, h4⟩ := h
  obtain ⟨N, hN⟩ : ∃ N, N = l.length := ⟨_, rfl⟩
  have HS : Aside (∀ X, Below w.heap.size w X → SrcY X (.slice a N c) l) := fun X hX => by rw [hN]; exact (h1.below hX).src h4
  have hnil1 : ∀ X : World, (binOp .eql 22 (.slice a N c) (.slice none 0 0)).run Tryz.prog X = .ok (.bool a.isNone) X := fun X => eqlNilY X _ _ _
  cases a with
  | none =>
    have hl0 : l = [] := Decidable.byContradiction fun hl => by
      obtain ⟨b, off, e, _⟩ := h1 hl
      cases e
    have HT : Aside (OwnY w 0 (.slice none 0 0) l) := by
      subst hl0
      exact World.ownsRow_nil _ _ _ _
    rw [← hN]
    clear HS h1 h2 h3 h4 hn hN hl0
    simp only [Option.isNone_none] at hnil1
    go_enter Tryz.func35, Tryz.ntmps35
    go_wp2_with fail
    go_ret
    exact ⟨_, rfl, HT.out, Below.refl _ _⟩
  | some ad =>
    have hn' : N ≤ 1000000 := by omega
    have HL : Aside (N = l.length) := hN
    rw [← hN]
    clear h1 h2 h3 h4 hn hN
    simp only [Option.isNone_some] at hnil1
    go_enter Tryz.func35, Tryz.ntmps35
    go_wp2_with (at_builtin; refine append_bytes rfl _ _ rfl w.heap.size _ [] rfl (OwnY.made w _ (Nat.le_refl _)) _ l rfl (HS.out _ ((Below.refl _ w).alloc (Nat.le_refl _) _)) (by have := HL.out; simp; omega) (by simp) ?_; intro v' w2 ho hb)
    go_ret
    rw [List.nil_append] at ho
    exact ⟨_, rfl, ho.base (Nat.zero_le _), ((Below.refl _ w).alloc (Nat.le_refl _) _).trans hb⟩

theorem cCloneF (v : Value) (l : List Int) (w : World) (h : TextV w v l) (hn : l.length ≤ 1000000) : Calls Tryz.prog 35 #[v] w fun e w' => ∃ a c, e = .returned (.slice a l.length c) ∧ Aside (OwnY w' 0 (.slice a l.length c) l ∧ Below w.heap.size w w') := by
  refine (cClone v l w h hn).mono ?_
  rintro e w' ⟨v', rfl, hA⟩
  obtain ⟨a, c, rfl, _⟩ := hA.out.1.rowB
  exact ⟨a, c, rfl, hA.out⟩
/-! ### a field in memory -/
/-- A field: its tag, its text, its subfields' texts. -/
structure Fld where
  tag : ByteArray
  text : List Int
  subs : List (List Int)
def textsF (f : Fld) : List (List Int) := if ctlV f.tag = true then [f.text] else f.subs
def SubsAt (w : World) (v : Value) (subs : List (List Int)) : Prop := ∃ a c, v = .slice a subs.length c ∧ (subs ≠ [] → ∃ b off, a = some ⟨b, off, none⟩ ∧ b < w.heap.size ∧ ∀ k l, subs[k]? = some l → ∃ code u, w.cell? ⟨b, off + k * 2, none⟩ = some (.int .u8 code) ∧ w.cell? ⟨b, off + (k * 2 + 1), none⟩ = some u ∧ TextV w u l)
theorem SubsAt.below {w w' : World} {v : Value} {s : List (List Int)} (h : SubsAt w v s) (hb : Below w.heap.size w w') : SubsAt w' v s := by
  obtain ⟨a, c, h1, h2⟩ := h
  refine ⟨a, c, h1, fun hne => ?_⟩
  obtain ⟨b, off, h3, h4, h5⟩ := h2 hne
  refine ⟨b, off, h3, Nat.lt_of_lt_of_le h4 hb.size, fun k l hk => ?_⟩
  obtain ⟨code, u, k1, k2, k3⟩ := h5 k l hk
  exact ⟨code, u, (hb.cell (p := ⟨b, off + k * 2, none⟩) h4).trans k1, (hb.cell (p := ⟨b, off + (k * 2 + 1), none⟩) h4).trans k2, k3.below hb⟩
/-- What a field's value is. -/
def FldV (w : World) (v : Value) (f : Fld) : Prop := ∃ vt i0 i1 vs, v = .agg #[.string f.tag, vt, .int .u8 i0, .int .u8 i1, vs] ∧ TextV w vt f.text ∧ SubsAt w vs f.subs
def OkT (l : List Int) : Prop := l.length ≤ 1000000 ∧ ∀ x ∈ l, 0 ≤ x ∧ x ≤ 255
def Small (f : Fld) : Prop := OkT f.text ∧ f.subs.length ≤ 1000000 ∧ ∀ l ∈ f.subs, OkT l
/-- A row of texts. -/
def TextsAt (w : World) (v : Value) (ls : List (List Int)) : Prop := ∃ a c, v = .slice a ls.length c ∧ (ls ≠ [] → ∃ b off, a = some ⟨b, off, none⟩ ∧ b < w.heap.size ∧ ∀ k l, ls[k]? = some l → ∃ u, w.cell? ⟨b, off + k, none⟩ = some u ∧ TextV w u l)
theorem TextsAt.below {w w' : World} {v : Value} {s : List (List Int)} (h : TextsAt w v s) (hb : Below w.heap.size w w') : TextsAt w' v s := by
  obtain ⟨a, c, h1, h2⟩ := h
  refine ⟨a, c, h1, fun hne => ?_⟩
  obtain ⟨b, off, h3, h4, h5⟩ := h2 hne
  refine ⟨b, off, h3, Nat.lt_of_lt_of_le h4 hb.size, fun k l hk => ?_⟩
  obtain ⟨u, k2, k3⟩ := h5 k l hk
  exact ⟨u, (hb.cell (p := ⟨b, off + k, none⟩) h4).trans k2, k3.below hb⟩
def OwnT (w : World) (base : Nat) (v : Value) (ls : List (List Int)) : Prop := ∃ xs : List Value, w.ownsRow base 22 1 v ls.length xs ∧ ∀ (k : Nat) (l : List Int), ls[k]? = some l → ∃ u, xs[k]? = some u ∧ OwnY w 0 u l
theorem OwnT.at {w : World} {base : Nat} {v : Value} {ls : List (List Int)} (h : OwnT w base v ls) : TextsAt w v ls := by
  obtain ⟨xs, h1, h2⟩ := h
  have hc := fun g hg => World.ownsRow.cells h1 (g := g) hg
  rcases h1.2 with ⟨rfl, h0⟩ | ⟨g, cap, cur, rfl, hb, hg, _⟩
  · exact ⟨none, 0, by rw [h0], fun hl => absurd (List.eq_nil_of_length_eq_zero h0) hl⟩
  · refine ⟨_, cap, rfl, fun _ => ⟨g, 0, rfl, (Array.getElem?_eq_some_iff.1 hg).1, fun k l hk => ?_⟩⟩
    obtain ⟨u, k1, k2⟩ := h2 k l hk
    have := hc g rfl k u k1
    rw [Addr.add_lit] at this
    exact ⟨u, this, k2.text⟩
theorem OwnT.below {w w' : World} {base : Nat} {v : Value} {ls : List (List Int)} (h : OwnT w base v ls) (hb : Below w.heap.size w w') : OwnT w' base v ls := by
  obtain ⟨xs, h1, h2⟩ := h
  refine ⟨xs, World.ownsRow.kept (row := none) h1 ⟨hb.os, hb.tape, hb.output, hb.size, fun k hk _ => hb.block k hk⟩ (by cases v.ownBlock <;> simp), fun k l hk => ?_⟩
  obtain ⟨u, k1, k2⟩ := h2 k l hk
  exact ⟨u, k1, k2.below hb⟩
theorem TextsAt.len {w : World} {v : Value} {ls : List (List Int)} (h : TextsAt w v ls) : ∃ a c, v = .slice a ls.length c := by
  obtain ⟨a, c, rfl, _⟩ := h
  exact ⟨a, c, rfl⟩
theorem own_ne {w : World} {b1 b2 e1 e2 s1 s2 n1 n2 : Nat} {v1 v2 : Value} {x1 x2 : List Value} (h1 : w.ownsRow b1 e1 s1 v1 n1 x1) (h2 : w.ownsRow b2 e2 s2 v2 n2 x2) (hne : e1 ≠ e2) : v1.ownBlock = none ∨ v1.ownBlock ≠ v2.ownBlock := by
  rcases h1.2 with ⟨rfl, _⟩ | ⟨g, cap, cur, rfl, _, hg, _⟩
  · exact .inl rfl
  · refine .inr fun e => ?_
    rcases h2.2 with ⟨rfl, _⟩ | ⟨g2, cap2, cur2, rfl, _, hg2, _⟩
    · cases e
    · simp only [Value.ownBlock, Option.some.injEq] at e
      subst e
      have := hg.symm.trans hg2
      simp at this
      exact hne this.2
theorem oneY {w : World} {b : Nat} {v : Value} {l : List Int} (h : OwnY w b v l) : v.oneCell' = true := h.text.one
theorem iTxt : (Tryz.prog.info? 22).map (fun i => (i.zero, i.size, i.bytes)) = some (some (.slice none 0 0), 1, 24) := by kernel_rfl
theorem append_text {ops : Array Oper} {rest : List Oper} {o : Oper} {a : Act} {Q : Exit → Act → World → Prop} {w : World} (hgd : o.guard = none) (s x : Operand)
    (ho : o.op = .call { callee := .builtin .append, args := #[s, x], argTypes := #[69, 69] })
    (base : Nat) (v : Value) (ls : List (List Int)) (hs : a.eval s = v) (hown : OwnT w base v ls) (ad : Addr) (c : Nat) (u : Value) (l : List Int) (hx : a.eval x = .slice (some ad) 1 c) (hu : w.cell? ad = some u) (ht : OwnY w 0 u l) (hlen : ls.length ≤ 1000000) (hbase : base ≤ w.heap.size)
    (h : ∀ v' w', OwnT w' base v' (ls ++ [l]) → Below base w w' → wpList Tryz.prog ops Q rest (a.put o.dst v') w') : wpList Tryz.prog ops Q (o :: rest) a w := by
  obtain ⟨xs, h1, h2⟩ := hown
  obtain ⟨ie, hi, hz, hsz, hby⟩ := info_parts iTxt
  have hlx : xs.length = ls.length := by have := h1.1; omega
  refine wpList_append_own_at w hgd s x 69 ho base 22 ie (.slice none 0 0) 1 24 Tryz.underlying69 hi hz hsz hby rfl (by omega) v ls.length xs hs h1 ad 1 c [u] hx rfl (fun j z hz => by
    cases j with
    | zero =>
      simp at hz
      subst hz
      have : ad.add 0 = ad := by unfold Addr.add; rw [if_pos rfl]
      rw [this]; exact hu
    | succ j => simp at hz) (by simpa using oneY ht) (by unfold maxLen; omega) (by omega) hbase ?_
  intro v' w' k1 k2 _ _
  have keep : ∀ u' l', OwnY w 0 u' l' → OwnY w' 0 u' l' := fun u' l' hy => World.ownsRow.kept hy k2 (own_ne hy h1 (by decide))
  refine h v' w' ⟨xs ++ [u], by rw [List.length_append]; exact k1, fun k l' hk => ?_⟩ ((Below.refl _ _).grown k2 hbase fun k hk => (World.ownsRow.lt h1 k hk).1)
  by_cases hkl : k < ls.length
  · rw [List.getElem?_append_left hkl] at hk
    obtain ⟨u', j1, j2⟩ := h2 k l' hk
    exact ⟨u', by rw [List.getElem?_append_left (by omega)]; exact j1, keep _ _ j2⟩
  · rw [List.getElem?_append_right (by omega)] at hk
    have hk0 : k - ls.length = 0 := by
      have := (List.getElem?_eq_some_iff.1 hk).1
      simp at this
      omega
    rw [hk0] at hk
    simp at hk
    subst hk
    refine ⟨u, ?_, keep _ _ ht⟩
    rw [List.getElem?_append_right (by omega), hlx, hk0]
    rfl
end Go.Proofs.YtemhfcgkfdklhaaGreatDoor.Look
