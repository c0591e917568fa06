/- Rows of fields (five cells each) of the call's own: appends. -/
import Derived.Test.YtemhfcgkfdklhaaGreatDoorRec
set_option linter.all false
namespace Go.Proofs.YtemhfcgkfdklhaaGreatDoor.Look
open Go Go.RowKit Go.Shelf Go.Proofs Go.Proofs.YtemhfcgkfdklhaaGreatDoor.Rd

theorem iFld : (Tryz.prog.info? 48).map (fun i => (i.zero, i.size, i.bytes)) = some (some (.agg #[.string .empty, .slice none 0 0, .int .u8 0, .int .u8 0, .slice none 0 0]), 5, 72) := by kernel_rfl
theorem SubsAt.one {w : World} {v : Value} {l : List (List Int)} (h : SubsAt w v l) : v.oneCell' = true := by
  obtain ⟨a, c, rfl, _⟩ := h
  rfl
abbrev Rel := Value → Value → Fld → Prop
def RelV (W : World) : Rel := fun vt vs f => TextV W vt f.text ∧ SubsAt W vs f.subs
/-- What the cells of a row of fields are; R: what is known of a text's and the subfields' value. -/
def FC (W : Rel) (xs : List Value) (fs : List Fld) : Prop := xs.length = fs.length * 5 ∧ (∀ u ∈ xs, u.oneCell' = true) ∧ ∀ k f, fs[k]? = some f → ∃ vt i0 i1 vs, xs[k * 5]? = some (.string f.tag) ∧ xs[k * 5 + 1]? = some vt ∧ xs[k * 5 + 2]? = some (.int .u8 i0) ∧ xs[k * 5 + 3]? = some (.int .u8 i1) ∧ xs[k * 5 + 4]? = some vs ∧ W vt vs f
theorem FC.nil (W : Rel) : FC W [] [] := ⟨rfl, by simp, by simp⟩
theorem FC.append {W : Rel} {xs ys : List Value} {fs gs : List Fld} (h : FC W xs fs) (k : FC W ys gs) : FC W (xs ++ ys) (fs ++ gs) := by
  obtain ⟨h1, h2, h3⟩ := h
  obtain ⟨k1, k2, k3⟩ := k
  refine ⟨by rw [List.length_append, List.length_append, h1, k1]; omega, fun u hu => (List.mem_append.1 hu).elim (h2 u) (k2 u), fun j f hj => ?_⟩
  by_cases hl : j < fs.length
  · rw [List.getElem?_append_left hl] at hj
    obtain ⟨vt, i0, i1, vs, e0, e1, e2, e3, e4, r⟩ := h3 j f hj
    refine ⟨vt, i0, i1, vs, ?_, ?_, ?_, ?_, ?_, r⟩ <;> (rw [List.getElem?_append_left (by omega)]; assumption)
  · rw [List.getElem?_append_right (by omega)] at hj
    obtain ⟨vt, i0, i1, vs, e0, e1, e2, e3, e4, r⟩ := k3 _ f hj
    refine ⟨vt, i0, i1, vs, ?_, ?_, ?_, ?_, ?_, r⟩ <;> rw [List.getElem?_append_right (by omega)]
    · rw [show j * 5 - xs.length = (j - fs.length) * 5 by omega]; exact e0
    · rw [show j * 5 + 1 - xs.length = (j - fs.length) * 5 + 1 by omega]; exact e1
    · rw [show j * 5 + 2 - xs.length = (j - fs.length) * 5 + 2 by omega]; exact e2
    · rw [show j * 5 + 3 - xs.length = (j - fs.length) * 5 + 3 by omega]; exact e3
    · rw [show j * 5 + 4 - xs.length = (j - fs.length) * 5 + 4 by omega]; exact e4
theorem FC.one {W : Rel} {f : Fld} {vt vs : Value} (i0 i1 : Int) (ht : vt.oneCell' = true) (hs : vs.oneCell' = true) (h : W vt vs f) : FC W [.string f.tag, vt, .int .u8 i0, .int .u8 i1, vs] [f] := by
  refine ⟨rfl, fun u hu => ?_, fun k g hk => ?_⟩
  · simp only [List.mem_cons, List.not_mem_nil, or_false] at hu
    rcases hu with rfl | rfl | rfl | rfl | rfl
    · rfl
    · exact ht
    · rfl
    · rfl
    · exact hs
  cases k with
  | zero =>
    simp at hk
    subst hk
    exact ⟨vt, i0, i1, vs, rfl, rfl, rfl, rfl, rfl, h⟩
  | succ k => simp at hk
theorem FC.imp {W V : Rel} {xs : List Value} {fs : List Fld} (h : FC W xs fs) (hb : ∀ vt vs f, f ∈ fs → W vt vs f → V vt vs f) : FC V xs fs := by
  refine ⟨h.1, h.2.1, fun k f hk => ?_⟩
  obtain ⟨vt, i0, i1, vs, e0, e1, e2, e3, e4, r1⟩ := h.2.2 k f hk
  exact ⟨vt, i0, i1, vs, e0, e1, e2, e3, e4, hb _ _ _ (List.mem_of_getElem? hk) r1⟩
def OwnF (W : Rel) (w : World) (base : Nat) (v : Value) (fs : List Fld) : Prop := ∃ xs, w.ownsRow base 48 5 v fs.length xs ∧ FC W xs fs
theorem OwnF.at {w : World} {base : Nat} {v : Value} {fs : List Fld} (h : OwnF (RelV w) w base v fs) : FieldsAt w v fs := by
  obtain ⟨xs, h1, h2⟩ := h
  have h3 := h2.2.2
  have hc := fun g hg => World.ownsRow.cells h1 (g := g) hg
  rcases h1.2 with ⟨rfl, h0⟩ | ⟨g, cap, cur, rfl, _, hg, _⟩
  · exact ⟨none, 0, by rw [h0], fun hl => absurd (List.eq_nil_of_length_eq_zero h0) hl⟩
  · refine ⟨_, cap, rfl, fun _ => ⟨g, 0, rfl, (Array.getElem?_eq_some_iff.1 hg).1, fun k f hk => ?_⟩⟩
    obtain ⟨vt, i0, i1, vs, e0, e1, e2, e3, e4, r⟩ := h3 k f hk
    have c0 := hc g rfl _ _ e0
    have c1 := hc g rfl _ _ e1
    have c2 := hc g rfl _ _ e2
    have c3 := hc g rfl _ _ e3
    have c4 := hc g rfl _ _ e4
    rw [Addr.add_lit] at c0 c1 c2 c3 c4
    exact ⟨vt, i0, i1, vs, c0, c1, c2, c3, c4, r⟩
def SrcF (W : Rel) (w : World) (v : Value) (gs : List Fld) : Prop := ∃ ys, FC W ys gs ∧ ((∃ ad c, v = .slice (some ad) gs.length c ∧ ∀ j u, ys[j]? = some u → w.cell? (ad.add j) = some u) ∨ (v = .slice none 0 0 ∧ gs = []))
theorem FieldsAt.src {W w : World} {v : Value} {fs : List Fld} (h : FieldsAt W v fs) (hn : ∀ n c, v = .slice none n c → c = 0) (hb : Below W.heap.size W w) : SrcF (RelV W) w v fs := by
  obtain ⟨a, c, rfl, h2⟩ := h
  by_cases hne : fs = []
  · subst hne
    refine ⟨[], FC.nil _, ?_⟩
    cases a with
    | none => rw [hn _ _ rfl]; exact .inr ⟨rfl, rfl⟩
    | some ad => exact .inl ⟨ad, c, rfl, by simp⟩
  · obtain ⟨b, off, rfl, hbl, h3⟩ := h2 hne
    have hall : ∀ j, j < fs.length * 5 → ∃ u, W.cell? ⟨b, off + j, none⟩ = some u ∧ u.oneCell' = true := fun j hj => by
      have hk : j / 5 < fs.length := by omega
      obtain ⟨vt, i0, i1, vs, e0, e1, e2, e3, e4, r1, r2⟩ := h3 (j / 5) _ (List.getElem?_eq_getElem hk)
      have hm : j % 5 = 0 ∨ j % 5 = 1 ∨ j % 5 = 2 ∨ j % 5 = 3 ∨ j % 5 = 4 := by omega
      rcases hm with hm | hm | hm | hm | hm
      · rw [show off + j = off + j / 5 * 5 by omega]; exact ⟨_, e0, rfl⟩
      · rw [show off + j = off + j / 5 * 5 + 1 by omega]; exact ⟨_, e1, r1.one⟩
      · rw [show off + j = off + j / 5 * 5 + 2 by omega]; exact ⟨_, e2, rfl⟩
      · rw [show off + j = off + j / 5 * 5 + 3 by omega]; exact ⟨_, e3, rfl⟩
      · rw [show off + j = off + j / 5 * 5 + 4 by omega]; exact ⟨_, e4, r2.one⟩
    have hget : ∀ j u, W.cell? ⟨b, off + j, none⟩ = some u → j < fs.length * 5 → ((List.range (fs.length * 5)).map fun j => (W.cell? ⟨b, off + j, none⟩).getD (.bool false))[j]? = some u := fun j u hu hj => by
      rw [List.getElem?_map, List.getElem?_range hj]
      simp [hu]
    refine ⟨(List.range (fs.length * 5)).map fun j => (W.cell? ⟨b, off + j, none⟩).getD (.bool false), ⟨by simp, fun u hu => ?_, fun k f hk => ?_⟩, .inl ⟨_, c, rfl, fun j u hj => ?_⟩⟩
    · obtain ⟨j, hj, rfl⟩ := List.mem_map.1 hu
      obtain ⟨u, hu, h1⟩ := hall j (List.mem_range.1 hj)
      rw [hu]
      exact h1
    · have hkl := (List.getElem?_eq_some_iff.1 hk).1
      obtain ⟨vt, i0, i1, vs, e0, e1, e2, e3, e4, r⟩ := h3 k f hk
      exact ⟨vt, i0, i1, vs, hget _ _ e0 (by omega), hget _ _ (by rw [← e1, Nat.add_assoc]) (by omega), hget _ _ (by rw [← e2, Nat.add_assoc]) (by omega), hget _ _ (by rw [← e3, Nat.add_assoc]) (by omega), hget _ _ (by rw [← e4, Nat.add_assoc]) (by omega), r⟩
    · have hjl : j < fs.length * 5 := by
        have := (List.getElem?_eq_some_iff.1 hj).1
        simpa using this
      obtain ⟨u', hu', _⟩ := hall j hjl
      rw [hget j u' hu' hjl] at hj
      obtain rfl := Option.some.inj hj
      rw [Addr.add_lit]
      exact (hb.cell (p := ⟨b, off + j, none⟩) hbl).trans hu'
theorem run_append_fields {W : Rel} {w : World} (ty : TypeId) (base : Nat) (v : Value) (fs : List Fld) (hown : OwnF W w base v fs) (vx : Value) (gs : List Fld) (hsrc : SrcF W w vx gs) (hlen : fs.length + gs.length ≤ 1000000) (hbase : base ≤ w.heap.size) :
    ∃ v' w', (Builtin.append_ #[34, 34] ty #[v, vx]).run Tryz.prog w = .ok v' w' ∧ OwnF W w' base v' (fs ++ gs) ∧ Below base w w' := by
  obtain ⟨xs, h1, h2⟩ := hown
  obtain ⟨ys, k1, k2⟩ := hsrc
  obtain ⟨ie, hi, hz, hsz, hby⟩ := info_parts iFld
  rcases k2 with ⟨ad, c, rfl, hc⟩ | ⟨rfl, rfl⟩
  · obtain ⟨v', w', hr, j2, j3, _, _⟩ := run_append_own_at (P := Tryz.prog) w base 34 ty 48 ie _ 5 72 Tryz.underlying34 hi hz hsz hby rfl (by decide) v fs.length xs h1 ad gs.length c ys k1.1 hc k1.2.1 (by unfold maxLen; omega) (by omega) hbase
    exact ⟨v', w', hr, ⟨xs ++ ys, by rw [List.length_append]; exact j2, h2.append k1⟩, (Below.refl _ _).grown j3 hbase fun k hk => (World.ownsRow.lt h1 k hk).1⟩
  · have hrun := run_append_owned_none (P := Tryz.prog) (w := w) base 34 ty 48 ie 5 Tryz.underlying34 hi v fs.length xs h1
    exact ⟨v, w, hrun, by rw [List.append_nil]; exact ⟨xs, h1, h2⟩, Below.refl _ _⟩
theorem OwnF.made (W : Rel) (w : World) (base : Nat) (hb : base ≤ w.heap.size) : OwnF W (w.alloc (.cells #[] 48)) base (.slice (some ⟨w.heap.size, 0, none⟩) 0 0) [] := ⟨[], World.ownsRow_made w #[] 0 hb (Nat.zero_le _) (by simp), FC.nil W⟩
theorem OwnF.none (W : Rel) (w : World) (base : Nat) : OwnF W w base (.slice none 0 0) [] := ⟨[], World.ownsRow_nil w base _ 5, FC.nil W⟩
theorem OwnF.kept {W : Rel} {w w' : World} {base : Nat} {v : Value} {fs : List Fld} (h : OwnF W w base v fs) (hb : Below w.heap.size w w') : OwnF W w' base v fs := by
  obtain ⟨xs, h1, h2⟩ := h
  exact ⟨xs, World.ownsRow.kept (row := Option.none) h1 ⟨hb.os, hb.tape, hb.output, hb.size, fun k hk _ => hb.block k hk⟩ (by cases v.ownBlock <;> simp), h2⟩
theorem OwnF.imp {W V : Rel} {w : World} {base : Nat} {v : Value} {fs : List Fld} (h : OwnF W w base v fs) (hb : ∀ vt vs f, f ∈ fs → W vt vs f → V vt vs f) : OwnF V w base v fs := by
  obtain ⟨xs, h1, h2⟩ := h
  exact ⟨xs, h1, h2.imp hb⟩
end Go.Proofs.YtemhfcgkfdklhaaGreatDoor.Look
