/- DetectTexts, walked. -/
import Derived.Test.YtemhfcgkfdklhaaGreatDoorDetP
import Derived.Lib.SlBytesConst
set_option linter.all false
namespace Go.Proofs.YtemhfcgkfdklhaaGreatDoor.Look
open Go Go.RowKit Go.Shelf Go.Proofs Go.Proofs.YtemhfcgkfdklhaaGreatDoor.Rd

/-- Told of a field: of the record that came in, or the text of our own. -/
def RelT (W : World) (vt1 : Value) (l : List Int) : Rel := fun vt vs f => RelV W vt vs f ∨ (vt = vt1 ∧ vs = .slice none 0 0 ∧ f = fld1 l)
theorem SrcF.imp {W V : Rel} {w : World} {v : Value} {gs : List Fld} (h : SrcF W w v gs) (hb : ∀ vt vs f, f ∈ gs → W vt vs f → V vt vs f) : SrcF V w v gs := by
  obtain ⟨ys, h1, h2⟩ := h
  exact ⟨ys, h1.imp hb, h2⟩
theorem OwnF.form {R : Rel} {w : World} {base : Nat} {v : Value} {fs : List Fld} (h : OwnF R w base v fs) : ∃ a c, v = .slice a fs.length c := by
  obtain ⟨xs, h1, _⟩ := h
  rcases h1.2 with ⟨rfl, h0⟩ | ⟨g, cap, cur, rfl, _⟩
  · exact ⟨Option.none, 0, by rw [h0]⟩
  · exact ⟨_, _, rfl⟩
theorem OwnF.put {R : Rel} {w : World} {base : Nat} {v : Value} {fs : List Fld} (h : OwnF R w base v fs) {a : Addr} (ha : a.block < base) (u : Value) : OwnF R (w.setCell a u) base v fs := by
  obtain ⟨xs, h1, h2⟩ := h
  exact ⟨xs, ownsRow_setCell_below h1 ha u, h2⟩
theorem RelV.below {w w' : World} {vt vs : Value} {f : Fld} (h : RelV w vt vs f) (hb : Below w.heap.size w w') : RelV w' vt vs f := ⟨h.1.below hb, h.2.below hb⟩
theorem SubsAt.nil (w : World) : SubsAt w (.slice none 0 0) [] := ⟨none, 0, rfl, fun h => absurd rfl h⟩
theorem TextV.put {w : World} {b n c : Nat} {l : List Int} (h : TextV w (.slice (some ⟨b, 0, none⟩) n c) l) {p : Addr} (hp : p.block ≠ b) (u : Value) : TextV (w.setCell p u) (.slice (some ⟨b, 0, none⟩) n c) l := by
  obtain ⟨a, c', e, h1, h2⟩ := h
  refine ⟨a, c', e, fun hl => ?_, h2⟩
  injection e with e1 e2 e3
  obtain ⟨b', off, ea, h3, h4⟩ := h1 hl
  rw [← e1] at ea
  injection ea with ea
  injection ea with ea1 ea2
  refine ⟨b', off, by rw [← e1, ea1, ea2], by simpa using h3, fun j x hx => ?_⟩
  rw [World.cell?_setCell_other _ _ _ _ (by intro e9; rw [e9] at hp; exact hp ea1.symm)]
  exact h4 j x hx
theorem append_fields {ops : Array Oper} {rest : List Oper} {o : Oper} {a : Act} {Q : Exit → Act → World → Prop} {w : World} (hgd : o.guard = none) (s x : Operand)
    (ho : o.op = .call { callee := .builtin .append, args := #[s, x], argTypes := #[34, 34] }) {R : Rel}
    (base : Nat) (v : Value) (fs : List Fld) (hs : a.eval s = v) (hown : OwnF R w base v fs) (vx : Value) (gs : List Fld) (hx : a.eval x = vx) (hsrc : SrcF R w vx gs) (n : Nat) (hn : fs.length + gs.length = n) (hlen : n ≤ 1000000) (hbase : base ≤ w.heap.size)
    (h : ∀ a' c' w', OwnF R w' base (.slice a' n c') (fs ++ gs) → Below base w w' → wpList Tryz.prog ops Q rest (a.put o.dst (.slice a' n c')) w') : wpList Tryz.prog ops Q (o :: rest) a w := by
  refine wpList_plain hgd fun K hK => ?_
  obtain ⟨v', w', hr, h2, h3⟩ := run_append_fields o.type base v fs hown vx gs hsrc (by omega) hbase
  obtain ⟨a', c', rfl⟩ := h2.form
  rw [List.length_append, hn] at h2 hr
  unfold Oper.wp execOp
  simp only [ho, resolve, invoke, builtin, Sem.run_bind, Sem.run_pure, Result.andThen_ok, List.map_toArray, List.map_cons, List.map_nil, hs, hx, hr]
  exact hK _ _ (h a' c' w' h2 h3)
/-- The text of our own, built. -/
theorem made_text (w : World) (l : List Int) (hl : l.length ≤ 1000000) (fz : Nat × Nat) (g : Nat) (hg : g = w.heap.size) : TextV (w.alloc (.cells (l.map encB).toArray 5 fz)) (.slice (some ⟨g, 0, none⟩) l.length l.length) l := by
  subst hg
  have hx : (w.alloc (.cells (l.map encB).toArray 5 fz)).heap[w.heap.size]? = some (.cells (l.map encB).toArray 5 fz) := (MapKept.heap_alloc w _).1
  refine ⟨_, _, rfl, fun hne => ⟨_, _, rfl, (Array.getElem?_eq_some_iff.1 hx).1, fun j x hj => ?_⟩, Nat.le_refl _, by omega, fun e => by cases e⟩
  unfold World.cell?
  simp only [hx]
  rw [Nat.zero_add]
  simp [hj, encB]
/-- One field of our own, built. -/
theorem src_one (R : Rel) (w : World) (l : List Int) (vt : Value) (ht : vt.oneCell' = true) (h : R vt (.slice none 0 0) (fld1 l)) : SrcF R (w.alloc (.cells #[.string ⟨#[48, 48, 49]⟩, vt, .int .u8 0, .int .u8 0, .slice none 0 0] 48)) (.slice (some ⟨w.heap.size, 0, none⟩) 1 1) [fld1 l] := by
  refine ⟨_, FC.one (f := fld1 l) 0 0 ht rfl h, .inl ⟨_, _, rfl, fun j u hj => ?_⟩⟩
  rw [Addr.add_lit, Nat.zero_add, five]
  simpa [fld1, tag1] using hj

def txt (b : Bool) : List Int := if b = true then [215, 169, 228, 184, 128, 194, 128] else [226, 101]
/-- What Evidence tells behind it. -/
theorem ev_more (b : Bool) (fs : List Fld) : evM (fs ++ [fld1 (txt b)]) = (if b = true then false else evM fs) ∧ evU (fs ++ [fld1 (txt b)]) = (if b = true then evU fs else false) := by
  cases b
  · exact ⟨by rw [evM_snoc]; simp [txt, mV_e2], by rw [evU_snoc]; simp [txt, uV_e2]⟩
  · exact ⟨by rw [evM_snoc]; simp [txt, mV_w], by rw [evU_snoc]; simp [txt, uV_w]⟩
theorem txt_ok (b : Bool) : (txt b).length ≤ 1000000 ∧ ∀ x ∈ txt b, 0 ≤ x ∧ x ≤ 255 := by cases b <;> decide
/-- The record's fields behind both appends and the store into the record's box. -/
theorem fields_end {w w2 w4 : World} {v : Value} {b n c : Nat} {l : List Int} {fs : List Fld} (h : OwnF (RelT w (.slice (some ⟨b, 0, none⟩) n c) l) w4 w2.heap.size v (fs ++ [fld1 l]))
    (hb2 : Below w.heap.size w w2) (hb4 : Below w2.heap.size w2 w4) (hlt : w.heap.size < b) (ht : TextV w2 (.slice (some ⟨b, 0, none⟩) n c) l) (hbx : w.heap.size < w2.heap.size) (u : Value) :
    FieldsAt (w4.setCell ⟨w.heap.size, 1, none⟩ u) v (fs ++ [fld1 l]) := by
  have hB : Below w.heap.size w (w4.setCell ⟨w.heap.size, 1, none⟩ u) := (hb2.trans (hb4.mono hb2.size)).setCell (p := ⟨w.heap.size, 1, none⟩) (Nat.le_refl _) u
  refine OwnF.at ((h.put (a := ⟨w.heap.size, 1, none⟩) hbx u).imp fun vt vs f _ hr => ?_)
  rcases hr with hr | ⟨rfl, rfl, rfl⟩
  · exact hr.below hB
  · exact ⟨(ht.below hb4).put (by simp; omega) u, SubsAt.nil _⟩
/-! ### the walk -/
theorem below_alloc2 {w1 w2 : World} {o : Obj} (h : Below (w1.alloc o).heap.size (w1.alloc o) w2) : Below w1.heap.size w1 w2 := by
  have q := (Below.refl w1.heap.size w1).alloc (Nat.le_refl _) o
  exact q.trans (h.mono q.size)
theorem below_then {w X w6 : World} (h : Below w.heap.size w X) (k : Below X.heap.size X w6) : Below w.heap.size w w6 := h.trans (k.mono h.size)
set_option maxHeartbeats 8000000 in
set_option maxRecDepth 100000 in
theorem textsLaw (w : World) (hT : Tabs w) (lead0 : ByteArray) (which : Bool) (fv : Value) (fs : List Fld) (hr : RecIn w lead0 fv fs) :
    Calls Tryz.prog 5 #[.agg #[.string lead0, fv], .bool which] w fun e w' => e = .returned (.bool true) ∧ Below w.heap.size w w' := by
  have hcv := fun (w : World) (C : Array Value) (n c : Nat) => Lib.run_convert_bytes_const (P := Tryz.prog) w 22 5 C n c Tryz.underlying22 Tryz.underlying5
  have hcv2 := fun (w : World) (o : Obj) (C : Array Value) (n c : Nat) => Joins.run_convert_bytes_const_at (P := Tryz.prog) (w.alloc o) 22 5 C n c (w.heap.size + 1) (by simp) Tryz.underlying22 Tryz.underlying5
  have HA : Hid (∀ X, Below w.heap.size w X → Calls Tryz.prog 13 #[] X fun e w' => e = .returned (.bool true) ∧ Below X.heap.size X w') := fun X hX => answers24 X (hT.below hX)
  obtain ⟨W0, hW0⟩ : ∃ W0, W0 = w.alloc (.cells #[.string lead0, fv] 36) := ⟨_, rfl⟩
  have hb0 : Below w.heap.size w W0 := by rw [hW0]; exact (Below.refl _ w).alloc (Nat.le_refl _) _
  obtain ⟨x0, x1, xf0, xf1, xl⟩ := box2 w (.string lead0) fv 36
  rw [← hW0] at x0 x1 xf0 xf1 xl
  obtain ⟨h, hf, hby, hnil⟩ := hr
  have hS := cSmall24 W0 lead0 fv fs (h.below hb0) hf
  have HB : Aside (Below w.heap.size w W0) := hb0
  obtain ⟨fa, fc, hfv, hfx⟩ := h
  have hFA : FieldsAt w fv fs := ⟨fa, fc, hfv, hfx⟩
  obtain ⟨M, hM⟩ : ∃ M, M = fs.length := ⟨_, rfl⟩
  rw [← hM] at hfv
  subst hfv
  cases hsm : smallV lead0 fs with
  | false =>
    rw [hsm] at hS
    have HS := Lib.hid hS
    clear hS hFA hfx hby hf hT hsm hM hb0 x0 x1 xf0 xf1 xl hnil
    rw [hW0] at HS
    replace hW0 := Lib.hid hW0
    go_enter Tryz.func5, Tryz.ntmps5
    go_wp2_with (first
      | (have q := hA1; go_at_call 13; refine (HA.out _ hA1.out).mono ?_; rintro e w3 ⟨rfl, hb3⟩; clear q)
      | (go_at_call 11; refine HS.out.mono ?_; rintro e w1 ⟨rfl, hb1⟩; have hA1 : Aside (Below w.heap.size w w1) := (by rw [← hW0.out] at hb1; exact HB.out.trans (hb1.mono HB.out.size)); clear HS hb1))
    go_ret
    exact ⟨rfl, hA1.out.trans (hb3.mono hA1.out.size)⟩
  | true =>
    rw [hsm] at hS
    have HS := Lib.hid hS
    have hR := Recs.small hFA hby hsm
    have hM3 : M < 3000 := by have := (small_all hsm).2.1; omega
    obtain ⟨a, ha⟩ : ∃ r, r = evM fs := ⟨_, rfl⟩
    obtain ⟨b, hb⟩ : ∃ r, r = evU fs := ⟨_, rfl⟩
    have HE : Hid (∀ X, Below w.heap.size w X → Calls Tryz.prog 14 #[.agg #[.string lead0, .slice fa M fc]] X fun e w' => e = .returned (.tuple #[.bool a, .bool b]) ∧ Below X.heap.size X w') := fun X hX => by
      rw [ha, hb]
      exact cEvidence X (hT.below hX) lead0 _ fs (hR.below hX)
    have hE2 : ∀ t : Bool, ∀ X fa2 c2, Below w.heap.size w X → FieldsAt X (.slice fa2 (M + 1) c2) (fs ++ [fld1 (txt t)]) → Calls Tryz.prog 14 #[.agg #[.string lead0, .slice fa2 (M + 1) c2]] X fun e w' => e = .returned (.tuple #[.bool (if t = true then false else a), .bool (if t = true then b else false)]) ∧ Below X.heap.size X w' := fun t X fa2 c2 hX hF => by
      have q := cEvidence X (hT.below hX) lead0 _ (fs ++ [fld1 (txt t)]) ⟨hF, by rw [List.length_append, ← hM]; simp; omega, fun f hf => by
        rcases List.mem_append.1 hf with hf | hf
        · exact hR.ok f hf
        · obtain rfl := List.mem_singleton.1 hf
          exact ⟨txt_ok t, Nat.zero_le _, fun l hl => by cases hl⟩⟩
      rw [(ev_more t fs).1, (ev_more t fs).2, ← ha, ← hb] at q
      exact q
    have HF : Aside (∀ X, Below w.heap.size w X → SrcF (RelV w) X (.slice fa M fc) fs) := fun X hX => hFA.src hnil hX
    have HM : Aside (M = fs.length ∧ M < 3000) := ⟨hM, hM3⟩
    -- behind small
    have HS2 : Hid (Calls Tryz.prog 11 #[.agg #[.string lead0, .slice fa M fc]] W0 fun e w' => e = .returned (.bool true) ∧ w'.cell? ⟨w.heap.size, 0, none⟩ = some (.string lead0) ∧ w'.cell? ⟨w.heap.size, 1, none⟩ = some (.slice fa M fc) ∧ w'.frozen? ⟨w.heap.size, 1, none⟩ = false ∧ w.heap.size < w'.heap.size ∧ Aside (Below w.heap.size w w')) := HS.out.mono fun e w' h => ⟨h.1, (h.2.cell (p := ⟨w.heap.size, 0, none⟩) xl).trans x0, (h.2.cell (p := ⟨w.heap.size, 1, none⟩) xl).trans x1, (h.2.frozen (p := ⟨w.heap.size, 1, none⟩) xl).trans xf1, Nat.lt_of_lt_of_le xl h.2.size, hb0.trans (h.2.mono hb0.size)⟩
    clear HS hS hFA hfx hby hf hT hsm hM hb0 x0 x1 xf0 xf1 xl hR ha hb hnil
    rw [hW0] at HS2
    replace hW0 := Lib.hid hW0
    cases which with
    | false =>
      have HE2 : Hid _ := hE2 false
      simp only [reduceIte, Bool.false_eq_true] at HE2
      clear hE2
      cases a
      all_goals
        go_enter Tryz.func5, Tryz.ntmps5
        go_wp2_with (first
          | (have q := hA3; go_at_call 13; refine (HA.out _ hA3.out).mono ?_; rintro e w7 ⟨rfl, hb7⟩; clear q)
          | (have q := hB4; go_at_call 14; refine (HE2.out _ a4 c4 ((hA2.out.trans (hB4.out.2.mono hA2.out.size)).setCell (p := ⟨w.heap.size, 1, none⟩) (Nat.le_refl _) _) (fields_end hB4.out.1 hA2.out hB4.out.2 y4 zt.out z4 _)).mono ?_; rintro e w6 ⟨rfl, hb6⟩; have hA3 : Aside (Below w.heap.size w w6) := below_then ((hA2.out.trans (hB4.out.2.mono hA2.out.size)).setCell (p := ⟨w.heap.size, 1, none⟩) (Nat.le_refl _) _) hb6; clear hb6 q)
          | (have q := hB3; at_builtin; refine append_fields rfl _ _ rfl (R := (RelT w (.slice (some ⟨w1.heap.size, 0, none⟩) 2 2) [226, 101])) w2.heap.size (.slice a3 M c3) fs rfl (hB3.out.1.kept ((Below.refl _ w3).alloc (Nat.le_refl _) _)) _ [fld1 [226, 101]] rfl (src_one _ w3 [226, 101] _ rfl (.inr ⟨rfl, rfl, rfl⟩)) (M + 1) (by rw [HM.out.1]; rfl) (by have := HM.out.2; omega) (by have := hB3.out.2.size; simp; omega) ?_; intro a4 c4 w4 ho4 hb4; have hb24 : Below w2.heap.size w2 w4 := (hB3.out.2.alloc hB3.out.2.size _).trans hb4; have q0 : w4.cell? ⟨w.heap.size, 0, none⟩ = some (.string lead0) := (hb24.cell (p := ⟨w.heap.size, 0, none⟩) z4).trans z0; have q1 : w4.cell? ⟨w.heap.size, 1, none⟩ = some (.slice fa M fc) := (hb24.cell (p := ⟨w.heap.size, 1, none⟩) z4).trans z1; have qf : w4.frozen? ⟨w.heap.size, 1, none⟩ = false := (hb24.frozen (p := ⟨w.heap.size, 1, none⟩) z4).trans zf; have q4 : w.heap.size < w4.heap.size := Nat.lt_of_lt_of_le z4 hb24.size; have hB4 : Aside (OwnF (RelT w (.slice (some ⟨w1.heap.size, 0, none⟩) 2 2) [226, 101]) w4 w2.heap.size (.slice a4 (M + 1) c4) (fs ++ [fld1 [226, 101]]) ∧ Below w2.heap.size w2 w4) := ⟨ho4, hb24⟩; clear ho4 hb4 hb24 q)
          | (have q := hA2; at_builtin; refine append_fields rfl _ _ rfl (R := (RelT w (.slice (some ⟨w1.heap.size, 0, none⟩) 2 2) [226, 101])) w2.heap.size _ [] rfl (OwnF.made _ w2 _ (Nat.le_refl _)) _ fs rfl ((HF.out _ (hA2.out.alloc hA2.out.size _)).imp fun _ _ _ _ h => .inl h) M (by rw [HM.out.1]; simp) (by have := HM.out.2; omega) (by simp) ?_; intro a3 c3 w3 ho3 hb3; have hB3 : Aside (OwnF (RelT w (.slice (some ⟨w1.heap.size, 0, none⟩) 2 2) [226, 101]) w3 w2.heap.size (.slice a3 M c3) fs ∧ Below w2.heap.size w2 w3) := ⟨by rw [List.nil_append] at ho3; exact ho3, ((Below.refl _ w2).alloc (Nat.le_refl _) _).trans hb3⟩; clear ho3 hb3 q)
          | (have q := hA1; go_at_call 14; refine (HE.out _ (below_alloc hA1.out _)).mono ?_; rintro e w2 ⟨rfl, hb2⟩; have hb12 := below_alloc2 hb2; have z0 : w2.cell? ⟨w.heap.size, 0, none⟩ = some (.string lead0) := (hb12.cell (p := ⟨w.heap.size, 0, none⟩) y4).trans y0; have z1 : w2.cell? ⟨w.heap.size, 1, none⟩ = some (.slice fa M fc) := (hb12.cell (p := ⟨w.heap.size, 1, none⟩) y4).trans y1; have zf : w2.frozen? ⟨w.heap.size, 1, none⟩ = false := (hb12.frozen (p := ⟨w.heap.size, 1, none⟩) y4).trans yf1; have z4 : w.heap.size < w2.heap.size := Nat.lt_of_lt_of_le y4 hb12.size; have zt : Aside (TextV w2 (.slice (some ⟨w1.heap.size, 0, none⟩) 2 2) [226, 101]) := TextV.below (made_text _ [226, 101] (by decide) _ _ (by simp)) hb2; have hA2 : Aside (Below w.heap.size w w2) := hA1.out.trans (hb12.mono hA1.out.size); clear hb2 hb12 q)
          | (go_at_call 11; refine HS2.out.mono ?_; rintro e w1 ⟨rfl, y0, y1, yf1, y4, hA1⟩; clear HS2))
        go_ret
        exact ⟨rfl, hA3.out.trans (hb7.mono hA3.out.size)⟩
    | true =>
      have HE2 : Hid _ := hE2 true
      simp only [reduceIte, Bool.false_eq_true] at HE2
      clear hE2
      cases b
      all_goals
        go_enter Tryz.func5, Tryz.ntmps5
        go_wp2_with (first
          | (have q := hA3; go_at_call 13; refine (HA.out _ hA3.out).mono ?_; rintro e w7 ⟨rfl, hb7⟩; clear q)
          | (have q := hB4; go_at_call 14; refine (HE2.out _ a4 c4 ((hA2.out.trans (hB4.out.2.mono hA2.out.size)).setCell (p := ⟨w.heap.size, 1, none⟩) (Nat.le_refl _) _) (fields_end hB4.out.1 hA2.out hB4.out.2 (Nat.lt_succ_of_lt y4) zt.out z4 _)).mono ?_; rintro e w6 ⟨rfl, hb6⟩; have hA3 : Aside (Below w.heap.size w w6) := below_then ((hA2.out.trans (hB4.out.2.mono hA2.out.size)).setCell (p := ⟨w.heap.size, 1, none⟩) (Nat.le_refl _) _) hb6; clear hb6 q)
          | (have q := hB3; at_builtin; refine append_fields rfl _ _ rfl (R := (RelT w (.slice (some ⟨w1.heap.size + 1, 0, none⟩) 7 7) [215, 169, 228, 184, 128, 194, 128])) w2.heap.size (.slice a3 M c3) fs rfl (hB3.out.1.kept ((Below.refl _ w3).alloc (Nat.le_refl _) _)) _ [fld1 [215, 169, 228, 184, 128, 194, 128]] rfl (src_one _ w3 [215, 169, 228, 184, 128, 194, 128] _ rfl (.inr ⟨rfl, rfl, rfl⟩)) (M + 1) (by rw [HM.out.1]; rfl) (by have := HM.out.2; omega) (by have := hB3.out.2.size; simp; omega) ?_; intro a4 c4 w4 ho4 hb4; have hb24 : Below w2.heap.size w2 w4 := (hB3.out.2.alloc hB3.out.2.size _).trans hb4; have q0 : w4.cell? ⟨w.heap.size, 0, none⟩ = some (.string lead0) := (hb24.cell (p := ⟨w.heap.size, 0, none⟩) z4).trans z0; have q1 : w4.cell? ⟨w.heap.size, 1, none⟩ = some (.slice fa M fc) := (hb24.cell (p := ⟨w.heap.size, 1, none⟩) z4).trans z1; have qf : w4.frozen? ⟨w.heap.size, 1, none⟩ = false := (hb24.frozen (p := ⟨w.heap.size, 1, none⟩) z4).trans zf; have q4 : w.heap.size < w4.heap.size := Nat.lt_of_lt_of_le z4 hb24.size; have hB4 : Aside (OwnF (RelT w (.slice (some ⟨w1.heap.size + 1, 0, none⟩) 7 7) [215, 169, 228, 184, 128, 194, 128]) w4 w2.heap.size (.slice a4 (M + 1) c4) (fs ++ [fld1 [215, 169, 228, 184, 128, 194, 128]]) ∧ Below w2.heap.size w2 w4) := ⟨ho4, hb24⟩; clear ho4 hb4 hb24 q)
          | (have q := hA2; at_builtin; refine append_fields rfl _ _ rfl (R := (RelT w (.slice (some ⟨w1.heap.size + 1, 0, none⟩) 7 7) [215, 169, 228, 184, 128, 194, 128])) w2.heap.size _ [] rfl (OwnF.made _ w2 _ (Nat.le_refl _)) _ fs rfl ((HF.out _ (hA2.out.alloc hA2.out.size _)).imp fun _ _ _ _ h => .inl h) M (by rw [HM.out.1]; simp) (by have := HM.out.2; omega) (by simp) ?_; intro a3 c3 w3 ho3 hb3; have hB3 : Aside (OwnF (RelT w (.slice (some ⟨w1.heap.size + 1, 0, none⟩) 7 7) [215, 169, 228, 184, 128, 194, 128]) w3 w2.heap.size (.slice a3 M c3) fs ∧ Below w2.heap.size w2 w3) := ⟨by rw [List.nil_append] at ho3; exact ho3, ((Below.refl _ w2).alloc (Nat.le_refl _) _).trans hb3⟩; clear ho3 hb3 q)
          | (have q := hA1; go_at_call 14; refine (HE.out _ (below_alloc (below_alloc hA1.out _) _)).mono ?_; rintro e w2 ⟨rfl, hb2⟩; have hb12 := below_alloc2 (below_alloc2 hb2); have z0 : w2.cell? ⟨w.heap.size, 0, none⟩ = some (.string lead0) := (hb12.cell (p := ⟨w.heap.size, 0, none⟩) y4).trans y0; have z1 : w2.cell? ⟨w.heap.size, 1, none⟩ = some (.slice fa M fc) := (hb12.cell (p := ⟨w.heap.size, 1, none⟩) y4).trans y1; have zf : w2.frozen? ⟨w.heap.size, 1, none⟩ = false := (hb12.frozen (p := ⟨w.heap.size, 1, none⟩) y4).trans yf1; have z4 : w.heap.size < w2.heap.size := Nat.lt_of_lt_of_le y4 hb12.size; have zt : Aside (TextV w2 (.slice (some ⟨w1.heap.size + 1, 0, none⟩) 7 7) [215, 169, 228, 184, 128, 194, 128]) := TextV.below (made_text _ [215, 169, 228, 184, 128, 194, 128] (by decide) _ _ (by simp)) hb2; have hA2 : Aside (Below w.heap.size w w2) := hA1.out.trans (hb12.mono hA1.out.size); clear hb2 hb12 q)
          | (go_at_call 11; refine HS2.out.mono ?_; rintro e w1 ⟨rfl, y0, y1, yf1, y4, hA1⟩; clear HS2))
        go_ret
        exact ⟨rfl, hA3.out.trans (hb7.mono hA3.out.size)⟩
theorem textsRow {w : World} (lead0 : ByteArray) (fv : Value) (fs : List Fld) (h : RecIn w lead0 fv fs) (which : Bool) (hT : Tabs w) :
    Calls Tryz.prog 5 #[.agg #[.string lead0, fv], .bool which] w fun e w' => e = .returned (.bool true) ∧ Below w.heap.size w w' := textsLaw w hT lead0 which fv fs h
end Go.Proofs.YtemhfcgkfdklhaaGreatDoor.Look
