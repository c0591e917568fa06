/- The index that glyph.New makes: its two maps. -/
import Derived.DeepKeys4
import Derived.Maps.Keyed
import Derived.Maps.OwnIn
import Derived.Maps.AppendAt
import Derived.Maps.Views
import Derived.Test.YtemhfcgkfdklhaaGreatDoorProg
import Derived.Test.YtemhfcgkfdklhaaGreatDoorReadP
import Derived.Test.YtemhfcgkfdklhaaGreatDoorFree
set_option linter.unusedVariables false
namespace Go.Proofs.YtemhfcgkfdklhaaGreatDoor.Idx
open Go Go.RowKit Go.Maps Go.MapKept Go.ChangeMaps
open Go.WideElems (Fit rd rg pl rd_val rd_key)
theorem laidOut : laidOutB Tryz.prog = true := by kernel_rfl
theorem codeKey : Keyed Tryz.prog 89 := Keyed.of_law (deep_law_laid laidOut (m := 100) (by decide) (of_decide_eq_true (by kernel_rfl)) (by kernel_rfl) (by kernel_rfl))
theorem runeKey : Keyed Tryz.prog 21 := int_keyed Tryz.underlying21

/-! ### A code as a key -/
def key2 (s n : Int) : Value := .agg #[.int .i64 s, .int .i64 n]
def lit2 (s n : Int) : Lit := .string (keyBytes [.int .i64 s, .int .i64 n])
def W64 (x : Int) : Prop := -9223372036854775808 ≤ x ∧ x ≤ 9223372036854775807
theorem wf64 {x : Int} (h : W64 x) : (Lit.int .i64 x).wf = true := by
  have h1 := h.1
  have h2 := h.2
  have e1 : IntKind.i64.min = -9223372036854775808 := by decide
  have e2 : IntKind.i64.max = 9223372036854775807 := by decide
  simp only [Lit.wf, e1, e2, Bool.and_eq_true, decide_eq_true_eq]
  exact ⟨h1, h2⟩
theorem keyLits_two {P : Program} {t e : TypeId} {fs : Array Field} (hu : P.underlying t = some (.struct fs)) (hfs : (fs.toList.map fun f => (f.type, f.offset)) = [(e, 0), (e, 1)]) (hb : fs.all (·.name != "_") = true) (hc : P.cellsOf t = 2) (hc1 : P.cellsOf e = 1)
    (hI : P.underlying e = some (.int .i64)) (D : Nat) (s n : Int) (hs : (Lit.int .i64 s).wf = true) (hn : (Lit.int .i64 n).wf = true) : P.keyLits (D + 2) t [.int .i64 s, .int .i64 n] = some [.int .i64 s, .int .i64 n] := by
  have e1 : (fs.toList.map fun f => (f.type, f.offset)).mapM (fun p => P.keyLits (D + 1) p.1 (([Value.int .i64 s, Value.int .i64 n].drop p.2).take (P.cellsOf p.1))) = fs.toList.mapM (fun f => P.keyLits (D + 1) f.type (([Value.int .i64 s, Value.int .i64 n].drop f.offset).take (P.cellsOf f.type))) := by
    rw [List.mapM_map]
    rfl
  unfold Program.keyLits
  rw [hu]
  simp only [hc, hb, List.length_cons, List.length_nil, and_self, if_true]
  rw [← e1, hfs]
  simp [Program.keyLits, hc1, hI, hs, hn]
theorem key_step (D : Nat) (s n : Int) (hs : (Lit.int .i64 s).wf = true) (hn : (Lit.int .i64 n).wf = true) : Tryz.prog.keyLits (D + 2) 89 [.int .i64 s, .int .i64 n] = some [.int .i64 s, .int .i64 n] :=
  keyLits_two Tryz.underlying89 (by kernel_rfl) (by kernel_rfl) (by kernel_rfl) (by kernel_rfl) Tryz.underlying3 D s n hs hn
theorem keyOf2 {s n : Int} (hs : W64 s) (hn : W64 n) : keyOf Tryz.prog 89 (key2 s n) = some (lit2 s n) := by
  obtain ⟨D, hD⟩ : ∃ D, Tryz.prog.types.size + 1 = D + 2 := ⟨_, rfl⟩
  have hk : Tryz.prog.keyType 89 = true := by kernel_rfl
  have hf : (key2 s n).formed Tryz.prog 89 = true := by kernel_rfl
  obtain ⟨fs, hu⟩ : ∃ fs, Tryz.prog.underlying 89 = some (.struct fs) := ⟨_, Tryz.underlying89⟩
  unfold keyOf
  simp only [hu, hk, hf, Bool.and_self, if_true, hD]
  show (Tryz.prog.keyLits (D + 2) 89 [.int .i64 s, .int .i64 n]).map _ = _
  rw [key_step D s n (wf64 hs) (wf64 hn)]
  rfl
theorem lit2_key {s n : Int} (hs : W64 s) (hn : W64 n) : WideAt.IsKeyLit (lit2 s n) := codeKey.key (keyOf2 hs hn)
theorem lit2_inj {s n s' n' : Int} (hs : W64 s) (hn : W64 n) (hs' : W64 s') (hn' : W64 n') (h : lit2 s n = lit2 s' n') : s = s' ∧ n = n' := by
  have := codeKey.inj (keyOf2 hs hn) (by rw [h]; exact keyOf2 hs' hn')
  simp only [key2, Value.agg.injEq, Array.mk.injEq, List.cons.injEq, Value.int.injEq, and_true, true_and] at this
  exact this

/-! ### The map of characters -/
abbrev Adds := List (Int × Int × Int)
def datA (A : Adds) : DataW Unit := A.foldl (fun D a => D.put (lit2 a.1 a.2.1) (.lit (.int .i32 a.2.2))) (.map [])
def tabStep (T : Rd.Tab) (a : Int × Int × Int) : Rd.Tab := fun s n => if s = a.1 ∧ n = a.2.1 then some a.2.2 else T s n
/-- The table: the last character that was laid at a code. -/
def tabA (A : Adds) : Rd.Tab := A.foldl tabStep (fun _ _ => none)
def WfA (a : Int × Int × Int) : Prop := W64 a.1 ∧ W64 a.2.1 ∧ -2147483648 ≤ a.2.2 ∧ a.2.2 ≤ 2147483647
def Agrees (D : DataW Unit) (T : Rd.Tab) : Prop := IsMap D ∧ ∀ s n, W64 s → W64 n → has D (lit2 s n) = (T s n).isSome ∧ D.atKey (lit2 s n) (.lit (.int .i32 0)) = .lit (.int .i32 ((T s n).getD 0))
theorem Agrees.step {D : DataW Unit} {T : Rd.Tab} (h : Agrees D T) (a : Int × Int × Int) (ha : WfA a) : Agrees (D.put (lit2 a.1 a.2.1) (.lit (.int .i32 a.2.2))) (tabStep T a) := by
  refine ⟨h.1.put _ _, fun s n hs hn => ?_⟩
  unfold tabStep
  by_cases he : s = a.1 ∧ n = a.2.1
  · obtain ⟨rfl, rfl⟩ := he
    rw [has_put_same h.1 (lit2_key hs hn), atKey_put_same h.1 (lit2_key hs hn), if_pos ⟨rfl, rfl⟩]
    exact ⟨rfl, rfl⟩
  · have hne : lit2 s n ≠ lit2 a.1 a.2.1 := fun e => he (lit2_inj hs hn ha.1 ha.2.1 e)
    rw [has_put_other hne, atKey_put_other hne, if_neg he]
    exact h.2 s n hs hn
theorem agrees_fold : ∀ (A : Adds) (D : DataW Unit) (T : Rd.Tab), Agrees D T → (∀ a ∈ A, WfA a) → Agrees (A.foldl (fun D a => D.put (lit2 a.1 a.2.1) (.lit (.int .i32 a.2.2))) D) (A.foldl tabStep T)
  | [], D, T, h, _ => h
  | a :: A, D, T, h, hA => agrees_fold A _ _ (h.step a (hA a (.head _))) fun x hx => hA x (.tail _ hx)
theorem agrees (A : Adds) (hA : ∀ a ∈ A, WfA a) : Agrees (datA A) (tabA A) := agrees_fold A _ _ ⟨isMap_empty, fun s n _ _ => ⟨rfl, rfl⟩⟩ hA
theorem datA_snoc (A : Adds) (s n r : Int) : datA (A ++ [(s, n, r)]) = (datA A).put (lit2 s n) (.lit (.int .i32 r)) := by simp [datA]

/-! ### The map of codes: what lies in it counts for nothing -/
def R0 : Value → Option (DataW Unit × List MemPlace) := fun _ => some (.nil, [])
/-- Block b is a map of at most n entries, each nil or a row of the call's own; no two in one row; all rows among O. -/
structure CodesAt (w : World) (base b n : Nat) (O : Nat → Prop) : Prop where
  ex : ∃ es clock, w.heap[b]? = some (.map es clock) ∧ Fit Tryz.prog 21 R0 es clock ∧ es.size ≤ n ∧
    (∀ x ∈ es.toList, (∃ m xs, m ≤ n ∧ w.ownsRow base 89 2 x.val m xs) ∧ ∀ g, x.val.ownBlock = some g → O g) ∧
    ∀ x ∈ es.toList, ∀ y ∈ es.toList, x.key ≠ y.key → x.val.ownBlock = none ∨ x.val.ownBlock ≠ y.val.ownBlock
  lt : b < base
  olt : ∀ k, O k → k < w.heap.size

theorem CodesAt.kept {w w' : World} {base b n : Nat} {O : Nat → Prop} (h : CodesAt w base b n O) (hs : w.heap.size ≤ w'.heap.size) (hb : w'.heap[b]? = w.heap[b]?) (hO : ∀ k, O k → w'.heap[k]? = w.heap[k]?) : CodesAt w' base b n O := by
  obtain ⟨⟨es, clock, h1, h2, h3, h4, h5⟩, h6, h7⟩ := h
  refine ⟨⟨es, clock, hb.trans h1, h2, h3, fun x hx => ⟨?_, (h4 x hx).2⟩, h5⟩, h6, fun k hk => Nat.lt_of_lt_of_le (h7 k hk) hs⟩
  obtain ⟨⟨m, xs, k1, k2, k3⟩, k4⟩ := h4 x hx
  refine ⟨m, xs, k1, k2, ?_⟩
  rcases k3 with k3 | ⟨g, cap, cur, e, g1, g2, g3⟩
  · exact .inl k3
  · exact .inr ⟨g, cap, cur, e, g1, (hO g (k4 g (by rw [e]; rfl))).trans g2, g3⟩
theorem CodesAt.made (w : World) (base : Nat) (O : Nat → Prop) (hb : w.heap.size < base) (hO : ∀ k, O k → k < w.heap.size + 1) : CodesAt (w.alloc (.map #[] 0)) base w.heap.size 0 O :=
  ⟨⟨#[], 0, (MapKept.heap_alloc w _).1, ⟨by simp, stamped_empty 0, by simp⟩, Nat.le_refl _, by simp, by simp⟩, hb, fun k hk => by simpa using hO k hk⟩

/-- THE WAY BACK. -/
def CodeBack (w : World) (base b n : Nat) (O : Nat → Prop) (key v : Value) : Prop :=
  ∀ (w1 : World) (v' : Value) (m : Nat) (xs : List Value), w.grownBy w1 v.ownBlock → m ≤ n + 1 → w1.ownsRow base 89 2 v' m xs → (v'.ownBlock = v.ownBlock ∨ ∃ g, v'.ownBlock = some g ∧ w.heap.size ≤ g) →
    ∃ w2, (Instr.mapUpdate 82 (.map (some b)) key v').run Tryz.prog w1 = .ok () w2 ∧ CodesAt w2 base b (n + 1) (fun k => O k ∨ v'.ownBlock = some k) ∧ w1.grownBy w2 (some b)

theorem codes_at {w : World} {base b n : Nat} {O : Nat → Prop} (h : CodesAt w base b n O) (hn : n < maxLen) (r : Int) (hr : (Lit.int .i32 r).wf = true) :
    ∃ v m xs, (Instr.lookup 82 (.map (some b)) (.int .i32 r) false).run Tryz.prog w = .ok v w ∧ m ≤ n ∧ w.ownsRow base 89 2 v m xs ∧ (∀ g, v.ownBlock = some g → O g) ∧ CodeBack w base b n O (.int .i32 r) v := by
  obtain ⟨⟨es, clock, hb, F, hs, hrow, hap⟩, hbb, holt⟩ := h
  have hkey : keyOf Tryz.prog 21 (.int .i32 r) = some (.int .i32 r) := keyOf_int_mk Tryz.underlying21 hr
  have hz : (zeroValue 109).run Tryz.prog w = .ok (.slice none 0 0) w := by kernel_rfl
  have hblt : b < w.heap.size := (Array.getElem?_eq_some_iff.1 hb).1
  have back : ∀ v, (∀ x ∈ es.toList, x.key ≠ .int .i32 r → x.val.ownBlock = none ∨ x.val.ownBlock ≠ v.ownBlock) → v.ownBlock ≠ some b → CodeBack w base b n O (.int .i32 r) v := by
    intro v hv hvb w1 v' m xs hg hm hown' hloc
    have hb1 : w1.heap[b]? = some (.map es clock) := (hg.block b hblt (fun e1 => hvb e1.symm)).trans hb
    obtain ⟨es', clock', hrun, F', hput, _, _, hwho⟩ := fit_store (R' := R0) (w := w1) runeKey Tryz.underlying82 hb1 F (Nat.lt_of_le_of_lt hs hn) (fun _ _ _ _ hz => hz) hkey (yv := (.nil, [])) (val := v') rfl
    have hg2 : w1.grownBy (setBlock w1 b (.map es' clock')) (some b) := ⟨rfl, rfl, rfl, by simp [setBlock], fun i _ hi => heap_setBlock_other hb1 _ (fun e1 => hi (by rw [e1]))⟩
    have own_ne : ∀ {u : Value} {k : Nat} {ys : List Value}, w1.ownsRow base 89 2 u k ys → u.ownBlock = none ∨ u.ownBlock ≠ some b := fun {u k ys} ho => by
      cases hu : u.ownBlock with
      | none => exact Or.inl rfl
      | some g =>
        refine Or.inr (fun e1 => ?_)
        have := (ho.lt g hu).1
        cases e1
        omega
    have old_new : ∀ x ∈ es.toList, x.key ≠ .int .i32 r → x.val.ownBlock = none ∨ x.val.ownBlock ≠ v'.ownBlock := by
      intro x hx hne
      rcases hloc with h1 | ⟨g, h1, h2⟩
      · rw [h1]
        exact hv x hx hne
      · cases hx' : x.val.ownBlock with
        | none => exact Or.inl rfl
        | some gx =>
          have := holt gx ((hrow x hx).2 gx hx')
          refine Or.inr (fun e1 => ?_)
          rw [h1] at e1
          cases e1
          omega
    refine ⟨_, hrun, ⟨⟨es', clock', heap_setBlock_same hb1 _, F', ?_, ?_, ?_⟩, hbb, ?_⟩, hg2⟩
    · have e1 : es'.size = ((es'.toList.map (rg Tryz.prog 21 R0)).foldr DataW.insert []).length := by rw [length_sorted]; simp
      rw [e1, hput]
      unfold putKey
      rw [length_insert]
      have e2 := List.length_filter_le (notKey (.int .i32 r)) ((es.toList.map (rg Tryz.prog 21 R0)).foldr DataW.insert [])
      rw [length_sorted] at e2
      simp at e2
      omega
    · intro x hx
      rcases hwho x hx with ⟨hx0, hne⟩ | ⟨_, hval⟩
      · obtain ⟨⟨k, ys, k1, k2⟩, k3⟩ := hrow x hx0
        have h1 := k2.kept hg (hv x hx0 hne)
        exact ⟨⟨k, ys, by omega, h1.kept hg2 (own_ne h1)⟩, fun g hgx => .inl (k3 g hgx)⟩
      · rw [hval]
        exact ⟨⟨m, xs, hm, hown'.kept hg2 (own_ne hown')⟩, fun g hgx => .inr hgx⟩
    · intro x hx y hy hne
      rcases hwho x hx with ⟨hx0, hxk⟩ | ⟨hxk, hxv⟩ <;> rcases hwho y hy with ⟨hy0, hyk⟩ | ⟨hyk, hyv⟩
      · exact hap x hx0 y hy0 hne
      · rw [hyv]
        exact old_new x hx0 hxk
      · rw [hxv]
        cases hv' : v'.ownBlock with
        | none => exact Or.inl rfl
        | some g =>
          refine Or.inr (fun e1 => ?_)
          rcases old_new y hy0 hyk with h | h
          · rw [h] at e1
            cases e1
          · exact h (by rw [hv', e1])
      · exact absurd (hxk.trans hyk.symm) hne
    · intro k hk
      have hsz : (setBlock w1 b (.map es' clock')).heap.size = w1.heap.size := by simp [setBlock]
      rw [hsz]
      rcases hk with hk | hk
      · exact Nat.lt_of_lt_of_le (holt k hk) hg.size
      · exact (hown'.lt k hk).2
  rcases fit_look (w := w) false runeKey Tryz.underlying82 hz hb F hkey with ⟨hrun, _, _⟩ | ⟨e0, y, hm0, h3, hrun, _, _, _⟩
  · refine ⟨.slice none 0 0, 0, [], hrun, Nat.zero_le _, World.ownsRow_nil _ _ _ _, by simp [Value.ownBlock], back _ (fun x _ _ => ?_) (by simp [Value.ownBlock])⟩
    cases x.val.ownBlock <;> simp [Value.ownBlock]
  · obtain ⟨⟨k, ys, k1, k2⟩, k3⟩ := hrow e0 hm0
    refine ⟨e0.val, k, ys, hrun, k1, k2, k3, back _ (fun x hx hne => hap x hx e0 hm0 (by rw [h3]; exact hne)) (fun e1 => ?_)⟩
    have := (k2.lt b e1).1
    omega

/-- The index: block xb holds its two maps. -/
structure Idx (w : World) (xb bc br base : Nat) (A : Adds) (O : Nat → Prop) : Prop where
  x0 : w.cell? ⟨xb, 0, none⟩ = some (.map (some bc))
  x1 : w.cell? ⟨xb, 1, none⟩ = some (.map (some br))
  codes : CodesAt w base bc A.length O
  runes : w.ownsMap Tryz.prog 89 (plainElem Tryz.prog 21) br A.length (datA A)
  ne : bc ≠ br
  xlt : xb < base
  nex : xb ≠ bc ∧ xb ≠ br
  blt : br < base
  o : ∀ k, O k → base ≤ k
  bsz : base ≤ w.heap.size
  wf : ∀ a ∈ A, WfA a
/-- What the index owns. -/
def Own (xb bc br : Nat) (O : Nat → Prop) (k : Nat) : Prop := k = xb ∨ k = bc ∨ k = br ∨ O k
theorem Idx.lt {w : World} {xb bc br base : Nat} {A : Adds} {O : Nat → Prop} (h : Idx w xb bc br base A O) : ∀ k, Own xb bc br O k → k < w.heap.size := by
  intro k hk
  rcases hk with rfl | rfl | rfl | hk
  · have := h.x0
    unfold World.cell? at this
    split at this
    · rename_i hh; exact (Array.getElem?_eq_some_iff.1 hh).1
    · cases this
  · obtain ⟨⟨es, clock, h1, _⟩, _, _⟩ := h.codes
    exact (Array.getElem?_eq_some_iff.1 h1).1
  · exact h.runes.lt
  · exact h.codes.olt k hk
theorem Idx.kept {w w' : World} {xb bc br base : Nat} {A : Adds} {O : Nat → Prop} (h : Idx w xb bc br base A O) (hs : w.heap.size ≤ w'.heap.size) (hO : ∀ k, Own xb bc br O k → w'.heap[k]? = w.heap[k]?) : Idx w' xb bc br base A O := by
  refine ⟨(World.cell?_of_block (w := w) (a := ⟨xb, 0, none⟩) (hO xb (.inl rfl))).trans h.x0, (World.cell?_of_block (w := w) (a := ⟨xb, 1, none⟩) (hO xb (.inl rfl))).trans h.x1, h.codes.kept hs (hO bc (.inr (.inl rfl))) fun k hk => hO k (.inr (.inr (.inr hk))), ?_, h.ne, h.xlt, h.nex, h.blt, h.o, Nat.le_trans h.bsz hs, h.wf⟩
  obtain ⟨es, clock, h1, h2⟩ := h.runes
  exact ⟨es, clock, (hO br (.inr (.inr (.inl rfl)))).trans h1, h2⟩
/-- 'v, ok := x.runes[c]'. -/
theorem Idx.look {w : World} {xb bc br base : Nat} {A : Adds} {O : Nat → Prop} (h : Idx w xb bc br base A O) (s n : Int) (hs : W64 s) (hn : W64 n) :
    has (datA A) (lit2 s n) = (tabA A s n).isSome ∧ (datA A).atKey (lit2 s n) (.lit (.int .i32 0)) = .lit (.int .i32 ((tabA A s n).getD 0)) := (agrees A h.wf).2 s n hs hn
end Go.Proofs.YtemhfcgkfdklhaaGreatDoor.Idx
